/-
  DERIVED: THE SHELF's CONTRACTS AT THIS DUMP,IN PLAIN WORDS (tools/lay-plain.mjs out of 'TryzShelf.lean',which tools/lay-shelf.mjs wrote): THE SAME DECLARATIONS UNDER THE SAME NAMES: 'import','namespace','open','def','theorem' AND NOTHING ELSE: no command of the shelf's: FOR A HAND-IN. Each laying: the table of numbers ('.._ren') and one theorem,a field a fact of the dump's own or the kernel's comparison; each contract: ONE APPLICATION.
  The library's bytes.Clone and bytes.Equal.
  The library's functions that packages codec and command call: numbers as text and back,bytes copied and compared.
  The wrap of laws whose rows list the tables of digest,strconv,bits,strings and unicode: a world for a witness; what the row lists gives the tables.
  Two more rules of the walk: a join behind a test (the rest is walked once),and an assertion in the middle.
  Names: what package path and the document call one; path.sign.
  Package codec in plain words: what bytes say (parse),how leaves are written (encL),and that the two fit.
  Audit records in plain words: what is wrong with one (rchk),its leaves,the record that a value says (readR).
  path.Name says nameOk.
  audit.named.
  Package codec's values as resources: leaves,lists of leaves; what can be read of them. No program is in sight.
  Package codec: a reader's small steps: more,is,wrong,take,digits.
  Package codec: a reader takes a byte; a reader takes digits.
  Package codec: a reader takes the digits that come.
  Package codec: a reader takes a number and the byte behind it.
  Package codec: a reader reads a list,given that it reads values.
  Package codec: a reader reads a value: the parse in plain words (pv) is what it does.
  Package codec: Next and Decode: what bytes say (dec).
  Arrays of strings,structs of strings and numbers,errors that may be nil: compared. Over any program.
-/
import Derived.Shelf.Strings.Builder1
import Derived.Shelf.Strings.Builder2
import Derived.Shelf.Small.Strs
import Derived.Shelf.Strings.BuilderF
import Derived.Shelf.Strconv.Atoi
import Derived.Shelf.Strconv.Itoa0
import Derived.Shelf.Strconv.Itoa1
import Derived.Shelf.LaysM
import Derived.Shelf.Strconv.Itoa2
import Derived.Shelf.Strconv.Itoa3
import Derived.Shelf.Strconv.AtoiErrFast
import Derived.Shelf.Strconv.ParseIntEmpty
import Derived.Shelf.Strconv.AtoiFail
import Derived.Shelf.Strconv.Clone
import Derived.Shelf.Strconv.SyntaxError
import Derived.Shelf.LaysC
import Derived.Shelf.Strconv.ToError
import Derived.Shelf.Strconv.Lower
import Derived.Shelf.Strconv.ParseUint10
import Derived.Shelf.Strconv.ParseUint10Empty
import Derived.Shelf.Strconv.ParseUint10Any
import Derived.Shelf.Strconv.ParseInt10
import Derived.Shelf.Strconv.AtoiLong
import Derived.Shelf.Strconv.AtoiInnerAll
import Derived.Shelf.Strconv.RangeError
import Derived.Shelf.Strconv.ToErrorRange
import Derived.Shelf.Strconv.AtoiAll
import Derived.Shelf.Strconv.ErrVarAll
import Derived.Shelf.Sort.Plain
import Derived.Shelf.Strings.Prefix
import Derived.Shelf.Strings.Fields
import Derived.Shelf.Strings.SplitShaped
import Derived.Shelf.Unicode.Latin
import Derived.Shelf.Bits.Mul64
import Derived.Shelf.Strings.Repeat
import Derived.Shelf.Unicode.Is16White
import Derived.Shelf.Unicode.IsSpaceAny
import Derived.Shelf.Unicode.Is16Any
import Derived.Shelf.Unicode.Is32Any
import Derived.Shelf.Unicode.ExclAny
import Derived.Shelf.Slices.Turned
import Derived.Shelf.Slices.In.SortNone
import Derived.Test.YtpbgaojjlepkcaaGreatDoorProg
import Derived.Test.YtpbgaojjlepkcaaGreatDoorAbn3
import Derived.Lib.LaidTab
import Derived.KernelRfl
import Derived.Deep.DeepWitnessRowRef
import Derived.Test.YtpbgaojjlepkcaaGreatDoorAbn2
import Derived.Lib.ItoaNum
import Derived.Lib.AtoiAll
import Derived.Laws.StructEq
namespace Go.Proofs
open Go.Shelf
def Tryz.laysM171_ren : Go.Shelf.Ren := ⟨fun | 171 => 70 | 243 => 116 | 246 => 183 | 283 => 227 | 284 => 228 | 285 => 229 | 286 => 230 | 129 => 254 | 317 => 253 | 318 => 255 | 319 => 256 | 320 => 257 | 337 => 281 | 338 => 282 | n => n,fun | 3 => 3 | 9 => 9 | 2 => 2 | 4 => 4 | 171 => 360 | 0 => 0 | 53 => 45 | 37 => 35 | 5 => 5 | 173 => 363 | 212 => 385 | 51 => 166 | 20 => 20 | 213 => 386 | 46 => 243 | 232 => 79 | 233 => 261 | n => n,fun | 17 => 4 | 18 => 8 | 19 => 9 | n => n⟩
theorem Tryz.laysM171 : Go.Proofs.LaysM.n171 Tryz.prog Tryz.laysM171_ren := {
 mixed := by kernel_rfl
 f129 := Tryz.func254.trans (congrArg some (by kernel_rfl))
 f171 := Tryz.func70.trans (congrArg some (by kernel_rfl))
 f243 := Tryz.func116.trans (congrArg some (by kernel_rfl))
 f246 := Tryz.func183.trans (congrArg some (by kernel_rfl))
 f283 := Tryz.func227.trans (congrArg some (by kernel_rfl))
 f284 := Tryz.func228.trans (congrArg some (by kernel_rfl))
 f285 := Tryz.func229.trans (congrArg some (by kernel_rfl))
 f286 := Tryz.func230.trans (congrArg some (by kernel_rfl))
 f317 := Tryz.func253.trans (congrArg some (by kernel_rfl))
 f318 := Tryz.func255.trans (congrArg some (by kernel_rfl))
 f319 := Tryz.func256.trans (congrArg some (by kernel_rfl))
 f320 := Tryz.func257.trans (congrArg some (by kernel_rfl))
 f337 := Tryz.func281.trans (congrArg some (by kernel_rfl))
 f338 := Tryz.func282.trans (congrArg some (by kernel_rfl))
 t0 := Tryz.underlying0
 a0 := Tryz.isAgg0
 z0 := Tryz.sizeOf0
 v0 := Tryz.zeroValue0
 t2 := Tryz.underlying2
 a2 := Tryz.isAgg2
 z2 := Tryz.sizeOf2
 v2 := Tryz.zeroValue2
 t3 := Tryz.underlying3
 a3 := Tryz.isAgg3
 z3 := Tryz.sizeOf3
 v3 := Tryz.zeroValue3
 t4 := Tryz.underlying4
 a4 := Tryz.isAgg4
 z4 := Tryz.sizeOf4
 v4 := Tryz.zeroValue4
 t5 := Tryz.underlying5
 a5 := Tryz.isAgg5
 z5 := Tryz.sizeOf5
 v5 := Tryz.zeroValue5
 t9 := Tryz.underlying9
 a9 := Tryz.isAgg9
 z9 := Tryz.sizeOf9
 v9 := Tryz.zeroValue9
 t20 := Tryz.underlying20
 a20 := Tryz.isAgg20
 z20 := Tryz.sizeOf20
 v20 := Tryz.zeroValue20
 t37 := Tryz.underlying35
 a37 := Tryz.isAgg35
 z37 := Tryz.sizeOf35
 v37 := Tryz.zeroValue35
 t46 := Tryz.underlying243
 a46 := Tryz.isAgg243
 z46 := Tryz.sizeOf243
 v46 := Tryz.zeroValue243
 t51 := Tryz.underlying166
 a51 := Tryz.isAgg166
 z51 := Tryz.sizeOf166
 v51 := Tryz.zeroValue166
 t53 := Tryz.underlying45
 a53 := Tryz.isAgg45
 z53 := Tryz.sizeOf45
 v53 := Tryz.zeroValue45
 t171 := Tryz.underlying360
 a171 := Tryz.isAgg360
 z171 := Tryz.sizeOf360
 v171 := Tryz.zeroValue360
 t173 := Tryz.underlying363
 a173 := Tryz.isAgg363
 z173 := Tryz.sizeOf363
 v173 := Tryz.zeroValue363
 t212 := Tryz.underlying385
 a212 := Tryz.isAgg385
 z212 := Tryz.sizeOf385
 v212 := Tryz.zeroValue385
 t213 := Tryz.underlying386
 a213 := Tryz.isAgg386
 z213 := Tryz.sizeOf386
 t232 := Tryz.underlying79
 a232 := Tryz.isAgg79
 z232 := Tryz.sizeOf79
 v232 := Tryz.zeroValue79
 t233 := Tryz.underlying261
 a233 := Tryz.isAgg261
 z233 := Tryz.sizeOf261
 v233 := Tryz.zeroValue261
 g17 := by kernel_rfl
 g18 := by kernel_rfl
 g19 := by kernel_rfl
 i0 := by kernel_rfl
 i2 := by kernel_rfl
 i3 := by kernel_rfl
 i4 := by kernel_rfl
 i5 := by kernel_rfl
 i9 := by kernel_rfl
 i20 := by kernel_rfl
 i37 := by kernel_rfl
 i46 := by kernel_rfl
 i51 := by kernel_rfl
 i53 := by kernel_rfl
 i171 := by kernel_rfl
 i173 := by kernel_rfl
 i212 := by kernel_rfl
 i232 := by kernel_rfl
 i233 := by kernel_rfl
 m17 := by kernel_rfl
 m18 := by kernel_rfl
 m19 := by kernel_rfl }
open Go.RowKit Go.Sort Go.Lib in
theorem Tryz.strconv_Itoa (n : Int) (h0 : -9223372036854775808 ≤ n) (h1 : n ≤ 9223372036854775807) (w : World) (htab : Lib.TabIs Tryz.prog w "internal/strconv.uint64pow10" .u64 Lib.pow10Tab) :
  Calls Tryz.prog 70 #[.int .i64 n] w fun e w' => e = .returned (.string ⟨(Lib.itoa n).toArray⟩) ∧ ∃ k os,w' = grow (w.drewN k) os := Any.strconv_Itoa Tryz.laysM171 n h0 h1 w htab
def Tryz.laysC172_ren : Go.Shelf.Ren := ⟨fun | 172 => 226 | 244 => 251 | 245 => 252 | 247 => 276 | 279 => 277 | 280 => 278 | 281 => 279 | 282 => 280 | 287 => 300 | 316 => 301 | 171 => 70 | 205 => 302 | 321 => 309 | 322 => 310 | 243 => 116 | 246 => 183 | 283 => 227 | 284 => 228 | 285 => 229 | 286 => 230 | 129 => 254 | 317 => 253 | 318 => 255 | 319 => 256 | 320 => 257 | 337 => 281 | 338 => 282 | n => n,fun | 9 => 9 | 3 => 3 | 75 => 250 | 76 => 251 | 4 => 4 | 5 => 5 | 167 => 414 | 37 => 35 | 0 => 0 | 85 => 415 | 2 => 2 | 168 => 417 | 53 => 45 | 175 => 432 | 46 => 243 | 210 => 435 | 127 => 322 | 145 => 446 | 143 => 444 | 21 => 21 | 171 => 360 | 173 => 363 | 212 => 385 | 51 => 166 | 20 => 20 | 213 => 386 | 232 => 79 | 233 => 261 | 80 => 253 | n => n,fun | 15 => 6 | 16 => 7 | 17 => 4 | 18 => 8 | 19 => 9 | n => n⟩
theorem Tryz.laysC172 : Go.Proofs.LaysC.n172 Tryz.prog Tryz.laysC172_ren := {
 mixed := by kernel_rfl
 f129 := Tryz.func254.trans (congrArg some (by kernel_rfl))
 f171 := Tryz.func70.trans (congrArg some (by kernel_rfl))
 f172 := Tryz.func226.trans (congrArg some (by kernel_rfl))
 f205 := Tryz.func302.trans (congrArg some (by kernel_rfl))
 f243 := Tryz.func116.trans (congrArg some (by kernel_rfl))
 f244 := Tryz.func251.trans (congrArg some (by kernel_rfl))
 f245 := Tryz.func252.trans (congrArg some (by kernel_rfl))
 f246 := Tryz.func183.trans (congrArg some (by kernel_rfl))
 f247 := Tryz.func276.trans (congrArg some (by kernel_rfl))
 f279 := Tryz.func277.trans (congrArg some (by kernel_rfl))
 f280 := Tryz.func278.trans (congrArg some (by kernel_rfl))
 f281 := Tryz.func279.trans (congrArg some (by kernel_rfl))
 f282 := Tryz.func280.trans (congrArg some (by kernel_rfl))
 f283 := Tryz.func227.trans (congrArg some (by kernel_rfl))
 f284 := Tryz.func228.trans (congrArg some (by kernel_rfl))
 f285 := Tryz.func229.trans (congrArg some (by kernel_rfl))
 f286 := Tryz.func230.trans (congrArg some (by kernel_rfl))
 f287 := Tryz.func300.trans (congrArg some (by kernel_rfl))
 f316 := Tryz.func301.trans (congrArg some (by kernel_rfl))
 f317 := Tryz.func253.trans (congrArg some (by kernel_rfl))
 f318 := Tryz.func255.trans (congrArg some (by kernel_rfl))
 f319 := Tryz.func256.trans (congrArg some (by kernel_rfl))
 f320 := Tryz.func257.trans (congrArg some (by kernel_rfl))
 f321 := Tryz.func309.trans (congrArg some (by kernel_rfl))
 f322 := Tryz.func310.trans (congrArg some (by kernel_rfl))
 f337 := Tryz.func281.trans (congrArg some (by kernel_rfl))
 f338 := Tryz.func282.trans (congrArg some (by kernel_rfl))
 t0 := Tryz.underlying0
 a0 := Tryz.isAgg0
 z0 := Tryz.sizeOf0
 v0 := Tryz.zeroValue0
 t2 := Tryz.underlying2
 a2 := Tryz.isAgg2
 z2 := Tryz.sizeOf2
 v2 := Tryz.zeroValue2
 t3 := Tryz.underlying3
 a3 := Tryz.isAgg3
 z3 := Tryz.sizeOf3
 v3 := Tryz.zeroValue3
 t4 := Tryz.underlying4
 a4 := Tryz.isAgg4
 z4 := Tryz.sizeOf4
 v4 := Tryz.zeroValue4
 t5 := Tryz.underlying5
 a5 := Tryz.isAgg5
 z5 := Tryz.sizeOf5
 v5 := Tryz.zeroValue5
 t9 := Tryz.underlying9
 a9 := Tryz.isAgg9
 z9 := Tryz.sizeOf9
 v9 := Tryz.zeroValue9
 t20 := Tryz.underlying20
 a20 := Tryz.isAgg20
 z20 := Tryz.sizeOf20
 v20 := Tryz.zeroValue20
 t21 := Tryz.underlying21
 a21 := Tryz.isAgg21
 z21 := Tryz.sizeOf21
 v21 := Tryz.zeroValue21
 t37 := Tryz.underlying35
 a37 := Tryz.isAgg35
 z37 := Tryz.sizeOf35
 v37 := Tryz.zeroValue35
 t46 := Tryz.underlying243
 a46 := Tryz.isAgg243
 z46 := Tryz.sizeOf243
 v46 := Tryz.zeroValue243
 t51 := Tryz.underlying166
 a51 := Tryz.isAgg166
 z51 := Tryz.sizeOf166
 v51 := Tryz.zeroValue166
 t53 := Tryz.underlying45
 a53 := Tryz.isAgg45
 z53 := Tryz.sizeOf45
 v53 := Tryz.zeroValue45
 t75 := Tryz.underlying250
 a75 := Tryz.isAgg250
 z75 := Tryz.sizeOf250
 v75 := Tryz.zeroValue250
 t76 := Tryz.underlying251
 a76 := Tryz.isAgg251
 z76 := Tryz.sizeOf251
 v76 := Tryz.zeroValue251
 t85 := Tryz.underlying415
 a85 := Tryz.isAgg415
 z85 := Tryz.sizeOf415
 v85 := Tryz.zeroValue415
 t127 := Tryz.underlying322
 a127 := Tryz.isAgg322
 z127 := Tryz.sizeOf322
 v127 := Tryz.zeroValue322
 t143 := Tryz.underlying444
 a143 := Tryz.isAgg444
 z143 := Tryz.sizeOf444
 v143 := Tryz.zeroValue444
 t145 := Tryz.underlying446
 a145 := Tryz.isAgg446
 z145 := Tryz.sizeOf446
 v145 := Tryz.zeroValue446
 t167 := Tryz.underlying414
 a167 := Tryz.isAgg414
 z167 := Tryz.sizeOf414
 v167 := Tryz.zeroValue414
 t168 := Tryz.underlying417
 a168 := Tryz.isAgg417
 z168 := Tryz.sizeOf417
 v168 := Tryz.zeroValue417
 t171 := Tryz.underlying360
 a171 := Tryz.isAgg360
 z171 := Tryz.sizeOf360
 v171 := Tryz.zeroValue360
 t173 := Tryz.underlying363
 a173 := Tryz.isAgg363
 z173 := Tryz.sizeOf363
 v173 := Tryz.zeroValue363
 t175 := Tryz.underlying432
 a175 := Tryz.isAgg432
 z175 := Tryz.sizeOf432
 v175 := Tryz.zeroValue432
 t210 := Tryz.underlying435
 a210 := Tryz.isAgg435
 z210 := Tryz.sizeOf435
 v210 := Tryz.zeroValue435
 t212 := Tryz.underlying385
 a212 := Tryz.isAgg385
 z212 := Tryz.sizeOf385
 v212 := Tryz.zeroValue385
 t213 := Tryz.underlying386
 a213 := Tryz.isAgg386
 z213 := Tryz.sizeOf386
 t232 := Tryz.underlying79
 a232 := Tryz.isAgg79
 z232 := Tryz.sizeOf79
 v232 := Tryz.zeroValue79
 t233 := Tryz.underlying261
 a233 := Tryz.isAgg261
 z233 := Tryz.sizeOf261
 v233 := Tryz.zeroValue261
 g15 := by kernel_rfl
 g16 := by kernel_rfl
 g17 := by kernel_rfl
 g18 := by kernel_rfl
 g19 := by kernel_rfl
 t80 := Tryz.underlying253
 a80 := Tryz.isAgg253
 z80 := Tryz.sizeOf253
 v80 := Tryz.zeroValue253
 i0 := by kernel_rfl
 i2 := by kernel_rfl
 i3 := by kernel_rfl
 i4 := by kernel_rfl
 i5 := by kernel_rfl
 i9 := by kernel_rfl
 i20 := by kernel_rfl
 i21 := by kernel_rfl
 i37 := by kernel_rfl
 i46 := by kernel_rfl
 i51 := by kernel_rfl
 i53 := by kernel_rfl
 i75 := by kernel_rfl
 i76 := by kernel_rfl
 i80 := by kernel_rfl
 i85 := by kernel_rfl
 i127 := by kernel_rfl
 i143 := by kernel_rfl
 i145 := by kernel_rfl
 i167 := by kernel_rfl
 i168 := by kernel_rfl
 i171 := by kernel_rfl
 i173 := by kernel_rfl
 i175 := by kernel_rfl
 i210 := by kernel_rfl
 i212 := by kernel_rfl
 i232 := by kernel_rfl
 i233 := by kernel_rfl
 m15 := by kernel_rfl
 m16 := by kernel_rfl
 m17 := by kernel_rfl
 m18 := by kernel_rfl
 m19 := by kernel_rfl
 c0 := by kernel_rfl
 c2 := by kernel_rfl
 c3 := by kernel_rfl
 c4 := by kernel_rfl
 c5 := by kernel_rfl
 c9 := by kernel_rfl
 c20 := by kernel_rfl
 c21 := by kernel_rfl
 c37 := by kernel_rfl
 c46 := by kernel_rfl
 c51 := by kernel_rfl
 c53 := by kernel_rfl
 c75 := by kernel_rfl
 c76 := by kernel_rfl
 c80 := by kernel_rfl
 c85 := by kernel_rfl
 c127 := by kernel_rfl
 c143 := by kernel_rfl
 c145 := by kernel_rfl
 c167 := by kernel_rfl
 c168 := by kernel_rfl
 c171 := by kernel_rfl
 c173 := by kernel_rfl
 c175 := by kernel_rfl
 c210 := by kernel_rfl
 c212 := by kernel_rfl
 c213 := by kernel_rfl
 c232 := by kernel_rfl
 c233 := by kernel_rfl }
open Go.RowKit in
theorem Tryz.strconv_Atoi_ok (s : ByteArray) (hmax : s.size ≤ 9223372036854775806) (v : Int) (h : Lib.atoiAll s.data.toList = .ok v) (w : World) :
  Calls Tryz.prog 226 #[.string s] w fun e w' => e = .returned (.tuple #[.int .i64 v,.nilIface]) ∧ (w' = w ∨ ∃ t,w' = Lib.bytesWorld w 5 t) := Any.strconv_Atoi_ok Tryz.laysC172 s hmax v h w
open Go.RowKit in
theorem Tryz.strconv_Atoi_range_var (s : ByteArray) (hlim : s.size ≤ 281474976710656) (h : Lib.atoiAll s.data.toList = .range) (tp : TypeId) (p : Value) (w : World) (hvar : w.var? Tryz.prog "strconv.ErrRange" = some #[.iface tp p]) :
  Calls Tryz.prog 226 #[.string s] w fun e w' => ∃ N,e = .returned (.tuple #[.int .i64 (Lib.atoiSat s.data.toList),.iface 417 (.pointer (some ⟨N,0,none⟩))]) ∧ w.heap.size ≤ N ∧ w'.heap[N]? = some (.cells #[.string ⟨#[65,116,111,105]⟩,.string s,.iface tp p] 435 (0,0)) ∧ Below w.heap.size w w' := Any.strconv_Atoi_range_var Tryz.laysC172 s hlim h tp p w hvar
def Tryz.lays189_ren : Go.Shelf.Ren := ⟨fun | 189 => 246 | 125 => 272 | 257 => 271 | 128 => 299 | 129 => 254 | 294 => 290 | 295 => 291 | 296 => 292 | 297 => 293 | 298 => 294 | 299 => 295 | 216 => 296 | 300 => 297 | 301 => 298 | 328 => 303 | 329 => 304 | 330 => 305 | 331 => 306 | 332 => 307 | 215 => 308 | 343 => 311 | n => n,fun | 28 => 64 | 3 => 3 | 46 => 243 | 0 => 0 | 51 => 166 | 53 => 45 | 4 => 4 | 183 => 425 | 182 => 424 | 131 => 75 | 5 => 5 | 9 => 9 | 218 => 437 | 222 => 441 | 228 => 447 | 229 => 448 | n => n,fun | n => n⟩
theorem Tryz.lays189 : Go.Proofs.Lays.n189 Tryz.prog Tryz.lays189_ren := {
 mixed := by kernel_rfl
 f125 := Tryz.func272.trans (congrArg some (by kernel_rfl))
 f128 := Tryz.func299.trans (congrArg some (by kernel_rfl))
 f129 := Tryz.func254.trans (congrArg some (by kernel_rfl))
 f189 := Tryz.func246.trans (congrArg some (by kernel_rfl))
 f215 := Tryz.func308.trans (congrArg some (by kernel_rfl))
 f216 := Tryz.func296.trans (congrArg some (by kernel_rfl))
 f257 := Tryz.func271.trans (congrArg some (by kernel_rfl))
 f294 := Tryz.func290.trans (congrArg some (by kernel_rfl))
 f295 := Tryz.func291.trans (congrArg some (by kernel_rfl))
 f296 := Tryz.func292.trans (congrArg some (by kernel_rfl))
 f297 := Tryz.func293.trans (congrArg some (by kernel_rfl))
 f298 := Tryz.func294.trans (congrArg some (by kernel_rfl))
 f299 := Tryz.func295.trans (congrArg some (by kernel_rfl))
 f300 := Tryz.func297.trans (congrArg some (by kernel_rfl))
 f301 := Tryz.func298.trans (congrArg some (by kernel_rfl))
 f328 := Tryz.func303.trans (congrArg some (by kernel_rfl))
 f329 := Tryz.func304.trans (congrArg some (by kernel_rfl))
 f330 := Tryz.func305.trans (congrArg some (by kernel_rfl))
 f331 := Tryz.func306.trans (congrArg some (by kernel_rfl))
 f332 := Tryz.func307.trans (congrArg some (by kernel_rfl))
 f343 := Tryz.func311.trans (congrArg some (by kernel_rfl))
 t0 := Tryz.underlying0
 a0 := Tryz.isAgg0
 z0 := Tryz.sizeOf0
 v0 := Tryz.zeroValue0
 t3 := Tryz.underlying3
 a3 := Tryz.isAgg3
 z3 := Tryz.sizeOf3
 v3 := Tryz.zeroValue3
 t4 := Tryz.underlying4
 a4 := Tryz.isAgg4
 z4 := Tryz.sizeOf4
 v4 := Tryz.zeroValue4
 t5 := Tryz.underlying5
 a5 := Tryz.isAgg5
 z5 := Tryz.sizeOf5
 v5 := Tryz.zeroValue5
 t9 := Tryz.underlying9
 a9 := Tryz.isAgg9
 z9 := Tryz.sizeOf9
 v9 := Tryz.zeroValue9
 t28 := Tryz.underlying64
 a28 := Tryz.isAgg64
 z28 := Tryz.sizeOf64
 v28 := Tryz.zeroValue64
 t46 := Tryz.underlying243
 a46 := Tryz.isAgg243
 z46 := Tryz.sizeOf243
 v46 := Tryz.zeroValue243
 t51 := Tryz.underlying166
 a51 := Tryz.isAgg166
 z51 := Tryz.sizeOf166
 v51 := Tryz.zeroValue166
 t53 := Tryz.underlying45
 a53 := Tryz.isAgg45
 z53 := Tryz.sizeOf45
 v53 := Tryz.zeroValue45
 t131 := Tryz.underlying75
 a131 := Tryz.isAgg75
 z131 := Tryz.sizeOf75
 v131 := Tryz.zeroValue75
 t182 := Tryz.underlying424
 a182 := Tryz.isAgg424
 z182 := Tryz.sizeOf424
 v182 := Tryz.zeroValue424
 t183 := Tryz.underlying425
 a183 := Tryz.isAgg425
 z183 := Tryz.sizeOf425
 v183 := Tryz.zeroValue425
 t218 := Tryz.underlying437
 a218 := Tryz.isAgg437
 z218 := Tryz.sizeOf437
 v218 := Tryz.zeroValue437
 t222 := Tryz.underlying441
 a222 := Tryz.isAgg441
 z222 := Tryz.sizeOf441
 v222 := Tryz.zeroValue441
 t228 := Tryz.underlying447
 a228 := Tryz.isAgg447
 z228 := Tryz.sizeOf447
 v228 := Tryz.zeroValue447
 t229 := Tryz.underlying448
 a229 := Tryz.isAgg448
 z229 := Tryz.sizeOf448
 v229 := Tryz.zeroValue448 }
open Go.Sort Go.RowKit in
theorem Tryz.slices_Sort_int (blk off cap : Nat) (zs : List Int) (w : World) (hH : Holds (Value.int .i64) w blk off zs.toArray) (hblk : blk < w.heap.size) (hsz : zs.length < 4611686018427387904) :
  Calls Tryz.prog 246 #[.slice (some ⟨blk,off,none⟩) zs.length cap] w fun e w' =>
   e = .returned (.tuple #[]) ∧ ∃ n os,w' = grow (putRow (Value.int .i64) (Sort.ahead w n) blk off (zs.mergeSort fun x y => decide (x ≤ y)).toArray) os := Any.slices_Sort_int Tryz.lays189 blk off cap zs w hH hblk hsz
def Tryz.laysM157_ren : Go.Shelf.Ren := ⟨fun | 157 => 175 | 229 => 223 | 199 => 224 | 261 => 250 | 311 => 274 | 312 => 275 | n => n,fun | 9 => 9 | 31 => 40 | 3 => 3 | 5 => 5 | 4 => 4 | 119 => 355 | 0 => 0 | 40 => 357 | 152 => 378 | 21 => 21 | 154 => 380 | 51 => 166 | 141 => 382 | 196 => 406 | 193 => 403 | 198 => 409 | 49 => 407 | 194 => 404 | 201 => 412 | 226 => 430 | 46 => 243 | 227 => 431 | n => n,fun | 0 => 0 | 6 => 3 | n => n⟩
theorem Tryz.laysM157 : Go.Proofs.LaysM.n157 Tryz.prog Tryz.laysM157_ren := {
 mixed := by kernel_rfl
 f157 := Tryz.func175.trans (congrArg some (by kernel_rfl))
 f199 := Tryz.func224.trans (congrArg some (by kernel_rfl))
 f229 := Tryz.func223.trans (congrArg some (by kernel_rfl))
 f261 := Tryz.func250.trans (congrArg some (by kernel_rfl))
 f311 := Tryz.func274.trans (congrArg some (by kernel_rfl))
 f312 := Tryz.func275.trans (congrArg some (by kernel_rfl))
 t0 := Tryz.underlying0
 a0 := Tryz.isAgg0
 z0 := Tryz.sizeOf0
 v0 := Tryz.zeroValue0
 t3 := Tryz.underlying3
 a3 := Tryz.isAgg3
 z3 := Tryz.sizeOf3
 v3 := Tryz.zeroValue3
 t4 := Tryz.underlying4
 a4 := Tryz.isAgg4
 z4 := Tryz.sizeOf4
 v4 := Tryz.zeroValue4
 t5 := Tryz.underlying5
 a5 := Tryz.isAgg5
 z5 := Tryz.sizeOf5
 v5 := Tryz.zeroValue5
 t9 := Tryz.underlying9
 a9 := Tryz.isAgg9
 z9 := Tryz.sizeOf9
 v9 := Tryz.zeroValue9
 t21 := Tryz.underlying21
 a21 := Tryz.isAgg21
 z21 := Tryz.sizeOf21
 v21 := Tryz.zeroValue21
 t31 := Tryz.underlying40
 a31 := Tryz.isAgg40
 z31 := Tryz.sizeOf40
 v31 := Tryz.zeroValue40
 t40 := Tryz.underlying357
 a40 := Tryz.isAgg357
 z40 := Tryz.sizeOf357
 v40 := Tryz.zeroValue357
 t46 := Tryz.underlying243
 a46 := Tryz.isAgg243
 z46 := Tryz.sizeOf243
 v46 := Tryz.zeroValue243
 t49 := Tryz.underlying407
 a49 := Tryz.isAgg407
 z49 := Tryz.sizeOf407
 v49 := Tryz.zeroValue407
 t51 := Tryz.underlying166
 a51 := Tryz.isAgg166
 z51 := Tryz.sizeOf166
 v51 := Tryz.zeroValue166
 t119 := Tryz.underlying355
 a119 := Tryz.isAgg355
 z119 := Tryz.sizeOf355
 t141 := Tryz.underlying382
 a141 := Tryz.isAgg382
 z141 := Tryz.sizeOf382
 v141 := Tryz.zeroValue382
 t152 := Tryz.underlying378
 a152 := Tryz.isAgg378
 z152 := Tryz.sizeOf378
 v152 := Tryz.zeroValue378
 t154 := Tryz.underlying380
 a154 := Tryz.isAgg380
 z154 := Tryz.sizeOf380
 v154 := Tryz.zeroValue380
 t193 := Tryz.underlying403
 a193 := Tryz.isAgg403
 z193 := Tryz.sizeOf403
 v193 := Tryz.zeroValue403
 t194 := Tryz.underlying404
 a194 := Tryz.isAgg404
 z194 := Tryz.sizeOf404
 v194 := Tryz.zeroValue404
 t196 := Tryz.underlying406
 a196 := Tryz.isAgg406
 z196 := Tryz.sizeOf406
 v196 := Tryz.zeroValue406
 t198 := Tryz.underlying409
 a198 := Tryz.isAgg409
 z198 := Tryz.sizeOf409
 v198 := Tryz.zeroValue409
 t201 := Tryz.underlying412
 a201 := Tryz.isAgg412
 z201 := Tryz.sizeOf412
 v201 := Tryz.zeroValue412
 t226 := Tryz.underlying430
 a226 := Tryz.isAgg430
 z226 := Tryz.sizeOf430
 v226 := Tryz.zeroValue430
 t227 := Tryz.underlying431
 a227 := Tryz.isAgg431
 z227 := Tryz.sizeOf431
 v227 := Tryz.zeroValue431
 g0 := by kernel_rfl
 g6 := by kernel_rfl
 i0 := by kernel_rfl
 i3 := by kernel_rfl
 i4 := by kernel_rfl
 i5 := by kernel_rfl
 i9 := by kernel_rfl
 i21 := by kernel_rfl
 i31 := by kernel_rfl
 i40 := by kernel_rfl
 i46 := by kernel_rfl
 i49 := by kernel_rfl
 i51 := by kernel_rfl
 i141 := by kernel_rfl
 i152 := by kernel_rfl
 i154 := by kernel_rfl
 i193 := by kernel_rfl
 i194 := by kernel_rfl
 i196 := by kernel_rfl
 i198 := by kernel_rfl
 i201 := by kernel_rfl
 i226 := by kernel_rfl
 i227 := by kernel_rfl
 m0 := by kernel_rfl
 m6 := by kernel_rfl }
open Go.RowKit Go.Lib in
theorem Tryz.strings_Fields_laid (s : ByteArray) (w : World) (hs : s.size < 4294967281) (hascii : ∀ (j : Nat) b, s.data.toList[j]? = some b → b.toNat < 128) (htab : Lib.TabIs Tryz.prog w "strings.asciiSpace" .u8 Lib.asciiSpaceTab) :
  Calls Tryz.prog 175 #[.string s] w fun e w' =>
   e = .returned (.slice (some ⟨w.heap.size,0,none⟩) (Lib.fields s.data.toList).length (Lib.fields s.data.toList).length) ∧ w' = w.alloc (.cells ((Lib.fields s.data.toList).map fun l => Value.string ⟨l.toArray⟩).toArray 9) := Any.strings_Fields_laid Tryz.laysM157 s w hs hascii htab
def Tryz.lays110_ren : Go.Shelf.Ren := ⟨fun | 110 => 174 | 109 => 222 | n => n,fun | 31 => 40 | 9 => 9 | 4 => 4 | 3 => 3 | 0 => 0 | n => n,fun | n => n⟩
theorem Tryz.lays110 : Go.Proofs.Lays.n110 Tryz.prog Tryz.lays110_ren := {
 mixed := by kernel_rfl
 f109 := Tryz.func222.trans (congrArg some (by kernel_rfl))
 f110 := Tryz.func174.trans (congrArg some (by kernel_rfl))
 t0 := Tryz.underlying0
 a0 := Tryz.isAgg0
 z0 := Tryz.sizeOf0
 v0 := Tryz.zeroValue0
 t3 := Tryz.underlying3
 a3 := Tryz.isAgg3
 z3 := Tryz.sizeOf3
 v3 := Tryz.zeroValue3
 t4 := Tryz.underlying4
 a4 := Tryz.isAgg4
 z4 := Tryz.sizeOf4
 v4 := Tryz.zeroValue4
 t9 := Tryz.underlying9
 a9 := Tryz.isAgg9
 z9 := Tryz.sizeOf9
 v9 := Tryz.zeroValue9
 t31 := Tryz.underlying40
 a31 := Tryz.isAgg40
 z31 := Tryz.sizeOf40
 v31 := Tryz.zeroValue40 }
open Go.Lib in
theorem Tryz.slices_Contains_string (b off n c : Nat) (zs : List ByteArray) (x : ByteArray) (w : World) (hz : n ≤ zs.length) (hbig : n ≤ 9223372036854775807) (hc : ∀ j,j < zs.length → w.cell? ⟨b,off + j,none⟩ = some (.string (zs.getD j ByteArray.empty))) :
  Calls Tryz.prog 174 #[.slice (some ⟨b,off,none⟩) n c,.string x] w fun e w' => e = .returned (.bool (Lib.containsS (zs.take n) x)) ∧ w' = w := Any.slices_Contains_string Tryz.lays110 b off n c zs x w hz hbig hc
open Go.RowKit Go.Sort in
theorem Tryz.slices_Sort_int_none (p : Option Addr) (cap : Nat) (w : World) :
  Calls Tryz.prog 246 #[.slice p 0 cap] w fun e w' => e = .returned (.tuple #[]) ∧ w' = w := Any.slices_Sort_int_none Tryz.lays189 p cap w
end Go.Proofs
namespace Cr
open Go Go.Proofs
set_option maxRecDepth 100000
set_option maxHeartbeats 64000000
attribute [local irreducible] Calls

theorem Zeo (a : Option Addr) (n c : Nat) (s : List UInt8) (W : World) (hs : Rd W (bytes a s)) (hn : s.length = n) (hlim : n ≤ 1073741824) :
  Calls Tryz.prog 111 #[.slice a n c] W (Ret fun v w => ∃ a' c',v = .slice a' n c' ∧ (a' = none ↔ a = none) ∧ n ≤ c' ∧ St W noF [own 5 1 a' c' (bv s)] w) := by
 have hS := St.start W
 cases a with
 | none =>
  have h0 : bv s = [] := hs.none_nil
  obtain rfl : n = 0 := by rw [← hn,← Zah s,h0]; rfl
  refine Zab Tryz.func111 rfl Tryz.ntmps111 rfl ?_
  repeat (first|refine Yea ?_|refine Yaf ?_|refine Yag ?_|refine Ycs ?_|refine Yek ?_|refine Yel ?_)
  refine ⟨none,0,rfl,by simp,by omega,?_⟩
  rw [h0];exact hS.own_none _ _ _
 | some ad =>
  refine Zab Tryz.func111 rfl Tryz.ntmps111 rfl ?_
  repeat (first|refine Yea ?_|refine Yaf ?_|refine Yag ?_|refine Ycs ?_|refine Ybn (fun _ _ hS _ => ?_)|refine Yem ?_|refine Yab ?_)
  rename_i b w hb;have hs := hs.below hb
  repeat (first|fail)
  refine Zar rfl rfl rfl rfl rfl hS rfl (by omega) hs (by simp [hn]) Zfd (by omega) (by simp only [maxLen]; omega) (fun a' c' w hS hc hnil => ?_)
  repeat (first|refine Yea ?_|refine Yag ?_|refine Yah ?_|refine Yec ?_)
  refine ⟨a',c',by rw [Nat.zero_add],by rw [hnil]; simp,by omega,hS⟩
theorem Zx0 (a b : Option Addr) (n m c c' : Nat) (s t : List UInt8) (W : World) (ha : Rd W (bytes a s)) (hb : Rd W (bytes b t)) (hn : s.length = n) (hm : t.length = m) :
  Calls Tryz.prog 57 #[.slice a n c,.slice b m c'] W (Ret fun v w => v = .bool (decide (s = t)) ∧ W = w) := by
 refine Zab Tryz.func57 rfl Tryz.ntmps57 rfl ?_
 repeat (first|refine Yea ?_|refine Yen ?_|refine Yeb ?_|refine Yab ?_)
 refine X_yl (Zbk rfl rfl ha hn) rfl rfl ?_
 repeat (first|refine Yaa ?_|refine Yaf ?_)
 refine X_yl (Zbk rfl rfl hb hm) rfl rfl ?_
 repeat (first|refine Yea ?_|refine Yag ?_|refine Ydj ?_|refine Yah ?_|refine Yec ?_)
 exact ⟨rfl,rfl⟩
def glob (g : Nat) (cs : List Value) : Res := fun h => ∃ t fz,h = Zcl g (.cells cs.toArray t fz)
theorem Zn8 {P : Program} {w : World} {g : Nat} {cs : List Value} {n : String} (hg : P.globalNamed n = some g) (H : Rd w (glob g cs)) : w.var? P n = some cs.toArray := by
 obtain ⟨h,⟨t,fz,rfl⟩,ha⟩ := H
 have hb := ha g _ (Zao _ _)
 unfold World.var?
 rw [hg];simp only [Option.bind_some]
 rw [hb]
theorem glob_of_var {P : Program} {w : World} {g : Nat} {cs : Array Value} {n : String} (hg : P.globalNamed n = some g) (H : w.var? P n = some cs) : Rd w (glob g cs.toList) := by
 unfold World.var? at H
 rw [hg] at H;simp only [Option.bind_some] at H
 cases hb : w.heap[g]? with
 | none => rw [hb] at H; cases H
 | some o =>
  cases o with
  | cells c t fz =>
   rw [hb] at H;obtain rfl : c = cs := by simpa using H
   refine ⟨Zcl g (.cells c t fz),⟨t,fz,by simp⟩,fun b o e => ?_⟩
   obtain ⟨rfl,rfl⟩ := Zht e
   exact hb
  | _ => rw [hb] at H; cases H
def Lg (W : World) (F : Nat → Prop) : Prop := Ro W F (glob 4 (Lib.pow10Tab.map fun z => Value.int .u64 z)) ∧ ∃ tp p,Ro W F (glob 7 [.iface tp p])
theorem Lg.mono {W W' : World} {F F' : Nat → Prop} (H : Lg W F) (hm : ∀ r,Ro W F r → Ro W' F' r) : Lg W' F' := by
 obtain ⟨h1,tp,p,h2⟩ := H
 exact ⟨hm _ h1,tp,p,hm _ h2⟩
theorem Z26 (n : Int) (W : World) (F : Nat → Prop) (hG : Lg W F) (h0 : -9223372036854775808 ≤ n) (h1 : n ≤ 9223372036854775807) :
  Calls Tryz.prog 70 #[.int .i64 n] W (Ret fun v w => v = .string (str (Lib.itoa n)) ∧ St W noF [] w) := by
 refine (Tryz.strconv_Itoa n h0 h1 W (Zn8 (by kernel_rfl) hG.1.start)).mono ?_
 rintro e w ⟨rfl,k,os,rfl⟩
 refine ⟨_,rfl,rfl,(St.start W).below ⟨rfl,rfl,rfl,by simp [Sort.grow],fun j hj => ?_⟩⟩
 show (W.heap ++ os)[j]? = _
 rw [Array.getElem?_append_left hj]
theorem Z7j (s : List UInt8) (W : World) (F : Nat → Prop) (hG : Lg W F) (hl : s.length ≤ 1099511627776) (hs : (∃ n,Lib.atoiAll s = .ok n) ∨ Lib.atoiAll s = .range) :
  Calls Tryz.prog 226 #[.string (str s)] W (Ret fun v w => (∃ n er,v = .tuple #[.int .i64 n,er] ∧ ((Lib.atoiAll s = .ok n ∧ er = .nilIface) ∨ (Lib.atoiAll s = .range ∧ ∃ t p,er = .iface t p))) ∧ St W noF [] w) := by
 have hz : (str s).size = s.length := Zce s
 have ht : (str s).data.toList = s := by simp [str]
 rcases hs with ⟨n,h⟩ | h
 ·refine (Tryz.strconv_Atoi_ok (str s) (by omega) n (by rw [ht]; exact h) W).mono ?_
  rintro e w ⟨rfl,hw⟩
  refine ⟨_,rfl,⟨n,_,rfl,.inl ⟨h,rfl⟩⟩,?_⟩
  rcases hw with rfl | ⟨t,rfl⟩
  ·exact St.start _
  ·exact (St.start W).below (Lib.bytesWorld_below W _ t)
 ·obtain ⟨tp,p,he⟩ := hG.2
  have hv := Zn8 (P := Tryz.prog) (n := "strconv.ErrRange") (by kernel_rfl) he.start
  refine (Tryz.strconv_Atoi_range_var (str s) (by omega) (by rw [ht]; exact h) tp p W hv).mono ?_
  rintro e w ⟨N,rfl,_,_,hb⟩
  exact ⟨_,rfl,⟨_,_,rfl,.inr ⟨h,_,_,rfl⟩⟩,(St.start W).below hb⟩
end Cr
namespace Go.Proofs.YtpbgaojjlepkcaaGreatDoor
open Go.ChangeShapes Go.WideShapes Go.ChangeAt Go.RowKit
set_option maxRecDepth 100000
def Z6r : List Int := [0,1,28,2,29,14,24,3,30,22,20,15,25,17,4,8,31,27,13,23,21,19,16,7,26,12,18,6,11,5,10,9]
def Z6q : List Int := [0,1,56,2,57,49,28,3,61,58,42,50,38,29,17,4,62,47,59,36,45,43,51,22,53,39,33,30,24,18,12,5,63,55,48,27,60,41,37,16,46,35,44,21,52,32,23,11,54,26,40,15,34,20,31,10,25,14,19,9,13,8,7,6]
def Zwp : List UInt8 := [118,97,108,117,101,32,111,117,116,32,111,102,32,114,97,110,103,101]
def Zur : List UInt8 := [105,110,118,97,108,105,100,32,115,121,110,116,97,120]
theorem Zxj : "*" ++ "errors.errorString" = "*errors.errorString" := by decide
theorem Z5k (u : TypeId) (h : Tryz.prog.typeName? 3 u = some "*errors.errorString") : u = 444 :=
 typeName_ptr_named (nm := "errors.errorString") (by rw [Zxj]; kernel_rfl) (by kernel_rfl) (by decide) u (by rw [Zxj]; exact h)
noncomputable def Zjr : Nat := (World.holding Tryz.prog default ⟨#[],#[],[]⟩).heap.size
def u8s (l : List Int) : List Value := l.map fun n => Value.int .u8 n
def spaces16 : List Value := [.int .u16 9,.int .u16 13,.int .u16 1,.int .u16 32,.int .u16 133,.int .u16 101,.int .u16 160,.int .u16 5760,.int .u16 5600,.int .u16 8192,.int .u16 8202,.int .u16 1,.int .u16 8232,.int .u16 8233,.int .u16 1,.int .u16 8239,.int .u16 8287,.int .u16 48,.int .u16 12288,.int .u16 12288,.int .u16 1]
noncomputable def Zkw (os : Os) : World :=
 let w0 := World.holding Tryz.prog os ⟨#[.cells #[.string (Cr.str Zwp)] 446,.cells #[.string (Cr.str Zur)] 446,.cells spaces16.toArray 409,.cells #[.slice (some ⟨Zjr + 2,0,none⟩) 7 7,.slice none 0 0,.int .i64 2] 406],#[],[]⟩
 { w0 with heap := ((((((((w0.heap.modify 8 (tabOf (u8s Z6r))).modify 9 (tabOf (u8s Z6q))).modify 4 (tabOf (Lib.pow10Tab.map fun z => Value.int .u64 z))).modify 7 (tabOf [.iface 444 (.pointer (some ⟨Zjr,0,none⟩))])).modify 6 (tabOf [.iface 444 (.pointer (some ⟨Zjr + 1,0,none⟩))])).modify 3 (tabOf [.pointer (some ⟨Zjr + 3,0,none⟩)])).modify 0 (tabOf (u8s Lib.asciiSpaceTab))).modify 5 (tabOf (Cr.ints .u32 Cr.roundL))).modify 1 (tabOf (Cr.ints .u32 Cr.firstL)) }
end Go.Proofs.YtpbgaojjlepkcaaGreatDoor
namespace Cr
open Go
set_option maxHeartbeats 64000000
section
variable {P : Program} {Q : Exit → Act → World → Prop} {N : Nat} {ds : Md} {σ : Env} {w : World} {x y : Code}
theorem Zj8 {F : Fence} {n : Nat} {c : Code} {Q Q' : Exit → Act → World → Prop} {a : Act} (hq : ∀ e a w,Q e a w → Q' e a w) (h : c.wpIn F n P Q a w) : c.wpIn F n P Q' a w := by
 intro b k cs hro hb hr
 obtain ⟨e,a',w',hQ,harr⟩ := h b k cs hro hb hr
 exact ⟨e,a',w',hq _ _ _ hQ,harr⟩
def Mid {α : Type} (S : α → Env) (R : α → World → Prop) (N : Nat) (ds : Md) : Act → World → Prop := fun a w => ∃ z,Fr (S z) N ds a ∧ R z w
theorem Zre {α : Type} (S : α → Env) (R : α → World → Prop) (h1 : C P x (Exit.then (Mid S R N ds) Q) N ds σ w) (h2 : ∀ z w,R z w → C P y Q N ds (S z) w) : C P x (Exit.then (y.wpIn (Fc ds) 0 P Q) Q) N ds σ w := ⟨fun a ha =>
 Zj8 (fun e a w hh => by
  cases e with
  | normal => obtain ⟨z,hF,hR⟩ := hh; exact (h2 z w hR).run a hF
  | exit id => exact hh
  | goto l => exact hh
  | ret => exact hh
  | panic ch => exact hh
  | outgrown => exact hh) (h1.run a ha)⟩
theorem Zqb {Q1 Q2 : Exit → Act → World → Prop} {id : Nat} (hq : ∀ e a w,Q1 e a w → Q2 e a w) : ∀ e a w,Exit.inBlock id Q1 e a w → Exit.inBlock id Q2 e a w := fun e a w h => by
 cases e with
 | exit id' =>
  by_cases he : id' = id
  ·simp only [Exit.inBlock,if_pos he] at h ⊢; exact hq _ _ _ h
  ·simp only [Exit.inBlock,if_neg he] at h ⊢; exact hq _ _ _ h
 | _ => exact hq _ _ _ h
theorem Zbz {α : Type} {id : Nat} (S : α → Env) (R : α → World → Prop) (h1 : C P x (Exit.inBlock id (Exit.then (Mid S R N ds) Q)) N ds σ w) (h2 : ∀ z w,R z w → C P y Q N ds (S z) w) : C P x (Exit.inBlock id (Exit.then (y.wpIn (Fc ds) 0 P Q) Q)) N ds σ w := ⟨fun a ha =>
 Zj8 (Zqb fun e a w hh => by
  cases e with
  | normal => obtain ⟨z,hF,hR⟩ := hh; exact (h2 z w hR).run a hF
  | exit id => exact hh
  | goto l => exact hh
  | ret => exact hh
  | panic ch => exact hh
  | outgrown => exact hh) (h1.run a ha)⟩
theorem Zbp {α : Type} {S : α → Env} {R : α → World → Prop} (z : α) (hσ : subs σ (S z)) (hR : R z w) : E (Exit.then (Mid S R N ds) Q) .normal N ds σ w := ⟨fun _ ha => ⟨z,ha.sub hσ,hR⟩⟩
theorem Rd.cellF {b off o' i : Nat} {cs : List Value} {v : Value} (H : Rd w (row (some ⟨b,off,none⟩) cs)) (hi : o' = off + i) (h : cs[i]? = some v) : w.cell? ⟨b,o',none⟩ = some v := by
 subst hi; exact H.cells i v h
end
section
variable {P : Program} {o : Oper} {σ : Env} {w : World} {t e : TypeId}
theorem Zsp {z : Value} {n size N m : Nat} {xs : List (Nat × Operand)} {parts : List (Nat × Value)} {l : List Value} (ho : o.op = .build t xs.toArray) (hx : evps σ xs = some parts) [h : Und P t (.array n e)] [hs : Siz P e size] [hi : Inf P t z N m] (hn : parts.length = n) (hN : N = n * size)
  (hidx : parts.map (·.1) = List.range' 0 parts.length) [hl : CellsAll parts size l] : Yl P o σ w (.agg l.toArray) := ⟨fun N' ds a ha => by
 obtain ⟨i,hi',hz',hsz,_⟩ := info_parts hi.inf
 obtain ⟨ls,h1,h2,h3⟩ := hl.all
 have hzl : z.cells.size = parts.length * size := by rw [hn,← hN]; exact hi.zs
 have hq := Zod (size := size) parts ls 0 [] z.cells.toList h1 h2 hidx (by simp) (by simpa using hzl)
 simp only [List.nil_append,Array.toArray_toList,h3] at hq
 have hze : (zeroValue t).run P w = .ok z w := by simp [zeroValue,typeInfo,hi',hz']
 have e := ha.evalps hx
 have hb : (Instr.build t parts.toArray).run P w = .ok (.agg l.toArray) w := by
  unfold Instr.build
  rw [Sem.run_bind,hze];show (underlying t >>= _ : Sem _).run P w = _
  rw [Sem.run_bind,run_underlying h.und];show (Go.sizeOf _ >>= _ : Sem _).run P w = _
  rw [Sem.run_bind,Zbj];simp [Result.andThen,hq]
 simp [execOp,ho,e,hb]⟩
end
theorem St.ownRd {W : World} {F : Nat → Prop} {rs rest : List Res} {w : World} {a : Option Addr} {T e c : Nat} {cs : List Value} (hS : St W F rs w) [hh : HasOwn rs a T e c cs rest] : Rd w (row a cs) := ((hS.perm hh.has).rd (List.mem_cons_self ..)).own_row
/-! ### resources in another order -/
class Take1 (rs : List Res) (r : Res) (rest : outParam (List Res)) : Prop where
 perm : rs.Perm (r :: rest)
instance Take1.there (q r : Res) (rs rest : List Res) [h : Take1 rs r rest] : Take1 (q :: rs) r (q :: rest) := ⟨(List.Perm.cons q h.perm).trans (.swap ..)⟩
instance Take1.here (r : Res) (rs : List Res) : Take1 (r :: rs) r rs := ⟨.refl _⟩
class Takes (rs out : List Res) : Prop where
 took : ∀ {W F w},St W F rs w → St W F out w
instance Takes.nil (rs : List Res) : Takes rs [] := ⟨fun h => h.drops⟩
instance Takes.cons (rs rest out : List Res) (r : Res) [h : Take1 rs r rest] [h2 : Takes rest out] : Takes rs (r :: out) := ⟨fun hS => (hS.perm h.perm).under h2.took⟩
theorem St.took {W : World} {F : Nat → Prop} {rs out : List Res} {w : World} (hS : St W F rs w) [h : Takes rs out] : St W F out w := h.took hS
end Cr
namespace Cr
open Go Go.Proofs
set_option maxRecDepth 100000
set_option maxHeartbeats 64000000
attribute [local irreducible] Calls

def okC (c : UInt8) : Prop := (97 ≤ c.toNat ∧ c.toNat ≤ 122) ∨ (48 ≤ c.toNat ∧ c.toNat ≤ 57) ∨ c.toNat = 46 ∨ c.toNat = 45 ∨ c.toNat = 95
instance (c : UInt8) : Decidable (okC c) := by unfold okC; infer_instance
def nameOk (s : List UInt8) : Prop := 1 ≤ s.length ∧ s.length ≤ 24 ∧ s ≠ [46] ∧ s ≠ [46,46] ∧ ∀ c ∈ s,okC c
instance (s : List UInt8) : Decidable (nameOk s) := by unfold nameOk; infer_instance
theorem Z6t (c : UInt8) (W : World) : Calls Tryz.prog 91 #[.int .u8 (c.toNat : Int)] W (Ret fun v w => v = .bool (decide (okC c)) ∧ St W noF [] w) := by
 have hS := St.start W
 refine Zab Tryz.func91 rfl Tryz.ntmps91 rfl ?_
 repeat' (first | (refine G_id ?_; first | refine Zly ?_ | refine Zeq rfl rfl ?_ | refine Zvw rfl rfl rfl rfl ?_ | refine G_no rfl rfl rfl rfl rfl rfl ?_ | refine Zm8 rfl rfl rfl rfl rfl ?_) | (refine X_id ?_; first | refine X_yl (Zby rfl rfl) rfl rfl ?_ | refine X_yl (Za1 rfl rfl) rfl rfl ?_ | refine X_yl (Zgd rfl rfl rfl) rfl rfl ?_ | refine X_yl (Zfe rfl rfl rfl) rfl rfl ?_ | refine X_yl (Zic rfl rfl rfl (by omega)) rfl rfl ?_ | refine X_yl (Zoq rfl rfl rfl (by omega)) rfl rfl ?_ | refine X_yl (Zj5 rfl rfl rfl (by omega)) rfl rfl ?_ | refine X_yl (Zq7 rfl rfl rfl) rfl rfl ?_ | refine X_yl (Zyb rfl rfl rfl) rfl rfl ?_ | refine X_yl (Zui rfl rfl rfl) rfl rfl ?_) | (refine C_id ?_; first | refine Zc1 ?_ | refine Zav ?_ | refine Zhf ?_) | (refine E_id ?_; first | refine Zcy ?_ | refine Zg2 rfl (Za9 rfl) (Ret.mk ?_)) | (refine Zct (d := 5) rfl ?_ ?_ <;> intro hd) | (refine Zct (d := 9) rfl ?_ ?_ <;> intro hd) | (refine Zct (d := 12) rfl ?_ ?_ <;> intro hd) | (refine Zct (d := 17) rfl ?_ ?_ <;> intro hd) | (refine Zct (d := 21) rfl ?_ ?_ <;> intro hd) | (refine Zct (d := 25) rfl ?_ ?_ <;> intro hd) | (refine Zd2 rfl ?_ ?_ <;> intro hd))
 all_goals
  refine ⟨?_,hS⟩
  congr 1
  unfold okC
  first | (symm; exact decide_eq_true (by omega)) | (symm; exact decide_eq_false (by omega)) | exact decide_eq_decide.2 (by omega)
end Cr
namespace Cr
open Go
set_option maxHeartbeats 64000000

inductive Leaf where
 | num (n : Int)
 | txt (b : List UInt8)
 | oth
inductive Top where
 | leaf (x : Leaf)
 | list (l : List Leaf)
def Top.shut : Top → Leaf
 | .leaf x => x
 | .list _ => .oth

def dig (c : UInt8) : Bool := decide (48 ≤ c.toNat) && decide (c.toNat ≤ 57)
theorem dig_iff {c : UInt8} : dig c = true ↔ 48 ≤ c.toNat ∧ c.toNat ≤ 57 := by simp [dig]
def sgn (below : Bool) (l : List UInt8) : List UInt8 := if below = true ∧ l.head? = some 45 then [45] else []
def numS (below : Bool) (l : List UInt8) : List UInt8 := sgn below l ++ (l.drop (sgn below l).length).takeWhile dig
def badN (s : List UInt8) : Prop := s = [] ∨ s = [45] ∨ s = [45,48] ∨ (s.head? = some 48 ∧ 1 < s.length) ∨ (2 < s.length ∧ s.take 2 = [45,48])
instance (s : List UInt8) : Decidable (badN s) := by unfold badN; infer_instance
def num (below : Bool) (e : UInt8) (l : List UInt8) : Option (Int × List UInt8) :=
 match l.drop (numS below l).length with
 | [] => none
 | c :: r => if badN (numS below l) ∨ c ≠ e then none else
  match Lib.atoiAll (numS below l) with
  | .ok v => some (v,r)
  | _ => none

/-! ### digits and numbers -/
def val (d : List UInt8) (acc : Nat) : Nat := d.foldl (fun a c => a * 10 + (c.toNat - 48)) acc
theorem Zv5 (a : Nat) : val [] a = a := rfl
theorem Zhk (c : UInt8) (d : List UInt8) (a : Nat) : val (c :: d) a = val d (a * 10 + (c.toNat - 48)) := by simp [val]
theorem Zs1 (c : UInt8) (d : List UInt8) (a : Nat) : val (d ++ [c]) a = val d a * 10 + (c.toNat - 48) := by simp [val]
theorem Zv6 : ∀ (d : List UInt8) (a : Nat),a ≤ val d a
 | [],a => Nat.le_refl _
 | c :: d,a => by rw [Zhk]; have := Zv6 d (a * 10 + (c.toNat - 48)); omega
theorem Z2q (c : UInt8) (d : List UInt8) (a : Nat) : (Lib.parseUint10 a (c :: d) = Lib.parseUint10 (a * 10 + (c.toNat - 48)) d ∧ dig c = true) ∨ ∀ u,Lib.parseUint10 a (c :: d) ≠ .ok u := by
 by_cases h1 : 48 ≤ c.toNat ∧ c.toNat ≤ 57
 ·by_cases h2 : 1844674407370955162 ≤ a
  ·refine .inr fun u => ?_
   rw [Lib.parseUint10,if_pos h1,if_pos h2]; exact fun h => nomatch h
  ·by_cases h3 : 18446744073709551616 ≤ a * 10 + (c.toNat - 48)
   ·refine .inr fun u => ?_
    rw [Lib.parseUint10,if_pos h1,if_neg h2,if_pos h3]; exact fun h => nomatch h
   ·refine .inl ⟨?_,dig_iff.2 h1⟩
    rw [Lib.parseUint10,if_pos h1,if_neg h2,if_neg h3]
 ·refine .inr fun u => ?_
  rw [Lib.parseUint10,if_neg h1]; exact fun h => nomatch h
theorem Z4s (d : List UInt8) : ∀ (a u : Nat),Lib.parseUint10 a d = .ok u → u = val d a ∧ ∀ c ∈ d,dig c = true := by
 induction d with
 | nil => intro a u h; rw [Lib.parseUint10] at h; injection h with h; exact ⟨h.symm,fun _ hc => by cases hc⟩
 | cons c d ih =>
  intro a u h
  rcases Z2q c d a with ⟨h1,h2⟩ | h1
  ·rw [h1] at h
   obtain ⟨h3,h4⟩ := ih _ u h
   refine ⟨h3,fun x hx => ?_⟩
   rcases List.mem_cons.1 hx with rfl | hx
   ·exact h2
   ·exact h4 x hx
  ·exact absurd h (h1 u)
theorem Z2r : ∀ (d : List UInt8) (a : Nat),(∀ c ∈ d,dig c = true) → val d a ≤ 9223372036854775808 → Lib.parseUint10 a d = .ok (val d a)
 | [],a,_,_ => rfl
 | c :: d,a,hd,hv => by
  have hc := dig_iff.1 (hd c (List.mem_cons_self ..))
  rw [Zhk] at hv ⊢;have := Zv6 d (a * 10 + (c.toNat - 48))
  simp only [Lib.parseUint10]
  rw [if_pos hc,if_neg (by omega),if_neg (by omega)];exact Z2r d _ (fun x hx => hd x (List.mem_cons_of_mem _ hx)) hv
theorem Zv4 {d : List UInt8} (hd : ∀ c ∈ d,dig c = true) (h0 : d ≠ []) (h1 : d.head? ≠ some 48) : 1 ≤ val d 0 := by
 cases d with
 | nil => exact absurd rfl h0
 | cons c d =>
  rw [Zhk];have hc := dig_iff.1 (hd c (List.mem_cons_self ..))
  have := Zv6 d (0 * 10 + (c.toNat - 48))
  have : c.toNat ≠ 48 := fun e => h1 (by rw [List.head?_cons,show c = 48 from UInt8.toNat_inj.1 e])
  omega
theorem Zpu {c : UInt8} (hc : 48 ≤ c.toNat) : UInt8.ofNat (48 + (c.toNat - 48)) = c := by
 rw [show 48 + (c.toNat - 48) = c.toNat by omega]; exact UInt8.ofNat_toNat
theorem Zsc : ∀ (n : Nat) (d : List UInt8),d.length = n + 1 → (∀ c ∈ d,dig c = true) → (d.head? ≠ some 48 ∨ n = 0) → Lib.decDigits (val d 0) = d
 | 0,d,hl,hd,_ => by
  obtain ⟨c,rfl⟩ : ∃ c,d = [c] := List.length_eq_one_iff.1 hl
  have hc := dig_iff.1 (hd c (List.mem_cons_self ..))
  rw [Zhk,Zv5,Lib.decDigits,dif_pos (by omega),Nat.zero_mul,Nat.zero_add,Zpu hc.1]
 | n + 1,d,hl,hd,hh => by
  obtain ⟨d',c,rfl⟩ : ∃ d' c,d = d' ++ [c] := (List.eq_nil_or_concat d).resolve_left (fun e => by rw [e] at hl; cases hl) |>.imp fun _ h => h.imp fun _ h => by simpa using h
  have hl' : d'.length = n + 1 := by simpa using hl
  have hn0 : d' ≠ [] := fun e => by rw [e] at hl'; cases hl'
  have hh' : d'.head? ≠ some 48 := by
   rcases hh with hh | hh
   ·cases d' with
    | nil => exact absurd rfl hn0
    | cons x y => exact hh
   ·cases hh
  have hd' : ∀ c ∈ d',dig c = true := fun x hx => hd x (List.mem_append_left _ hx)
  have hc := dig_iff.1 (hd c (List.mem_append_right _ (List.mem_cons_self ..)))
  have hp := Zv4 hd' hn0 hh'
  have ih := Zsc n d' hl' hd' (.inl hh')
  rw [Zs1,Lib.decDigits,dif_neg (by omega)];rw [show (val d' 0 * 10 + (c.toNat - 48)) / 10 = val d' 0 by omega,show (val d' 0 * 10 + (c.toNat - 48)) % 10 = c.toNat - 48 by omega,ih,Zpu hc.1]
theorem Zb7 {k : Nat} (h : k < 10) : (UInt8.ofNat (48 + k)).toNat = 48 + k := by
 rw [UInt8.toNat_ofNat']; exact Nat.mod_eq_of_lt (by omega)
theorem Zf9 (u : Nat) : (∀ c ∈ Lib.decDigits u,dig c = true) ∧ Lib.decDigits u ≠ [] ∧ ((Lib.decDigits u).head? = some 48 → u = 0) ∧ val (Lib.decDigits u) 0 = u := by
 induction u using Nat.strongRecOn with
 | _ u ih =>
  rw [Lib.decDigits];by_cases h : u < 10
  ·rw [dif_pos h]
   refine ⟨fun c hc => ?_,by simp,fun hh => ?_,?_⟩
   ·obtain rfl := List.mem_singleton.1 hc
    rw [dig_iff,Zb7 h]; omega
   ·have h1 : UInt8.ofNat (48 + u) = 48 := by simpa using hh
    have := congrArg UInt8.toNat h1
    rw [Zb7 h] at this;have h48 : (48 : UInt8).toNat = 48 := rfl
    omega
   ·rw [Zhk,Zv5,Zb7 h]; omega
  ·rw [dif_neg h]
   obtain ⟨h1,h2,h3,h4⟩ := ih (u / 10) (by omega)
   refine ⟨fun c hc => ?_,by simp,fun hh => ?_,?_⟩
   ·rcases List.mem_append.1 hc with hc | hc
    ·exact h1 c hc
    ·obtain rfl := List.mem_singleton.1 hc
     rw [dig_iff,Zb7 (by omega)]; omega
   ·exfalso
    cases e : Lib.decDigits (u / 10) with
    | nil => exact h2 e
    | cons x y =>
     rw [e] at hh h3;have := h3 (by simpa using hh)
     omega
   ·rw [Zs1,h4,Zb7 (by omega)]; omega

theorem Zfj {p : UInt8 → Bool} {e : UInt8} {r : List UInt8} : ∀ {d : List UInt8},(∀ c ∈ d,p c = true) → p e = false → (d ++ e :: r).takeWhile p = d
 | [],_,he => by simp [he]
 | c :: d,hd,he => by
  rw [List.cons_append,List.takeWhile_cons,if_pos (hd c (List.mem_cons_self ..)),Zfj (fun x hx => hd x (List.mem_cons_of_mem _ hx)) he]
theorem Zhz {p : UInt8 → Bool} : ∀ {l : List UInt8} {c : UInt8},c ∈ l.takeWhile p → p c = true
 | [],_,h => by cases h
 | x :: l,c,h => by
  rw [List.takeWhile_cons] at h
  split at h
  ·rename_i hx
   rcases List.mem_cons.1 h with rfl | h
   ·exact hx
   ·exact Zhz h
  ·cases h
theorem Zgu {p : UInt8 → Bool} : ∀ (l : List UInt8),l.take (l.takeWhile p).length = l.takeWhile p
 | [] => rfl
 | x :: l => by
  rw [List.takeWhile_cons]
  split
  ·simp [Zgu l]
  ·rfl
theorem Zze (below : Bool) (l : List UInt8) : l.take (sgn below l).length = sgn below l := by
 unfold sgn
 split
 ·rename_i h
  cases l with
  | nil => simp at h
  | cons c l => have := h.2; simp at this; simp [this]
 ·rfl
theorem Zhv (below : Bool) (l : List UInt8) : l.take (numS below l).length = numS below l := by
 unfold numS
 generalize hs : sgn below l = s;have h1 : l.take s.length = s := by rw [← hs]; exact Zze below l
 rw [List.length_append,List.take_add,h1,Zgu]
theorem Z2v (below : Bool) (l : List UInt8) : (numS below l).length ≤ l.length := by
 have h := congrArg List.length (Zhv below l)
 rw [List.length_take] at h; omega

theorem Zhu {below : Bool} {e : UInt8} {l r : List UInt8} {v : Int} (h : num below e l = some (v,r)) :
  l = numS below l ++ e :: r ∧ ¬ badN (numS below l) ∧ Lib.atoiAll (numS below l) = .ok v := by
 unfold num at h
 split at h
 ·cases h
 ·rename_i c r' hd
  split at h
  ·cases h
  ·rename_i hb
   split at h
   ·rename_i v' hv
    obtain ⟨rfl,rfl⟩ : v' = v ∧ r' = r := by simpa using h
    have hc : c = e := Decidable.not_not.1 fun hc => hb (.inr hc)
    have hn := fun hbad => hb (.inl hbad)
    refine ⟨?_,hn,hv⟩
    have := List.take_append_drop (numS below l).length l
    rw [Zhv,hd,hc] at this;exact this.symm
   ·cases h
theorem Zip (below : Bool) (l : List UInt8) : ∃ d,(∀ c ∈ d,dig c = true) ∧ (numS below l = d ∨ numS below l = 45 :: d ∧ below = true) := by
 refine ⟨(l.drop (sgn below l).length).takeWhile dig,fun c hc => Zhz hc,?_⟩
 unfold numS
 by_cases h : below = true ∧ l.head? = some 45
 ·right; rw [show sgn below l = [45] from if_pos h]; exact ⟨rfl,h.1⟩
 ·left; rw [show sgn below l = [] from if_neg h]; rfl
theorem Z2w {c : UInt8} (hc : dig c = true) : ¬ c.toNat = 45 ∧ ¬ (c.toNat = 43 ∨ c.toNat = 45) := by
 have := dig_iff.1 hc; omega
theorem Zud {d : List UInt8} {v : Int} (hd : ∀ c ∈ d,dig c = true) (h : Lib.atoiAll d = .ok v) : d ≠ [] ∧ v = (val d 0 : Nat) := by
 cases d with
 | nil => cases h
 | cons c d =>
  refine ⟨by simp,?_⟩
  have hc := Z2w (hd c (List.mem_cons_self ..))
  unfold Lib.atoiAll at h
  simp only at h
  rw [if_neg hc.2] at h;unfold Lib.parseMag at h
  rw [if_neg (by simp)] at h;rcases hp : Lib.parseUint10 0 (c :: d) with u | _ | _
  ·rw [hp] at h
   simp only at h
   split at h
   ·cases h
   ·split at h
    ·cases h
    ·rw [if_neg hc.1] at h
     injection h with h
     rw [← h,(Z4s _ _ _ hp).1]
  ·rw [hp] at h; cases h
  ·rw [hp] at h; cases h
theorem Z0x {d : List UInt8} {v : Int} (h : Lib.atoiAll (45 :: d) = .ok v) : d ≠ [] ∧ v = - ((val d 0 : Nat) : Int) := by
 unfold Lib.atoiAll at h
 simp only at h
 rw [if_pos (.inr rfl)] at h;unfold Lib.parseMag at h
 by_cases hd : d = []
 ·rw [if_pos hd] at h; cases h
 ·rw [if_neg hd] at h
  refine ⟨hd,?_⟩
  rcases hp : Lib.parseUint10 0 d with u | _ | _
  ·rw [hp] at h
   simp only at h
   split at h
   ·cases h
   ·split at h
    ·cases h
    ·rw [if_pos (show UInt8.toNat 45 = 45 from rfl)] at h
     injection h with h
     rw [← h,(Z4s _ _ _ hp).1]
  ·rw [hp] at h; cases h
  ·rw [hp] at h; cases h
theorem Zex (u : Nat) : Lib.itoa (u : Int) = Lib.decDigits u := by
 unfold Lib.itoa; rw [if_neg (by omega),Int.toNat_natCast]
theorem Zn5 {u : Nat} (h : 1 ≤ u) : Lib.itoa (-(u : Int)) = 45 :: Lib.decDigits u := by
 unfold Lib.itoa; rw [if_pos (by omega)]; congr 2; omega
theorem Zpw {below : Bool} {e : UInt8} {l r : List UInt8} {v : Int} (h : num below e l = some (v,r)) : l = Lib.itoa v ++ e :: r := by
 obtain ⟨hl,hb,hv⟩ := Zhu h
 have key : numS below l = Lib.itoa v := by
  obtain ⟨d,hd,hs | ⟨hs,_⟩⟩ := Zip below l
  ·rw [hs] at hb hv ⊢
   obtain ⟨h0,rfl⟩ := Zud hd hv
   rw [Zex];refine (Zsc (d.length - 1) d (by have := List.length_pos_iff.2 h0; omega) hd ?_).symm
   by_cases h1 : d.length - 1 = 0
   ·exact .inr h1
   ·refine .inl fun hh => hb ?_
    exact .inr (.inr (.inr (.inl ⟨hh,by omega⟩)))
  ·rw [hs] at hb hv ⊢
   obtain ⟨h0,rfl⟩ := Z0x hv
   have hh : d.head? ≠ some 48 := fun hh => by
    cases d with
    | nil => exact h0 rfl
    | cons c d =>
     obtain rfl : c = 48 := by simpa using hh
     cases d with
     | nil => exact hb (.inr (.inr (.inl rfl)))
     | cons x y => exact hb (.inr (.inr (.inr (.inr ⟨by simp,rfl⟩))))
   rw [Zn5 (Zv4 hd h0 hh),Zsc (d.length - 1) d (by have := List.length_pos_iff.2 h0; omega) hd (.inl hh)]
 rw [key] at hl;exact hl
theorem Zmc {e : UInt8} {l r : List UInt8} {v : Int} (h : num false e l = some (v,r)) : 0 ≤ v := by
 obtain ⟨_,_,hv⟩ := Zhu h
 obtain ⟨d,hd,hs | ⟨_,hs⟩⟩ := Zip false l
 ·rw [hs] at hv
  rw [(Zud hd hv).2]; omega
 ·cases hs
theorem Zwt {below : Bool} {e : UInt8} {l r : List UInt8} {v : Int} (h : num below e l = some (v,r)) : r.length < l.length := by
 obtain ⟨hl,_,_⟩ := Zhu h
 have := congrArg List.length hl
 simp at this; omega

theorem Zx2 {v : Int} (h1 : -9223372036854775808 ≤ v) (h2 : v ≤ 9223372036854775807) : Lib.atoiAll (Lib.itoa v) = .ok v := by
 by_cases h : v < 0
 ·obtain ⟨u,rfl⟩ : ∃ u : Nat,v = -(u : Int) := ⟨v.natAbs,by omega⟩
  rw [Zn5 (by omega)];obtain ⟨f1,f2,_,f4⟩ := Zf9 u
  unfold Lib.atoiAll
  simp only
  rw [if_pos (.inr rfl)];unfold Lib.parseMag
  rw [if_neg f2,Z2r _ _ f1 (by rw [f4]; omega),f4]
  simp only
  rw [if_neg (by intro h; exact h.1 rfl),if_neg (by omega),if_pos (show UInt8.toNat 45 = 45 from rfl)]
 ·obtain ⟨u,rfl⟩ : ∃ u : Nat,v = (u : Int) := ⟨v.toNat,by omega⟩
  rw [Zex];obtain ⟨f1,f2,_,f4⟩ := Zf9 u
  cases hd : Lib.decDigits u with
  | nil => exact absurd hd f2
  | cons c d =>
   have hc := Z2w (f1 c (by rw [hd]; exact List.mem_cons_self ..))
   unfold Lib.atoiAll
   simp only
   rw [if_neg hc.2,← hd];unfold Lib.parseMag
   rw [if_neg f2,Z2r _ _ f1 (by rw [f4]; omega),f4]
   simp only
   rw [if_neg (by omega),if_neg (by intro h; exact hc.1 h.1),if_neg hc.1]
theorem Zti {below : Bool} {e : UInt8} {r : List UInt8} {v : Int} (h1 : -9223372036854775808 ≤ v) (h2 : v ≤ 9223372036854775807) (hs : below = true ∨ 0 ≤ v) (he : dig e = false) : num below e (Lib.itoa v ++ e :: r) = some (v,r) := by
 have key : numS below (Lib.itoa v ++ e :: r) = Lib.itoa v ∧ ¬ badN (Lib.itoa v) := by
  by_cases h : v < 0
  ·obtain ⟨u,rfl⟩ : ∃ u : Nat,v = -(u : Int) := ⟨v.natAbs,by omega⟩
   rw [Zn5 (by omega)];obtain ⟨f1,f2,f3,f4⟩ := Zf9 u
   obtain rfl : below = true := hs.resolve_right (by omega)
   constructor
   ·unfold numS
    rw [show sgn true (45 :: Lib.decDigits u ++ e :: r) = [45] by simp [sgn]]
    simp only [List.length_cons,List.length_nil,Nat.zero_add,List.cons_append,List.drop_succ_cons,List.drop_zero,List.nil_append]
    rw [Zfj f1 he]
   ·rintro (h | h | h | ⟨h,_⟩ | ⟨h,h'⟩)
    ·cases h
    ·injection h with _ h; exact f2 h
    ·injection h with _ h
     have := f3 (by rw [h]; rfl)
     omega
    ·cases h
    ·cases hd : Lib.decDigits u with
     | nil => exact f2 hd
     | cons x y =>
      rw [hd] at h' f3;have hx : x = 48 := by simpa using h'
      have := f3 (by rw [hx]; rfl)
      omega
  ·obtain ⟨u,rfl⟩ : ∃ u : Nat,v = (u : Int) := ⟨v.toNat,by omega⟩
   rw [Zex];obtain ⟨f1,f2,f3,f4⟩ := Zf9 u
   have hne : (Lib.decDigits u).head? ≠ some 45 := fun hh => by
    cases hd : Lib.decDigits u with
    | nil => exact f2 hd
    | cons x y =>
     rw [hd] at hh f1;have := dig_iff.1 (f1 x (List.mem_cons_self ..))
     obtain rfl : x = 45 := by simpa using hh
     exact absurd this (by decide)
   constructor
   ·unfold numS
    rw [show sgn below (Lib.decDigits u ++ e :: r) = [] by
     unfold sgn; rw [if_neg]; rintro ⟨_,hh⟩
     cases hd : Lib.decDigits u with
     | nil => exact f2 hd
     | cons x y => rw [hd] at hh hne; exact hne (by simpa using hh)]
    simp only [List.length_nil,List.drop_zero,List.nil_append]
    rw [Zfj f1 he]
   ·rintro (h | h | h | ⟨h,h'⟩ | ⟨h,h'⟩)
    ·exact f2 h
    ·exact hne (by rw [h]; rfl)
    ·exact hne (by rw [h]; rfl)
    ·have h0 := f3 h
     subst h0
     rw [Lib.decDigits_one (by omega)] at h';simp at h'
    ·refine hne ?_
     cases hd : Lib.decDigits u with
     | nil => exact absurd hd f2
     | cons x y => rw [hd] at h'; simp at h'; simp [h'.1]
 unfold num
 rw [key.1,List.drop_left];simp only
 rw [if_neg (by rintro (h | h); exact key.2 h; exact h rfl),Zx2 h1 h2]

/-! ### values -/
mutual
def pv : Nat → Nat → List UInt8 → Option (Top × List UInt8)
 | 0,_,_ => none
 | _ + 1,_,[] => none
 | f + 1,deep,c :: r =>
  if c = 40 then
   if 8 < deep then none else
   match pl f deep r with
   | some (x,r') => some (.list x,r')
   | none => none
  else if c = 105 then
   match num true 59 r with
   | some (v,r') => some (.leaf (.num v),r')
   | none => none
  else
   match num false 58 (c :: r) with
   | some (v,r') => if v.toNat ≤ r'.length then some (.leaf (.txt (r'.take v.toNat)),r'.drop v.toNat) else none
   | none => none
def pl : Nat → Nat → List UInt8 → Option (List Leaf × List UInt8)
 | 0,_,_ => none
 | _ + 1,_,[] => none
 | f + 1,deep,c :: r =>
  if c = 41 then some ([],r) else
  match pv f (deep + 1) (c :: r) with
  | none => none
  | some (t,r') =>
   match pl f deep r' with
   | none => none
   | some (x,r'') => some (t.shut :: x,r'')
end
theorem Zp9 {u : Nat} : ∃ c r,Lib.itoa (u : Int) = c :: r ∧ dig c = true := by
 rw [Zex];obtain ⟨f1,f2,_,_⟩ := Zf9 u
 cases hd : Lib.decDigits u with
 | nil => exact absurd hd f2
 | cons c r => exact ⟨c,r,rfl,f1 c (by rw [hd]; exact List.mem_cons_self ..)⟩
end Cr
namespace Cr
open Go
set_option maxRecDepth 100000
set_option maxHeartbeats 64000000

structure Rec where
 cmd : List UInt8
 pub : List UInt8
 pkg : List UInt8
 rev : Int
 out : Int
abbrev Rec.cells (r : Rec) : List Value := [.string (str r.cmd),.string (str r.pub),.string (str r.pkg),.int .i64 r.rev,.int .i64 r.out]
abbrev zRec : Rec := ⟨[],[],[],0,0⟩
def words6 : List (List UInt8) := [[105,110,115,116,97,108,108],[114,101,102,114,101,115,104],[114,101,118,101,114,116],[114,101,109,111,118,101],[99,111,110,110,101,99,116],[100,105,115,99,111,110,110,101,99,116]]
def Zdp (s : List UInt8) : Prop := s = [] ∨ nameOk s
instance (s : List UInt8) : Decidable (Zdp s) := by unfold Zdp; infer_instance
def rchk (r : Rec) : Nat := if r.cmd ∈ words6 then if Zdp r.pub ∧ Zdp r.pkg then if 0 ≤ r.rev ∧ r.rev ≤ 999999 ∧ 0 ≤ r.out ∧ r.out ≤ 19 then 0 else 2 else 10 else 1
theorem Zuo : ∀ w ∈ words6,w.length ≤ 10 := by decide
theorem Zpz {s : List UInt8} (h : Zdp s) : s.length ≤ 24 := by
 rcases h with rfl | h
 ·simp
 ·exact h.2.1
theorem Zrv {r : Rec} (h : rchk r = 0) : r.cmd.length ≤ 10 ∧ r.pub.length ≤ 24 ∧ r.pkg.length ≤ 24 ∧ 0 ≤ r.rev ∧ r.rev ≤ 999999 ∧ 0 ≤ r.out ∧ r.out ≤ 19 := by
 unfold rchk at h
 split at h
 ·rename_i h1
  split at h
  ·rename_i h2
   split at h
   ·rename_i h3
    exact ⟨Zuo _ h1,Zpz h2.1,Zpz h2.2,h3⟩
   ·cases h
  ·cases h
 ·cases h
end Cr
namespace Cr
open Go Go.Proofs
set_option maxRecDepth 100000
set_option maxHeartbeats 64000000
attribute [local irreducible] Calls

theorem Zdj {s : List UInt8} (h : s.length < 1 ∨ 24 < s.length ∨ s = [46] ∨ s = [46,46]) : decide (nameOk s) = false := by
 refine decide_eq_false fun q => ?_
 obtain ⟨q1,q2,q3,q4,_⟩ := q
 rcases h with h | h | h | h
 ·omega
 ·omega
 ·exact q3 h
 ·exact q4 h
theorem Zwy (s : List UInt8) (W : World) : Calls Tryz.prog 42 #[.string (str s)] W (Ret fun v w => v = .bool (decide (nameOk s)) ∧ St W noF [] w) := by
 have hS := St.start W
 have hz := Zce s
 by_cases h1 : s.length < 1
 ·rw [Zdj (.inl h1)]
  refine Zab Tryz.func42 rfl Tryz.ntmps42 rfl ?_
  repeat (first|refine Yep ?_|(refine X_id ?_;first|refine Yaf ?_|refine Yag ?_|refine Ya8 ?_|refine Yb0 ?_|refine Ya2 ?_)|refine Yae ?_|refine Ycj ?_|refine Yad ?_|refine Yah ?_|refine Yaj ?_|refine Ye2 ?_)
  exact ⟨rfl,hS⟩
 by_cases h2 : 24 < s.length
 ·rw [Zdj (.inr (.inl h2))]
  refine Zab Tryz.func42 rfl Tryz.ntmps42 rfl ?_
  repeat (first|refine Yeu ?_|(refine X_id ?_;first|refine Yaf ?_|refine Yag ?_|refine Ya8 ?_|refine Ya1 ?_|refine Yb0 ?_|refine Ya6 ?_|refine Ybx ?_)|refine Yae ?_|refine Ycj ?_|refine Yad ?_|refine Yah ?_|refine Yaj ?_|refine Ye2 ?_)
  exact ⟨rfl,hS⟩
 by_cases h3 : s = [46]
 ·rw [Zdj (.inr (.inr (.inl h3)))]
  refine Zab Tryz.func42 rfl Tryz.ntmps42 rfl ?_
  repeat (first|refine Yeu ?_|(refine X_id ?_;first|refine Yaf ?_|refine Yag ?_|refine Ya8 ?_|refine Ya1 ?_|refine Yb0 ?_|refine Ya6 ?_|refine Ybs ?_|refine Yci ?_)|refine Yae ?_|refine Ycj ?_|refine Yad ?_|refine Yah ?_|refine Yaj ?_|refine Ye2 ?_)
  exact ⟨rfl,hS⟩
 by_cases h4 : s = [46,46]
 ·rw [Zdj (.inr (.inr (.inr h4)))]
  refine Zab Tryz.func42 rfl Tryz.ntmps42 rfl ?_
  repeat (first|refine Yer ?_|(refine X_id ?_;first|refine Yaf ?_|refine Yag ?_|refine Ya1 ?_|refine Yb0 ?_|refine Ya6 ?_|refine Ybs ?_|refine Yci ?_|refine Ycd ?_)|refine Yae ?_|refine Ycj ?_|refine Yad ?_|refine Yah ?_|refine Yaj ?_|refine Ye2 ?_)
  exact ⟨rfl,hS⟩
 refine Zab Tryz.func42 rfl Tryz.ntmps42 rfl ?_
 repeat (first|refine Yer ?_|(refine X_id ?_;first|refine Yaf ?_|refine Yag ?_|refine Ya1 ?_|refine Yb0 ?_|refine Ya6 ?_|refine Ybs ?_|refine Ycd ?_)|refine Yae ?_|refine Zhh ?_|refine Ycj ?_|refine Yad ?_|refine Yal ?_|refine Yak ?_|refine Yai ?_|refine Yab ?_)
 refine Zbz (α := Unit) (fun _ => []) (fun _ w => (∀ c ∈ s,okC c) ∧ St W noF [] w) ?_ ?_
 ·refine Zal (α := Nat) (fun i => [(0,.string (str s)),(21,.int .i64 (s.length : Nat)),(22,.int .i64 (i : Nat))]) (fun i w => i ≤ s.length ∧ (∀ c ∈ s.take i,okC c) ∧ St W noF [] w) (fun i => s.length - i) 0 ⟨rfl,rfl,rfl,trivial⟩ ⟨Nat.zero_le _,fun c hc => by simp at hc,hS⟩ ?_
  clear hS;rintro i w ⟨hi,hok,hS⟩
  by_cases hlt : i < s.length
  ·obtain ⟨x,hx0⟩ : ∃ x,s[i]? = some x := ⟨_,List.getElem?_eq_getElem hlt⟩
   have hx : s[((i : Nat) : Int).toNat]? = some x := hx0
   have hq := Z6t x
   by_cases hc : okC x
   ·rw [decide_eq_true hc] at hq
    repeat (first|refine Yea ?_|(refine X_id ?_;first|(refine Zad 91 rfl rfl rfl rfl rfl hS (hq _) ?_;rintro _ _ rfl hS)|refine Yaf ?_|refine Yag ?_|refine Ya2 ?_|refine Ya0 ?_|refine Yc5 ?_)|refine Yae ?_|refine Yad ?_|refine Yal ?_|refine Yak ?_|refine Ya9 ?_|refine Yaj ?_|refine Yeg ?_)
    refine Zaf (z := i) (i + 1) ⟨rfl,rfl,rfl,trivial⟩ ⟨hlt,fun c hc' => ?_,hS⟩ (by omega)
    rw [List.take_add_one,hx0] at hc';rcases List.mem_append.1 hc' with h | h
    ·exact hok c h
    ·obtain rfl : c = x := by simpa using h
     exact hc
   ·rw [decide_eq_false hc] at hq
    repeat (first|refine Yea ?_|(refine X_id ?_;first|(refine Zad 91 rfl rfl rfl rfl rfl hS (hq _) ?_;rintro _ _ rfl hS)|refine Yaf ?_|refine Yag ?_|refine Ya2 ?_|refine Yc5 ?_)|refine Ye3 ?_|refine Yab ?_|refine Yaq ?_|refine Yb4 ?_|refine Ya7 ?_|refine Yam ?_)
    refine ⟨?_,hS⟩
    rw [decide_eq_false (fun q : nameOk s => hc (q.2.2.2.2 x (List.mem_of_getElem? hx0)))]
  ·repeat (first|refine Yea ?_|refine Ya6 ?_|refine Yeq ?_|refine Yeg ?_)
   refine Zbp () trivial ⟨?_,hS⟩
   rwa [List.take_of_length_le (by omega)] at hok
 ·clear hS
  rintro _ w ⟨hok,hS⟩
  repeat (first|refine Yea ?_|refine Yag ?_|refine Ye1 ?_|refine Yab ?_|refine Yb4 ?_|refine Yam ?_)
  refine ⟨?_,hS⟩
  rw [decide_eq_true (show nameOk s from ⟨by omega,by omega,h3,h4,hok⟩)]
theorem Z1d (s : List UInt8) (W : World) : Calls Tryz.prog 176 #[.string (str s)] W (Ret fun v w => v = .bool (decide (Zdp s)) ∧ St W noF [] w) := by
 have hS := St.start W
 have hN := Zwy s
 by_cases h : s = []
 ·rw [decide_eq_true (show Zdp s from .inl h)]
  refine Zab Tryz.func176 rfl Tryz.ntmps176 rfl ?_
  repeat (first|refine Yep ?_|refine Yaf ?_|refine Yag ?_|refine Ya8 ?_|refine Yci ?_|refine Ye1 ?_|refine Yec ?_)
  exact ⟨rfl,hS⟩
 ·rw [show decide (Zdp s) = decide (nameOk s) from decide_eq_decide.2 ⟨fun q => q.resolve_left h,.inr⟩]
  refine Zab Tryz.func176 rfl Tryz.ntmps176 rfl ?_
  repeat (first|refine Yer ?_|(refine X_id ?_;first|(refine Zad 42 rfl rfl rfl rfl rfl hS (hN _) ?_;rintro _ _ rfl hS)|refine Yaf ?_|refine Yag ?_|refine Ya1 ?_|refine Ycd ?_)|refine Ye1 ?_|refine Yec ?_)
  exact ⟨rfl,hS⟩
end Cr
namespace Cr
open Go
set_option maxHeartbeats 64000000

def z0 : Value := .slice none 0 0
/-! ### laying together,taking apart -/
theorem Z0n : emp (fun _ => none) := fun _ => rfl
/-! ### reading -/
theorem Zt0 : ∀ {rows : List (List Value)} {i : Nat} {cs : List Value},(∀ r ∈ rows,r.length = 4) → rows[i]? = some cs → (rows.flatten.drop (i * 4)).take 4 = cs
 | [],_,_,_,h => by cases h
 | r :: rs,i,cs,hl,h => by
  have h4 := hl r (List.mem_cons_self ..)
  cases i with
  | zero =>
   obtain rfl : r = cs := by simpa using h
   simp [← h4]
  | succ i =>
   have ih := Zt0 (fun z hz => hl z (List.mem_cons_of_mem _ hz)) (show rs[i]? = some cs by simpa using h)
   rw [List.flatten_cons,List.drop_append,h4,show (i + 1) * 4 - 4 = i * 4 by omega,List.drop_of_length_le (by omega),List.nil_append]
   exact ih
theorem Zje : ∀ {rows : List (List Value)},(∀ r ∈ rows,r.length = 4) → rows.flatten.length = rows.length * 4
 | [],_ => rfl
 | r :: rs,hl => by
  have h4 := hl r (List.mem_cons_self ..)
  have := Zje (fun z hz => hl z (List.mem_cons_of_mem _ hz)) (rows := rs)
  simp only [List.flatten_cons,List.length_append,List.length_cons]; omega
end Cr
namespace Cr
open Go Go.Proofs
set_option maxRecDepth 100000
set_option maxHeartbeats 64000000
attribute [local irreducible] Calls

abbrev rdC (a : Option Addr) (n c : Nat) (i : Nat) (e : Int) : List Value := [.slice a n c,.int .i64 (i : Nat),.int .i64 e]
abbrev Rdr (p : Nat) (a : Option Addr) (n c : Nat) (i : Nat) (e : Int) : Res := pts p (.cells (rdC a n c i e).toArray 242 (0,0))

theorem Zi1 (p : Nat) (a : Option Addr) (n c : Nat) (i : Nat) (e : Int) (W : World) (hc : Rd W (Rdr p a n c i e)) :
  Calls Tryz.prog 177 #[.pointer (some ⟨p,0,none⟩)] W (Ret fun v w => v = .bool (decide (i < n)) ∧ St W noF [] w) := by
 have hS := St.start W
 replace hc := hc.ro
 refine Zab Tryz.func177 rfl Tryz.ntmps177 rfl ?_
 repeat (first|refine Yea ?_|refine Yag ?_|refine Yeb ?_|refine Yab ?_)
 refine Zam (.s 0 (.s 1 (.s 2 (.s 3 (.s 4 (.s 5 (.s 6 (.s 7 (.s 8 (.s 9 (.s 10 .nil))))))))))) mixed (by kernel_rfl) rfl ?_
 have hS := hS.drew
 repeat (first|refine Yah ?_|refine Yec ?_|(refine Zae ?_;first|refine Yay ?_|refine Ya3 ?_|refine Ybm ?_|refine Ybr ?_|refine Ybe ?_|refine Ydx ?_|refine Zak rfl rfl (fun _ => Zjj rfl rfl rfl) rfl rfl ?_|refine Ycy ?_))
 refine ⟨?_,hS⟩
 congr 2
 exact propext (by omega)
theorem Zj6 (p : Nat) (a : Option Addr) (n c : Nat) (i : Nat) (e k : Int) (W : World) (F : Nat → Prop) (hS : St W F [Rdr p a n c i e] W) :
  Calls Tryz.prog 178 #[.pointer (some ⟨p,0,none⟩),.int .i64 k] W (Ret fun v w => v = .tuple #[] ∧ St W F [Rdr p a n c i (if e = 0 then k else e)] w) := by
 by_cases h : e = 0
 ·refine Zab Tryz.func178 rfl Tryz.ntmps178 rfl ?_
  repeat (first|refine Yea ?_|(refine X_id ?_;first|refine Yaf ?_|refine Yau ?_|refine Yan ?_|refine Ybi ?_|refine Yap ?_|refine Yao (fun _ hS _ => ?_))|refine Yev ?_|refine Yab ?_|refine Ybt ?_)
  rw [if_pos h];exact ⟨rfl,hS⟩
 ·refine Zab Tryz.func178 rfl Tryz.ntmps178 rfl ?_
  repeat (first|refine Yea ?_|(refine X_id ?_;first|refine Yaf ?_|refine Yau ?_|refine Yan ?_|refine Ybh ?_|refine Yap ?_)|refine Yem ?_|refine Yab ?_|refine Ybt ?_)
  rw [if_neg h];exact ⟨rfl,hS⟩
theorem Z68 {s : List UInt8} {i j : Nat} {k : UInt8} (h : i < s.length) (hj : j = i) : decide (((s.getD j 0).toNat : Int) = (k.toNat : Int)) = decide (s[i]? = some k) := by
 subst hj
 rw [List.getD_eq_getElem?_getD,List.getElem?_eq_getElem h,Option.getD_some]
 congr 1
 simp only [Option.some.injEq]
 exact propext ⟨fun h => UInt8.toNat_inj.1 (by omega),fun h => by rw [h]⟩
theorem is_ (p : Nat) (a : Option Addr) (s : List UInt8) (c : Nat) (i : Nat) (e : Int) (k : UInt8) (W : World) (hc : Rd W (Rdr p a s.length c i e)) (hb : Rd W (bytes a s)) :
  Calls Tryz.prog 179 #[.pointer (some ⟨p,0,none⟩),.int .u8 (k.toNat : Int)] W (Ret fun v w => v = .bool (decide (s[i]? = some k)) ∧ St W noF [] w) := by
 have hS := St.start W
 have hm := Zi1 p a s.length c i e
 by_cases h : i < s.length
 ·simp only [decide_eq_true h] at hm
  obtain ⟨ab,ao,rfl⟩ := hb.base (by intro e; have := Zah s; rw [e] at this; simp at this; omega)
  replace hc := hc.ro
  replace hb := hb.ro
  refine Zab Tryz.func179 rfl Tryz.ntmps179 rfl ?_
  repeat (first|refine Yea ?_|refine Yag ?_|refine Yeb ?_|refine Yab ?_)
  refine Zam (.s 0 (.h 1 (.s 2 (.s 3 (.s 4 (.s 5 (.s 6 (.s 7 (.s 8 (.s 9 (.s 10 (.s 11 (.s 12 (.s 13 (.s 14 (.s 15 (.s 16 .nil))))))))))))))) .no)) mixed (by kernel_rfl) rfl ?_
  have hS := hS.drew
  repeat (first|(refine X_id ?_;first|(refine Zad 177 rfl rfl rfl rfl rfl hS (hm _ (hc.rd hS)) ?_;rintro _ _ rfl hS))|refine Yah ?_|refine Yec ?_|(refine Zae ?_;first|refine Yay ?_|refine Ya3 ?_|refine Ybm ?_|refine Ycb ?_|refine Yas ?_|refine Yb6 ?_|refine Yct ?_|refine Yck ?_|refine Zbv rfl rfl rfl rfl (fun _ => Zq7 rfl rfl rfl) rfl rfl ?_|refine Zbv rfl rfl rfl rfl (fun _ => Zdn rfl rfl rfl (by omega) (by omega) (by first|assumption|exact ⟨_,_,rfl⟩)) rfl rfl ?_|refine Ydy ?_|refine Zcu (fun w' => w'.cell? _ = some _) rfl rfl rfl rfl ((hb.rd hS).cellB' (by omega)) (fun _ hc => Zas rfl rfl hc) rfl rfl ?_)|(refine Zac ?_;first|refine Yaz ?_))
  refine ⟨?_,hS⟩
  rw [Z68 h (by omega)]
 ·simp only [decide_eq_false h] at hm
  replace hc := hc.ro
  refine Zab Tryz.func179 rfl Tryz.ntmps179 rfl ?_
  repeat (first|refine Yea ?_|refine Yag ?_|refine Yeb ?_|refine Yab ?_)
  refine Zam (.s 0 (.h 1 (.s 2 (.s 3 (.s 4 (.s 5 (.s 6 (.s 7 (.s 8 (.s 9 (.s 10 (.s 11 (.s 12 (.s 13 (.s 14 (.s 15 (.s 16 .nil))))))))))))))) .no)) mixed (by kernel_rfl) rfl ?_
  have hS := hS.drew
  repeat (first|(refine X_id ?_;first|(refine Zad 177 rfl rfl rfl rfl rfl hS (hm _ (hc.rd hS)) ?_;rintro _ _ rfl hS))|refine Yah ?_|refine Yec ?_|(refine Zae ?_;first|refine Yay ?_|refine Ya3 ?_|refine Ybm ?_|refine Yb7 ?_|refine Yas ?_|refine Ycc ?_)|(refine Zac ?_;first|refine Yaz ?_))
  refine ⟨?_,hS⟩
  rw [List.getElem?_eq_none (by omega)];simp
def Zfr (s : List UInt8) (i : Nat) (e : Int) (k : UInt8) : Nat × Int :=
 if e ≠ 0 then (i,e) else if ¬ i < s.length then (i,4) else if s[i]? = some k then (i + 1,0) else (i,3)
theorem Zy8 (p : Nat) (a : Option Addr) (s : List UInt8) (c : Nat) (i : Nat) (e : Int) (k : UInt8) (W : World) (F : Nat → Prop) (hS : St W F [Rdr p a s.length c i e] W) (hb : Ro W F (bytes a s)) (hl : s.length ≤ 1099511627776) :
  Calls Tryz.prog 181 #[.pointer (some ⟨p,0,none⟩),.int .u8 (k.toNat : Int)] W (Ret fun v w => v = .tuple #[] ∧ St W F [Rdr p a s.length c (Zfr s i e k).1 (Zfr s i e k).2] w) := by
 by_cases he : e = 0
 ·subst he
  by_cases h : i < s.length
  ·have hm := Zi1 p a s.length c i 0
   simp only [decide_eq_true h] at hm
   have hq := is_ p a s c i 0 k
   by_cases hk : s[i]? = some k
   ·simp only [decide_eq_true hk] at hq
    rw [show Zfr s i 0 k = (i + 1,0) by unfold Zfr; rw [if_neg (by simp),if_neg (by simpa using h),if_pos hk]]
    refine Zab Tryz.func181 rfl Tryz.ntmps181 rfl ?_
    repeat (first|refine Yea ?_|(refine X_id ?_;first|(refine Zad 177 rfl rfl rfl rfl rfl hS (hm _ (hS.rd (List.mem_cons_self ..))) ?_;rintro _ _ rfl hS)|(refine Zad 179 rfl rfl rfl rfl rfl hS (hq _ (hS.rd (List.mem_cons_self ..)) (hb.rd hS)) ?_;rintro _ _ rfl hS)|refine Yaf ?_|refine Yag ?_|refine Yau ?_|refine Yan ?_|refine Ybd ?_|refine Ya4 ?_|refine Ya0 ?_|refine Yap ?_|refine Yao (fun _ hS _ => ?_))|refine Ye7 ?_|refine Yab ?_|refine Yaw ?_|refine Ybt ?_)
    exact ⟨rfl,hS⟩
   ·simp only [decide_eq_false hk] at hq
    rw [show Zfr s i 0 k = (i,3) by unfold Zfr; rw [if_neg (by simp),if_neg (by simpa using h),if_neg hk]]
    refine Zab Tryz.func181 rfl Tryz.ntmps181 rfl ?_
    repeat (first|refine Yea ?_|(refine X_id ?_;first|(refine Zad 177 rfl rfl rfl rfl rfl hS (hm _ (hS.rd (List.mem_cons_self ..))) ?_;rintro _ _ rfl hS)|(refine Zad 179 rfl rfl rfl rfl rfl hS (hq _ (hS.rd (List.mem_cons_self ..)) (hb.rd hS)) ?_;rintro _ _ rfl hS)|refine Yaf ?_|refine Yag ?_|refine Yau ?_|refine Yan ?_|refine Ybd ?_|refine Ybq ?_|refine Ya4 ?_|refine Yap ?_)|refine Ye8 ?_|refine Yab ?_)
    obtain ⟨_,hc,hr,hw,hbk⟩ := hS.call [true]
    refine Zaa _ rfl rfl rfl rfl rfl (Zj6 p a s.length c i 0 3 _ _ hc) ?_
    rintro _ w ⟨rfl,hS⟩
    replace hS := hbk hS
    clear hc hr hw hbk;repeat (first|refine Yac ?_|refine Yaw ?_|refine Ybt ?_)
    exact ⟨rfl,hS⟩
  ·have hm := Zi1 p a s.length c i 0
   simp only [decide_eq_false h] at hm
   rw [show Zfr s i 0 k = (i,4) by unfold Zfr; rw [if_neg (by simp),if_pos h]]
   refine Zab Tryz.func181 rfl Tryz.ntmps181 rfl ?_
   repeat (first|refine Yea ?_|(refine X_id ?_;first|(refine Zad 177 rfl rfl rfl rfl rfl hS (hm _ (hS.rd (List.mem_cons_self ..))) ?_;rintro _ _ rfl hS)|refine Yaf ?_|refine Yag ?_|refine Yau ?_|refine Yan ?_|refine Ybq ?_|refine Ya4 ?_|refine Yap ?_)|refine Ye8 ?_|refine Yab ?_)
   obtain ⟨_,hc,hr,hw,hbk⟩ := hS.call [true]
   refine Zaa _ rfl rfl rfl rfl rfl (Zj6 p a s.length c i 0 4 _ _ hc) ?_
   rintro _ w ⟨rfl,hS⟩
   replace hS := hbk hS
   clear hc hr hw hbk;repeat (first|refine Yac ?_|refine Yaw ?_|refine Ybt ?_)
   exact ⟨rfl,hS⟩
 ·rw [show Zfr s i e k = (i,e) by unfold Zfr; rw [if_pos he]]
  refine Zab Tryz.func181 rfl Tryz.ntmps181 rfl ?_
  repeat (first|refine Yea ?_|(refine X_id ?_;first|refine Yaf ?_|refine Yag ?_|refine Yau ?_|refine Yan ?_|refine Ybj ?_|refine Yap ?_)|refine Yee ?_|refine Yab ?_|refine Yaw ?_|refine Ybt ?_)
  exact ⟨rfl,hS⟩
theorem Zy7 (p : Nat) (a : Option Addr) (n c : Nat) (i : Nat) (e : Int) (k : UInt8) (W : World) (F : Nat → Prop) (hS : St W F [Rdr p a n c i e] W) (he : e ≠ 0) :
  Calls Tryz.prog 181 #[.pointer (some ⟨p,0,none⟩),.int .u8 (k.toNat : Int)] W (Ret fun v w => v = .tuple #[] ∧ St W F [Rdr p a n c i e] w) := by
 refine Zab Tryz.func181 rfl Tryz.ntmps181 rfl ?_
 repeat (first|refine Yea ?_|(refine X_id ?_;first|refine Yaf ?_|refine Yag ?_|refine Yau ?_|refine Yan ?_|refine Ybj ?_|refine Yap ?_)|refine Yee ?_|refine Yab ?_|refine Yaw ?_|refine Ybt ?_)
 exact ⟨rfl,hS⟩
theorem Zgv {p : UInt8 → Bool} : ∀ {l : List UInt8} {j : Nat},(∀ i c,i < j → l[i]? = some c → p c = true) → (∀ c,l[j]? = some c → p c = false) → j ≤ l.length → (l.takeWhile p).length = j
 | [],j,_,_,h => by simp at h; simp [h]
 | x :: l,0,_,h2,_ => by rw [List.takeWhile_cons,if_neg (by rw [h2 x rfl]; simp)]; rfl
 | x :: l,j + 1,h1,h2,h => by
  rw [List.takeWhile_cons,if_pos (h1 0 x (by omega) rfl),List.length_cons,Zgv (j := j) (fun i c hi hc => h1 (i + 1) c (by omega) (by simpa using hc)) (fun c hc => h2 c (by simpa using hc)) (by simpa using h)]
theorem Zwu {s : List UInt8} {i : Nat} {below : Bool} {j : Nat} (h1 : ∀ k c,k < j → s[i + (sgn below (s.drop i)).length + k]? = some c → dig c = true) (h2 : ∀ c,s[i + (sgn below (s.drop i)).length + j]? = some c → dig c = false) (hj : i + (sgn below (s.drop i)).length + j ≤ s.length) :
  (numS below (s.drop i)).length = (sgn below (s.drop i)).length + j := by
 unfold numS
 generalize (sgn below (s.drop i)) = g at *;rw [List.length_append,List.drop_drop,Zgv (j := j) (fun k c hk hc => h1 k c hk (by rw [List.getElem?_drop] at hc; exact hc)) (fun c hc => h2 c (by rw [List.getElem?_drop] at hc; exact hc)) (by simp; omega)]
theorem Zs6 {s : List UInt8} {i : Nat} {below : Bool} : sgn below (s.drop i) = if below = true ∧ s[i]? = some 45 then [45] else [] := by
 unfold sgn
 rw [List.head?_drop]
theorem Zza {s : List UInt8} {i n : Nat} {t : List UInt8} (h : (s.drop i).take n = t) : (s.drop i).take (i + n - i) = t := by
 rw [show i + n - i = n by omega]; exact h
theorem Z7c {x : UInt8} (h : dig x = true) : ¬ ((x.toNat : Int) < 48) ∧ ¬ ((57 : Int) < (x.toNat : Int)) := by
 have := dig_iff.1 h
 constructor <;> omega
theorem Z7d {x : UInt8} (h : ¬ dig x = true) : ((x.toNat : Int) < 48) ∨ (¬ ((x.toNat : Int) < 48) ∧ (57 : Int) < (x.toNat : Int)) := by
 have h2 : ¬ (48 ≤ x.toNat ∧ x.toNat ≤ 57) := fun q => h (dig_iff.2 q)
 rcases Nat.lt_or_ge x.toNat 48 with h3 | h3
 ·exact .inl (by omega)
 ·exact .inr ⟨by omega,by omega⟩
theorem St.conv {W : World} {F : Nat → Prop} {rs rs' : List Res} {w : World} (h : St W F rs w) (e : rs = rs') : St W F rs' w := e ▸ h
theorem Z3g (p : Nat) (a : Option Addr) (s : List UInt8) (c : Nat) (hsc : s.length ≤ c) (i : Nat) (e : Int) (below : Bool) (W : World) (F : Nat → Prop) (hS : St W F [Rdr p a s.length c i e] W) (hb : Ro W F (bytes a s)) (hl : s.length ≤ 1099511627776) (hi : i ≤ s.length) :
  Calls Tryz.prog 225 #[.pointer (some ⟨p,0,none⟩),.bool below] W (Ret fun v w => v = .string (str (numS below (s.drop i))) ∧ St W F [Rdr p a s.length c (i + (numS below (s.drop i)).length) e] w) := by
 have hq := is_ p a s c i e 45
 have hm := Zi1 p a s.length c
 obtain ⟨g,hg⟩ : ∃ g,(sgn below (s.drop i)).length = g := ⟨_,rfl⟩
 have hgi : i + g ≤ s.length := by
  rw [← hg,Zs6]
  split
  ·rename_i h
   have := (List.getElem?_eq_some_iff.1 h.2).1
   simp; omega
  ·simpa using hi
 have h3 : (below = true ∧ s[i]? = some 45 ∧ g = 1) ∨ (below = true ∧ ¬ s[i]? = some 45 ∧ g = 0) ∨ (below = false ∧ g = 0) := by
  rw [Zs6] at hg;cases below
  ·exact .inr (.inr ⟨rfl,by rw [← hg]; simp⟩)
  ·by_cases hk : s[i]? = some 45
   ·exact .inl ⟨rfl,hk,by rw [← hg,if_pos ⟨rfl,hk⟩]; rfl⟩
   ·exact .inr (.inl ⟨rfl,hk,by rw [← hg,if_neg (fun h => hk h.2)]; rfl⟩)
 have hstop := fun j => Zwu (s := s) (i := i) (below := below) (j := j)
 rw [hg] at hstop;have htk := Zhv below (s.drop i)
 generalize numS below (s.drop i) = T at hstop htk ⊢;clear hg;refine Zab Tryz.func225 rfl Tryz.ntmps225 rfl ?_
 rcases h3 with ⟨rfl,hk,hg⟩ | ⟨rfl,hk,hg⟩ | ⟨rfl,hg⟩
 case' inl =>
  simp only [decide_eq_true hk] at hq
  repeat (first|refine Yer ?_|(refine X_id ?_;first|(refine Zad 179 rfl rfl rfl rfl rfl hS (hq _ (hS.rd (List.mem_cons_self ..)) (hb.rd hS)) ?_;rintro _ _ rfl hS)|refine Yaf ?_|refine Yag ?_|refine Yau ?_|refine Yan ?_|refine Ya8 ?_|refine Ya0 ?_|refine Yap ?_|refine Yao (fun _ hS _ => ?_))|refine Yae ?_|refine Zhh ?_|refine Ycj ?_|refine Yad ?_|refine Yal ?_|refine Yaj ?_|refine Yab ?_)
  have hS := hS.conv (rs' := [Rdr p a s.length c (i + g) e]) (by rw [hg]; rfl)
 case' inr.inl =>
  simp only [decide_eq_false hk] at hq
  repeat (first|refine Yer ?_|(refine X_id ?_;first|(refine Zad 179 rfl rfl rfl rfl rfl hS (hq _ (hS.rd (List.mem_cons_self ..)) (hb.rd hS)) ?_;rintro _ _ rfl hS)|refine Yaf ?_|refine Yag ?_|refine Yau ?_|refine Yan ?_|refine Ya8 ?_|refine Yap ?_)|refine Yae ?_|refine Zhh ?_|refine Ycj ?_|refine Yad ?_|refine Yal ?_|refine Yak ?_|refine Yai ?_|refine Yab ?_)
  have hS := hS.conv (rs' := [Rdr p a s.length c (i + g) e]) (by rw [hg]; rfl)
 case' inr.inr =>
  repeat (first|refine Yep ?_|(refine X_id ?_;first|refine Yaf ?_|refine Yag ?_|refine Yau ?_|refine Yan ?_|refine Ya1 ?_|refine Yap ?_)|refine Yae ?_|refine Zhh ?_|refine Ycj ?_|refine Yad ?_|refine Yal ?_|refine Yak ?_|refine Yai ?_|refine Yab ?_)
  have hS := hS.conv (rs' := [Rdr p a s.length c (i + g) e]) (by rw [hg]; rfl)
 all_goals
  clear hq hg;refine Zbz (α := Unit) (fun _ => [(0,.pointer (some ⟨p,0,none⟩)),(5,.int .i64 (i : Nat))]) (fun _ w => i + T.length ≤ s.length ∧ St W F [Rdr p a s.length c (i + T.length) e] w) ?_ ?_
  ·refine Zal (α := Nat) (fun _ => [(0,.pointer (some ⟨p,0,none⟩)),(5,.int .i64 (i : Nat))])
    (fun j w => i + g + j ≤ s.length ∧ (∀ k c,k < j → s[i + g + k]? = some c → dig c = true) ∧ St W F [Rdr p a s.length c (i + g + j) e] w) (fun j => s.length - j) 0 ⟨rfl,rfl,trivial⟩ ⟨hgi,fun k c hk => by omega,hS⟩ ?_
   clear hS;rintro j w ⟨hj,hd,hS⟩
   by_cases hlt : i + g + j < s.length
   ·obtain ⟨ab,ao,rfl⟩ := hb.start.base (by intro e; have := Zah s; rw [e] at this; simp at this; omega)
    have hm := hm (i + g + j) e
    simp only [decide_eq_true hlt] at hm
    obtain ⟨x,hx⟩ : ∃ x,s[i + g + j]? = some x := ⟨_,List.getElem?_eq_getElem hlt⟩
    have hx2 : s.getD ((((i + g + j : Nat) : Int)).toNat * 1) 0 = x := by
     rw [List.getD_eq_getElem?_getD,show ((((i + g + j : Nat) : Int)).toNat * 1) = i + g + j by omega,hx]; rfl
    by_cases hdx : dig x = true
    ·obtain ⟨d1,d2⟩ := Z7c hdx
     rw [← hx2] at d1 d2;repeat (first|refine Yea ?_|(refine X_id ?_;first|(refine Zad 177 rfl rfl rfl rfl rfl hS (hm _ (hS.rd (List.mem_cons_self ..))) ?_;rintro _ _ rfl hS)|refine Yaf ?_|refine Yau ?_|refine Yan ?_)|refine Yee ?_|refine Yab ?_)
     refine Zam (.s 0 (.s 1 (.s 2 (.s 3 (.s 4 (.s 5 (.s 6 (.s 7 (.s 8 (.s 9 (.s 10 (.s 11 (.s 12 .nil))))))))))))) mixed (by kernel_rfl) rfl ?_
     have hS := hS.drew
     repeat (first|refine Yer ?_|(refine X_id ?_;first|refine Yaf ?_|refine Yag ?_|refine Yau ?_|refine Yan ?_|refine Ya1 ?_|refine Ya6 ?_|refine Ybs ?_|refine Ya0 ?_|refine Yap ?_|refine Yao (fun _ hS _ => ?_))|refine Ye4 ?_|refine Yei ?_|(refine Zae ?_;first|refine Yay ?_|refine Ya3 ?_|refine Ybm ?_|refine Ybr ?_|refine Ybe ?_|refine Yb3 ?_|refine Ybk ?_|refine Ydw ?_))
     refine Zaf (j + 1) ⟨rfl,rfl,trivial⟩ ⟨by omega,fun k c hk hc => ?_,hS⟩ (by omega)
     rcases Nat.lt_or_ge k j with h | h
     ·exact hd k c h hc
     ·obtain rfl : k = j := by omega
      rw [hx] at hc;rw [← Option.some.inj hc]; exact hdx
    ·have hT := hstop j hd (fun c hc => by
      rw [hx] at hc;rw [← Option.some.inj hc]; simpa using hdx) hj
     rcases Z7d hdx with d1 | ⟨d1,d2⟩
     ·rw [← hx2] at d1
      repeat (first|refine Yea ?_|(refine X_id ?_;first|(refine Zad 177 rfl rfl rfl rfl rfl hS (hm _ (hS.rd (List.mem_cons_self ..))) ?_;rintro _ _ rfl hS)|refine Yaf ?_|refine Yau ?_|refine Yan ?_)|refine Yee ?_|refine Yab ?_)
      refine Zam (.s 0 (.s 1 (.s 2 (.s 3 (.s 4 (.s 5 (.s 6 (.s 7 (.s 8 (.s 9 (.s 10 (.s 11 (.s 12 .nil))))))))))))) mixed (by kernel_rfl) rfl ?_
      have hS := hS.drew
      repeat (first|refine Yep ?_|refine Yaf ?_|refine Yag ?_|refine Ya8 ?_|refine Ya2 ?_|refine Yae ?_|refine Yad ?_|refine Yal ?_|refine Ya9 ?_|refine Yaj ?_|refine Ye5 ?_|(refine Zae ?_;first|refine Yay ?_|refine Ya3 ?_|refine Ybm ?_|refine Ybr ?_|refine Ybe ?_|refine Yb3 ?_|refine Ybk ?_|refine Ydw ?_))
      exact Zbp () ⟨rfl,rfl,trivial⟩ ⟨by omega,hS.conv (by rw [hT,Nat.add_assoc])⟩
     ·rw [← hx2] at d1 d2
      repeat (first|refine Yea ?_|(refine X_id ?_;first|(refine Zad 177 rfl rfl rfl rfl rfl hS (hm _ (hS.rd (List.mem_cons_self ..))) ?_;rintro _ _ rfl hS)|refine Yaf ?_|refine Yau ?_|refine Yan ?_)|refine Yee ?_|refine Yab ?_)
      refine Zam (.s 0 (.s 1 (.s 2 (.s 3 (.s 4 (.s 5 (.s 6 (.s 7 (.s 8 (.s 9 (.s 10 (.s 11 (.s 12 .nil))))))))))))) mixed (by kernel_rfl) rfl ?_
      have hS := hS.drew
      repeat (first|refine Yer ?_|(refine X_id ?_;first|refine Yaf ?_|refine Yag ?_|refine Ya1 ?_|refine Ya6 ?_|refine Ybx ?_)|refine Yae ?_|refine Yad ?_|refine Yal ?_|refine Ya9 ?_|refine Yaj ?_|refine Ye5 ?_|(refine Zae ?_;first|refine Yay ?_|refine Ya3 ?_|refine Ybm ?_|refine Ybr ?_|refine Ybe ?_|refine Yb3 ?_|refine Ybk ?_|refine Ydw ?_))
      exact Zbp () ⟨rfl,rfl,trivial⟩ ⟨by omega,hS.conv (by rw [hT,Nat.add_assoc])⟩
   ·have hm := hm (i + g + j) e
    simp only [decide_eq_false hlt] at hm
    have hT := hstop j hd (fun c hc => by rw [List.getElem?_eq_none (by omega)] at hc; cases hc) hj
    repeat (first|refine Yea ?_|(refine X_id ?_;first|(refine Zad 177 rfl rfl rfl rfl rfl hS (hm _ (hS.rd (List.mem_cons_self ..))) ?_;rintro _ _ rfl hS)|refine Yaf ?_|refine Yau ?_|refine Yan ?_)|refine Yeq ?_|refine Yeg ?_)
    exact Zbp () ⟨rfl,rfl,trivial⟩ ⟨by omega,hS.conv (by rw [hT,Nat.add_assoc])⟩
  ·clear hS
   rintro _ w ⟨hT,hS⟩
   repeat (first|refine Yae ?_)
   have hsb := hb.subBytes (l := i) (h := i + T.length) (c := c) (by omega) (by omega)
   rw [Zza htk] at hsb;refine Zam (.s 0 (.s 1 (.s 2 (.s 3 (.s 4 (.s 5 (.s 6 (.s 7 (.s 8 (.s 9 (.s 10 (.s 11 (.s 12 (.s 13 .nil)))))))))))))) mixed (by kernel_rfl) rfl ?_
   have hS := hS.drew
   repeat (first|(refine Zae ?_;first|refine Ya3 ?_|refine Ybr ?_|refine Ybe ?_|refine Ybk ?_))
   refine Zak rfl rfl (fun _ => Zap (l := i) (h := i + T.length) rfl rfl rfl rfl (.inr ⟨_,_,rfl,by omega,by omega,by omega⟩) (.inr ⟨_,_,rfl,by omega,by omega,by omega⟩)) rfl rfl ?_
   refine Zat (fun w' => Rd w' (bytes (sub a i 1 c) T)) rfl rfl (hsb.rd hS) (fun _ h => Zbk rfl rfl h (by omega)) rfl rfl ?_
   repeat (first|refine Yah ?_|refine Yab ?_|refine Yb4 ?_|refine Yam ?_|(refine Zae ?_;first|refine Ye6 ?_))
   exact ⟨rfl,hS⟩
def Z6h (p : Nat) (a : Option Addr) (s : List UInt8) (c : Nat) (W : World) (F : Nat → Prop) (r : Option (Int × List UInt8)) (v : Value) (w : World) : Prop :=
 match r with
 | some (n,t) => v = .int .i64 n ∧ ∃ i,i ≤ s.length ∧ s.drop i = t ∧ St W F [Rdr p a s.length c i 0] w
 | none => v = .int .i64 0 ∧ ∃ i e,i ≤ s.length ∧ e ≠ 0 ∧ St W F [Rdr p a s.length c i e] w
instance : Und Tryz.prog 250 (.interface #[("Error", 253)]) := ⟨Tryz.underlying250⟩
theorem Lg.at_ {W : World} {F : Nat → Prop} {rs : List Res} {w : World} (H : Lg W F) (hS : St W F rs w) : Lg w noF := by
 obtain ⟨h1,tp,p,h2⟩ := H
 exact ⟨(h1.rd hS).ro,tp,p,(h2.rd hS).ro⟩
theorem Z6x (d : List UInt8) : ∀ a,(∀ c ∈ d,dig c = true) → (∃ u,Lib.parseUint10 a d = .ok u) ∨ Lib.parseUint10 a d = .range := by
 induction d with
 | nil => intro a _; exact .inl ⟨a,by rw [Lib.parseUint10]⟩
 | cons c d ih =>
  intro a hd
  rw [Lib.parseUint10,if_pos (dig_iff.1 (hd c (List.mem_cons_self ..)))]
  split
  ·exact .inr rfl
  ·split
   ·exact .inr rfl
   ·exact ih _ fun x hx => hd x (List.mem_cons_of_mem _ hx)
theorem Z1f {d : List UInt8} (h0 : d ≠ []) (hd : ∀ c ∈ d,dig c = true) : (∃ u,Lib.parseMag d = .ok u) ∨ Lib.parseMag d = .range := by
 unfold Lib.parseMag
 rw [if_neg h0];exact Z6x d 0 hd
theorem Zvp {below : Bool} {l : List UInt8} (h : ¬ badN (numS below l)) : (∃ v,Lib.atoiAll (numS below l) = .ok v) ∨ Lib.atoiAll (numS below l) = .range := by
 have key : ∀ (neg : Prop) [Decidable neg] (u : Nat),(∃ v,(if ¬ neg ∧ 9223372036854775808 ≤ u then Lib.NumEnd.range else if neg ∧ 9223372036854775808 < u then .range else .ok (if neg then -(u : Int) else u)) = .ok v) ∨
   (if ¬ neg ∧ 9223372036854775808 ≤ u then Lib.NumEnd.range else if neg ∧ 9223372036854775808 < u then .range else .ok (if neg then -(u : Int) else u)) = .range := fun neg _ u => by
  split
  ·exact .inr rfl
  ·split
   ·exact .inr rfl
   ·exact .inl ⟨_,rfl⟩
 obtain ⟨d,hd,hs | ⟨hs,_⟩⟩ := Zip below l
 ·rw [hs] at h ⊢
  cases d with
  | nil => exact absurd (.inl rfl) h
  | cons c d =>
   have hc := Z2w (hd c (List.mem_cons_self ..))
   unfold Lib.atoiAll
   simp only
   rw [if_neg hc.2];rcases Z1f (by simp) hd with ⟨u,hu⟩ | hu
   ·rw [hu]; exact key _ u
   ·rw [hu]; exact .inr rfl
 ·rw [hs] at h ⊢
  unfold Lib.atoiAll
  simp only
  rw [if_pos (.inr rfl)];rcases Z1f (fun hn => h (.inr (.inl (by rw [hn])))) hd with ⟨u,hu⟩ | hu
  ·rw [hu]; exact key _ u
  ·rw [hu]; exact .inr rfl
theorem Zqu (p : Nat) (a : Option Addr) (s : List UInt8) (c : Nat) (hsc : s.length ≤ c) (i : Nat) (below : Bool) (k : UInt8) (W : World) (F : Nat → Prop) (hS : St W F [Rdr p a s.length c i 0] W) (hb : Ro W F (bytes a s)) (hl : s.length ≤ 1099511627776) (hi : i ≤ s.length) (hG : Lg W F) :
  Calls Tryz.prog 182 #[.pointer (some ⟨p,0,none⟩),.bool below,.int .u8 (k.toNat : Int)] W (Ret fun v w => Z6h p a s c W F (num below k (s.drop i)) v w) := by
 have hdg := Z3g p a s c hsc i 0 below
 have hT := Zhv below (s.drop i)
 have hTl := Z2v below (s.drop i)
 have hsy := Zvp (below := below) (l := s.drop i)
 unfold num
 generalize numS below (s.drop i) = T at hdg hT hTl hsy ⊢;rw [List.length_drop] at hTl;have hz := Zce T
 have hTl' : i + T.length ≤ s.length := by omega
 rw [List.drop_drop];refine Zab Tryz.func182 rfl Tryz.ntmps182 rfl ?_
 repeat (first|refine Yea ?_|refine Yen ?_|refine Yeb ?_|refine Yab ?_)
 obtain ⟨_,hc,hr,hw,hbk⟩ := hS.call [true]
 refine Zaa _ rfl rfl rfl rfl rfl (hdg _ _ hc (hw _ hb) hl hi) ?_
 rintro _ w ⟨rfl,hS⟩
 replace hS := hbk hS
 clear hc hr hw hbk;repeat (first|refine Yea ?_|refine Yaf ?_|refine Yag ?_|refine Yau ?_|refine Yan ?_|refine Yeb ?_|refine Yab ?_)
 have hm := Zi1 p a s.length c (i + T.length) 0
 by_cases hlt : i + T.length < s.length
 ·simp only [decide_eq_true hlt] at hm
  refine Zad 177 rfl rfl rfl rfl rfl hS (hm _ (hS.rd (List.mem_cons_self ..))) ?_
  rintro _ w rfl hS
  have hdr := List.drop_eq_getElem_cons hlt
  generalize hx0 : s[i + T.length] = x at hdr;have hx : s[i + T.length]? = some x := by rw [List.getElem?_eq_getElem hlt,hx0]
  rw [hdr];simp only
  have hq := is_ p a s c (i + T.length) 0 k
  refine Zeq rfl rfl ?_
  refine X_yl (Zgp rfl rfl) rfl rfl ?_
  refine Zly ?_
  refine Zcy ?_
  refine Zbh rfl ?_
  refine Zes ?_
  refine Zcy ?_
  refine Zc1 ?_
  refine Zc1 ?_
  refine Zre (α := Bool) (fun b => [(0,.pointer (some ⟨p,0,none⟩)),(2,.int .u8 (k.toNat : Int)),(7,.string (str T)),(57,.bool b)]) (fun b w => (b = true ↔ badN T ∨ x ≠ k) ∧ St W F [Rdr p a s.length c (i + T.length) 0] w) ?_ ?_
  ·by_cases h1 : T = []
   ·repeat (first|refine Yac ?_|refine Yaa ?_|refine Ybf ?_|refine Yc6 ?_|refine Yaf ?_|refine Ya8 ?_|refine Yci ?_|refine Yad ?_)
    exact Zbp true ⟨rfl,rfl,rfl,rfl,trivial⟩ ⟨⟨fun _ => .inl (.inl h1),fun _ => rfl⟩,hS⟩
   ·by_cases h2 : T = [45]
    ·repeat (first|refine Yac ?_|refine Yaa ?_|refine Yax ?_|refine Ybf ?_|refine Yc6 ?_|(refine X_id ?_;first|refine Yaf ?_|refine Ya8 ?_|refine Ya1 ?_|refine Yci ?_|refine Ycd ?_)|refine Yad ?_)
     exact Zbp true ⟨rfl,rfl,rfl,rfl,trivial⟩ ⟨⟨fun _ => .inl (.inr (.inl h2)),fun _ => rfl⟩,hS⟩
    ·by_cases h3 : T = [45,48]
     ·repeat (first|refine Yac ?_|refine Yaa ?_|refine Yax ?_|refine Ybf ?_|refine Yc6 ?_|(refine X_id ?_;first|refine Yaf ?_|refine Ya8 ?_|refine Ya1 ?_|refine Yci ?_|refine Ycd ?_)|refine Yad ?_)
      exact Zbp true ⟨rfl,rfl,rfl,rfl,trivial⟩ ⟨⟨fun _ => .inl (.inr (.inr (.inl h3))),fun _ => rfl⟩,hS⟩
     ·obtain ⟨t,r,ht⟩ : ∃ t r,T = t :: r := by
       cases T with
       | nil => exact absurd rfl h1
       | cons t r => exact ⟨t,r,rfl⟩
      have ht0 : T[(0 : Int).toNat]? = some t := by rw [ht]; rfl
      have hth : T.head? = some t := by rw [ht]; rfl
      by_cases h4 : (t.toNat : Int) = 48 ∧ 1 < T.length
      ·obtain ⟨h4,h5⟩ := h4
       repeat (first|refine Yac ?_|refine Yaa ?_|refine Yax ?_|refine Ybf ?_|refine Yc6 ?_|(refine X_id ?_;first|refine Yaf ?_|refine Ya8 ?_|refine Ya1 ?_|refine Yb0 ?_|refine Ybi ?_|refine Ybx ?_|refine Ycd ?_|refine Yc5 ?_)|refine Yad ?_)
       refine Zbp true ⟨rfl,rfl,rfl,rfl,trivial⟩ ⟨⟨fun _ => .inl (.inr (.inr (.inr (.inl ⟨?_,h5⟩)))),fun _ => rfl⟩,hS⟩
       rw [hth,show t = 48 from UInt8.toNat_inj.1 (by have : (48 : UInt8).toNat = 48 := rfl; omega)]
      ·by_cases h6 : 2 < T.length ∧ List.take (2 - 0) (List.drop 0 T) = [45,48]
       ·obtain ⟨h6,h7⟩ := h6
        have h4' : ¬ (t.toNat : Int) = 48 := fun h => h4 ⟨h,by omega⟩
        repeat (first|refine Yeu ?_|(refine X_id ?_;first|refine Yaf ?_|refine Ya8 ?_|refine Ya1 ?_|refine Yb0 ?_|refine Ybh ?_|refine Ybx ?_|refine Yci ?_|refine Ycd ?_|refine Yc5 ?_|refine Ydl ?_)|refine Yad ?_)
        exact Zbp true ⟨rfl,rfl,rfl,rfl,trivial⟩ ⟨⟨fun _ => .inl (.inr (.inr (.inr (.inr ⟨h6,by simpa using h7⟩)))),fun _ => rfl⟩,hS⟩
       ·have hgood : ¬ badN T := by
         rintro (h | h | h | ⟨h,h'⟩ | ⟨h,h'⟩)
         ·exact h1 h
         ·exact h2 h
         ·exact h3 h
         ·rw [hth] at h
          exact h4 ⟨by rw [Option.some.inj h]; rfl,h'⟩
         ·exact h6 ⟨h,by simpa using h'⟩
        have hcase : (¬ (t.toNat : Int) = 48 ∧ 2 < T.length ∧ ¬ List.take (2 - 0) (List.drop 0 T) = [45,48]) ∨ (¬ (t.toNat : Int) = 48 ∧ ¬ 2 < T.length) ∨ ((t.toNat : Int) = 48 ∧ ¬ 1 < T.length) := by
         by_cases q : (t.toNat : Int) = 48
         ·exact .inr (.inr ⟨q,fun h => h4 ⟨q,h⟩⟩)
         ·by_cases q2 : 2 < T.length
          ·exact .inl ⟨q,q2,fun h => h6 ⟨q2,h⟩⟩
          ·exact .inr (.inl ⟨q,q2⟩)
        have hlen : 1 ≤ T.length := by rw [ht]; simp
        clear ht hth;by_cases hxk : s[i + T.length]? = some k
        ·have hxe : x = k := by rw [hx] at hxk; exact Option.some.inj hxk
         simp only [decide_eq_true hxk] at hq
         rcases hcase with ⟨q1,q2,q3⟩ | ⟨q1,q2⟩ | ⟨q1,q2⟩
         all_goals
          repeat (first|refine Yeu ?_|(refine X_id ?_;first|(refine Zad 179 rfl rfl rfl rfl rfl hS (hq _ (hS.rd (List.mem_cons_self ..)) (hb.rd hS)) ?_;rintro _ _ rfl hS)|refine Yaf ?_|refine Yau ?_|refine Yan ?_|refine Ya8 ?_|refine Ya1 ?_|refine Ybd ?_|refine Yb0 ?_|refine Ybi ?_|refine Ybh ?_|refine Ybx ?_|refine Ybs ?_|refine Ycd ?_|refine Yc5 ?_|refine Ydl ?_)|refine Yad ?_)
          exact Zbp false ⟨rfl,rfl,rfl,rfl,trivial⟩ ⟨⟨fun h => (Bool.noConfusion h),fun h => (h.elim hgood (fun q => q hxe)).elim⟩,hS⟩
        ·have hxe : x ≠ k := fun h => hxk (by rw [hx,h])
         simp only [decide_eq_false hxk] at hq
         rcases hcase with ⟨q1,q2,q3⟩ | ⟨q1,q2⟩ | ⟨q1,q2⟩
         all_goals
          repeat (first|refine Yeu ?_|(refine X_id ?_;first|(refine Zad 179 rfl rfl rfl rfl rfl hS (hq _ (hS.rd (List.mem_cons_self ..)) (hb.rd hS)) ?_;rintro _ _ rfl hS)|refine Yaf ?_|refine Yau ?_|refine Yan ?_|refine Ya8 ?_|refine Ya1 ?_|refine Ybq ?_|refine Yb0 ?_|refine Ybi ?_|refine Ybh ?_|refine Ybx ?_|refine Ybs ?_|refine Ycd ?_|refine Yc5 ?_|refine Ydl ?_)|refine Yad ?_)
          exact Zbp true ⟨rfl,rfl,rfl,rfl,trivial⟩ ⟨⟨fun _ => .inr hxe,fun _ => rfl⟩,hS⟩
  ·clear hS
   rintro bad w ⟨hbad,hS⟩
   cases bad with
   | true =>
    rw [if_pos (hbad.1 rfl)];repeat (first|refine Yaa ?_|refine Yaf ?_|refine Yev ?_)
    obtain ⟨_,hc,hr,hw,hbk⟩ := hS.call [true]
    refine Zaa _ rfl rfl rfl rfl rfl (Zj6 p a s.length c (i + T.length) 0 3 _ _ hc) ?_
    rintro _ w ⟨rfl,hS⟩
    replace hS := hbk hS
    clear hc hr hw hbk;repeat (first|refine Yea ?_|refine Yag ?_|refine Ye1 ?_|refine Yel ?_)
    exact ⟨rfl,_,3,hTl',by decide,hS⟩
   | false =>
    have hgood : ¬ (badN T ∨ x ≠ k) := fun h => by have := hbad.2 h; cases this
    rw [if_neg hgood];have hxk : x = k := Decidable.not_not.1 fun h => hgood (.inr h)
    have hsyn := hsy (fun h => hgood (.inl h))
    repeat (first|refine Yaa ?_|refine Yaf ?_|refine Yem ?_|refine Yab ?_)
    refine Zad 226 rfl rfl rfl rfl rfl hS (Z7j T _ _ (hG.at_ hS) (by omega) hsyn) ?_
    rintro _ w ⟨n,er,rfl,hres⟩ hS
    rcases hres with ⟨hn,rfl⟩ | ⟨hn,t,pp,rfl⟩
    ·rw [hn]
     repeat (first|refine Yea ?_|(refine X_id ?_;first|refine Yaf ?_|refine Yag ?_|refine Yat ?_|refine X_yl (Zsn rfl rfl) rfl rfl ?_)|refine Yem ?_|refine Yab ?_)
     obtain ⟨_,hc,hr,hw,hbk⟩ := hS.call [true]
     refine Zaa _ rfl rfl rfl rfl rfl (Zy8 p a s c (i + T.length) 0 k _ _ hc (hw _ hb) hl) ?_
     rintro _ w ⟨rfl,hS⟩
     replace hS := hbk hS
     clear hc hr hw hbk;repeat (first|refine Yea ?_|refine Yen ?_|refine Ye1 ?_|refine Yec ?_)
     rw [show Zfr s (i + T.length) 0 k = (i + T.length + 1,0) by unfold Zfr; rw [if_neg (by simp),if_neg (by simpa using hlt),if_pos (by rw [hx,hxk])]] at hS
     exact ⟨rfl,_,by omega,rfl,hS⟩
    ·rw [hn]
     repeat (first|refine Yea ?_|(refine X_id ?_;first|refine Yaf ?_|refine Yag ?_|refine Yat ?_|refine X_yl (Zq2 rfl rfl rfl) rfl rfl ?_)|refine Yev ?_|refine Yab ?_)
     obtain ⟨_,hc,hr,hw,hbk⟩ := hS.call [true]
     refine Zaa _ rfl rfl rfl rfl rfl (Zj6 p a s.length c (i + T.length) 0 2 _ _ hc) ?_
     rintro _ w ⟨rfl,hS⟩
     replace hS := hbk hS
     clear hc hr hw hbk;repeat (first|refine Yea ?_|refine Yag ?_|refine Ye1 ?_|refine Yel ?_)
     exact ⟨rfl,_,2,hTl',by decide,hS⟩
 ·simp only [decide_eq_false hlt] at hm
  rw [List.drop_of_length_le (by omega)];repeat (first|refine Yea ?_|(refine X_id ?_;first|(refine Zad 177 rfl rfl rfl rfl rfl hS (hm _ (hS.rd (List.mem_cons_self ..))) ?_;rintro _ _ rfl hS)|refine Yaf ?_|refine Ybq ?_)|refine Yev ?_|refine Yab ?_)
  obtain ⟨_,hc,hr,hw,hbk⟩ := hS.call [true]
  refine Zaa _ rfl rfl rfl rfl rfl (Zj6 p a s.length c (i + T.length) 0 4 _ _ hc) ?_
  rintro _ w ⟨rfl,hS⟩
  replace hS := hbk hS
  clear hc hr hw hbk;repeat (first|refine Yea ?_|refine Yag ?_|refine Ye1 ?_|refine Yel ?_)
  exact ⟨rfl,_,4,hTl',by decide,hS⟩
theorem Ztb {b : Nat} {l : List Value} {T : TypeId} : ∀ h,pts b (.cells l.toArray T (0,0)) h → row (some ⟨b,0,none⟩) l h := fun _ hg => .inr ⟨b,0,l.toArray,T,(0,0),rfl,hg,fun j v hv => by simpa using hv⟩
end Cr
namespace Cr
open Go
set_option maxRecDepth 10000
set_option maxHeartbeats 64000000
section
variable {P : Program} {w : World} {t e : TypeId}
end
section
variable {P : Program} {o : Oper} {σ : Env} {w : World} {x y : Operand} {t ty e : TypeId}
def sv (s : List UInt8) : Value := .string (str s)
end
end Cr
