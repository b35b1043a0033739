/-
  DERIVED: THE SHELF's CONTRACTS AT THIS DUMP,IN PLAIN WORDS (tools/lay-plain.mjs out of 'TryzShelf.lean',which tools/lay-shelf.mjs wrote): THE SAME DECLARATIONS UNDER THE SAME NAMES: 'import','namespace','open','def','theorem' AND NOTHING ELSE: no command of the shelf's: FOR A HAND-IN. Each laying: the table of numbers ('.._ren') and one theorem,a field a fact of the dump's own or the kernel's comparison; each contract: ONE APPLICATION.
  The library's bytes.Clone and bytes.Equal.
  The library's functions that packages codec and command call: numbers as text and back,bytes copied and compared.
  Two more rules of the walk: a join behind a test (the rest is walked once),and an assertion in the middle.
  Package codec: a reader's small steps: more,is,wrong,take,digits.
  A bag of rows: read only,and they may lie one in another. Over any program.
  Package codec in plain words,lists in lists too: values as they stand in memory (Mv),what is wrong with them (chkM),their bytes (encM),what bytes say (decM),and that these fit.
  Package codec's values,lists in lists too,in memory: to be read,among rows of a bag. No program is in sight.
  Package codec,lists in lists too: values made and copied.
  Layer 8 (tree) in plain words,1: a directory's bytes. No program is in sight.
  The base of a row of the run's own. Over any program.
  Layer 2 (digest): Write,Fork,Sum.
  Bytes made; lists of byte slices as a resource. Over any program.
  A list of rows of the run's own,as one resource. Over any program.
  Values that are built,list in list: what lies on the stack; how great they are; two values that are alike. No program is in sight.
-/
import Derived.Shelf.Strings.Builder1
import Derived.Shelf.Strings.Builder2
import Derived.Shelf.Small.Strs
import Derived.Shelf.Strings.BuilderF
import Derived.Shelf.Strconv.Atoi
import Derived.Shelf.Strconv.Itoa0
import Derived.Shelf.Strconv.Itoa1
import Derived.Shelf.LaysM
import Derived.Shelf.Strconv.Itoa2
import Derived.Shelf.Strconv.Itoa3
import Derived.Shelf.Strconv.AtoiErrFast
import Derived.Shelf.Strconv.ParseIntEmpty
import Derived.Shelf.Strconv.AtoiFail
import Derived.Shelf.Strconv.Clone
import Derived.Shelf.Strconv.SyntaxError
import Derived.Shelf.LaysC
import Derived.Shelf.Strconv.ToError
import Derived.Shelf.Strconv.Lower
import Derived.Shelf.Strconv.ParseUint10
import Derived.Shelf.Strconv.ParseUint10Empty
import Derived.Shelf.Strconv.ParseUint10Any
import Derived.Shelf.Strconv.ParseInt10
import Derived.Shelf.Strconv.AtoiLong
import Derived.Shelf.Strconv.AtoiInnerAll
import Derived.Shelf.Strconv.RangeError
import Derived.Shelf.Strconv.ToErrorRange
import Derived.Shelf.Strconv.AtoiAll
import Derived.Shelf.Strconv.ErrVarAll
import Derived.Shelf.Sort.Plain
import Derived.Shelf.Strings.Prefix
import Derived.Shelf.Strings.Fields
import Derived.Shelf.Strings.SplitShaped
import Derived.Shelf.Unicode.Latin
import Derived.Shelf.Bits.Mul64
import Derived.Shelf.Strings.Repeat
import Derived.Shelf.Unicode.Is16White
import Derived.Shelf.Unicode.IsSpaceAny
import Derived.Shelf.Unicode.Is16Any
import Derived.Shelf.Unicode.Is32Any
import Derived.Shelf.Unicode.ExclAny
import Derived.Shelf.Slices.Turned
import Derived.Shelf.Slices.In.SortNone
import Derived.Test.YtpbgaojjlepkcaaGreatDoorProg
import Derived.Test.YtpbgaojjlepkcaaGreatDoorTba3
import Derived.Lib.LaidTab
import Derived.KernelRfl
import Derived.Test.YtpbgaojjlepkcaaGreatDoorTba2
import Derived.Test.YtpbgaojjlepkcaaGreatDoorTba4
namespace Go.Proofs
open Go.Shelf
def Tryz.laysM171_ren : Go.Shelf.Ren := ⟨fun | 171 => 70 | 243 => 116 | 246 => 183 | 283 => 227 | 284 => 228 | 285 => 229 | 286 => 230 | 129 => 254 | 317 => 253 | 318 => 255 | 319 => 256 | 320 => 257 | 337 => 281 | 338 => 282 | n => n,fun | 3 => 3 | 9 => 9 | 2 => 2 | 4 => 4 | 171 => 360 | 0 => 0 | 53 => 45 | 37 => 35 | 5 => 5 | 173 => 363 | 212 => 385 | 51 => 166 | 20 => 20 | 213 => 386 | 46 => 243 | 232 => 79 | 233 => 261 | n => n,fun | 17 => 4 | 18 => 8 | 19 => 9 | n => n⟩
theorem Tryz.laysM171 : Go.Proofs.LaysM.n171 Tryz.prog Tryz.laysM171_ren := {
 mixed := by kernel_rfl
 f129 := Tryz.func254.trans (congrArg some (by kernel_rfl))
 f171 := Tryz.func70.trans (congrArg some (by kernel_rfl))
 f243 := Tryz.func116.trans (congrArg some (by kernel_rfl))
 f246 := Tryz.func183.trans (congrArg some (by kernel_rfl))
 f283 := Tryz.func227.trans (congrArg some (by kernel_rfl))
 f284 := Tryz.func228.trans (congrArg some (by kernel_rfl))
 f285 := Tryz.func229.trans (congrArg some (by kernel_rfl))
 f286 := Tryz.func230.trans (congrArg some (by kernel_rfl))
 f317 := Tryz.func253.trans (congrArg some (by kernel_rfl))
 f318 := Tryz.func255.trans (congrArg some (by kernel_rfl))
 f319 := Tryz.func256.trans (congrArg some (by kernel_rfl))
 f320 := Tryz.func257.trans (congrArg some (by kernel_rfl))
 f337 := Tryz.func281.trans (congrArg some (by kernel_rfl))
 f338 := Tryz.func282.trans (congrArg some (by kernel_rfl))
 t0 := Tryz.underlying0
 a0 := Tryz.isAgg0
 z0 := Tryz.sizeOf0
 v0 := Tryz.zeroValue0
 t2 := Tryz.underlying2
 a2 := Tryz.isAgg2
 z2 := Tryz.sizeOf2
 v2 := Tryz.zeroValue2
 t3 := Tryz.underlying3
 a3 := Tryz.isAgg3
 z3 := Tryz.sizeOf3
 v3 := Tryz.zeroValue3
 t4 := Tryz.underlying4
 a4 := Tryz.isAgg4
 z4 := Tryz.sizeOf4
 v4 := Tryz.zeroValue4
 t5 := Tryz.underlying5
 a5 := Tryz.isAgg5
 z5 := Tryz.sizeOf5
 v5 := Tryz.zeroValue5
 t9 := Tryz.underlying9
 a9 := Tryz.isAgg9
 z9 := Tryz.sizeOf9
 v9 := Tryz.zeroValue9
 t20 := Tryz.underlying20
 a20 := Tryz.isAgg20
 z20 := Tryz.sizeOf20
 v20 := Tryz.zeroValue20
 t37 := Tryz.underlying35
 a37 := Tryz.isAgg35
 z37 := Tryz.sizeOf35
 v37 := Tryz.zeroValue35
 t46 := Tryz.underlying243
 a46 := Tryz.isAgg243
 z46 := Tryz.sizeOf243
 v46 := Tryz.zeroValue243
 t51 := Tryz.underlying166
 a51 := Tryz.isAgg166
 z51 := Tryz.sizeOf166
 v51 := Tryz.zeroValue166
 t53 := Tryz.underlying45
 a53 := Tryz.isAgg45
 z53 := Tryz.sizeOf45
 v53 := Tryz.zeroValue45
 t171 := Tryz.underlying360
 a171 := Tryz.isAgg360
 z171 := Tryz.sizeOf360
 v171 := Tryz.zeroValue360
 t173 := Tryz.underlying363
 a173 := Tryz.isAgg363
 z173 := Tryz.sizeOf363
 v173 := Tryz.zeroValue363
 t212 := Tryz.underlying385
 a212 := Tryz.isAgg385
 z212 := Tryz.sizeOf385
 v212 := Tryz.zeroValue385
 t213 := Tryz.underlying386
 a213 := Tryz.isAgg386
 z213 := Tryz.sizeOf386
 t232 := Tryz.underlying79
 a232 := Tryz.isAgg79
 z232 := Tryz.sizeOf79
 v232 := Tryz.zeroValue79
 t233 := Tryz.underlying261
 a233 := Tryz.isAgg261
 z233 := Tryz.sizeOf261
 v233 := Tryz.zeroValue261
 g17 := by kernel_rfl
 g18 := by kernel_rfl
 g19 := by kernel_rfl
 i0 := by kernel_rfl
 i2 := by kernel_rfl
 i3 := by kernel_rfl
 i4 := by kernel_rfl
 i5 := by kernel_rfl
 i9 := by kernel_rfl
 i20 := by kernel_rfl
 i37 := by kernel_rfl
 i46 := by kernel_rfl
 i51 := by kernel_rfl
 i53 := by kernel_rfl
 i171 := by kernel_rfl
 i173 := by kernel_rfl
 i212 := by kernel_rfl
 i232 := by kernel_rfl
 i233 := by kernel_rfl
 m17 := by kernel_rfl
 m18 := by kernel_rfl
 m19 := by kernel_rfl }
open Go.RowKit Go.Sort Go.Lib in
theorem Tryz.strconv_Itoa (n : Int) (h0 : -9223372036854775808 ≤ n) (h1 : n ≤ 9223372036854775807) (w : World) (htab : Lib.TabIs Tryz.prog w "internal/strconv.uint64pow10" .u64 Lib.pow10Tab) :
  Calls Tryz.prog 70 #[.int .i64 n] w fun e w' => e = .returned (.string ⟨(Lib.itoa n).toArray⟩) ∧ ∃ k os,w' = grow (w.drewN k) os := Any.strconv_Itoa Tryz.laysM171 n h0 h1 w htab
def Tryz.laysC172_ren : Go.Shelf.Ren := ⟨fun | 172 => 226 | 244 => 251 | 245 => 252 | 247 => 276 | 279 => 277 | 280 => 278 | 281 => 279 | 282 => 280 | 287 => 300 | 316 => 301 | 171 => 70 | 205 => 302 | 321 => 309 | 322 => 310 | 243 => 116 | 246 => 183 | 283 => 227 | 284 => 228 | 285 => 229 | 286 => 230 | 129 => 254 | 317 => 253 | 318 => 255 | 319 => 256 | 320 => 257 | 337 => 281 | 338 => 282 | n => n,fun | 9 => 9 | 3 => 3 | 75 => 250 | 76 => 251 | 4 => 4 | 5 => 5 | 167 => 414 | 37 => 35 | 0 => 0 | 85 => 415 | 2 => 2 | 168 => 417 | 53 => 45 | 175 => 432 | 46 => 243 | 210 => 435 | 127 => 322 | 145 => 446 | 143 => 444 | 21 => 21 | 171 => 360 | 173 => 363 | 212 => 385 | 51 => 166 | 20 => 20 | 213 => 386 | 232 => 79 | 233 => 261 | 80 => 253 | n => n,fun | 15 => 6 | 16 => 7 | 17 => 4 | 18 => 8 | 19 => 9 | n => n⟩
theorem Tryz.laysC172 : Go.Proofs.LaysC.n172 Tryz.prog Tryz.laysC172_ren := {
 mixed := by kernel_rfl
 f129 := Tryz.func254.trans (congrArg some (by kernel_rfl))
 f171 := Tryz.func70.trans (congrArg some (by kernel_rfl))
 f172 := Tryz.func226.trans (congrArg some (by kernel_rfl))
 f205 := Tryz.func302.trans (congrArg some (by kernel_rfl))
 f243 := Tryz.func116.trans (congrArg some (by kernel_rfl))
 f244 := Tryz.func251.trans (congrArg some (by kernel_rfl))
 f245 := Tryz.func252.trans (congrArg some (by kernel_rfl))
 f246 := Tryz.func183.trans (congrArg some (by kernel_rfl))
 f247 := Tryz.func276.trans (congrArg some (by kernel_rfl))
 f279 := Tryz.func277.trans (congrArg some (by kernel_rfl))
 f280 := Tryz.func278.trans (congrArg some (by kernel_rfl))
 f281 := Tryz.func279.trans (congrArg some (by kernel_rfl))
 f282 := Tryz.func280.trans (congrArg some (by kernel_rfl))
 f283 := Tryz.func227.trans (congrArg some (by kernel_rfl))
 f284 := Tryz.func228.trans (congrArg some (by kernel_rfl))
 f285 := Tryz.func229.trans (congrArg some (by kernel_rfl))
 f286 := Tryz.func230.trans (congrArg some (by kernel_rfl))
 f287 := Tryz.func300.trans (congrArg some (by kernel_rfl))
 f316 := Tryz.func301.trans (congrArg some (by kernel_rfl))
 f317 := Tryz.func253.trans (congrArg some (by kernel_rfl))
 f318 := Tryz.func255.trans (congrArg some (by kernel_rfl))
 f319 := Tryz.func256.trans (congrArg some (by kernel_rfl))
 f320 := Tryz.func257.trans (congrArg some (by kernel_rfl))
 f321 := Tryz.func309.trans (congrArg some (by kernel_rfl))
 f322 := Tryz.func310.trans (congrArg some (by kernel_rfl))
 f337 := Tryz.func281.trans (congrArg some (by kernel_rfl))
 f338 := Tryz.func282.trans (congrArg some (by kernel_rfl))
 t0 := Tryz.underlying0
 a0 := Tryz.isAgg0
 z0 := Tryz.sizeOf0
 v0 := Tryz.zeroValue0
 t2 := Tryz.underlying2
 a2 := Tryz.isAgg2
 z2 := Tryz.sizeOf2
 v2 := Tryz.zeroValue2
 t3 := Tryz.underlying3
 a3 := Tryz.isAgg3
 z3 := Tryz.sizeOf3
 v3 := Tryz.zeroValue3
 t4 := Tryz.underlying4
 a4 := Tryz.isAgg4
 z4 := Tryz.sizeOf4
 v4 := Tryz.zeroValue4
 t5 := Tryz.underlying5
 a5 := Tryz.isAgg5
 z5 := Tryz.sizeOf5
 v5 := Tryz.zeroValue5
 t9 := Tryz.underlying9
 a9 := Tryz.isAgg9
 z9 := Tryz.sizeOf9
 v9 := Tryz.zeroValue9
 t20 := Tryz.underlying20
 a20 := Tryz.isAgg20
 z20 := Tryz.sizeOf20
 v20 := Tryz.zeroValue20
 t21 := Tryz.underlying21
 a21 := Tryz.isAgg21
 z21 := Tryz.sizeOf21
 v21 := Tryz.zeroValue21
 t37 := Tryz.underlying35
 a37 := Tryz.isAgg35
 z37 := Tryz.sizeOf35
 v37 := Tryz.zeroValue35
 t46 := Tryz.underlying243
 a46 := Tryz.isAgg243
 z46 := Tryz.sizeOf243
 v46 := Tryz.zeroValue243
 t51 := Tryz.underlying166
 a51 := Tryz.isAgg166
 z51 := Tryz.sizeOf166
 v51 := Tryz.zeroValue166
 t53 := Tryz.underlying45
 a53 := Tryz.isAgg45
 z53 := Tryz.sizeOf45
 v53 := Tryz.zeroValue45
 t75 := Tryz.underlying250
 a75 := Tryz.isAgg250
 z75 := Tryz.sizeOf250
 v75 := Tryz.zeroValue250
 t76 := Tryz.underlying251
 a76 := Tryz.isAgg251
 z76 := Tryz.sizeOf251
 v76 := Tryz.zeroValue251
 t85 := Tryz.underlying415
 a85 := Tryz.isAgg415
 z85 := Tryz.sizeOf415
 v85 := Tryz.zeroValue415
 t127 := Tryz.underlying322
 a127 := Tryz.isAgg322
 z127 := Tryz.sizeOf322
 v127 := Tryz.zeroValue322
 t143 := Tryz.underlying444
 a143 := Tryz.isAgg444
 z143 := Tryz.sizeOf444
 v143 := Tryz.zeroValue444
 t145 := Tryz.underlying446
 a145 := Tryz.isAgg446
 z145 := Tryz.sizeOf446
 v145 := Tryz.zeroValue446
 t167 := Tryz.underlying414
 a167 := Tryz.isAgg414
 z167 := Tryz.sizeOf414
 v167 := Tryz.zeroValue414
 t168 := Tryz.underlying417
 a168 := Tryz.isAgg417
 z168 := Tryz.sizeOf417
 v168 := Tryz.zeroValue417
 t171 := Tryz.underlying360
 a171 := Tryz.isAgg360
 z171 := Tryz.sizeOf360
 v171 := Tryz.zeroValue360
 t173 := Tryz.underlying363
 a173 := Tryz.isAgg363
 z173 := Tryz.sizeOf363
 v173 := Tryz.zeroValue363
 t175 := Tryz.underlying432
 a175 := Tryz.isAgg432
 z175 := Tryz.sizeOf432
 v175 := Tryz.zeroValue432
 t210 := Tryz.underlying435
 a210 := Tryz.isAgg435
 z210 := Tryz.sizeOf435
 v210 := Tryz.zeroValue435
 t212 := Tryz.underlying385
 a212 := Tryz.isAgg385
 z212 := Tryz.sizeOf385
 v212 := Tryz.zeroValue385
 t213 := Tryz.underlying386
 a213 := Tryz.isAgg386
 z213 := Tryz.sizeOf386
 t232 := Tryz.underlying79
 a232 := Tryz.isAgg79
 z232 := Tryz.sizeOf79
 v232 := Tryz.zeroValue79
 t233 := Tryz.underlying261
 a233 := Tryz.isAgg261
 z233 := Tryz.sizeOf261
 v233 := Tryz.zeroValue261
 g15 := by kernel_rfl
 g16 := by kernel_rfl
 g17 := by kernel_rfl
 g18 := by kernel_rfl
 g19 := by kernel_rfl
 t80 := Tryz.underlying253
 a80 := Tryz.isAgg253
 z80 := Tryz.sizeOf253
 v80 := Tryz.zeroValue253
 i0 := by kernel_rfl
 i2 := by kernel_rfl
 i3 := by kernel_rfl
 i4 := by kernel_rfl
 i5 := by kernel_rfl
 i9 := by kernel_rfl
 i20 := by kernel_rfl
 i21 := by kernel_rfl
 i37 := by kernel_rfl
 i46 := by kernel_rfl
 i51 := by kernel_rfl
 i53 := by kernel_rfl
 i75 := by kernel_rfl
 i76 := by kernel_rfl
 i80 := by kernel_rfl
 i85 := by kernel_rfl
 i127 := by kernel_rfl
 i143 := by kernel_rfl
 i145 := by kernel_rfl
 i167 := by kernel_rfl
 i168 := by kernel_rfl
 i171 := by kernel_rfl
 i173 := by kernel_rfl
 i175 := by kernel_rfl
 i210 := by kernel_rfl
 i212 := by kernel_rfl
 i232 := by kernel_rfl
 i233 := by kernel_rfl
 m15 := by kernel_rfl
 m16 := by kernel_rfl
 m17 := by kernel_rfl
 m18 := by kernel_rfl
 m19 := by kernel_rfl
 c0 := by kernel_rfl
 c2 := by kernel_rfl
 c3 := by kernel_rfl
 c4 := by kernel_rfl
 c5 := by kernel_rfl
 c9 := by kernel_rfl
 c20 := by kernel_rfl
 c21 := by kernel_rfl
 c37 := by kernel_rfl
 c46 := by kernel_rfl
 c51 := by kernel_rfl
 c53 := by kernel_rfl
 c75 := by kernel_rfl
 c76 := by kernel_rfl
 c80 := by kernel_rfl
 c85 := by kernel_rfl
 c127 := by kernel_rfl
 c143 := by kernel_rfl
 c145 := by kernel_rfl
 c167 := by kernel_rfl
 c168 := by kernel_rfl
 c171 := by kernel_rfl
 c173 := by kernel_rfl
 c175 := by kernel_rfl
 c210 := by kernel_rfl
 c212 := by kernel_rfl
 c213 := by kernel_rfl
 c232 := by kernel_rfl
 c233 := by kernel_rfl }
open Go.RowKit in
theorem Tryz.strconv_Atoi_ok (s : ByteArray) (hmax : s.size ≤ 9223372036854775806) (v : Int) (h : Lib.atoiAll s.data.toList = .ok v) (w : World) :
  Calls Tryz.prog 226 #[.string s] w fun e w' => e = .returned (.tuple #[.int .i64 v,.nilIface]) ∧ (w' = w ∨ ∃ t,w' = Lib.bytesWorld w 5 t) := Any.strconv_Atoi_ok Tryz.laysC172 s hmax v h w
open Go.RowKit in
theorem Tryz.strconv_Atoi_range_var (s : ByteArray) (hlim : s.size ≤ 281474976710656) (h : Lib.atoiAll s.data.toList = .range) (tp : TypeId) (p : Value) (w : World) (hvar : w.var? Tryz.prog "strconv.ErrRange" = some #[.iface tp p]) :
  Calls Tryz.prog 226 #[.string s] w fun e w' => ∃ N,e = .returned (.tuple #[.int .i64 (Lib.atoiSat s.data.toList),.iface 417 (.pointer (some ⟨N,0,none⟩))]) ∧ w.heap.size ≤ N ∧ w'.heap[N]? = some (.cells #[.string ⟨#[65,116,111,105]⟩,.string s,.iface tp p] 435 (0,0)) ∧ Below w.heap.size w w' := Any.strconv_Atoi_range_var Tryz.laysC172 s hlim h tp p w hvar
def Tryz.lays189_ren : Go.Shelf.Ren := ⟨fun | 189 => 246 | 125 => 272 | 257 => 271 | 128 => 299 | 129 => 254 | 294 => 290 | 295 => 291 | 296 => 292 | 297 => 293 | 298 => 294 | 299 => 295 | 216 => 296 | 300 => 297 | 301 => 298 | 328 => 303 | 329 => 304 | 330 => 305 | 331 => 306 | 332 => 307 | 215 => 308 | 343 => 311 | n => n,fun | 28 => 64 | 3 => 3 | 46 => 243 | 0 => 0 | 51 => 166 | 53 => 45 | 4 => 4 | 183 => 425 | 182 => 424 | 131 => 75 | 5 => 5 | 9 => 9 | 218 => 437 | 222 => 441 | 228 => 447 | 229 => 448 | n => n,fun | n => n⟩
theorem Tryz.lays189 : Go.Proofs.Lays.n189 Tryz.prog Tryz.lays189_ren := {
 mixed := by kernel_rfl
 f125 := Tryz.func272.trans (congrArg some (by kernel_rfl))
 f128 := Tryz.func299.trans (congrArg some (by kernel_rfl))
 f129 := Tryz.func254.trans (congrArg some (by kernel_rfl))
 f189 := Tryz.func246.trans (congrArg some (by kernel_rfl))
 f215 := Tryz.func308.trans (congrArg some (by kernel_rfl))
 f216 := Tryz.func296.trans (congrArg some (by kernel_rfl))
 f257 := Tryz.func271.trans (congrArg some (by kernel_rfl))
 f294 := Tryz.func290.trans (congrArg some (by kernel_rfl))
 f295 := Tryz.func291.trans (congrArg some (by kernel_rfl))
 f296 := Tryz.func292.trans (congrArg some (by kernel_rfl))
 f297 := Tryz.func293.trans (congrArg some (by kernel_rfl))
 f298 := Tryz.func294.trans (congrArg some (by kernel_rfl))
 f299 := Tryz.func295.trans (congrArg some (by kernel_rfl))
 f300 := Tryz.func297.trans (congrArg some (by kernel_rfl))
 f301 := Tryz.func298.trans (congrArg some (by kernel_rfl))
 f328 := Tryz.func303.trans (congrArg some (by kernel_rfl))
 f329 := Tryz.func304.trans (congrArg some (by kernel_rfl))
 f330 := Tryz.func305.trans (congrArg some (by kernel_rfl))
 f331 := Tryz.func306.trans (congrArg some (by kernel_rfl))
 f332 := Tryz.func307.trans (congrArg some (by kernel_rfl))
 f343 := Tryz.func311.trans (congrArg some (by kernel_rfl))
 t0 := Tryz.underlying0
 a0 := Tryz.isAgg0
 z0 := Tryz.sizeOf0
 v0 := Tryz.zeroValue0
 t3 := Tryz.underlying3
 a3 := Tryz.isAgg3
 z3 := Tryz.sizeOf3
 v3 := Tryz.zeroValue3
 t4 := Tryz.underlying4
 a4 := Tryz.isAgg4
 z4 := Tryz.sizeOf4
 v4 := Tryz.zeroValue4
 t5 := Tryz.underlying5
 a5 := Tryz.isAgg5
 z5 := Tryz.sizeOf5
 v5 := Tryz.zeroValue5
 t9 := Tryz.underlying9
 a9 := Tryz.isAgg9
 z9 := Tryz.sizeOf9
 v9 := Tryz.zeroValue9
 t28 := Tryz.underlying64
 a28 := Tryz.isAgg64
 z28 := Tryz.sizeOf64
 v28 := Tryz.zeroValue64
 t46 := Tryz.underlying243
 a46 := Tryz.isAgg243
 z46 := Tryz.sizeOf243
 v46 := Tryz.zeroValue243
 t51 := Tryz.underlying166
 a51 := Tryz.isAgg166
 z51 := Tryz.sizeOf166
 v51 := Tryz.zeroValue166
 t53 := Tryz.underlying45
 a53 := Tryz.isAgg45
 z53 := Tryz.sizeOf45
 v53 := Tryz.zeroValue45
 t131 := Tryz.underlying75
 a131 := Tryz.isAgg75
 z131 := Tryz.sizeOf75
 v131 := Tryz.zeroValue75
 t182 := Tryz.underlying424
 a182 := Tryz.isAgg424
 z182 := Tryz.sizeOf424
 v182 := Tryz.zeroValue424
 t183 := Tryz.underlying425
 a183 := Tryz.isAgg425
 z183 := Tryz.sizeOf425
 v183 := Tryz.zeroValue425
 t218 := Tryz.underlying437
 a218 := Tryz.isAgg437
 z218 := Tryz.sizeOf437
 v218 := Tryz.zeroValue437
 t222 := Tryz.underlying441
 a222 := Tryz.isAgg441
 z222 := Tryz.sizeOf441
 v222 := Tryz.zeroValue441
 t228 := Tryz.underlying447
 a228 := Tryz.isAgg447
 z228 := Tryz.sizeOf447
 v228 := Tryz.zeroValue447
 t229 := Tryz.underlying448
 a229 := Tryz.isAgg448
 z229 := Tryz.sizeOf448
 v229 := Tryz.zeroValue448 }
open Go.Sort Go.RowKit in
theorem Tryz.slices_Sort_int (blk off cap : Nat) (zs : List Int) (w : World) (hH : Holds (Value.int .i64) w blk off zs.toArray) (hblk : blk < w.heap.size) (hsz : zs.length < 4611686018427387904) :
  Calls Tryz.prog 246 #[.slice (some ⟨blk,off,none⟩) zs.length cap] w fun e w' =>
   e = .returned (.tuple #[]) ∧ ∃ n os,w' = grow (putRow (Value.int .i64) (Sort.ahead w n) blk off (zs.mergeSort fun x y => decide (x ≤ y)).toArray) os := Any.slices_Sort_int Tryz.lays189 blk off cap zs w hH hblk hsz
open Go.RowKit Go.Sort in
theorem Tryz.slices_Sort_int_none (p : Option Addr) (cap : Nat) (w : World) :
  Calls Tryz.prog 246 #[.slice p 0 cap] w fun e w' => e = .returned (.tuple #[]) ∧ w' = w := Any.slices_Sort_int_none Tryz.lays189 p cap w
end Go.Proofs
namespace Cr
open Go Go.Proofs
set_option maxRecDepth 100000
set_option maxHeartbeats 4000000
attribute [local irreducible] Calls

theorem Zew (a : Option Addr) (n c : Nat) (s : List UInt8) (W : World) (hs : Rd W (bytes a s)) (hn : s.length = n) (hlim : n ≤ 1073741824) :
  Calls Tryz.prog 111 #[.slice a n c] W (Ret fun v w => ∃ a' c',v = .slice a' n c' ∧ (a' = none ↔ a = none) ∧ n ≤ c' ∧ St W noF [own 5 1 a' c' (bv s)] w) := by
 have hS := St.start W
 cases a with
 | none =>
  have h0 : bv s = [] := hs.none_nil
  obtain rfl : n = 0 := by rw [← hn,← Zaq s,h0]; rfl
  refine Zab Tryz.func111 rfl Tryz.ntmps111 rfl ?_
  repeat (first|refine Yd0 ?_|refine Yaf ?_|refine Yag ?_|refine Ycs ?_|refine Yeh ?_|refine Yei ?_)
  refine ⟨none,0,rfl,by simp,by omega,?_⟩
  rw [h0]
  exact hS.own_none _ _ _
 | some ad =>
  refine Zab Tryz.func111 rfl Tryz.ntmps111 rfl ?_
  repeat (first|refine Yd0 ?_|refine Yaf ?_|refine Yag ?_|refine Ycs ?_|refine Ybf (fun _ _ hS _ => ?_)|refine Yeb ?_|refine Yab ?_)
  rename_i b w hb
  have hs := hs.below hb
  repeat (first|fail)
  refine Zap rfl rfl rfl rfl rfl hS rfl (by omega) hs (by simp [hn]) Zel (by omega) (by simp only [maxLen]; omega) (fun a' c' w hS hc hnil => ?_)
  repeat (first|refine Yd0 ?_|refine Yag ?_|refine Yah ?_|refine Yd2 ?_)
  refine ⟨a',c',by rw [Nat.zero_add],by rw [hnil]; simp,by omega,hS⟩
theorem Zwk (a b : Option Addr) (n m c c' : Nat) (s t : List UInt8) (W : World) (ha : Rd W (bytes a s)) (hb : Rd W (bytes b t)) (hn : s.length = n) (hm : t.length = m) :
  Calls Tryz.prog 57 #[.slice a n c,.slice b m c'] W (Ret fun v w => v = .bool (decide (s = t)) ∧ W = w) := by
 refine Zab Tryz.func57 rfl Tryz.ntmps57 rfl ?_
 repeat (first|refine Yd0 ?_|refine Yee ?_|refine Yd1 ?_|refine Yab ?_)
 refine X_yl (Zb2 rfl rfl ha hn) rfl rfl ?_
 repeat (first|refine Yaa ?_|refine Yaf ?_)
 refine X_yl (Zb2 rfl rfl hb hm) rfl rfl ?_
 repeat (first|refine Yd0 ?_|(refine X_id ?_;first|refine Yag ?_|refine X_yl (Zen rfl rfl rfl) rfl rfl ?_)|refine Yah ?_|refine Yd2 ?_)
 exact ⟨rfl,rfl⟩
end Cr
namespace Cr
open Go Go.Proofs
set_option maxRecDepth 100000
set_option maxHeartbeats 4000000
attribute [local irreducible] Calls

def glob (g : Nat) (cs : List Value) : Res := fun h => ∃ t fz,h = Zcl g (.cells cs.toArray t fz)
theorem Zr7 {P : Program} {w : World} {g : Nat} {cs : List Value} {n : String} (hg : P.globalNamed n = some g) (H : Rd w (glob g cs)) : w.var? P n = some cs.toArray := by
 obtain ⟨h,⟨t,fz,rfl⟩,ha⟩ := H
 have hb := ha g _ (Zal _ _)
 unfold World.var?
 rw [hg]
 simp only [Option.bind_some]
 rw [hb]
theorem glob_of_var {P : Program} {w : World} {g : Nat} {cs : Array Value} {n : String} (hg : P.globalNamed n = some g) (H : w.var? P n = some cs) : Rd w (glob g cs.toList) := by
 unfold World.var? at H
 rw [hg] at H
 simp only [Option.bind_some] at H
 cases hb : w.heap[g]? with
 | none => rw [hb] at H; cases H
 | some o =>
  cases o with
  | cells c t fz =>
   rw [hb] at H
   obtain rfl : c = cs := by simpa using H
   refine ⟨Zcl g (.cells c t fz),⟨t,fz,by simp⟩,fun b o e => ?_⟩
   obtain ⟨rfl,rfl⟩ := Zg8 e
   exact hb
  | _ => rw [hb] at H; cases H
def Lg (W : World) (F : Nat → Prop) : Prop := Ro W F (glob 4 (Lib.pow10Tab.map fun z => Value.int .u64 z)) ∧ ∃ tp p,Ro W F (glob 7 [.iface tp p])
theorem Lg.mono {W W' : World} {F F' : Nat → Prop} (H : Lg W F) (hm : ∀ r,Ro W F r → Ro W' F' r) : Lg W' F' := by
 obtain ⟨h1,tp,p,h2⟩ := H
 exact ⟨hm _ h1,tp,p,hm _ h2⟩
theorem Z3m (n : Int) (W : World) (F : Nat → Prop) (hG : Lg W F) (h0 : -9223372036854775808 ≤ n) (h1 : n ≤ 9223372036854775807) :
  Calls Tryz.prog 70 #[.int .i64 n] W (Ret fun v w => v = .string (str (Lib.itoa n)) ∧ St W noF [] w) := by
 refine (Tryz.strconv_Itoa n h0 h1 W (Zr7 (by kernel_rfl) hG.1.start)).mono ?_
 rintro e w ⟨rfl,k,os,rfl⟩
 refine ⟨_,rfl,rfl,(St.start W).below ⟨rfl,rfl,rfl,by simp [Sort.grow],fun j hj => ?_⟩⟩
 show (W.heap ++ os)[j]? = _
 rw [Array.getElem?_append_left hj]
theorem Z5p (s : List UInt8) (W : World) (F : Nat → Prop) (hG : Lg W F) (hl : s.length ≤ 1099511627776) (hs : (∃ n,Lib.atoiAll s = .ok n) ∨ Lib.atoiAll s = .range) :
  Calls Tryz.prog 226 #[.string (str s)] W (Ret fun v w => (∃ n er,v = .tuple #[.int .i64 n,er] ∧ ((Lib.atoiAll s = .ok n ∧ er = .nilIface) ∨ (Lib.atoiAll s = .range ∧ ∃ t p,er = .iface t p))) ∧ St W noF [] w) := by
 have hz : (str s).size = s.length := Zcc s
 have ht : (str s).data.toList = s := by simp [str]
 rcases hs with ⟨n,h⟩ | h
 ·refine (Tryz.strconv_Atoi_ok (str s) (by omega) n (by rw [ht]; exact h) W).mono ?_
  rintro e w ⟨rfl,hw⟩
  refine ⟨_,rfl,⟨n,_,rfl,.inl ⟨h,rfl⟩⟩,?_⟩
  rcases hw with rfl | ⟨t,rfl⟩
  ·exact St.start _
  ·exact (St.start W).below (Lib.bytesWorld_below W _ t)
 ·obtain ⟨tp,p,he⟩ := hG.2
  have hv := Zr7 (P := Tryz.prog) (n := "strconv.ErrRange") (by kernel_rfl) he.start
  refine (Tryz.strconv_Atoi_range_var (str s) (by omega) (by rw [ht]; exact h) tp p W hv).mono ?_
  rintro e w ⟨N,rfl,_,_,hb⟩
  exact ⟨_,rfl,⟨_,_,rfl,.inr ⟨h,_,_,rfl⟩⟩,(St.start W).below hb⟩
end Cr
namespace Cr
open Go
section
variable {P : Program} {Q : Exit → Act → World → Prop} {N : Nat} {ds : Md} {σ : Env} {w : World} {x y : Code}
theorem Zgf {F : Fence} {n : Nat} {c : Code} {Q Q' : Exit → Act → World → Prop} {a : Act} (hq : ∀ e a w,Q e a w → Q' e a w) (h : c.wpIn F n P Q a w) : c.wpIn F n P Q' a w := by
 intro b k cs hro hb hr
 obtain ⟨e,a',w',hQ,harr⟩ := h b k cs hro hb hr
 exact ⟨e,a',w',hq _ _ _ hQ,harr⟩
def Mid {α : Type} (S : α → Env) (R : α → World → Prop) (N : Nat) (ds : Md) : Act → World → Prop := fun a w => ∃ z,Fr (S z) N ds a ∧ R z w
theorem Z41 {α : Type} (S : α → Env) (R : α → World → Prop) (h1 : C P x (Exit.then (Mid S R N ds) Q) N ds σ w) (h2 : ∀ z w,R z w → C P y Q N ds (S z) w) : C P (.seq x y) Q N ds σ w := ⟨fun a ha =>
 wpIn_seq (Zgf (fun e a w hh => by
  cases e with
  | normal => obtain ⟨z,hF,hR⟩ := hh; exact (h2 z w hR).run a hF
  | exit id => exact hh
  | goto l => exact hh
  | ret => exact hh
  | panic ch => exact hh
  | outgrown => exact hh) (h1.run a ha))⟩
theorem Zps {α : Type} (S : α → Env) (R : α → World → Prop) (h1 : C P x (Exit.then (Mid S R N ds) Q) N ds σ w) (h2 : ∀ z w,R z w → C P y Q N ds (S z) w) : C P x (Exit.then (y.wpIn (Fc ds) 0 P Q) Q) N ds σ w := ⟨fun a ha =>
 Zgf (fun e a w hh => by
  cases e with
  | normal => obtain ⟨z,hF,hR⟩ := hh; exact (h2 z w hR).run a hF
  | exit id => exact hh
  | goto l => exact hh
  | ret => exact hh
  | panic ch => exact hh
  | outgrown => exact hh) (h1.run a ha)⟩
theorem Zoq {Q1 Q2 : Exit → Act → World → Prop} {id : Nat} (hq : ∀ e a w,Q1 e a w → Q2 e a w) : ∀ e a w,Exit.inBlock id Q1 e a w → Exit.inBlock id Q2 e a w := fun e a w h => by
 cases e with
 | exit id' =>
  by_cases he : id' = id
  ·simp only [Exit.inBlock,if_pos he] at h ⊢; exact hq _ _ _ h
  ·simp only [Exit.inBlock,if_neg he] at h ⊢; exact hq _ _ _ h
 | _ => exact hq _ _ _ h
theorem Zcp {α : Type} {id : Nat} (S : α → Env) (R : α → World → Prop) (h1 : C P x (Exit.inBlock id (Exit.then (Mid S R N ds) Q)) N ds σ w) (h2 : ∀ z w,R z w → C P y Q N ds (S z) w) : C P x (Exit.inBlock id (Exit.then (y.wpIn (Fc ds) 0 P Q) Q)) N ds σ w := ⟨fun a ha =>
 Zgf (Zoq fun e a w hh => by
  cases e with
  | normal => obtain ⟨z,hF,hR⟩ := hh; exact (h2 z w hR).run a hF
  | exit id => exact hh
  | goto l => exact hh
  | ret => exact hh
  | panic ch => exact hh
  | outgrown => exact hh) (h1.run a ha)⟩
theorem Zbi {α : Type} {S : α → Env} {R : α → World → Prop} (z : α) (hσ : subs σ (S z)) (hR : R z w) : E (Exit.then (Mid S R N ds) Q) .normal N ds σ w := ⟨fun _ ha => ⟨z,ha.sub hσ,hR⟩⟩
theorem Rd.cellF {b off o' i : Nat} {cs : List Value} {v : Value} (H : Rd w (row (some ⟨b,off,none⟩) cs)) (hi : o' = off + i) (h : cs[i]? = some v) : w.cell? ⟨b,o',none⟩ = some v := by
 subst hi; exact H.cells i v h
end
section
variable {P : Program} {o : Oper} {σ : Env} {w : World} {t e : TypeId}
end
theorem St.ownRd {W : World} {F : Nat → Prop} {rs rest : List Res} {w : World} {a : Option Addr} {T e c : Nat} {cs : List Value} (hS : St W F rs w) [hh : HasOwn rs a T e c cs rest] : Rd w (row a cs) := ((hS.perm hh.has).rd (List.mem_cons_self ..)).own_row
/-! ### resources in another order -/
class Take1 (rs : List Res) (r : Res) (rest : outParam (List Res)) : Prop where
 perm : rs.Perm (r :: rest)
instance Take1.there (q r : Res) (rs rest : List Res) [h : Take1 rs r rest] : Take1 (q :: rs) r (q :: rest) := ⟨(List.Perm.cons q h.perm).trans (.swap ..)⟩
instance Take1.here (r : Res) (rs : List Res) : Take1 (r :: rs) r rs := ⟨.refl _⟩
class Takes (rs out : List Res) : Prop where
 took : ∀ {W F w},St W F rs w → St W F out w
instance Takes.nil (rs : List Res) : Takes rs [] := ⟨fun h => h.drops⟩
instance Takes.cons (rs rest out : List Res) (r : Res) [h : Take1 rs r rest] [h2 : Takes rest out] : Takes rs (r :: out) := ⟨fun hS => (hS.perm h.perm).under h2.took⟩
theorem St.took {W : World} {F : Nat → Prop} {rs out : List Res} {w : World} (hS : St W F rs w) [h : Takes rs out] : St W F out w := h.took hS
end Cr
namespace Cr
open Go Go.Proofs
set_option maxRecDepth 100000
set_option maxHeartbeats 4000000
attribute [local irreducible] Calls

abbrev rdC (a : Option Addr) (n c : Nat) (i : Nat) (e : Int) : List Value := [.slice a n c,.int .i64 (i : Nat),.int .i64 e]
abbrev Rdr (p : Nat) (a : Option Addr) (n c : Nat) (i : Nat) (e : Int) : Res := pts p (.cells (rdC a n c i e).toArray 242 (0,0))

theorem Zh9 (p : Nat) (a : Option Addr) (n c : Nat) (i : Nat) (e : Int) (W : World) (hc : Rd W (Rdr p a n c i e)) :
  Calls Tryz.prog 177 #[.pointer (some ⟨p,0,none⟩)] W (Ret fun v w => v = .bool (decide (i < n)) ∧ St W noF [] w) := by
 have hS := St.start W
 replace hc := hc.ro
 refine Zab Tryz.func177 rfl Tryz.ntmps177 rfl ?_
 repeat (first|refine Yd0 ?_|refine Yag ?_|refine Yd1 ?_|refine Yab ?_)
 refine Zao (.s 0 (.s 1 (.s 2 (.s 3 (.s 4 (.s 5 (.s 6 (.s 7 (.s 8 (.s 9 (.s 10 .nil))))))))))) mixed (by kernel_rfl) rfl ?_
 have hS := hS.drew
 repeat (first|refine Yah ?_|refine Yd2 ?_|(refine Zad ?_;first|refine Yay ?_|refine Ya0 ?_|refine Ybn ?_|refine Ybq ?_|refine Ybj ?_|refine Yct ?_|refine Zaj rfl rfl (fun _ => Zpg rfl rfl rfl) rfl rfl ?_|refine Yc2 ?_))
 refine ⟨?_,hS⟩
 congr 2
 exact propext (by omega)
theorem Zjd (p : Nat) (a : Option Addr) (n c : Nat) (i : Nat) (e k : Int) (W : World) (F : Nat → Prop) (hS : St W F [Rdr p a n c i e] W) :
  Calls Tryz.prog 178 #[.pointer (some ⟨p,0,none⟩),.int .i64 k] W (Ret fun v w => v = .tuple #[] ∧ St W F [Rdr p a n c i (if e = 0 then k else e)] w) := by
 by_cases h : e = 0
 ·refine Zab Tryz.func178 rfl Tryz.ntmps178 rfl ?_
  repeat (first|refine Yd0 ?_|(refine X_id ?_;first|refine Yaf ?_|refine Yau ?_|refine Yan ?_|refine Ybi ?_|refine Yap ?_|refine Yao (fun _ hS _ => ?_))|refine Yea ?_|refine Yab ?_|refine Ybs ?_)
  rw [if_pos h]
  exact ⟨rfl,hS⟩
 ·refine Zab Tryz.func178 rfl Tryz.ntmps178 rfl ?_
  repeat (first|refine Yd0 ?_|(refine X_id ?_;first|refine Yaf ?_|refine Yau ?_|refine Yan ?_|refine Ybh ?_|refine Yap ?_)|refine Yeb ?_|refine Yab ?_|refine Ybs ?_)
  rw [if_neg h]
  exact ⟨rfl,hS⟩
theorem Z5i {s : List UInt8} {i j : Nat} {k : UInt8} (h : i < s.length) (hj : j = i) : decide (((s.getD j 0).toNat : Int) = (k.toNat : Int)) = decide (s[i]? = some k) := by
 subst hj
 rw [List.getD_eq_getElem?_getD,List.getElem?_eq_getElem h,Option.getD_some]
 congr 1
 simp only [Option.some.injEq]
 exact propext ⟨fun h => UInt8.toNat_inj.1 (by omega),fun h => by rw [h]⟩
theorem is_ (p : Nat) (a : Option Addr) (s : List UInt8) (c : Nat) (i : Nat) (e : Int) (k : UInt8) (W : World) (hc : Rd W (Rdr p a s.length c i e)) (hb : Rd W (bytes a s)) :
  Calls Tryz.prog 179 #[.pointer (some ⟨p,0,none⟩),.int .u8 (k.toNat : Int)] W (Ret fun v w => v = .bool (decide (s[i]? = some k)) ∧ St W noF [] w) := by
 have hS := St.start W
 have hm := Zh9 p a s.length c i e
 by_cases h : i < s.length
 ·simp only [decide_eq_true h] at hm
  obtain ⟨ab,ao,rfl⟩ := hb.base (by intro e; have := Zaq s; rw [e] at this; simp at this; omega)
  replace hc := hc.ro
  replace hb := hb.ro
  refine Zab Tryz.func179 rfl Tryz.ntmps179 rfl ?_
  repeat (first|refine Yd0 ?_|refine Yag ?_|refine Yd1 ?_|refine Yab ?_)
  refine Zao (.s 0 (.h 1 (.s 2 (.s 3 (.s 4 (.s 5 (.s 6 (.s 7 (.s 8 (.s 9 (.s 10 (.s 11 (.s 12 (.s 13 (.s 14 (.s 15 (.s 16 .nil))))))))))))))) .no)) mixed (by kernel_rfl) rfl ?_
  have hS := hS.drew
  repeat (first|(refine X_id ?_;first|(refine Zae 177 rfl rfl rfl rfl rfl hS (hm _ (hc.rd hS)) ?_;rintro _ _ rfl hS))|refine Yah ?_|refine Yd2 ?_|(refine Zad ?_;first|refine Yay ?_|refine Ya0 ?_|refine Ybn ?_|refine Ycd ?_|refine Yas ?_|refine Yce ?_|refine Ycw ?_|refine Ycu ?_|refine Zcb rfl rfl rfl rfl (fun _ => Zpl rfl rfl rfl) rfl rfl ?_|refine Zcb rfl rfl rfl rfl (fun _ => Zc3 rfl rfl rfl (by omega) (by omega) (by first|assumption|exact ⟨_,_,rfl⟩)) rfl rfl ?_|refine Ydj ?_|refine Zdu (fun w' => w'.cell? _ = some _) rfl rfl rfl rfl ((hb.rd hS).cellB' (by omega)) (fun _ hc => Zar rfl rfl hc) rfl rfl ?_)|(refine Zac ?_;first|refine Yaz ?_))
  refine ⟨?_,hS⟩
  rw [Z5i h (by omega)]
 ·simp only [decide_eq_false h] at hm
  replace hc := hc.ro
  refine Zab Tryz.func179 rfl Tryz.ntmps179 rfl ?_
  repeat (first|refine Yd0 ?_|refine Yag ?_|refine Yd1 ?_|refine Yab ?_)
  refine Zao (.s 0 (.h 1 (.s 2 (.s 3 (.s 4 (.s 5 (.s 6 (.s 7 (.s 8 (.s 9 (.s 10 (.s 11 (.s 12 (.s 13 (.s 14 (.s 15 (.s 16 .nil))))))))))))))) .no)) mixed (by kernel_rfl) rfl ?_
  have hS := hS.drew
  repeat (first|(refine X_id ?_;first|(refine Zae 177 rfl rfl rfl rfl rfl hS (hm _ (hc.rd hS)) ?_;rintro _ _ rfl hS))|refine Yah ?_|refine Yd2 ?_|(refine Zad ?_;first|refine Yay ?_|refine Ya0 ?_|refine Ybn ?_|refine Ycf ?_|refine Yas ?_|refine Ycj ?_)|(refine Zac ?_;first|refine Yaz ?_))
  refine ⟨?_,hS⟩
  rw [List.getElem?_eq_none (by omega)]
  simp
end Cr
namespace Cr
open Go
theorem Sep.merge {r s t : Res} {rs : List Res} {h : Frag} (H : Sep (r :: s :: rs) h) (hm : ∀ h1 h3,r h1 → s h3 → (∀ k,h1 k = none ∨ h3 k = none) → t (fun k => (h1 k).or (h3 k))) : Sep (t :: rs) h := by
 obtain ⟨h1,h2,a,⟨h3,h4,b,c,d',u'⟩,d,u⟩ := H
 refine ⟨fun k => (h1 k).or (h3 k),h4,hm h1 h3 a b fun k => ?_,c,fun k => ?_,fun k => ?_⟩
 ·rcases d k with e | e
  ·exact .inl e
  ·rw [u'] at e; simp at e; exact .inr e.1
 ·rcases d k with e | e
  ·rcases d' k with e' | e'
   ·left; simp [e,e']
   ·exact .inr e'
  ·rw [u'] at e; simp at e; exact .inr e.2
 ·rw [u,u']; cases e1 : h1 k <;> simp [e1]
theorem St.merge {W : World} {F : Nat → Prop} {r s t : Res} {rs : List Res} {w : World} (hS : St W F (r :: s :: rs) w) (hm : ∀ h1 h3,r h1 → s h3 → (∀ k,h1 k = none ∨ h3 k = none) → t (fun k => (h1 k).or (h3 k))) : St W F (t :: rs) w :=
 hS.imp fun _ h => h.merge hm
abbrev RowD := Option Addr × List Value
def bag (X : List RowD) : Res := fun h => ∀ x ∈ X,∃ h',row x.1 x.2 h' ∧ ∀ b o,h' b = some o → h b = some o
theorem Ro.bag {W : World} {F : Nat → Prop} {X : List RowD} (H : Ro W F (Cr.bag X)) {x : RowD} (hx : x ∈ X) : Ro W F (row x.1 x.2) := H.mono fun _ hh => hh x hx
theorem Rd.bag {w : World} {X : List RowD} (H : Rd w (Cr.bag X)) {x : RowD} (hx : x ∈ X) : Rd w (row x.1 x.2) := H.mono fun _ hh => hh x hx
theorem Z14 (h : Frag) : bag [] h := fun x hx => by cases hx
section
variable {W : World} {F : Nat → Prop} {rs : List Res} {w : World}
theorem St.bagSub {X Y : List RowD} (hS : St W F (bag X :: rs) w) (h : ∀ x ∈ Y,x ∈ X) : St W F (bag Y :: rs) w := hS.head fun _ hg x hx => hg x (h x hx)
theorem St.bagNil (hS : St W F rs w) : St W F (bag [] :: rs) w := by
 obtain ⟨h,hs,s⟩ := hS
 exact ⟨h,⟨fun _ => none,h,Z14 _,hs,fun _ => .inl rfl,fun _ => by simp⟩,s⟩
theorem Zu5 {h1 h3 : Frag} {b : Nat} {o : Obj} (e : h1 b = some o) : (h1 b).or (h3 b) = some o := by rw [e]; rfl
theorem Zrn {h1 h3 : Frag} (d : ∀ k,h1 k = none ∨ h3 k = none) {b : Nat} {o : Obj} (e : h3 b = some o) : (h1 b).or (h3 b) = some o := by
 rcases d b with e' | e'
 ·rw [e',e]; rfl
 ·rw [e'] at e; cases e
theorem St.bagJoin {X Y : List RowD} (hS : St W F (bag X :: bag Y :: rs) w) : St W F (bag (X ++ Y) :: rs) w :=
 hS.merge fun h1 h3 a b d x hx => by
  rcases List.mem_append.1 hx with hx | hx
  ·obtain ⟨h',hr,hs⟩ := a x hx
   exact ⟨h',hr,fun b o e => Zu5 (hs b o e)⟩
  ·obtain ⟨h',hr,hs⟩ := b x hx
   exact ⟨h',hr,fun b o e => Zrn d (hs b o e)⟩
theorem St.toBag {r : Res} {a : Option Addr} {cs : List Value} (hS : St W F (r :: rs) w) (hr : ∀ h,r h → row a cs h) : St W F (bag [(a,cs)] :: rs) w :=
 hS.head fun h hg x hx => by
  rw [List.mem_singleton] at hx; subst hx
  exact ⟨h,hr h hg,fun _ _ e => e⟩
theorem St.bagAdd {r : Res} {a : Option Addr} {cs : List Value} {X : List RowD} (hS : St W F (r :: bag X :: rs) w) (hr : ∀ h,r h → row a cs h) : St W F (bag ((a,cs) :: X) :: rs) w :=
 (hS.toBag hr).bagJoin
theorem St.bagPart {X : List RowD} {a a' : Option Addr} {cs cs' : List Value} (hS : St W F (bag X :: rs) w) (hx : (a,cs) ∈ X) (hp : ∀ h,row a cs h → ∃ h',row a' cs' h' ∧ ∀ b o,h' b = some o → h b = some o) : St W F (bag ((a',cs') :: X) :: rs) w :=
 hS.head fun h hg x hx' => by
  rcases List.mem_cons.1 hx' with rfl | hx'
  ·obtain ⟨h1,hr,hs⟩ := hg _ hx
   obtain ⟨h2,hr2,hs2⟩ := hp h1 hr
   exact ⟨h2,hr2,fun b o e => hs b o (hs2 b o e)⟩
  ·exact hg x hx'
theorem own.shrink {T : TypeId} {e : Nat} {a : Option Addr} {c : Nat} {cs : List Value} (k : Nat) : ∀ h,own T e a c cs h → own T e a c (cs.take k) h := fun h H => by
 obtain ⟨hl,hm,H⟩ := H
 refine ⟨by rw [List.length_take]; omega,hm,H.imp id fun ⟨b,cells,ha,hh,hs,ht⟩ => ⟨b,cells,ha,hh,hs,?_⟩⟩
 rw [List.length_take,← List.take_take,ht]
end
end Cr
namespace Cr
open Go

inductive Mv where
 | mk (k n : Int) (b : List UInt8) (l : List Mv)
 deriving Inhabited
abbrev nuM (n : Int) : Mv := .mk 0 n [] []
abbrev txM (b : List UInt8) : Mv := .mk 1 0 b []
abbrev liM (l : List Mv) : Mv := .mk 2 0 [] l
def Mv.kind : Mv → Int | .mk k _ _ _ => k
def Mv.num : Mv → Int | .mk _ n _ _ => n
def Mv.txt : Mv → List UInt8 | .mk _ _ b _ => b
def Mv.lst : Mv → List Mv | .mk _ _ _ l => l
def Zea : Nat → Mv → Mv
 | 0,.mk k n b _ => .mk k n b []
 | d + 1,.mk k n b l => .mk k n b (l.map (Zea d))
def kdM (k n : Int) (b : List UInt8) (l : List Mv) : Bool :=
 (decide (k = 0) && b.isEmpty && l.isEmpty) || (decide (k = 1) && decide (n = 0) && l.isEmpty) || (decide (k = 2) && decide (n = 0) && b.isEmpty)
def Zhl : List Int → Int
 | [] => 0
 | e :: r => if e = 0 then Zhl r else e
def chkM : Nat → Mv → Int
 | 0,.mk k n b l => if kdM k n b l = true then (if k = 2 then 18 else 0) else 17
 | m + 1,.mk k n b l => if kdM k n b l = true then Zhl (l.map (chkM m)) else 17
theorem Zgn : ∀ {l : List Int},Zhl l = 0 ↔ ∀ e ∈ l,e = 0
 | [] => by simp [Zhl]
 | e :: r => by
  unfold Zhl
  split
  ·rename_i h; rw [Zgn]; simp [h]
  ·rename_i h; simp [h]
mutual
def encM : Mv → List UInt8
 | .mk k n b l => if k = 0 then 105 :: Lib.itoa n ++ [59] else if k = 1 then Lib.itoa (b.length : Nat) ++ 58 :: b else 40 :: Zaw l ++ [41]
def Zaw : List Mv → List UInt8
 | [] => []
 | x :: l => encM x ++ Zaw l
end
mutual
def fitM : Mv → Prop
 | .mk _ n b l => (-9223372036854775808 ≤ n ∧ n ≤ 9223372036854775807) ∧ b.length ≤ 9223372036854775807 ∧ Zcj l
def Zcj : List Mv → Prop
 | [] => True
 | x :: l => fitM x ∧ Zcj l
end
theorem Zfe : ∀ (l m : List Mv),Zaw (l ++ m) = Zaw l ++ Zaw m
 | [],m => by simp [Zaw]
 | x :: l,m => by rw [List.cons_append,Zaw,Zaw,Zfe l m,List.append_assoc]
theorem fitMs_mem : ∀ {l : List Mv},Zcj l ↔ ∀ x ∈ l,fitM x
 | [] => by simp [Zcj]
 | x :: l => by rw [Zcj,fitMs_mem]; simp
theorem Zdz (n : Int) (b : List UInt8) (l : List Mv) : encM (.mk 0 n b l) = 105 :: Lib.itoa n ++ [59] := by rw [encM,if_pos rfl]
theorem Zfy (n : Int) (b : List UInt8) (l : List Mv) : encM (.mk 1 n b l) = Lib.itoa (b.length : Nat) ++ 58 :: b := by rw [encM,if_neg (by decide),if_pos rfl]
theorem Zbt (n : Int) (b : List UInt8) (l : List Mv) : encM (.mk 2 n b l) = 40 :: Zaw l ++ [41] := by rw [encM,if_neg (by decide),if_neg (by decide)]
mutual
def wM : Mv → Nat
 | .mk _ _ b l => 1 + b.length + wMs l
def wMs : List Mv → Nat
 | [] => 0
 | x :: l => wM x + wMs l
end
theorem Zht (k n : Int) (b : List UInt8) (l : List Mv) : wM (.mk k n b l) = 1 + b.length + wMs l := by rw [wM]
theorem Zhs : ∀ {l : List Mv} {x : Mv},x ∈ l → wM x ≤ wMs l
 | y :: l,x,h => by
  rw [wMs]
  rcases List.mem_cons.1 h with rfl | h
  ·omega
  ·have := Zhs h; omega
theorem Zd4 : ∀ (l : List Mv),l.length ≤ wMs l
 | [] => by simp
 | ⟨k,n,b,m⟩ :: l => by
  rw [wMs,Zht]
  have := Zd4 l
  simp only [List.length_cons]; omega
theorem Zom {k n : Int} {b : List UInt8} {l : List Mv} (h : kdM k n b l = true) : (k = 0 ∧ b = [] ∧ l = []) ∨ (k = 1 ∧ n = 0 ∧ l = []) ∨ (k = 2 ∧ n = 0 ∧ b = []) := by
 unfold kdM at h
 simp only [Bool.or_eq_true,Bool.and_eq_true,decide_eq_true_eq,List.isEmpty_iff] at h
 rcases h with (⟨⟨h1,h2⟩,h3⟩ | ⟨⟨h1,h2⟩,h3⟩) | ⟨⟨h1,h2⟩,h3⟩
 ·exact .inl ⟨h1,h2,h3⟩
 ·exact .inr (.inl ⟨h1,h2,h3⟩)
 ·exact .inr (.inr ⟨h1,h2,h3⟩)
theorem Z1z {m : Nat} {k n : Int} {b : List UInt8} {l : List Mv} (h : chkM m (.mk k n b l) = 0) : kdM k n b l = true := by
 cases m <;> (rw [chkM] at h; split at h; assumption; cases h)
theorem Zei {m : Nat} {v : Mv} (h : chkM m v = 0) : (∃ n,v = nuM n) ∨ (∃ b,v = txM b) ∨ ∃ l m',v = liM l ∧ m = m' + 1 ∧ ∀ x ∈ l,chkM m' x = 0 := by
 obtain ⟨k,n,b,l⟩ := v
 rcases Zom (Z1z h) with ⟨rfl,rfl,rfl⟩ | ⟨rfl,rfl,rfl⟩ | ⟨rfl,rfl,rfl⟩
 ·exact .inl ⟨n,rfl⟩
 ·exact .inr (.inl ⟨b,rfl⟩)
 ·refine .inr (.inr ?_)
  cases m with
  | zero => rw [chkM,if_pos (by rfl),if_pos rfl] at h; cases h
  | succ m =>
   rw [chkM,if_pos (by rfl),Zgn] at h
   exact ⟨l,m,rfl,rfl,fun x hx => h _ (List.mem_map.2 ⟨x,hx,rfl⟩)⟩
theorem Zm5 {m : Nat} {l : List Mv} (h : ∀ x ∈ l,chkM m x = 0) : chkM (m + 1) (liM l) = 0 := by
 rw [chkM,if_pos (by rfl),Zgn]
 intro e he
 obtain ⟨x,hx,rfl⟩ := List.mem_map.1 he
 exact h x hx
theorem Zm4 (m : Nat) (n : Int) : chkM m (nuM n) = 0 := by cases m <;> rfl
theorem Zsq (m : Nat) (b : List UInt8) : chkM m (txM b) = 0 := by cases m <;> rfl
theorem Zm8 {s : List UInt8} {v : Int} (h : Lib.atoiAll s = .ok v) : -9223372036854775808 ≤ v ∧ v ≤ 9223372036854775807 := by
 cases s with
 | nil => cases h
 | cons c r =>
  unfold Lib.atoiAll at h
  simp only at h
  generalize Lib.parseMag _ = p at h
  rcases p with u | _ | _
  ·simp only at h
   split at h
   ·cases h
   ·split at h
    ·cases h
    ·injection h with h
     rename_i h1 h2
     split at h <;> omega
  ·cases h
  ·cases h
theorem Zoa {below : Bool} {e : UInt8} {l r : List UInt8} {v : Int} (h : num below e l = some (v,r)) : -9223372036854775808 ≤ v ∧ v ≤ 9223372036854775807 := Zm8 (Zg9 h).2.2
/-! ### reading -/
mutual
def pvM : Nat → Nat → List UInt8 → Option (Mv × List UInt8)
 | 0,_,_ => none
 | _ + 1,_,[] => none
 | f + 1,deep,c :: r =>
  if c = 40 then
   if 8 < deep then none else
   match plM f deep r with
   | some (x,r') => some (liM x,r')
   | none => none
  else if c = 105 then
   match num true 59 r with
   | some (v,r') => some (nuM v,r')
   | none => none
  else
   match num false 58 (c :: r) with
   | some (v,r') => if v.toNat ≤ r'.length then some (txM (r'.take v.toNat),r'.drop v.toNat) else none
   | none => none
def plM : Nat → Nat → List UInt8 → Option (List Mv × List UInt8)
 | 0,_,_ => none
 | _ + 1,_,[] => none
 | f + 1,deep,c :: r =>
  if c = 41 then some ([],r) else
  match pvM f (deep + 1) (c :: r) with
  | none => none
  | some (t,r') =>
   match plM f deep r' with
   | none => none
   | some (x,r'') => some (t :: x,r'')
end
theorem Z25 (f : Nat) : (∀ deep l t r,pvM f deep l = some (t,r) → r.length < l.length) ∧ (∀ deep l x r,plM f deep l = some (x,r) → r.length < l.length) := by
 induction f with
 | zero => exact ⟨fun _ _ _ _ h => by simp [pvM] at h,fun _ _ _ _ h => by simp [plM] at h⟩
 | succ f ih =>
  obtain ⟨ihv,ihl⟩ := ih
  refine ⟨fun deep l t r h => ?_,fun deep l x r h => ?_⟩
  ·cases l with
   | nil => simp [pvM] at h
   | cons c l =>
    rw [pvM] at h
    split at h
    ·split at h
     ·cases h
     ·split at h
      ·rename_i x r' hp
       have := ihl _ _ _ _ hp
       obtain ⟨_,rfl⟩ : _ ∧ r' = r := by simpa using h
       simp; omega
      ·cases h
    ·split at h
     ·split at h
      ·rename_i v r' hp
       have := Zu6 hp
       obtain ⟨_,rfl⟩ : _ ∧ r' = r := by simpa using h
       simp; omega
      ·cases h
     ·split at h
      ·rename_i v r' hp
       have := Zu6 hp
       split at h
       ·obtain ⟨_,rfl⟩ : _ ∧ r'.drop v.toNat = r := by simpa using h
        simp at this ⊢; omega
       ·cases h
      ·cases h
  ·cases l with
   | nil => simp [plM] at h
   | cons c l =>
    rw [plM] at h
    split at h
    ·obtain ⟨_,rfl⟩ : _ ∧ l = r := by simpa using h
     simp
    ·split at h
     ·cases h
     ·rename_i t r' hp
      have h1 := ihv _ _ _ _ hp
      split at h
      ·cases h
      ·rename_i x' r'' hp'
       have h2 := ihl _ _ _ _ hp'
       obtain ⟨_,rfl⟩ : _ ∧ r'' = r := by simpa using h
       omega
theorem Zx7 (f : Nat) : (∀ deep m l t r,deep + m = 9 → pvM f deep l = some (t,r) → l = encM t ++ r ∧ chkM m t = 0 ∧ fitM t) ∧ (∀ deep m l x r,deep + m = 8 → plM f deep l = some (x,r) → l = Zaw x ++ 41 :: r ∧ (∀ t ∈ x,chkM m t = 0) ∧ Zcj x) := by
 induction f with
 | zero => exact ⟨fun _ _ _ _ _ _ h => by simp [pvM] at h,fun _ _ _ _ _ _ h => by simp [plM] at h⟩
 | succ f ih =>
  obtain ⟨ihv,ihl⟩ := ih
  refine ⟨fun deep m l t r hm h => ?_,fun deep m l x r hm h => ?_⟩
  ·cases l with
   | nil => simp [pvM] at h
   | cons c l =>
    rw [pvM] at h
    split at h
    ·rename_i hc
     split at h
     ·cases h
     ·rename_i hd
      split at h
      ·rename_i x r' hp
       obtain ⟨m,rfl⟩ : ∃ k,m = k + 1 := ⟨m - 1,by omega⟩
       obtain ⟨h1,h2,h3⟩ := ihl deep m l x r' (by omega) hp
       obtain ⟨rfl,rfl⟩ : liM x = t ∧ r' = r := by simpa using h
       refine ⟨?_,Zm5 h2,by rw [fitM]; exact ⟨⟨by omega,by omega⟩,by simp,h3⟩⟩
       rw [Zbt,hc,h1]; simp
      ·cases h
    ·split at h
     ·rename_i hc
      split at h
      ·rename_i v r' hp
       obtain ⟨rfl,rfl⟩ : nuM v = t ∧ r' = r := by simpa using h
       refine ⟨?_,Zm4 _ _,?_⟩
       ·rw [Zdz,hc,Zob hp]; simp
       ·rw [fitM]; exact ⟨Zoa hp,by simp,by rw [Zcj]; trivial⟩
      ·cases h
     ·split at h
      ·rename_i v r' hp
       split at h
       ·rename_i hle
        obtain ⟨rfl,rfl⟩ : txM (r'.take v.toNat) = t ∧ r'.drop v.toNat = r := by simpa using h
        have h0 := Zlb hp
        have hr := Zoa hp
        refine ⟨?_,Zsq _ _,?_⟩
        ·rw [Zfy,Zob hp]
         simp only [List.length_take]
         rw [show ((min v.toNat r'.length : Nat) : Int) = v by omega]
         simp
        ·rw [fitM]; exact ⟨⟨by omega,by omega⟩,by simp; omega,by rw [Zcj]; trivial⟩
       ·cases h
      ·cases h
  ·cases l with
   | nil => simp [plM] at h
   | cons c l =>
    rw [plM] at h
    split at h
    ·rename_i hc
     obtain ⟨rfl,rfl⟩ : [] = x ∧ l = r := by simpa using h
     refine ⟨by rw [hc,Zaw]; rfl,fun t ht => (by cases ht),by rw [Zcj]; trivial⟩
    ·split at h
     ·cases h
     ·rename_i t r' hp
      obtain ⟨h1,h2,h3⟩ := ihv (deep + 1) m _ t r' (by omega) hp
      split at h
      ·cases h
      ·rename_i x' r'' hp'
       obtain ⟨h4,h5,h6⟩ := ihl deep m _ x' r'' hm hp'
       obtain ⟨rfl,rfl⟩ : t :: x' = x ∧ r'' = r := by simpa using h
       refine ⟨by rw [h1,h4,Zaw]; simp,fun y hy => ?_,by rw [Zcj]; exact ⟨h3,h6⟩⟩
       rcases List.mem_cons.1 hy with rfl | hy
       ·exact h2
       ·exact h5 y hy
theorem Zmy {m : Nat} {v : Mv} (h : chkM m v = 0) : 2 ≤ (encM v).length := by
 rcases Zei h with ⟨n,rfl⟩ | ⟨b,rfl⟩ | ⟨l,m',rfl,_,_⟩
 ·rw [Zdz]; simp
 ·rw [Zfy]
  obtain ⟨c,l,hc,_⟩ := Zoo (u := b.length)
  rw [hc]; simp; omega
 ·rw [Zbt]; simp
theorem Z26 (f : Nat) : (∀ deep m v r,deep + m = 9 → chkM m v = 0 → fitM v → 2 * (encM v).length ≤ f → ∃ c t,encM v ++ r = c :: t ∧ c ≠ 41 ∧ pvM f deep (encM v ++ r) = some (v,r)) ∧
  (∀ deep m l r,deep + m = 8 → (∀ x ∈ l,chkM m x = 0) → Zcj l → 2 * (Zaw l).length + 1 ≤ f → plM f deep (Zaw l ++ 41 :: r) = some (l,r)) := by
 induction f with
 | zero =>
  refine ⟨fun deep m v r _ hc _ hf => ?_,fun _ _ _ _ _ _ _ hf => by omega⟩
  have := Zmy hc; omega
 | succ f ih =>
  obtain ⟨ihv,ihl⟩ := ih
  refine ⟨fun deep m v r hm hc hfit hf => ?_,fun deep m l r hm hc hfit hf => ?_⟩
  ·rcases Zei hc with ⟨n,rfl⟩ | ⟨b,rfl⟩ | ⟨l,m',rfl,rfl,hl⟩
   ·rw [fitM] at hfit
    refine ⟨105,Lib.itoa n ++ 59 :: r,by rw [Zdz]; simp,by decide,?_⟩
    rw [show encM (nuM n) ++ r = 105 :: (Lib.itoa n ++ 59 :: r) by rw [Zdz]; simp,pvM,if_neg (by decide),if_pos rfl,Zro hfit.1.1 hfit.1.2 (.inl rfl) (by decide)]
   ·rw [fitM] at hfit
    obtain ⟨c,l,hc,hd⟩ := Zoo (u := b.length)
    have hd' := dig_iff.1 hd
    have e : encM (txM b) ++ r = c :: (l ++ 58 :: (b ++ r)) := by rw [Zfy,hc]; simp
    have e2 : c :: (l ++ 58 :: (b ++ r)) = Lib.itoa (b.length : Nat) ++ 58 :: (b ++ r) := by rw [hc]; simp
    have ne : ∀ k : Nat,k < 48 ∨ 57 < k → k < 256 → c ≠ UInt8.ofNat k := fun k hk hk2 h => by
     have := congrArg UInt8.toNat h
     rw [UInt8.toNat_ofNat',Nat.mod_eq_of_lt hk2] at this
     omega
    refine ⟨c,l ++ 58 :: (b ++ r),e,ne 41 (by omega) (by omega),?_⟩
    rw [e,pvM,if_neg (show ¬ c = 40 from ne 40 (by omega) (by omega)),if_neg (show ¬ c = 105 from ne 105 (by omega) (by omega)),e2,Zro (by omega) (by omega) (.inr (by omega)) (by decide)]
    simp only [Int.toNat_natCast]
    rw [if_pos (by simp),List.take_left,List.drop_left]
   ·rw [fitM] at hfit
    rw [Zbt] at hf ⊢
    simp only [List.length_cons,List.length_append,List.length_nil] at hf
    refine ⟨40,Zaw l ++ 41 :: r,by simp,by decide,?_⟩
    rw [show 40 :: Zaw l ++ [41] ++ r = 40 :: (Zaw l ++ 41 :: r) by simp,pvM,if_pos rfl,if_neg (by omega),ihl deep m' l r (by omega) hl hfit.2.2 (by omega)]
  ·cases l with
   | nil => rw [show Zaw [] ++ 41 :: r = 41 :: r by rw [Zaw]; rfl,plM,if_pos rfl]
   | cons x l =>
    rw [Zcj] at hfit
    rw [Zaw] at hf ⊢
    rw [List.length_append] at hf
    have hx := hc x (List.mem_cons_self ..)
    have hp := Zmy hx
    obtain ⟨c,t,h1,h2,h3⟩ := ihv (deep + 1) m x (Zaw l ++ 41 :: r) (by omega) hx hfit.1 (by omega)
    rw [List.append_assoc,h1,plM,if_neg h2,← h1,h3]
    simp only
    rw [ihl deep m l r hm (fun y hy => hc y (List.mem_cons_of_mem _ hy)) hfit.2 (by omega)]
def decM (b : List UInt8) : Option Mv :=
 match pvM (2 * b.length + 1) 1 b with
 | some (t,[]) => some t
 | _ => none
theorem Ztz {b : List UInt8} {v : Mv} (h : decM b = some v) : b = encM v ∧ chkM 8 v = 0 ∧ fitM v := by
 unfold decM at h
 split at h
 ·rename_i t hp
  injection h with h
  subst h
  have := (Zx7 _).1 1 8 _ _ _ rfl hp
  rwa [List.append_nil] at this
 ·cases h
theorem Zm1 {v : Mv} (h : chkM 8 v = 0) (hf : fitM v) : decM (encM v) = some v := by
 obtain ⟨_,_,_,_,h3⟩ := (Z26 (2 * (encM v).length + 1)).1 1 8 v [] rfl h hf (by omega)
 rw [List.append_nil] at h3
 unfold decM
 rw [h3]
end Cr
namespace Cr
open Go

inductive Mrd (R : Option Addr → List Value → Prop) : Mv → List Value → Prop
 | mk {k n : Int} {b : List UInt8} {l : List Mv} {a a2 : Option Addr} {c c2 : Nat} {rows : List (List Value)} (hc : b.length ≤ c) (hb : R a (bv b)) (hr : R a2 rows.flatten) (hl : rows.length = l.length) (h : ∀ (i : Nat) (y : Mv) (cs : List Value),l[i]? = some y → rows[i]? = some cs → Mrd R y cs) :
  Mrd R (.mk k n b l) [.int .i64 k,.int .i64 n,.slice a b.length c,.slice a2 l.length c2]
theorem Mrd.mk' {R : Option Addr → List Value → Prop} {k n : Int} {b : List UInt8} {l : List Mv} {a a2 : Option Addr} {c c2 nb nl : Nat} {rows : List (List Value)} (hnb : b.length = nb) (hnl : l.length = nl) (hc : nb ≤ c) (hb : R a (bv b)) (hr : R a2 rows.flatten) (hl : rows.length = l.length) (h : ∀ (i : Nat) (y : Mv) (cs : List Value),l[i]? = some y → rows[i]? = some cs → Mrd R y cs) : Mrd R (.mk k n b l) [.int .i64 k,.int .i64 n,.slice a nb c,.slice a2 nl c2] := by
 subst hnb hnl; exact .mk hc hb hr hl h
def Mrds (R : Option Addr → List Value → Prop) (l : List Mv) (rows : List (List Value)) : Prop :=
 rows.length = l.length ∧ ∀ (i : Nat) (y : Mv) (cs : List Value),l[i]? = some y → rows[i]? = some cs → Mrd R y cs
section
variable {R R' : Option Addr → List Value → Prop}
theorem Mrd.mono {v : Mv} {cs : List Value} (h : Mrd R v cs) (hm : ∀ a cs,R a cs → R' a cs) : Mrd R' v cs := by
 induction h with
 | mk hc hb hr hl h ih => exact .mk hc (hm _ _ hb) (hm _ _ hr) hl ih
theorem Mrds.mono {l : List Mv} {rows : List (List Value)} (h : Mrds R l rows) (hm : ∀ a cs,R a cs → R' a cs) : Mrds R' l rows := ⟨h.1,fun i y cs h1 h2 => (h.2 i y cs h1 h2).mono hm⟩
theorem Mrds.nil : Mrds R [] [] := ⟨rfl,fun i y cs h => by simp at h⟩
theorem Mrds.snoc {l : List Mv} {rows : List (List Value)} {y : Mv} {r : List Value} (h : Mrds R l rows) (hy : Mrd R y r) : Mrds R (l ++ [y]) (rows ++ [r]) := by
 refine ⟨by simp [h.1],fun i z cs h1 h2 => ?_⟩
 by_cases hi : i < l.length
 ·rw [List.getElem?_append_left hi] at h1
  rw [List.getElem?_append_left (by have := h.1; omega)] at h2
  exact h.2 i z cs h1 h2
 ·rw [List.getElem?_append_right (by omega)] at h1
  rw [List.getElem?_append_right (by have := h.1; omega),h.1] at h2
  cases hk : i - l.length with
  | zero =>
   rw [hk] at h1 h2
   obtain rfl : y = z := by simpa using h1
   obtain rfl : r = cs := by simpa using h2
   exact hy
  | succ k => rw [hk] at h1; simp at h1
theorem Mrd.lit {v : Mv} {cs : List Value} (h : Mrd R v cs) : ∃ a1 c1 a2 c2 rows,cs = [.int .i64 v.kind,.int .i64 v.num,.slice a1 v.txt.length c1,.slice a2 v.lst.length c2] ∧ v.txt.length ≤ c1 ∧ R a1 (bv v.txt) ∧ R a2 rows.flatten ∧ Mrds R v.lst rows := by
 cases h with
 | mk hc hb hr hl h => exact ⟨_,_,_,_,_,rfl,hc,hb,hr,hl,h⟩
theorem Mrd.len {v : Mv} {cs : List Value} (h : Mrd R v cs) : cs.length = 4 := by cases h; rfl
theorem Mrds.four {l : List Mv} {rows : List (List Value)} (H : Mrds R l rows) : ∀ r ∈ rows,r.length = 4 := fun r hr => by
 obtain ⟨i,hi,he⟩ := List.mem_iff_getElem.1 hr
 have hix : i < l.length := by have := H.1; omega
 exact (H.2 i l[i] r (List.getElem?_eq_getElem hix) (by rw [List.getElem?_eq_getElem hi,he])).len
theorem Mrds.flat {l : List Mv} {rows : List (List Value)} (H : Mrds R l rows) : rows.flatten.length = l.length * 4 := by rw [Zio H.four,H.1]
theorem Mrds.at_ {l : List Mv} {rows : List (List Value)} (H : Mrds R l rows) {i : Nat} {y : Mv} (hy : l[i]? = some y) : ∃ cs,(rows.flatten.drop (i * 4)).take 4 = cs ∧ Mrd R y cs := by
 have hi := (List.getElem?_eq_some_iff.1 hy).1
 have hir : i < rows.length := by have := H.1; omega
 exact ⟨rows[i],Zsd H.four (List.getElem?_eq_getElem hir),H.2 i y _ hy (List.getElem?_eq_getElem hir)⟩
end
abbrev RoR (W : World) (F : Nat → Prop) : Option Addr → List Value → Prop := fun a cs => Ro W F (row a cs)
def RX (X : List RowD) : Option Addr → List Value → Prop := fun a cs => cs = [] ∨ (a,cs) ∈ X
theorem RX.nil {X : List RowD} {a : Option Addr} : RX X a [] := .inl rfl
theorem RX.mem {X : List RowD} {a : Option Addr} {cs : List Value} (h : (a,cs) ∈ X) : RX X a cs := .inr h
theorem RX.sub {X Y : List RowD} (h : ∀ x ∈ X,x ∈ Y) {a : Option Addr} {cs : List Value} (hx : RX X a cs) : RX Y a cs := hx.imp id (h _)
theorem RX.left {X Y : List RowD} {a : Option Addr} {cs : List Value} (hx : RX X a cs) : RX (X ++ Y) a cs := hx.sub fun _ h => List.mem_append_left _ h
theorem RX.right {X Y : List RowD} {a : Option Addr} {cs : List Value} (hx : RX Y a cs) : RX (X ++ Y) a cs := hx.sub fun _ h => List.mem_append_right _ h
theorem RX.tail {X : List RowD} {x : RowD} {a : Option Addr} {cs : List Value} (hx : RX X a cs) : RX (x :: X) a cs := hx.sub fun _ h => List.mem_cons_of_mem _ h
theorem RX.ro {W : World} {F : Nat → Prop} {X : List RowD} (H : Ro W F (bag X)) {a : Option Addr} {cs : List Value} (hx : RX X a cs) : Ro W F (row a cs) := by
 rcases hx with rfl | hx
 ·exact Zge _ _ _
 ·exact H.bag hx
theorem RX.rd {w : World} {X : List RowD} (H : Rd w (bag X)) {a : Option Addr} {cs : List Value} (hx : RX X a cs) : Rd w (row a cs) := by
 rcases hx with rfl | hx
 ·exact Zl0 _ _
 ·exact H.bag hx
theorem Mrd.ro {W : World} {F : Nat → Prop} {X : List RowD} {v : Mv} {cs : List Value} (h : Mrd (RX X) v cs) (H : Ro W F (bag X)) : Mrd (RoR W F) v cs := h.mono fun _ _ hx => hx.ro H
end Cr
namespace Cr
open Go Go.Proofs
set_option maxRecDepth 100000
set_option maxHeartbeats 4000000
attribute [local irreducible] Calls

theorem Zzk (s : List UInt8) (W : World) : Calls Tryz.prog 45 #[.string (str s)] W (Ret fun v w => ∃ b c X,v = .agg (List.toArray [.int .i64 1,.int .i64 0,.slice b s.length c,.slice none 0 0]) ∧ Mrd (RX X) (txM s) [.int .i64 1,.int .i64 0,.slice b s.length c,.slice none 0 0] ∧ St W noF [bag X] w) := by
 have hS := St.start W
 refine Zab Tryz.func45 rfl Tryz.ntmps45 rfl ?_
 repeat (first|refine Yd0 ?_|(refine X_id ?_;first|refine Yaf ?_|refine Ybk ?_|refine Yao (fun _ hS _ => ?_)|refine Yar (fun _ _ hS _ => ?_)|refine Zia rfl rfl rfl rfl hS (fun _ _ _ hS _ => ?_))|refine Yed ?_|refine Yab ?_|refine Yb0 ?_)
 have hS := hS.pick [0]
 exact ⟨_,_,_,rfl,.mk (rows := []) (by assumption) (.mem (List.mem_cons_self ..)) .nil rfl (fun _ _ _ h => by simp at h),hS.toBag fun _ h => h⟩
theorem Z1l (n : Int) (W : World) : Calls Tryz.prog 44 #[.int .i64 n] W (Ret fun v w => v = .agg (List.toArray [.int .i64 0,.int .i64 n,.slice none 0 0,.slice none 0 0]) ∧ St W noF [] w) := by
 have hS := St.start W
 refine Zab Tryz.func44 rfl Tryz.ntmps44 rfl ?_
 repeat (first|refine Yd0 ?_|refine Yaf ?_|refine Ybk ?_|refine Yao (fun _ hS _ => ?_)|refine Yar (fun _ _ hS _ => ?_)|refine Yed ?_|refine Yab ?_|refine Yb0 ?_)
 exact ⟨rfl,hS.took⟩
theorem Zoc {R : Option Addr → List Value → Prop} (h0 : ∀ a,R a []) (n : Int) : Mrd R (nuM n) [.int .i64 0,.int .i64 n,.slice none 0 0,.slice none 0 0] :=
 .mk (b := []) (l := []) (rows := []) (Nat.zero_le _) (h0 _) (h0 _) rfl (fun _ _ _ h => by simp at h)
theorem Zy2 : ∀ (d : Nat) (v : Mv) (cs : List Value) (W : World) (F : Nat → Prop),Mrd (RoR W F) v cs → wM v ≤ 1048576 → d ≤ 8 →
  Calls Tryz.prog 92 #[.agg (List.toArray cs),.int .i64 (d : Nat)] W (Ret fun u w => ∃ cs' X,u = .agg (List.toArray cs') ∧ Mrd (RX X) (Zea d v) cs' ∧ St W noF [bag X] w) := by
 intro d
 induction d with
 | zero =>
  intro v cs W F hv hw hd
  have hS := St.start W
  obtain ⟨k,n,b,l⟩ := v
  rw [Zht] at hw
  obtain ⟨a1,c1,a2,c2,rows,rfl,hc1,hb,hr,hM⟩ := hv.lit
  simp only [Mv.kind,Mv.num,Mv.txt,Mv.lst] at *
  replace hb : Ro W noF (bytes a1 b) := hb.start.ro
  refine Zab Tryz.func92 rfl Tryz.ntmps92 rfl ?_
  repeat (first|refine Yd0 ?_|refine Yan ?_|refine Yap ?_|refine Ya6 (fun _ _ hS _ => ?_)|refine Yar (fun _ _ hS _ => ?_)|refine Yd1 ?_|refine Yab ?_)
  refine Zaa _ rfl rfl rfl rfl rfl (Zew _ _ _ b _ (hb.rd hS) rfl (by omega)) ?_
  rintro _ w ⟨a',c',rfl,_,hca,hS'⟩
  replace hS := hS.plus hS'
  clear hS'
  repeat (first|refine Yd0 ?_|(refine X_id ?_;first|refine Yaf ?_|refine Yag ?_|refine Yan ?_|refine Ybu ?_|refine Yap ?_|refine Ybe ?_|refine Yao (fun _ hS _ => ?_))|refine Yep ?_|refine Yab ?_|refine Yb0 ?_)
  have hS : St W noF [own 5 1 a' c' (bv b)] _ := hS.took
  exact ⟨_,_,rfl,.mk' (rows := []) rfl rfl hca (.mem (List.mem_cons_self ..)) .nil rfl (fun _ _ _ h => by simp at h),hS.toBag fun _ h => h.row⟩
 | succ d ih =>
  intro v cs W F hv hw hd
  have hS := St.start W
  obtain ⟨k,n,b,l⟩ := v
  rw [Zht] at hw
  obtain ⟨a1,c1,a2,c2,rows,rfl,hc1,hb,hr,hM⟩ := hv.lit
  simp only [Mv.kind,Mv.num,Mv.txt,Mv.lst] at *
  have hwl := Zd4 l
  replace hb : Ro W noF (bytes a1 b) := hb.start.ro
  replace hr : Ro W noF (row a2 rows.flatten) := hr.start.ro
  replace hM : Mrds (RoR W noF) l rows := hM.mono fun _ _ h => h.start.ro
  refine Zab Tryz.func92 rfl Tryz.ntmps92 rfl ?_
  repeat (first|refine Yd0 ?_|refine Yan ?_|refine Yap ?_|refine Ya6 (fun _ _ hS _ => ?_)|refine Yar (fun _ _ hS _ => ?_)|refine Yd1 ?_|refine Yab ?_)
  rename_i b2 _ _ _ b4 _ _
  refine Zaa _ rfl rfl rfl rfl rfl (Zew _ _ _ b _ (hb.rd hS) rfl (by omega)) ?_
  rintro _ w ⟨a',c',rfl,_,hca,hS'⟩
  replace hS := hS.plus hS'
  clear hS'
  repeat (first|refine Yd0 ?_|(refine X_id ?_;first|refine Yaf ?_|refine Yag ?_|refine Yan ?_|refine Yav ?_|refine Ybx ?_|refine Yap ?_|refine Yao (fun _ hS _ => ?_))|refine Yew ?_|refine Yab ?_)
  have hS : St W noF [own 5 1 a' c' (bv b),pts b4 (.cells (List.toArray [.int .i64 0,.int .i64 0,.slice none 0 0,.slice none 0 0]) 38 (0,0)),pts b2 (.cells (List.toArray [.int .i64 k,.int .i64 n,.slice a' b.length c',.slice none 0 0]) 38 (0,0))] _ := hS.took
  refine Zak (α := Nat × Option Addr × Nat) (fun z => [(1,.int .i64 ((d + 1 : Nat) : Int)),(2,.pointer (some ⟨b2,0,none⟩)),(4,.pointer (some ⟨b4,0,none⟩)),(17,.slice a2 l.length c2),(18,.int .i64 (l.length : Nat)),(19,.int .i64 (z.1 : Nat))])
   (fun z w => z.1 ≤ l.length ∧ z.1 ≤ z.2.2 ∧ ∃ rows' X,Mrds (RX X) ((l.take z.1).map (Zea d)) rows' ∧ St W noF [own 38 4 z.2.1 z.2.2 rows'.flatten,bag X,own 5 1 a' c' (bv b),pts b4 (.cells (List.toArray [.int .i64 0,.int .i64 0,.slice none 0 0,.slice none 0 0]) 38 (0,0)),pts b2 (.cells (List.toArray [.int .i64 k,.int .i64 n,.slice a' b.length c',.slice z.2.1 z.1 z.2.2]) 38 (0,0))] w)
   (fun z => l.length - z.1) (0,none,0) ⟨rfl,rfl,rfl,rfl,rfl,rfl,trivial⟩ ⟨Nat.zero_le _,Nat.le_refl _,[],[],.nil,(hS.bagNil).own_none _ _ _⟩ ?_
  clear hS
  rintro ⟨i,q,qc⟩ w ⟨hi,hiq,rows',X,hMs,hS2⟩
  simp only at hi hiq hMs hS2
  have hrl : rows'.flatten.length = i * 4 := by rw [hMs.flat,List.length_map,List.length_take,Nat.min_eq_left hi]
  by_cases hlt : i < l.length
  ·obtain ⟨y,hyx⟩ : ∃ y,y = l[i] := ⟨_,rfl⟩
   have hy0 : l[i]? = some y := by rw [hyx]; exact List.getElem?_eq_getElem hlt
   have hyw := Zhs (List.mem_of_getElem? hy0)
   obtain ⟨cs,hxs,hy⟩ := hM.at_ hy0
   obtain ⟨d1,e1,d2,e2,rows2,rfl,_⟩ := hy.lit
   obtain ⟨ab,ao,rfl⟩ := hr.start.base (by
    intro e
    rw [e] at hxs
    simp at hxs)
   have hS := hS2
   repeat (first|refine Yd0 ?_|(refine X_id ?_;first|refine Ya2 ?_|refine Ybc ?_|refine Ybp ?_|refine Yao (fun _ hS _ => ?_)|refine Yar (fun _ _ hS _ => ?_))|refine Yd4 ?_|refine Yab ?_)
   refine Zao (.s 0 (.s 1 (.s 2 (.s 3 (.s 4 (.h 5 (.h 6 (.h 7 (.s 8 (.h 9 .nil .no)) .no) .no) .no)))))) mixed (by kernel_rfl) rfl ?_
   have hS := hS.drew
   repeat (first|(refine Zad ?_;first|refine Ya0 ?_|refine Ybj ?_|refine Ycg ?_|refine Ybm ?_|refine Yb1 ?_|refine Yas ?_))
   rw [show (((d + 1 : Nat) : Int) - 1) = ((d : Nat) : Int) by omega]
   refine Zaa _ rfl rfl rfl rfl rfl (ih y _ _ noF (hy.mono fun _ _ h => (h.rd hS).ro) (by omega) (by omega)) ?_
   rintro _ w ⟨cs',Y,rfl,hY,hS'⟩
   replace hS := hS.plus hS'
   clear hS'
   obtain ⟨g1,h1,g2,h2,rows3,rfl,_⟩ := hY.lit
   repeat (first|refine Ybf (fun _ _ hS _ => ?_)|(refine Zad ?_;first|refine Yas ?_)|(refine Zac ?_;first|refine Yaz ?_))
   have hnw := (hS.rd (List.mem_cons_self ..)).own_row
   refine Zap rfl rfl rfl rfl rfl hS hrl hiq hnw rfl (by simp [Value.oneCell']) (by omega) (by simp only [maxLen]; omega) (fun b' q' w hS hq' _ => ?_)
   repeat (first|refine Yd0 ?_|refine Yd5 ?_|refine Yao (fun _ hS _ => ?_)|refine Yad ?_|refine Yd8 ?_|(refine Zad ?_;first|refine Yay ?_|refine Ybj ?_|refine Yas ?_)|(refine Zac ?_;first|refine Yaz ?_))
   refine Zaf (z := (i,q,qc)) (i + 1,b',q') ⟨rfl,rfl,rfl,rfl,rfl,rfl,trivial⟩ ⟨hlt,hq',rows' ++ [[.int .i64 (Zea d y).kind,.int .i64 (Zea d y).num,.slice g1 (Zea d y).txt.length h1,.slice g2 (Zea d y).lst.length h2]],X ++ Y,?_,?_⟩ (by dsimp only; omega)
   ·rw [List.take_succ_eq_append_getElem hlt,← hyx,List.map_append]
    exact (hMs.mono fun _ _ h => h.left).snoc (hY.mono fun _ _ h => h.right)
   ·have hS : St W noF [bag X,bag Y,own 38 4 b' q' (rows'.flatten ++ [.int .i64 (Zea d y).kind,.int .i64 (Zea d y).num,.slice g1 (Zea d y).txt.length h1,.slice g2 (Zea d y).lst.length h2]),own 5 1 a' c' (bv b),pts b4 (.cells (List.toArray [.int .i64 0,.int .i64 0,.slice none 0 0,.slice none 0 0]) 38 (0,0)),pts b2 (.cells (List.toArray [.int .i64 k,.int .i64 n,.slice a' b.length c',.slice b' (i + 1) q']) 38 (0,0))] _ := hS.took
    have hS := hS.bagJoin
    rw [List.flatten_append]
    simpa using hS.took
  ·obtain rfl : i = l.length := by omega
   have hS := hS2
   repeat (first|refine Yd0 ?_|refine Ya3 ?_|refine Ybe ?_|refine Yao (fun _ hS _ => ?_)|refine Yd9 ?_|refine Yab ?_|refine Ya9 ?_|refine Yba ?_|refine Yb0 ?_)
   rw [List.take_length] at hMs
   have hS : St W noF [own 38 4 q qc rows'.flatten,own 5 1 a' c' (bv b),bag X] _ := hS.took
   have hS := (hS.second (r' := own 5 1 a' c' (bv b)) fun _ h => h)
   have hS : St W noF [own 5 1 a' c' (bv b),bag X,own 38 4 q qc rows'.flatten] _ := hS.took
   have hS := hS.bagAdd (a := a') (cs := bv b) fun _ h => h.row
   have hS : St W noF [own 38 4 q qc rows'.flatten,bag ((a',bv b) :: X)] _ := hS.took
   have hS := hS.bagAdd (a := q) (cs := rows'.flatten) fun _ h => h.row
   exact ⟨_,_,rfl,.mk' rfl (by rw [List.length_map]) hca (.mem (List.mem_cons_of_mem _ (List.mem_cons_self ..))) (.mem (List.mem_cons_self ..)) hMs.1 (fun i y cs h1 h2 => (hMs.2 i y cs h1 h2).mono fun _ _ h => h.tail.tail),hS⟩
theorem of_M (a : Option Addr) (l : List Mv) (c : Nat) (rows : List (List Value)) (W : World) (hr : Ro W noF (row a rows.flatten)) (hM : Mrds (RoR W noF) l rows) (hw : wMs l ≤ 1048576) :
  Calls Tryz.prog 43 #[.slice a l.length c] W (Ret fun v w => ∃ b q rows' X,v = .agg (List.toArray [.int .i64 2,.int .i64 0,.slice none 0 0,.slice b l.length q]) ∧ l.length ≤ q ∧ Mrds (RX X) (l.map (Zea 8)) rows' ∧ St W noF [own 38 4 b q rows'.flatten,bag X] w) := by
 have hS := St.start W
 have hwl := Zd4 l
 refine Zab Tryz.func43 rfl Tryz.ntmps43 rfl ?_
 repeat (first|refine Yd0 ?_|(refine X_id ?_;first|refine Yaf ?_|refine Yav ?_|refine Ybk ?_|refine Yao (fun _ hS _ => ?_)|refine Yar (fun _ _ hS _ => ?_))|refine Yd3 ?_|refine Yab ?_)
 rename_i b2 _ _ _ b3 _ _ _ _ _
 refine Zak (α := Nat × Option Addr × Nat) (fun z => [(2,.pointer (some ⟨b2,0,none⟩)),(3,.pointer (some ⟨b3,0,none⟩)),(7,.slice a l.length c),(8,.int .i64 (l.length : Nat)),(9,.int .i64 (z.1 : Nat))])
  (fun z w => z.1 ≤ l.length ∧ z.1 ≤ z.2.2 ∧ ∃ rows' X,Mrds (RX X) ((l.take z.1).map (Zea 8)) rows' ∧ St W noF [own 38 4 z.2.1 z.2.2 rows'.flatten,bag X,pts b3 (.cells (List.toArray [.int .i64 2,.int .i64 0,.slice none 0 0,.slice z.2.1 z.1 z.2.2]) 38 (0,0)),pts b2 (.cells (List.toArray [.int .i64 0,.int .i64 0,.slice none 0 0,.slice none 0 0]) 38 (0,0))] w)
  (fun z => l.length - z.1) (0,none,0) ⟨rfl,rfl,rfl,rfl,rfl,trivial⟩ ⟨Nat.zero_le _,Nat.le_refl _,[],[],.nil,(hS.bagNil).own_none _ _ _⟩ ?_
 clear hS
 rintro ⟨i,b,q⟩ w ⟨hi,hiq,rows',X,hMs,hS2⟩
 simp only at hi hiq hMs hS2
 have hrl : rows'.flatten.length = i * 4 := by rw [hMs.flat,List.length_map,List.length_take,Nat.min_eq_left hi]
 by_cases hlt : i < l.length
 ·obtain ⟨y,hyx⟩ : ∃ y,y = l[i] := ⟨_,rfl⟩
  have hy0 : l[i]? = some y := by rw [hyx]; exact List.getElem?_eq_getElem hlt
  have hyw := Zhs (List.mem_of_getElem? hy0)
  obtain ⟨cs,hxs,hy⟩ := hM.at_ hy0
  obtain ⟨d1,e1,d2,e2,rows2,rfl,_⟩ := hy.lit
  obtain ⟨ab,ao,rfl⟩ := hr.start.base (by
   intro e
   rw [e] at hxs
   simp at hxs)
  have hS := hS2
  repeat (first|refine Yd0 ?_|(refine X_id ?_;first|refine Ya2 ?_|refine Ybc ?_|refine Ybp ?_|refine Yao (fun _ hS _ => ?_)|refine Yar (fun _ _ hS _ => ?_))|refine Yd4 ?_|refine Yab ?_)
  refine Zao (.s 0 (.s 1 (.s 2 (.h 3 (.h 4 (.h 5 (.s 6 (.h 7 .nil .no)) .no) .no) .no)))) mixed (by kernel_rfl) rfl ?_
  have hS := hS.drew
  repeat (first|(refine Zad ?_;first|refine Ybj ?_|refine Ybm ?_|refine Yb1 ?_|refine Yas ?_))
  refine Zaa _ rfl rfl rfl rfl rfl (Zy2 8 y _ _ noF (hy.mono fun _ _ h => (h.rd hS).ro) (by omega) (by omega)) ?_
  rintro _ w ⟨cs',Y,rfl,hY,hS'⟩
  replace hS := hS.plus hS'
  clear hS'
  obtain ⟨g1,h1,g2,h2,rows3,rfl,_⟩ := hY.lit
  repeat (first|refine Ybf (fun _ _ hS _ => ?_)|(refine Zad ?_;first|refine Yas ?_)|(refine Zac ?_;first|refine Yaz ?_))
  have hnw := (hS.rd (List.mem_cons_self ..)).own_row
  refine Zap rfl rfl rfl rfl rfl hS hrl hiq hnw rfl (by simp [Value.oneCell']) (by omega) (by simp only [maxLen]; omega) (fun b' q' w hS hq' _ => ?_)
  repeat (first|refine Yd0 ?_|refine Yd5 ?_|refine Yao (fun _ hS _ => ?_)|refine Yad ?_|refine Yd8 ?_|(refine Zad ?_;first|refine Yay ?_|refine Ybj ?_|refine Yas ?_)|(refine Zac ?_;first|refine Yaz ?_))
  refine Zaf (z := (i,b,q)) (i + 1,b',q') ⟨rfl,rfl,rfl,rfl,rfl,trivial⟩ ⟨hlt,hq',rows' ++ [[.int .i64 (Zea 8 y).kind,.int .i64 (Zea 8 y).num,.slice g1 (Zea 8 y).txt.length h1,.slice g2 (Zea 8 y).lst.length h2]],X ++ Y,?_,?_⟩ (by dsimp only; omega)
  ·rw [List.take_succ_eq_append_getElem hlt,← hyx,List.map_append]
   exact (hMs.mono fun _ _ h => h.left).snoc (hY.mono fun _ _ h => h.right)
  ·have hS : St W noF [bag X,bag Y,own 38 4 b' q' (rows'.flatten ++ [.int .i64 (Zea 8 y).kind,.int .i64 (Zea 8 y).num,.slice g1 (Zea 8 y).txt.length h1,.slice g2 (Zea 8 y).lst.length h2]),
    pts b3 (.cells (List.toArray [.int .i64 2,.int .i64 0,.slice none 0 0,.slice b' (i + 1) q']) 38 (0,0)),pts b2 (.cells (List.toArray [.int .i64 0,.int .i64 0,.slice none 0 0,.slice none 0 0]) 38 (0,0))] _ := hS.took
   have hS := hS.bagJoin
   rw [List.flatten_append]
   simpa using hS.took
 ·obtain rfl : i = l.length := by omega
  have hS := hS2
  repeat (first|refine Yd0 ?_|refine Ya3 ?_|refine Ybe ?_|refine Yao (fun _ hS _ => ?_)|refine Yd9 ?_|refine Yab ?_|refine Ya9 ?_|refine Yba ?_|refine Yb0 ?_)
  rw [List.take_length] at hMs
  exact ⟨b,q,rows',X,rfl,hiq,hMs,hS.took⟩
end Cr
namespace Cr
open Go

abbrev Nm := List UInt8 × Int
def Zeh (x : Nm) : Mv := liM [txM x.1,nuM x.2]
def dirM (l : List Nm) : Mv := liM (l.map Zeh)
def wrD (l : List Nm) : List UInt8 := encM (dirM l)
def Zff (x : Mv) : Option Nm := match x.lst with
 | [a,b] => some (a.txt,b.num)
 | _ => none
def rdV (v : Mv) : List Nm := v.lst.filterMap Zff
def rdD (b : List UInt8) : List Nm := match decM b with
 | some v => rdV v
 | none => []
def NmOk (l : List Nm) : Prop := l.length ≤ 1024 ∧ ∀ x ∈ l,x.1.length ≤ 64 ∧ 0 ≤ x.2 ∧ x.2 ≤ 1000000
theorem Zkd (x : Nm) (m : Nat) : chkM (m + 1) (Zeh x) = 0 := Zm5 fun y hy => by
 simp only [List.mem_cons,List.not_mem_nil,or_false] at hy
 rcases hy with rfl | rfl
 ·exact Zsq _ _
 ·exact Zm4 _ _
theorem Zsp (l : List Nm) : chkM 8 (dirM l) = 0 := Zm5 fun y hy => by
 obtain ⟨x,_,rfl⟩ := List.mem_map.1 hy
 exact Zkd x _
theorem Zvz {x : Nm} (h : x.1.length ≤ 64 ∧ 0 ≤ x.2 ∧ x.2 ≤ 1000000) : fitM (Zeh x) := by
 rw [Zeh,fitM,Zcj,Zcj,Zcj,fitM,fitM,Zcj]
 refine ⟨by omega,by simp,⟨by omega,by omega,trivial⟩,⟨by omega,by simp,trivial⟩,trivial⟩
theorem Zse {l : List Nm} (h : ∀ x ∈ l,x.1.length ≤ 64 ∧ 0 ≤ x.2 ∧ x.2 ≤ 1000000) : fitM (dirM l) := by
 rw [dirM,fitM,fitMs_mem]
 refine ⟨by omega,by simp,fun y hy => ?_⟩
 obtain ⟨x,hx,rfl⟩ := List.mem_map.1 hy
 exact Zvz (h x hx)
theorem Zx3 (l : List Nm) : rdV (dirM l) = l := by
 show List.filterMap Zff (l.map Zeh) = l
 rw [List.filterMap_map]
 have : (Zff ∘ Zeh) = some := by funext x; rfl
 rw [this,List.filterMap_some]
theorem Zu1 {l : List Nm} (h : ∀ x ∈ l,x.1.length ≤ 64 ∧ 0 ≤ x.2 ∧ x.2 ≤ 1000000) : rdD (wrD l) = l := by
 unfold rdD wrD
 rw [Zm1 (Zsp l) (Zse h)]
 exact Zx3 l
theorem Zi1 : ∀ (k u : Nat),u < 10 ^ (k + 1) → (Lib.decDigits u).length ≤ k + 1
 | 0,u,h => by rw [Lib.decDigits_one (by simpa using h)]; simp
 | k + 1,u,h => by
  rw [Lib.decDigits]
  by_cases h' : u < 10
  ·rw [dif_pos h']; simp
  ·rw [dif_neg h',List.length_append]
   have := Zi1 k (u / 10) (by rw [Nat.pow_succ] at h; omega)
   simp; omega
theorem Zhh {n : Int} (h0 : 0 ≤ n) (h1 : n ≤ 1000000) : (Lib.itoa n).length ≤ 7 := by
 obtain ⟨u,rfl⟩ : ∃ u : Nat,n = u := ⟨n.toNat,by omega⟩
 rw [Zfv]; exact Zi1 6 u (by omega)
theorem Zv5 {x : Nm} (h : x.1.length ≤ 64 ∧ 0 ≤ x.2 ∧ x.2 ≤ 1000000) : (encM (Zeh x)).length ≤ 83 := by
 have h1 := Zhh (n := (x.1.length : Nat)) (by omega) (by omega)
 have h2 := Zhh h.2.1 h.2.2
 rw [Zeh,Zbt,Zaw,Zaw,Zaw,Zfy,Zdz]
 simp only [List.length_cons,List.length_append,List.length_nil]
 omega
theorem Zlp : ∀ {l : List Nm},(∀ x ∈ l,x.1.length ≤ 64 ∧ 0 ≤ x.2 ∧ x.2 ≤ 1000000) → (Zaw (l.map Zeh)).length ≤ 83 * l.length
 | [],_ => by simp [Zaw]
 | x :: l,h => by
  have h1 := Zv5 (h x (List.mem_cons_self ..))
  have h2 := Zlp fun y hy => h y (List.mem_cons_of_mem _ hy)
  rw [List.map_cons,Zaw,List.length_append,List.length_cons]; omega
theorem Zpu {l : List Nm} (h : NmOk l) : (wrD l).length ≤ 84994 := by
 have := Zlp h.2
 have := h.1
 rw [wrD,dirM,Zbt]
 simp only [List.length_cons,List.length_append,List.length_nil]; omega
theorem Zxl (x : Nm) : wM (Zeh x) = 3 + x.1.length := by
 simp only [Zeh,Zht,wMs,List.length_nil]; omega
theorem Zq9 : ∀ {l : List Nm},(∀ x ∈ l,x.1.length ≤ 64) → wMs (l.map Zeh) ≤ 67 * l.length
 | [],_ => by simp [wMs]
 | x :: l,h => by
  have h1 := h x (List.mem_cons_self ..)
  have h2 := Zq9 fun y hy => h y (List.mem_cons_of_mem _ hy)
  rw [List.map_cons,wMs,Zxl,List.length_cons]; omega
theorem Z0f {l : List Nm} (h : NmOk l) : wM (dirM l) ≤ 1048576 := by
 have := Zq9 (l := l) fun x hx => (h.2 x hx).1
 have := h.1
 rw [dirM,Zht]; simp only [List.length_nil]; omega
theorem Zi7 {m : Nat} : ∀ {l : List Mv},(∀ x ∈ l,chkM m x = 0) → 2 * l.length ≤ (Zaw l).length
 | [],_ => by simp
 | x :: l,h => by
  have h1 := Zmy (h x (List.mem_cons_self ..))
  have h2 := Zi7 (m := m) fun y hy => h y (List.mem_cons_of_mem _ hy)
  rw [Zaw,List.length_append,List.length_cons]; omega
theorem Zlu {s : List UInt8} {v : Mv} (h : decM s = some v) : 2 * v.lst.length ≤ s.length := by
 obtain ⟨rfl,hc,_⟩ := Ztz h
 rcases Zei hc with ⟨n,rfl⟩ | ⟨b,rfl⟩ | ⟨l,m',rfl,_,hl⟩
 ·simp [Mv.lst]
 ·simp [Mv.lst]
 ·have := Zi7 hl
  rw [Zbt]; simp [Mv.lst]; omega
end Cr
namespace Cr
open Go
theorem St.ownBase {W : World} {F : Nat → Prop} {rs : List Res} {w : World} {T c e : Nat} {a : Option Addr} {cs : List Value} (hS : St W F (own T e a c cs :: rs) w) (hpos : cs ≠ []) : ∃ b,a = some ⟨b,0,none⟩ := by
 obtain ⟨g,⟨g1,g2,hown,hrest,hdj,hun⟩,s⟩ := hS
 obtain ⟨hle,hcm,⟨rfl,_⟩ | ⟨b',cells,hbe,rfl,hcz,ht⟩⟩ := hown
 ·rw [Nat.zero_mul] at hle
  exact absurd (List.length_eq_zero_iff.1 (by omega)) hpos
 ·exact ⟨b',hbe⟩
end Cr
namespace Cr
open Go Go.Proofs
set_option maxRecDepth 100000
set_option maxHeartbeats 4000000
attribute [local irreducible] Calls

structure Bs where
 a : Option Addr
 c : Nat
 s : List UInt8
def Bs.val (x : Bs) : Value := .slice x.a x.s.length x.c
structure Bss (W : World) (F : Nat → Prop) (a : Option Addr) (l : List Bs) : Prop where
 row : Ro W F (row a (l.map Bs.val))
 all : ∀ x ∈ l,Ro W F (bytes x.a x.s)
def StrM.more (rd fs : List Int) (S : StrM) (l : List UInt8) : StrM := l.foldl (StrM.one rd fs) S
theorem StrM.more_ok {rd fs : List Int} (hf : fs.length = 8) : ∀ {l : List UInt8} {S : StrM},S.ok → (S.more rd fs l).ok
 | [],_,h => h
 | c :: l,S,h => by
  show (StrM.more rd fs (S.one rd fs c) l).ok
  exact StrM.more_ok (rd := rd) hf (StrM.one_ok (rd := rd) h hf)
theorem StrM.more_n {rd fs : List Int} : ∀ {l : List UInt8} {S : StrM},(S.more rd fs l).n = S.n + l.length
 | [],_ => rfl
 | c :: l,S => by
  have := StrM.more_n (rd := rd) (fs := fs) (l := l) (S := S.one rd fs c)
  simp only [StrM.more,List.foldl_cons,List.length_cons] at this ⊢
  rw [this]; simp only [StrM.one]; omega
theorem StrM.more_append {rd fs : List Int} {S : StrM} {l m : List UInt8} : S.more rd fs (l ++ m) = (S.more rd fs l).more rd fs m := by simp [StrM.more]
theorem StrM.more_snoc {rd fs : List Int} {S : StrM} {l : List UInt8} {i : Nat} (h : i < l.length) : S.more rd fs (l.take (i + 1)) = (S.more rd fs (l.take i)).one rd fs (l.getD i 0) := by
 rw [List.take_succ_eq_append_getElem h,StrM.more_append]
 simp [StrM.more,List.getD_eq_getElem?_getD,h]
def Zai (l : List Bs) : List UInt8 := l.flatMap Bs.s
theorem Zcr {l : List Bs} {i : Nat} {x : Bs} (h : l[i]? = some x) : Zai (l.take (i + 1)) = Zai (l.take i) ++ x.s := by
 obtain ⟨hi,rfl⟩ := List.getElem?_eq_some_iff.1 h
 rw [List.take_succ_eq_append_getElem hi]
 simp only [Zai,List.flatMap_append,List.flatMap_cons,List.flatMap_nil,List.append_nil]
theorem Zbe (l : List Bs) (i : Nat) : (Zai (l.take i)).length ≤ (Zai l).length := by
 have : Zai l = Zai (l.take i) ++ Zai (l.drop i) := by unfold Zai; rw [← List.flatMap_append,List.take_append_drop]
 rw [this]; simp

theorem Z1u (s : Nat) (S : StrM) (a : Option Addr) (c : Nat) (l : List Bs) (rd fs : List Int) (T : TypeId) (W : World) (F : Nat → Prop) (hok : S.ok) (hn : S.n + (Zai l).length < 2305843009213693951) (hl : l.length < 2305843009213693951) (hG : Gl W F rd fs)
  (hB : Bss W F a l) (hS : St W F [pts s (.cells S.cells.toArray T)] W) :
  Calls Tryz.prog 126 #[.pointer (some ⟨s,0,none⟩),.slice a l.length c] W (Ret fun v w => v = .pointer (some ⟨s,0,none⟩) ∧ St W F [pts s (.cells (S.more rd fs (Zai l)).cells.toArray T)] w) := by
 refine Zab Tryz.func126 rfl Tryz.ntmps126 rfl ?_
 repeat (first|refine Yd0 ?_|refine Yaf ?_|refine Yag ?_|refine Yav ?_|refine Ybr ?_|refine Yex ?_|refine Yab ?_)
 refine Zak (α := Nat) (fun i => [(0,.pointer (some ⟨s,0,none⟩)),(11,.slice a l.length c),(12,.int .i64 (l.length : Nat)),(13,.int .i64 (i : Nat))])
  (fun i w => i ≤ l.length ∧ St W F [pts s (.cells (S.more rd fs (Zai (l.take i))).cells.toArray T)] w) (fun i => l.length - i) 0 ⟨rfl,rfl,rfl,rfl,trivial⟩ ⟨Nat.zero_le _,hS⟩ ?_
 clear hS
 rintro i w ⟨hi,hS⟩
 by_cases hlt : i < l.length
 ·have hx : l[i]? = some l[i] := List.getElem?_eq_getElem hlt
  generalize l[i] = x at hx
  have hxm := List.mem_of_getElem? hx
  have hbx := hB.all x hxm
  have hj := Zcr hx
  have hle := Zbe l (i + 1)
  rw [hj,List.length_append] at hle
  obtain ⟨ab,ao,rfl⟩ := (hB.row.rd hS).base (by intro e; simp at e; subst e; simp at hlt)
  have hr := hB.row
  replace hx : (l.map Bs.val)[i]? = some (.slice x.a x.s.length x.c) := by simp [hx,Bs.val]
  repeat (first|refine Yd0 ?_|(refine X_id ?_;first|refine Yaf ?_|refine Yag ?_|refine Yav ?_|refine Ya2 ?_|refine Ybc ?_|refine Yb5 ?_)|refine Yd4 ?_|refine Yab ?_)
  refine Zak (α := Nat) (fun j => [(0,.pointer (some ⟨s,0,none⟩)),(11,.slice (some ⟨ab,ao,none⟩) l.length c),(12,.int .i64 (l.length : Nat)),(13,.int .i64 (i : Nat)),(17,.slice x.a x.s.length x.c),(18,.int .i64 (x.s.length : Nat)),(19,.int .i64 (j : Nat))])
   (fun j w => j ≤ x.s.length ∧ St W F [pts s (.cells (S.more rd fs (Zai (l.take i) ++ x.s.take j)).cells.toArray T)] w) (fun j => x.s.length - j) 0 ⟨rfl,rfl,rfl,rfl,rfl,rfl,rfl,trivial⟩ ⟨Nat.zero_le _,by simpa using hS⟩ ?_
  clear hS
  rintro j w ⟨hj',hS⟩
  by_cases hjl : j < x.s.length
  ·obtain ⟨xb,xo,hxa⟩ := (hbx.rd hS).base (by intro e; have := Zaq x.s; rw [e] at this; simp at this; omega)
   have hb : Ro W F (bytes (some ⟨xb,xo,none⟩) x.s) := hxa ▸ hbx
   rw [hxa]
   repeat (first|refine Yd0 ?_|(refine X_id ?_;first|refine Yaf ?_|refine Yag ?_|refine Ya2 ?_|refine Ybc ?_|refine X_yl (Zar rfl rfl ((hb.rd hS).cellB' (by omega))) rfl rfl ?_)|refine Yd4 ?_|refine Yab ?_)
   obtain ⟨S',hSe⟩ : ∃ S',S' = S.more rd fs (Zai (l.take i) ++ x.s.take j) := ⟨_,rfl⟩
   have hok' : S'.ok := hSe ▸ StrM.more_ok hG.first8 hok
   have hn' : S'.n < 2305843009213693951 := by rw [hSe,StrM.more_n]; simp; omega
   rw [← hSe] at hS
   obtain ⟨_,hc,hr,hw,hbk⟩ := hS.call [true]
   refine Zaa _ rfl rfl rfl rfl rfl (one_ s S' _ rd fs T _ _ hok' hn' (hG.mono hw) hc) ?_
   rintro _ w ⟨_,hS⟩
   replace hS := hbk hS
   clear hc hr hw hbk
   repeat (first|refine Yd0 ?_|refine Yd5 ?_|refine Yad ?_|refine Yd8 ?_)
   refine Zaf (j + 1) ⟨rfl,rfl,rfl,rfl,rfl,rfl,rfl,trivial⟩ ⟨by omega,?_⟩ (by omega)
   rw [StrM.more_append,StrM.more_snoc hjl,← StrM.more_append,← hSe]
   rw [show (j : Int).toNat * 1 = j by omega] at hS
   exact hS
  ·obtain rfl : j = x.s.length := by omega
   repeat (first|refine Yd0 ?_|refine Yaf ?_|refine Ya3 ?_|refine Yax ?_|refine Yec ?_|refine Yab ?_|refine Ya9 ?_|refine Yba ?_|refine Yat ?_)
   refine Zaf (i + 1) ⟨rfl,rfl,rfl,rfl,trivial⟩ ⟨by omega,?_⟩ (by omega)
   rw [hj]
   rw [List.take_length] at hS
   exact hS
 ·obtain rfl : i = l.length := by omega
  rw [List.take_length] at hS
  repeat (first|refine Yd0 ?_|refine Yey ?_|refine Yd9 ?_|refine Yez ?_)
  exact ⟨rfl,hS⟩

/-! ### Fork -/
def StrM.init : StrM := ⟨List.replicate 8 0,List.replicate 64 0,0⟩
theorem StrM.init_ok : StrM.init.ok := ⟨by simp [init],by simp [init]⟩
theorem Z5l (s : Nat) (S : StrM) (T : TypeId) (W : World) (hok : S.ok) (hs : Rd W (pts s (.cells S.cells.toArray T))) :
  Calls Tryz.prog 193 #[.pointer (some ⟨s,0,none⟩)] W (Ret fun v w => ∃ p,v = .pointer (some ⟨p,0,none⟩) ∧ St W noF [pts p (.cells S.cells.toArray 263)] w) := by
 obtain ⟨H,R,n⟩ := S
 obtain ⟨h8,r64⟩ := hok
 unfold StrM.cells at hs ⊢
 simp only at h8 r64 hs ⊢
 have hl1 : LenO (ints .u32 H) 8 := ⟨by rw [ints_length]; exact h8⟩
 have hl2 : LenO (bv R) 64 := ⟨by simp [r64]⟩
 have hc := hs.ro
 have hS := St.start W
 refine Zab Tryz.func193 rfl Tryz.ntmps193 rfl ?_
 repeat (first|refine Yd0 ?_|(refine X_id ?_;first|refine Yaf ?_|refine Yag ?_|refine Yau ?_|refine Ybk ?_|refine Ydh ?_|refine Ya6 (fun _ _ hS _ => ?_))|refine Yea ?_|refine Yab ?_)
 rename_i bx wx _
 replace hS : St W noF [pts bx (.cells (ints .u32 (List.replicate 8 0) ++ (bv (List.replicate 64 0) ++ [Value.int .i64 0])).toArray 263)] wx := hS
 have hl3 : LenO (ints .u32 (List.replicate 8 0)) 8 := ⟨by rw [ints_length]; simp⟩
 refine X_yl (Zcx rfl rfl (CellsAt.of_block (hc.rd hS).pts) (by simp [ints_length,h8,r64])) rfl rfl ?_
 repeat (first|refine Yd0 ?_|refine Yaf ?_|refine Yag ?_|refine Yau ?_|refine Ycl (fun _ hS => ?_)|refine Yed ?_|refine Yd2 ?_)
 exact ⟨_,rfl,hS⟩
end Cr
namespace Cr
open Go
set_option maxRecDepth 10000
section
variable {P : Program} {o : Oper} {σ : Env} {w : World} {x y : Operand} {t ty e : TypeId} {N : Nat} {ds : Md} {K : Env → World → Prop}
theorem Zni {T bytes d c : Nat} {k k' : IntKind} {W : World} {F : Nat → Prop} {rs : List Res} (ho : o.op = .makeSlice t x y) (hx : ev σ x = some (.int k (c : Nat))) (hy : ev σ y = some (.int k' (c : Nat)))
  [h : Und P t (.slice T)] [hi : Inf P T (.int .u8 0) 1 bytes] (hb : bytes * c ≤ 281474976710656) (hm : c ≤ 9223372036854775807) (hd : o.dst = some d) (hN : Nat.blt d N = true) (hS : St W F rs w)
  (hk : ∀ b w',St W F (pts b (.cells (bv (List.replicate c 0)).toArray T) :: rs) w' → K ((d,.slice (some ⟨b,0,none⟩) c c) :: σ) w') : X P o N ds σ w K :=
 Zz9 ho hx hy (by omega) (Int.le_refl _) (by rw [← Int.natCast_mul]; omega) (by omega) hd hN hS fun b w' hS' _ => hk b w' (by
  have e1 : (Value.int .u8 0).cells = #[Value.int .u8 0] := rfl
  rw [e1,Zmn,Int.toNat_natCast,Nat.mul_one,Zgb] at hS'
  exact hS')
theorem Zw1 {N : Nat} {ds : Md} {K : Env → World → Prop} {b off j : Nat} {c : UInt8} {L : List UInt8} {T : TypeId} {W : World} {F : Nat → Prop} {rs rs' : List Res} (ho : o.op = .store t x y) (hx : ev σ x = some (.pointer (some (adr (some ⟨b,off,none⟩) j)))) (hy : ev σ y = some (.int .u8 (c.toNat : Int))) [hs : Siz P t 1]
  (hd : o.dst = none) (hS : St W F rs w) [hh : Has rs b (.cells (bv L).toArray T (0,0))] (hfit : off + j < L.length) [hu : Upd rs b (.cells (bv (L.set (off + j) c)).toArray T (0,0)) rs']
  (h : ∀ w',St W F rs' w' → K σ w') : X P o N ds σ w K := Zng (off := off + j) ho hx hy hd hS hfit h
end
def rds (l : List Bs) : Res := Sep (l.map fun x => bytes x.a x.s)
theorem St.rdsNil {W : World} {F : Nat → Prop} {rs : List Res} {w : World} (hS : St W F rs w) : St W F (rds [] :: rs) w := by
 obtain ⟨h,hs,s⟩ := hS
 exact ⟨h,⟨fun _ => none,h,fun _ => rfl,hs,fun _ => .inl rfl,fun _ => by simp⟩,s⟩
theorem St.rdsCons {W : World} {F : Nat → Prop} {rs : List Res} {w : World} {x : Bs} {l : List Bs} (hS : St W F (bytes x.a x.s :: rds l :: rs) w) : St W F (rds (l ++ [x]) :: rs) w := by
 obtain ⟨h,hs,s⟩ := hS
 refine ⟨h,?_,s⟩
 obtain ⟨h1,h2,a,⟨h3,h4,b,c,d',u'⟩,d,u⟩ := hs
 refine ⟨fun k => (h1 k).or (h3 k),h4,?_,c,fun k => ?_,fun k => ?_⟩
 ·have : Sep (bytes x.a x.s :: (l.map fun x => bytes x.a x.s)) (fun k => (h1 k).or (h3 k)) := ⟨h1,h3,a,b,fun k => by
   rcases d k with e | e
   ·exact .inl e
   ·rw [u'] at e; simp at e; exact .inr e.1,fun _ => rfl⟩
  have p : (bytes x.a x.s :: (l.map fun x => bytes x.a x.s)).Perm ((l ++ [x]).map fun x => bytes x.a x.s) := by
   rw [List.map_append]; exact (List.perm_append_comm (l₁ := [bytes x.a x.s]) (l₂ := l.map fun x => bytes x.a x.s))
  exact Sep.perm p _ this
 ·rcases d k with e | e
  ·rcases d' k with e' | e'
   ·left; simp [e,e']
   ·exact .inr e'
  ·rw [u'] at e; simp at e; exact .inr e.2
 ·rw [u,u']; cases e1 : h1 k <;> simp [e1]
theorem Ro.sep {W : World} {F : Nat → Prop} {rs : List Res} (H : Ro W F (Sep rs)) : ∀ r ∈ rs,Ro W F r := by
 obtain ⟨f,hs,ha⟩ := H
 induction rs generalizing f with
 | nil => intro r hr; cases hr
 | cons x rs ih =>
  obtain ⟨h1,h2,hx,hrs,hd,hu⟩ := hs
  have s1 : ∀ b o,h1 b = some o → f b = some o := fun b o e => by rw [hu,e]; rfl
  have s2 : ∀ b o,h2 b = some o → f b = some o := fun b o e => by
   rw [hu]; rcases hd b with e' | e'
   ·simp [e',e]
   ·rw [e] at e'; simp at e'
  intro r hr
  cases hr with
  | head => exact ⟨h1,hx,fun b o e => ha b o (s1 b o e)⟩
  | tail _ hr => exact ih h2 hrs (fun b o e => ha b o (s2 b o e)) r hr
theorem Ro.rds {W : World} {F : Nat → Prop} {l : List Bs} (H : Ro W F (rds l)) : ∀ x ∈ l,Ro W F (bytes x.a x.s) := fun x hx => Ro.sep H _ (List.mem_map.2 ⟨x,hx,rfl⟩)
end Cr
namespace Cr
open Go
section
variable {W : World} {F : Nat → Prop} {rs : List Res} {w : World} {r : Res} {l : List Res}
theorem St.sepOpen (hS : St W F (Sep (r :: l) :: rs) w) : St W F (r :: Sep l :: rs) w := by
 obtain ⟨h,⟨h1,h2,⟨g1,g2,hr,hl,hdg,hug⟩,hrs,hd,hu⟩,s⟩ := hS
 refine ⟨h,Sep.append_mk (rs := [r,Sep l]) (h1 := h1) ⟨g1,g2,hr,⟨g2,fun _ => none,hl,fun _ => rfl,fun _ => .inr rfl,fun _ => by simp⟩,hdg,hug⟩ hrs hd hu,s⟩
theorem Zxv {h : Frag} (H : Sep [r,Sep l] h) : Sep (r :: l) h := by
 obtain ⟨h1,h2,a,⟨h3,h4,b,c,d',u'⟩,d,u⟩ := H
 have e : h2 = h3 := by
  funext k
  have hc : h4 k = none := c k
  rw [u',hc]; simp
 subst e
 exact ⟨h1,h2,a,b,d,u⟩
theorem St.sepShut (hS : St W F (r :: Sep l :: rs) w) : St W F (Sep (r :: l) :: rs) w := St.shutR (rs' := [r,Sep l]) hS fun _ hh => Zxv hh
theorem St.sepNil (hS : St W F rs w) : St W F (Sep [] :: rs) w := by
 obtain ⟨h,hs,s⟩ := hS
 exact ⟨h,⟨fun _ => none,h,fun _ => rfl,hs,fun _ => .inl rfl,fun _ => by simp⟩,s⟩
theorem St.sepPerm {l' : List Res} (p : l.Perm l') (hS : St W F (Sep l :: rs) w) : St W F (Sep l' :: rs) w := hS.head (Sep.perm p)
theorem St.sepSnoc (hS : St W F (r :: Sep l :: rs) w) : St W F (Sep (l ++ [r]) :: rs) w :=
 St.sepPerm (List.perm_append_comm (l₁ := [r]) (l₂ := l)) (hS.sepShut)
end
end Cr
namespace Cr
open Go

theorem Zon {n : Int} (h0 : -9223372036854775808 ≤ n) (h1 : n ≤ 9223372036854775807) : (Lib.itoa n).length ≤ 20 := by
 unfold Lib.itoa
 split
 ·have := Zi1 18 n.natAbs (by rw [show (10 : Nat) ^ (18 + 1) = 10000000000000000000 from rfl]; omega)
  simp; omega
 ·have := Zi1 18 n.toNat (by rw [show (10 : Nat) ^ (18 + 1) = 10000000000000000000 from rfl]; omega)
  omega
mutual
def eM : Mv → Nat
 | .mk _ _ b l => 24 + b.length + eMs l
def eMs : List Mv → Nat
 | [] => 0
 | x :: l => eM x + eMs l
end
theorem Zmz (k n : Int) (b : List UInt8) (l : List Mv) : eM (.mk k n b l) = 24 + b.length + eMs l := by rw [eM]
theorem Zlq : ∀ l m : List Mv,eMs (l ++ m) = eMs l + eMs m
 | [],m => by simp [eMs]
 | x :: l,m => by rw [List.cons_append,eMs,eMs,Zlq l m,Nat.add_assoc]
theorem Zsm (l : List Mv) (x : Mv) : eMs (l ++ [x]) = eMs l + eM x := by rw [Zlq,eMs,eMs,Nat.add_zero]
mutual
theorem Z2m : ∀ v : Mv,wM v ≤ eM v
 | .mk k n b l => by
  have := Zk1 l
  rw [Zht,Zmz]; omega
theorem Zk1 : ∀ l : List Mv,wMs l ≤ eMs l
 | [] => by simp [wMs]
 | x :: l => by
  have h1 := Z2m x
  have h2 := Zk1 l
  rw [wMs,eMs]; omega
end
mutual
theorem Zv6 : ∀ v : Mv,fitM v → (encM v).length ≤ eM v
 | .mk k n b l,h => by
  rw [fitM] at h
  have h1 := Zon h.1.1 h.1.2
  have h2 := Zon (n := (b.length : Nat)) (by omega) (by have := h.2.1; omega)
  have h3 := Zsl l h.2.2
  rw [encM,Zmz]
  split
  ·simp only [List.length_cons,List.length_append,List.length_nil]; omega
  ·split
   ·simp only [List.length_cons,List.length_append]; omega
   ·simp only [List.length_cons,List.length_append,List.length_nil]; omega
theorem Zsl : ∀ l : List Mv,Zcj l → (Zaw l).length ≤ eMs l
 | [],_ => by simp [Zaw]
 | x :: l,h => by
  rw [Zcj] at h
  have h1 := Zv6 x h.1
  have h2 := Zsl l h.2
  rw [Zaw,eMs,List.length_append]; omega
end
mutual
def eqM : Mv → Mv → Bool
 | .mk k n b l,.mk k' n' b' l' => decide (k = k') && (decide (n = n') && (decide (b = b') && eqMs l l'))
def eqMs : List Mv → List Mv → Bool
 | [],[] => true
 | x :: l,y :: m => eqM x y && eqMs l m
 | [],_ :: _ => false
 | _ :: _,[] => false
end
mutual
theorem Zsi : ∀ v : Mv,eqM v v = true
 | .mk k n b l => by rw [eqM,Zox l]; simp
theorem Zox : ∀ l : List Mv,eqMs l l = true
 | [] => by rw [eqMs]
 | x :: l => by rw [eqMs,Zsi x,Zox l]; rfl
end
theorem Zsh : ∀ {l m : List Mv},l.length ≠ m.length → eqMs l m = false
 | [],[],h => absurd rfl h
 | [],y :: m,_ => by rw [eqMs]
 | x :: l,[],_ => by rw [eqMs]
 | x :: l,y :: m,h => by
  rw [eqMs,Zsh (by simpa using h),Bool.and_false]
structure Lv where
 a : Option Addr
 c : Nat
 rows : List (List Value)
 l : List Mv
def lvC (L : Lv) : List Value := [.int .i64 2,.int .i64 0,.slice none 0 0,.slice L.a L.l.length L.c]
def lvV (ls : List Lv) : List Value := (ls.map lvC).flatten
def lvO (T : TypeId) (L : Lv) : Res := own T 4 L.a L.c L.rows.flatten
structure LvOk (X : List RowD) (L : Lv) : Prop where
 rd : Mrds (RX X) L.l L.rows
 cap : L.l.length ≤ L.c
 fit : Zcj L.l
def lvS : List Lv → Nat
 | [] => 0
 | L :: ls => 24 + eMs L.l + lvS ls
theorem Zbb : ∀ l m : List Lv,lvS (l ++ m) = lvS l + lvS m
 | [],m => by simp [lvS]
 | x :: l,m => by rw [List.cons_append,lvS,lvS,Zbb l m]; omega
theorem Zdm (L : Lv) : lvS [L] = 24 + eMs L.l := by rw [lvS,lvS,Nat.add_zero]
theorem LvOk.mono {X Y : List RowD} {L : Lv} (h : LvOk X L) (hX : ∀ x ∈ X,x ∈ Y) : LvOk Y L := ⟨h.rd.mono fun _ _ h => h.sub hX,h.cap,h.fit⟩
theorem Z1h (L : Lv) : (lvC L).length = 4 := rfl
theorem Zd7 : ∀ ls : List Lv,(lvV ls).length = ls.length * 4
 | [] => rfl
 | L :: ls => by
  show (lvC L ++ lvV ls).length = _
  rw [List.length_append,Z1h,Zd7 ls,List.length_cons]; omega
theorem Zhf (ls : List Lv) (L : Lv) : lvV (ls ++ [L]) = lvV ls ++ lvC L := by
 unfold lvV; rw [List.map_append,List.flatten_append]; simp
theorem Zts {l : List Mv} {x : Mv} (h : Zcj l) (hx : fitM x) : Zcj (l ++ [x]) := fitMs_mem.2 fun y hy => by
 rcases List.mem_append.1 hy with hy | hy
 ·exact fitMs_mem.1 h y hy
 ·obtain rfl : y = x := by simpa using hy
  exact hx
theorem Z1g (ls : List Lv) (L : Lv) (r : List Value) : (lvV (ls ++ [L]) ++ r)[ls.length * 4 + 3]? = some (.slice L.a L.l.length L.c) := by
 rw [Zhf,List.append_assoc,List.getElem?_append_right (by rw [Zd7]; omega),Zd7,show ls.length * 4 + 3 - ls.length * 4 = 3 by omega]
 rfl
theorem Z3g (ls : List Lv) (L : Lv) : (lvV (ls ++ [L]))[ls.length * 4 + 3]? = some (.slice L.a L.l.length L.c) := by
 have := Z1g ls L []
 rwa [List.append_nil] at this
theorem Zvf (ls : List Lv) (L : Lv) : ((lvV (ls ++ [L])).drop (ls.length * 4)).take 4 = lvC L := by
 rw [Zhf,← Zd7 ls,List.drop_left]; rfl
theorem Zzr (ls : List Lv) (L : Lv) (r : List Value) (a : Option Addr) (n c : Nat) (rows : List (List Value)) (l : List Mv) (hn : l.length = n) : (lvV (ls ++ [L]) ++ r).set (ls.length * 4 + 3) (.slice a n c) = lvV (ls ++ [⟨a,c,rows,l⟩]) ++ r := by
 subst hn
 rw [Zhf,Zhf,List.append_assoc,List.append_assoc,List.set_append_right _ _ (by rw [Zd7]; omega),Zd7,show ls.length * 4 + 3 - ls.length * 4 = 3 by omega]
 rfl
theorem Z1f (ls : List Lv) (L : Lv) (a : Option Addr) (n c : Nat) (rows : List (List Value)) (l : List Mv) (hn : l.length = n) : (lvV (ls ++ [L])).set (ls.length * 4 + 3) (.slice a n c) = lvV (ls ++ [⟨a,c,rows,l⟩]) := by
 have := Zzr ls L [] a n c rows l hn
 rwa [List.append_nil,List.append_nil] at this
theorem Zru (ls : List Lv) (P L : Lv) : lvV (ls ++ [P] ++ [L]) = lvV (ls ++ [P]) ++ lvC L := Zhf _ _
theorem Zhx {fl z cs : List Value} {i : Nat} (hf : fl.length = i) (hz : z.length = cs.length) : Zah (fl ++ z) i cs = fl ++ cs := by
 subst hf
 unfold Zah
 rw [List.take_left,← hz,← List.length_append,List.drop_length,List.append_nil]
theorem LvOk.snoc {X : List RowD} {L : Lv} {a : Option Addr} {c : Nat} {y : Mv} {cs : List Value} (h : LvOk X L) (hy : Mrd (RX X) y cs) (hc : L.l.length + 1 ≤ c) (hf : fitM y) : LvOk X ⟨a,c,L.rows ++ [cs],L.l ++ [y]⟩ :=
 ⟨h.rd.snoc hy,by simpa using hc,Zts h.fit hf⟩
theorem Zov (rows : List (List Value)) (cs : List Value) : (rows ++ [cs]).flatten = rows.flatten ++ cs := by rw [List.flatten_append]; simp
theorem LvOk.val {X : List RowD} {L : Lv} (h : LvOk X L) (hX : (L.a,L.rows.flatten) ∈ X) : Mrd (RX X) (liM L.l) (lvC L) :=
 .mk' (b := []) (rows := L.rows) rfl rfl (Nat.zero_le _) .nil (.mem hX) h.rd.1 h.rd.2
theorem LvOk.fitV {X : List RowD} {L : Lv} (h : LvOk X L) : fitM (liM L.l) := by
 rw [fitM]; exact ⟨by omega,by simp,h.fit⟩
theorem Z31 (l : List Mv) : eM (liM l) = 24 + eMs l := by rw [Zmz]; simp
end Cr
