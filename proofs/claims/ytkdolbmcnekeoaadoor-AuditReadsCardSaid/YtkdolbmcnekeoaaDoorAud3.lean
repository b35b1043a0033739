/-
  FACTS ON THE TYPES AND FUNCTIONS OF THIS SEAT's TRANSLATION, written by a program off the dump's rows; each is proved by the kernel.
  DERIVED: THE SHELF's CONTRACTS AT THIS DUMP, IN PLAIN WORDS (tools/lay-plain.mjs out of 'TrydShelf.lean', which tools/lay-shelf.mjs wrote): THE SAME DECLARATIONS UNDER THE SAME NAMES: 'import', 'namespace', 'open', 'def', 'theorem' AND NOTHING ELSE: no command of the shelf's: FOR A HAND-IN. Each laying: the table of numbers ('.._ren') and one theorem, a field a fact of the dump's own or the kernel's comparison; each contract: ONE APPLICATION.
  The library's functions that packages codec and command call: numbers as text and back, bytes copied and compared.
  The wrap of layer 29's and 27's laws: what the rows list, a world for a witness; what is as it was reads as it did.
  A law's arguments, opened: bytes, lists of writes. What is read of them, by the reading that the row gives.
-/
import Derived.Test.YtkdolbmcnekeoaaDoorAud2
import Derived.Test.YtkdolbmcnekeoaaDoorRows
import Derived.Shelf.Strconv.Atoi
import Derived.Shelf.Strconv.Itoa0
import Derived.Shelf.Strconv.Itoa1
import Derived.Shelf.LaysM
import Derived.Shelf.Strconv.Itoa2
import Derived.Shelf.Strconv.Itoa3
import Derived.Shelf.Strconv.AtoiErrFast
import Derived.Shelf.Strconv.ParseIntEmpty
import Derived.Shelf.Strconv.AtoiFail
import Derived.Shelf.Strconv.Clone
import Derived.Shelf.Strconv.SyntaxError
import Derived.Shelf.LaysC
import Derived.Shelf.Strconv.ToError
import Derived.Shelf.Strconv.Lower
import Derived.Shelf.Strconv.ParseUint10
import Derived.Shelf.Strconv.ParseUint10Empty
import Derived.Shelf.Strconv.ParseUint10Any
import Derived.Shelf.Strconv.ParseInt10
import Derived.Shelf.Strconv.AtoiLong
import Derived.Shelf.Strconv.AtoiInnerAll
import Derived.Shelf.Strconv.RangeError
import Derived.Shelf.Strconv.ToErrorRange
import Derived.Shelf.Strconv.AtoiAll
import Derived.Shelf.Strconv.ErrVarAll
import Derived.Shelf.Strings.Fields
import Derived.Shelf.Strings.SplitShaped
import Derived.Shelf.Unicode.Latin
import Derived.Shelf.Unicode.Is16Any
import Derived.Shelf.Slices.Turned
import Derived.Test.YtkdolbmcnekeoaaDoorProg
import Derived.Lib.LaidTab
import Derived.KernelRfl
import Derived.Test.YtkdolbmcnekeoaaDoorCards
import Derived.Test.YtkdolbmcnekeoaaDoorTie
import Derived.WalkKit
import Derived.ProofKit
import Derived.OpenShut
import Derived.Deep.DeepHandedRow
import Derived.Stop.LaidErr
import Derived.Carry
import Derived.Deep.SlicePairs
namespace Cr
open Go Go.Proofs
instance : One Tryd.prog 1 := ⟨fun w => run_isAgg Tryd.underlying1 w⟩
instance : Inf Tryd.prog 1 .nilFunc 1 8 := ⟨by kernel_rfl, by kernel_rfl⟩
instance : Und Tryd.prog 2 (.int .i64) := ⟨Tryd.underlying2⟩
instance : Inf Tryd.prog 2 (.int .i64 0) 1 8 := ⟨by kernel_rfl, by kernel_rfl⟩
instance : Und Tryd.prog 3 (.int .i64) := ⟨Tryd.underlying3⟩
instance : Inf Tryd.prog 3 (.int .i64 0) 1 8 := ⟨by kernel_rfl, by kernel_rfl⟩
instance : Und Tryd.prog 4 (.bool) := ⟨Tryd.underlying4⟩
instance : Inf Tryd.prog 4 (.bool false) 1 1 := ⟨by kernel_rfl, by kernel_rfl⟩
instance : Und Tryd.prog 5 (.int .u8) := ⟨Tryd.underlying5⟩
instance : Inf Tryd.prog 5 (.int .u8 0) 1 1 := ⟨by kernel_rfl, by kernel_rfl⟩
instance : Und Tryd.prog 6 (.int .u8) := ⟨Tryd.underlying6⟩
instance : Inf Tryd.prog 6 (.int .u8 0) 1 1 := ⟨by kernel_rfl, by kernel_rfl⟩
instance : Agg Tryd.prog 7 := ⟨fun w => run_isAgg Tryd.underlying7 w⟩
instance : Inf Tryd.prog 7 (.agg #[(.int .i64 0), (.int .i64 0), (.bool false), (.int .u8 0)]) 4 24 := ⟨by kernel_rfl, by kernel_rfl⟩
instance : Str Tryd.prog 7 [(0, 1), (1, 1), (2, 1), (3, 1)] := ⟨⟨_, Tryd.underlying7, by kernel_rfl, by kernel_rfl⟩⟩
instance : Fld Tryd.prog 7 0 0 2 1 := ⟨⟨_, _, Tryd.underlying7, rfl, rfl, rfl, by kernel_rfl⟩⟩
instance : Fld Tryd.prog 7 1 1 3 1 := ⟨⟨_, _, Tryd.underlying7, rfl, rfl, rfl, by kernel_rfl⟩⟩
instance : Fld Tryd.prog 7 2 2 4 1 := ⟨⟨_, _, Tryd.underlying7, rfl, rfl, rfl, by kernel_rfl⟩⟩
instance : Fld Tryd.prog 7 3 3 6 1 := ⟨⟨_, _, Tryd.underlying7, rfl, rfl, rfl, by kernel_rfl⟩⟩
instance : Agg Tryd.prog 8 := ⟨fun w => run_isAgg Tryd.underlying8 w⟩
instance : Inf Tryd.prog 8 (.agg #[(.int .i64 0), (.int .i64 0), (.bool false), (.int .u8 0)]) 4 24 := ⟨by kernel_rfl, by kernel_rfl⟩
instance : Str Tryd.prog 8 [(0, 1), (1, 1), (2, 1), (3, 1)] := ⟨⟨_, Tryd.underlying8, by kernel_rfl, by kernel_rfl⟩⟩
instance : Fld Tryd.prog 8 0 0 2 1 := ⟨⟨_, _, Tryd.underlying8, rfl, rfl, rfl, by kernel_rfl⟩⟩
instance : Fld Tryd.prog 8 1 1 3 1 := ⟨⟨_, _, Tryd.underlying8, rfl, rfl, rfl, by kernel_rfl⟩⟩
instance : Fld Tryd.prog 8 2 2 4 1 := ⟨⟨_, _, Tryd.underlying8, rfl, rfl, rfl, by kernel_rfl⟩⟩
instance : Fld Tryd.prog 8 3 3 6 1 := ⟨⟨_, _, Tryd.underlying8, rfl, rfl, rfl, by kernel_rfl⟩⟩
instance : Und Tryd.prog 9 (.string) := ⟨Tryd.underlying9⟩
instance : Inf Tryd.prog 9 (.string ⟨#[]⟩) 1 16 := ⟨by kernel_rfl, by kernel_rfl⟩
instance : Und Tryd.prog 10 (.string) := ⟨Tryd.underlying10⟩
instance : Inf Tryd.prog 10 (.string ⟨#[]⟩) 1 16 := ⟨by kernel_rfl, by kernel_rfl⟩
instance : Und Tryd.prog 11 (.string) := ⟨Tryd.underlying11⟩
instance : Inf Tryd.prog 11 (.string ⟨#[]⟩) 1 16 := ⟨by kernel_rfl, by kernel_rfl⟩
instance : Und Tryd.prog 12 (.int .u64) := ⟨Tryd.underlying12⟩
instance : Inf Tryd.prog 12 (.int .u64 0) 1 8 := ⟨by kernel_rfl, by kernel_rfl⟩
instance : Agg Tryd.prog 13 := ⟨fun w => run_isAgg Tryd.underlying13 w⟩
instance : Inf Tryd.prog 13 (.agg #[(.string ⟨#[]⟩), (.int .u64 0)]) 2 24 := ⟨by kernel_rfl, by kernel_rfl⟩
instance : Str Tryd.prog 13 [(0, 1), (1, 1)] := ⟨⟨_, Tryd.underlying13, by kernel_rfl, by kernel_rfl⟩⟩
instance : Fld Tryd.prog 13 0 0 9 1 := ⟨⟨_, _, Tryd.underlying13, rfl, rfl, rfl, by kernel_rfl⟩⟩
instance : Fld Tryd.prog 13 1 1 12 1 := ⟨⟨_, _, Tryd.underlying13, rfl, rfl, rfl, by kernel_rfl⟩⟩
instance : Agg Tryd.prog 14 := ⟨fun w => run_isAgg Tryd.underlying14 w⟩
instance : Inf Tryd.prog 14 (.agg #[(.string ⟨#[]⟩), (.int .u64 0)]) 2 24 := ⟨by kernel_rfl, by kernel_rfl⟩
instance : Str Tryd.prog 14 [(0, 1), (1, 1)] := ⟨⟨_, Tryd.underlying14, by kernel_rfl, by kernel_rfl⟩⟩
instance : Fld Tryd.prog 14 0 0 9 1 := ⟨⟨_, _, Tryd.underlying14, rfl, rfl, rfl, by kernel_rfl⟩⟩
instance : Fld Tryd.prog 14 1 1 12 1 := ⟨⟨_, _, Tryd.underlying14, rfl, rfl, rfl, by kernel_rfl⟩⟩
instance : Und Tryd.prog 15 (.pointer 186) := ⟨Tryd.underlying15⟩
instance : Inf Tryd.prog 15 (.pointer none) 1 8 := ⟨by kernel_rfl, by kernel_rfl⟩
instance : Und Tryd.prog 16 (.pointer 189) := ⟨Tryd.underlying16⟩
instance : Inf Tryd.prog 16 (.pointer none) 1 8 := ⟨by kernel_rfl, by kernel_rfl⟩
instance : Und Tryd.prog 17 (.pointer 197) := ⟨Tryd.underlying17⟩
instance : Inf Tryd.prog 17 (.pointer none) 1 8 := ⟨by kernel_rfl, by kernel_rfl⟩
instance : Agg Tryd.prog 18 := ⟨fun w => run_isAgg Tryd.underlying18 w⟩
instance : Inf Tryd.prog 18 (.agg #[(.pointer none)]) 1 8 := ⟨by kernel_rfl, by kernel_rfl⟩
instance : Str Tryd.prog 18 [(0, 1)] := ⟨⟨_, Tryd.underlying18, by kernel_rfl, by kernel_rfl⟩⟩
instance : Fld Tryd.prog 18 0 0 17 1 := ⟨⟨_, _, Tryd.underlying18, rfl, rfl, rfl, by kernel_rfl⟩⟩
instance : Agg Tryd.prog 19 := ⟨fun w => run_isAgg Tryd.underlying19 w⟩
instance : Inf Tryd.prog 19 (.agg #[(.pointer none)]) 1 8 := ⟨by kernel_rfl, by kernel_rfl⟩
instance : Str Tryd.prog 19 [(0, 1)] := ⟨⟨_, Tryd.underlying19, by kernel_rfl, by kernel_rfl⟩⟩
instance : Fld Tryd.prog 19 0 0 17 1 := ⟨⟨_, _, Tryd.underlying19, rfl, rfl, rfl, by kernel_rfl⟩⟩
instance : One Tryd.prog 20 := ⟨fun w => run_isAgg Tryd.underlying20 w⟩
instance : Inf Tryd.prog 20 .nilIface 1 16 := ⟨by kernel_rfl, by kernel_rfl⟩
instance : Und Tryd.prog 21 (.int .i32) := ⟨Tryd.underlying21⟩
instance : Inf Tryd.prog 21 (.int .i32 0) 1 4 := ⟨by kernel_rfl, by kernel_rfl⟩
instance : Und Tryd.prog 22 (.slice 5) := ⟨Tryd.underlying22⟩
instance : Inf Tryd.prog 22 (.slice none 0 0) 1 24 := ⟨by kernel_rfl, by kernel_rfl⟩
instance : Und Tryd.prog 23 (.array 2 9) := ⟨Tryd.underlying23⟩
instance : Inf Tryd.prog 23 (.agg #[(.string ⟨#[]⟩), (.string ⟨#[]⟩)]) 2 32 := ⟨by kernel_rfl, by kernel_rfl⟩
instance : Und Tryd.prog 24 (.array 3 9) := ⟨Tryd.underlying24⟩
instance : Inf Tryd.prog 24 (.agg #[(.string ⟨#[]⟩), (.string ⟨#[]⟩), (.string ⟨#[]⟩)]) 3 48 := ⟨by kernel_rfl, by kernel_rfl⟩
instance : Agg Tryd.prog 25 := ⟨fun w => run_isAgg Tryd.underlying25 w⟩
instance : Inf Tryd.prog 25 (.agg #[(.string ⟨#[]⟩), (.string ⟨#[]⟩), (.string ⟨#[]⟩), (.slice none 0 0), (.string ⟨#[]⟩), (.string ⟨#[]⟩), (.string ⟨#[]⟩), (.string ⟨#[]⟩), (.string ⟨#[]⟩), (.string ⟨#[]⟩), (.string ⟨#[]⟩), (.int .i64 0), (.int .i64 0), (.int .i64 0)]) 14 208 := ⟨by kernel_rfl, by kernel_rfl⟩
instance : Str Tryd.prog 25 [(0, 1), (1, 1), (2, 1), (3, 1), (4, 2), (6, 2), (8, 3), (11, 1), (12, 1), (13, 1)] := ⟨⟨_, Tryd.underlying25, by kernel_rfl, by kernel_rfl⟩⟩
instance : Fld Tryd.prog 25 0 0 9 1 := ⟨⟨_, _, Tryd.underlying25, rfl, rfl, rfl, by kernel_rfl⟩⟩
instance : Fld Tryd.prog 25 1 1 9 1 := ⟨⟨_, _, Tryd.underlying25, rfl, rfl, rfl, by kernel_rfl⟩⟩
instance : Fld Tryd.prog 25 2 2 9 1 := ⟨⟨_, _, Tryd.underlying25, rfl, rfl, rfl, by kernel_rfl⟩⟩
instance : Fld Tryd.prog 25 3 3 22 1 := ⟨⟨_, _, Tryd.underlying25, rfl, rfl, rfl, by kernel_rfl⟩⟩
instance : Fld Tryd.prog 25 4 4 23 2 := ⟨⟨_, _, Tryd.underlying25, rfl, rfl, rfl, by kernel_rfl⟩⟩
instance : Fld Tryd.prog 25 5 6 23 2 := ⟨⟨_, _, Tryd.underlying25, rfl, rfl, rfl, by kernel_rfl⟩⟩
instance : Fld Tryd.prog 25 6 8 24 3 := ⟨⟨_, _, Tryd.underlying25, rfl, rfl, rfl, by kernel_rfl⟩⟩
instance : Fld Tryd.prog 25 7 11 3 1 := ⟨⟨_, _, Tryd.underlying25, rfl, rfl, rfl, by kernel_rfl⟩⟩
instance : Fld Tryd.prog 25 8 12 3 1 := ⟨⟨_, _, Tryd.underlying25, rfl, rfl, rfl, by kernel_rfl⟩⟩
instance : Fld Tryd.prog 25 9 13 3 1 := ⟨⟨_, _, Tryd.underlying25, rfl, rfl, rfl, by kernel_rfl⟩⟩
instance : Agg Tryd.prog 26 := ⟨fun w => run_isAgg Tryd.underlying26 w⟩
instance : Inf Tryd.prog 26 (.agg #[(.string ⟨#[]⟩), (.string ⟨#[]⟩), (.string ⟨#[]⟩), (.slice none 0 0), (.string ⟨#[]⟩), (.string ⟨#[]⟩), (.string ⟨#[]⟩), (.string ⟨#[]⟩), (.string ⟨#[]⟩), (.string ⟨#[]⟩), (.string ⟨#[]⟩), (.int .i64 0), (.int .i64 0), (.int .i64 0)]) 14 208 := ⟨by kernel_rfl, by kernel_rfl⟩
instance : Str Tryd.prog 26 [(0, 1), (1, 1), (2, 1), (3, 1), (4, 2), (6, 2), (8, 3), (11, 1), (12, 1), (13, 1)] := ⟨⟨_, Tryd.underlying26, by kernel_rfl, by kernel_rfl⟩⟩
instance : Fld Tryd.prog 26 0 0 9 1 := ⟨⟨_, _, Tryd.underlying26, rfl, rfl, rfl, by kernel_rfl⟩⟩
instance : Fld Tryd.prog 26 1 1 9 1 := ⟨⟨_, _, Tryd.underlying26, rfl, rfl, rfl, by kernel_rfl⟩⟩
instance : Fld Tryd.prog 26 2 2 9 1 := ⟨⟨_, _, Tryd.underlying26, rfl, rfl, rfl, by kernel_rfl⟩⟩
instance : Fld Tryd.prog 26 3 3 22 1 := ⟨⟨_, _, Tryd.underlying26, rfl, rfl, rfl, by kernel_rfl⟩⟩
instance : Fld Tryd.prog 26 4 4 23 2 := ⟨⟨_, _, Tryd.underlying26, rfl, rfl, rfl, by kernel_rfl⟩⟩
instance : Fld Tryd.prog 26 5 6 23 2 := ⟨⟨_, _, Tryd.underlying26, rfl, rfl, rfl, by kernel_rfl⟩⟩
instance : Fld Tryd.prog 26 6 8 24 3 := ⟨⟨_, _, Tryd.underlying26, rfl, rfl, rfl, by kernel_rfl⟩⟩
instance : Fld Tryd.prog 26 7 11 3 1 := ⟨⟨_, _, Tryd.underlying26, rfl, rfl, rfl, by kernel_rfl⟩⟩
instance : Fld Tryd.prog 26 8 12 3 1 := ⟨⟨_, _, Tryd.underlying26, rfl, rfl, rfl, by kernel_rfl⟩⟩
instance : Fld Tryd.prog 26 9 13 3 1 := ⟨⟨_, _, Tryd.underlying26, rfl, rfl, rfl, by kernel_rfl⟩⟩
instance : Agg Tryd.prog 27 := ⟨fun w => run_isAgg Tryd.underlying27 w⟩
instance : Inf Tryd.prog 27 (.agg #[(.string ⟨#[]⟩), (.string ⟨#[]⟩), (.string ⟨#[]⟩), (.int .i64 0), (.int .i64 0)]) 5 64 := ⟨by kernel_rfl, by kernel_rfl⟩
instance : Str Tryd.prog 27 [(0, 1), (1, 1), (2, 1), (3, 1), (4, 1)] := ⟨⟨_, Tryd.underlying27, by kernel_rfl, by kernel_rfl⟩⟩
instance : Fld Tryd.prog 27 0 0 9 1 := ⟨⟨_, _, Tryd.underlying27, rfl, rfl, rfl, by kernel_rfl⟩⟩
instance : Fld Tryd.prog 27 1 1 9 1 := ⟨⟨_, _, Tryd.underlying27, rfl, rfl, rfl, by kernel_rfl⟩⟩
instance : Fld Tryd.prog 27 2 2 9 1 := ⟨⟨_, _, Tryd.underlying27, rfl, rfl, rfl, by kernel_rfl⟩⟩
instance : Fld Tryd.prog 27 3 3 3 1 := ⟨⟨_, _, Tryd.underlying27, rfl, rfl, rfl, by kernel_rfl⟩⟩
instance : Fld Tryd.prog 27 4 4 3 1 := ⟨⟨_, _, Tryd.underlying27, rfl, rfl, rfl, by kernel_rfl⟩⟩
instance : Agg Tryd.prog 28 := ⟨fun w => run_isAgg Tryd.underlying28 w⟩
instance : Inf Tryd.prog 28 (.agg #[(.string ⟨#[]⟩), (.string ⟨#[]⟩), (.string ⟨#[]⟩), (.int .i64 0), (.int .i64 0)]) 5 64 := ⟨by kernel_rfl, by kernel_rfl⟩
instance : Str Tryd.prog 28 [(0, 1), (1, 1), (2, 1), (3, 1), (4, 1)] := ⟨⟨_, Tryd.underlying28, by kernel_rfl, by kernel_rfl⟩⟩
instance : Fld Tryd.prog 28 0 0 9 1 := ⟨⟨_, _, Tryd.underlying28, rfl, rfl, rfl, by kernel_rfl⟩⟩
instance : Fld Tryd.prog 28 1 1 9 1 := ⟨⟨_, _, Tryd.underlying28, rfl, rfl, rfl, by kernel_rfl⟩⟩
instance : Fld Tryd.prog 28 2 2 9 1 := ⟨⟨_, _, Tryd.underlying28, rfl, rfl, rfl, by kernel_rfl⟩⟩
instance : Fld Tryd.prog 28 3 3 3 1 := ⟨⟨_, _, Tryd.underlying28, rfl, rfl, rfl, by kernel_rfl⟩⟩
instance : Fld Tryd.prog 28 4 4 3 1 := ⟨⟨_, _, Tryd.underlying28, rfl, rfl, rfl, by kernel_rfl⟩⟩
instance : Agg Tryd.prog 29 := ⟨fun w => run_isAgg Tryd.underlying29 w⟩
instance : Inf Tryd.prog 29 (.agg #[(.string ⟨#[]⟩), (.string ⟨#[]⟩), (.string ⟨#[]⟩), (.slice none 0 0), (.string ⟨#[]⟩), (.string ⟨#[]⟩), (.string ⟨#[]⟩), (.string ⟨#[]⟩), (.string ⟨#[]⟩), (.string ⟨#[]⟩), (.string ⟨#[]⟩), (.int .i64 0), (.int .i64 0), (.int .i64 0)]) 14 208 := ⟨by kernel_rfl, by kernel_rfl⟩
instance : Str Tryd.prog 29 [(0, 1), (1, 1), (2, 1), (3, 1), (4, 2), (6, 2), (8, 5), (13, 1)] := ⟨⟨_, Tryd.underlying29, by kernel_rfl, by kernel_rfl⟩⟩
instance : Fld Tryd.prog 29 0 0 9 1 := ⟨⟨_, _, Tryd.underlying29, rfl, rfl, rfl, by kernel_rfl⟩⟩
instance : Fld Tryd.prog 29 1 1 9 1 := ⟨⟨_, _, Tryd.underlying29, rfl, rfl, rfl, by kernel_rfl⟩⟩
instance : Fld Tryd.prog 29 2 2 9 1 := ⟨⟨_, _, Tryd.underlying29, rfl, rfl, rfl, by kernel_rfl⟩⟩
instance : Fld Tryd.prog 29 3 3 22 1 := ⟨⟨_, _, Tryd.underlying29, rfl, rfl, rfl, by kernel_rfl⟩⟩
instance : Fld Tryd.prog 29 4 4 23 2 := ⟨⟨_, _, Tryd.underlying29, rfl, rfl, rfl, by kernel_rfl⟩⟩
instance : Fld Tryd.prog 29 5 6 23 2 := ⟨⟨_, _, Tryd.underlying29, rfl, rfl, rfl, by kernel_rfl⟩⟩
instance : Fld Tryd.prog 29 6 8 28 5 := ⟨⟨_, _, Tryd.underlying29, rfl, rfl, rfl, by kernel_rfl⟩⟩
instance : Fld Tryd.prog 29 7 13 3 1 := ⟨⟨_, _, Tryd.underlying29, rfl, rfl, rfl, by kernel_rfl⟩⟩
instance : Agg Tryd.prog 30 := ⟨fun w => run_isAgg Tryd.underlying30 w⟩
instance : Inf Tryd.prog 30 (.agg #[(.string ⟨#[]⟩), (.string ⟨#[]⟩), (.string ⟨#[]⟩), (.slice none 0 0), (.string ⟨#[]⟩), (.string ⟨#[]⟩), (.string ⟨#[]⟩), (.string ⟨#[]⟩), (.string ⟨#[]⟩), (.string ⟨#[]⟩), (.string ⟨#[]⟩), (.int .i64 0), (.int .i64 0), (.int .i64 0)]) 14 208 := ⟨by kernel_rfl, by kernel_rfl⟩
instance : Str Tryd.prog 30 [(0, 1), (1, 1), (2, 1), (3, 1), (4, 2), (6, 2), (8, 5), (13, 1)] := ⟨⟨_, Tryd.underlying30, by kernel_rfl, by kernel_rfl⟩⟩
instance : Fld Tryd.prog 30 0 0 9 1 := ⟨⟨_, _, Tryd.underlying30, rfl, rfl, rfl, by kernel_rfl⟩⟩
instance : Fld Tryd.prog 30 1 1 9 1 := ⟨⟨_, _, Tryd.underlying30, rfl, rfl, rfl, by kernel_rfl⟩⟩
instance : Fld Tryd.prog 30 2 2 9 1 := ⟨⟨_, _, Tryd.underlying30, rfl, rfl, rfl, by kernel_rfl⟩⟩
instance : Fld Tryd.prog 30 3 3 22 1 := ⟨⟨_, _, Tryd.underlying30, rfl, rfl, rfl, by kernel_rfl⟩⟩
instance : Fld Tryd.prog 30 4 4 23 2 := ⟨⟨_, _, Tryd.underlying30, rfl, rfl, rfl, by kernel_rfl⟩⟩
instance : Fld Tryd.prog 30 5 6 23 2 := ⟨⟨_, _, Tryd.underlying30, rfl, rfl, rfl, by kernel_rfl⟩⟩
instance : Fld Tryd.prog 30 6 8 28 5 := ⟨⟨_, _, Tryd.underlying30, rfl, rfl, rfl, by kernel_rfl⟩⟩
instance : Fld Tryd.prog 30 7 13 3 1 := ⟨⟨_, _, Tryd.underlying30, rfl, rfl, rfl, by kernel_rfl⟩⟩
instance : One Tryd.prog 31 := ⟨fun w => run_isAgg Tryd.underlying31 w⟩
instance : Inf Tryd.prog 31 .nilFunc 1 8 := ⟨by kernel_rfl, by kernel_rfl⟩
instance : One Tryd.prog 32 := ⟨fun w => run_isAgg Tryd.underlying32 w⟩
instance : Inf Tryd.prog 32 .nilFunc 1 8 := ⟨by kernel_rfl, by kernel_rfl⟩
instance : Und Tryd.prog 33 (.int .i64) := ⟨Tryd.underlying33⟩
instance : Inf Tryd.prog 33 (.int .i64 0) 1 8 := ⟨by kernel_rfl, by kernel_rfl⟩
instance : One Tryd.prog 35 := ⟨fun w => run_isAgg Tryd.underlying35 w⟩
instance : Inf Tryd.prog 35 .nilFunc 1 8 := ⟨by kernel_rfl, by kernel_rfl⟩
instance : One Tryd.prog 36 := ⟨fun w => run_isAgg Tryd.underlying36 w⟩
instance : Inf Tryd.prog 36 .nilFunc 1 8 := ⟨by kernel_rfl, by kernel_rfl⟩
instance : One Tryd.prog 37 := ⟨fun w => run_isAgg Tryd.underlying37 w⟩
instance : Inf Tryd.prog 37 .nilFunc 1 8 := ⟨by kernel_rfl, by kernel_rfl⟩
instance : One Tryd.prog 38 := ⟨fun w => run_isAgg Tryd.underlying38 w⟩
instance : Inf Tryd.prog 38 .nilFunc 1 8 := ⟨by kernel_rfl, by kernel_rfl⟩
instance : One Tryd.prog 39 := ⟨fun w => run_isAgg Tryd.underlying39 w⟩
instance : Inf Tryd.prog 39 .nilFunc 1 8 := ⟨by kernel_rfl, by kernel_rfl⟩
instance : One Tryd.prog 41 := ⟨fun w => run_isAgg Tryd.underlying41 w⟩
instance : Inf Tryd.prog 41 .nilFunc 1 8 := ⟨by kernel_rfl, by kernel_rfl⟩
instance : One Tryd.prog 42 := ⟨fun w => run_isAgg Tryd.underlying42 w⟩
instance : Inf Tryd.prog 42 .nilFunc 1 8 := ⟨by kernel_rfl, by kernel_rfl⟩
instance : One Tryd.prog 43 := ⟨fun w => run_isAgg Tryd.underlying43 w⟩
instance : Inf Tryd.prog 43 .nilFunc 1 8 := ⟨by kernel_rfl, by kernel_rfl⟩
instance : One Tryd.prog 44 := ⟨fun w => run_isAgg Tryd.underlying44 w⟩
instance : Inf Tryd.prog 44 .nilFunc 1 8 := ⟨by kernel_rfl, by kernel_rfl⟩
instance : One Tryd.prog 45 := ⟨fun w => run_isAgg Tryd.underlying45 w⟩
instance : Inf Tryd.prog 45 .nilFunc 1 8 := ⟨by kernel_rfl, by kernel_rfl⟩
instance : Agg Tryd.prog 46 := ⟨fun w => run_isAgg Tryd.underlying46 w⟩
instance : Inf Tryd.prog 46 (.agg #[(.string ⟨#[]⟩), (.string ⟨#[]⟩), (.string ⟨#[]⟩), (.int .i64 0), (.int .i64 0)]) 5 64 := ⟨by kernel_rfl, by kernel_rfl⟩
instance : Str Tryd.prog 46 [(0, 1), (1, 1), (2, 1), (3, 1), (4, 1)] := ⟨⟨_, Tryd.underlying46, by kernel_rfl, by kernel_rfl⟩⟩
instance : Fld Tryd.prog 46 0 0 9 1 := ⟨⟨_, _, Tryd.underlying46, rfl, rfl, rfl, by kernel_rfl⟩⟩
instance : Fld Tryd.prog 46 1 1 9 1 := ⟨⟨_, _, Tryd.underlying46, rfl, rfl, rfl, by kernel_rfl⟩⟩
instance : Fld Tryd.prog 46 2 2 9 1 := ⟨⟨_, _, Tryd.underlying46, rfl, rfl, rfl, by kernel_rfl⟩⟩
instance : Fld Tryd.prog 46 3 3 3 1 := ⟨⟨_, _, Tryd.underlying46, rfl, rfl, rfl, by kernel_rfl⟩⟩
instance : Fld Tryd.prog 46 4 4 3 1 := ⟨⟨_, _, Tryd.underlying46, rfl, rfl, rfl, by kernel_rfl⟩⟩
instance : One Tryd.prog 47 := ⟨fun w => run_isAgg Tryd.underlying47 w⟩
instance : Inf Tryd.prog 47 .nilFunc 1 8 := ⟨by kernel_rfl, by kernel_rfl⟩
instance : One Tryd.prog 48 := ⟨fun w => run_isAgg Tryd.underlying48 w⟩
instance : Inf Tryd.prog 48 .nilFunc 1 8 := ⟨by kernel_rfl, by kernel_rfl⟩
instance : One Tryd.prog 49 := ⟨fun w => run_isAgg Tryd.underlying49 w⟩
instance : Inf Tryd.prog 49 .nilFunc 1 8 := ⟨by kernel_rfl, by kernel_rfl⟩
instance : One Tryd.prog 50 := ⟨fun w => run_isAgg Tryd.underlying50 w⟩
instance : Inf Tryd.prog 50 .nilFunc 1 8 := ⟨by kernel_rfl, by kernel_rfl⟩
instance : One Tryd.prog 51 := ⟨fun w => run_isAgg Tryd.underlying51 w⟩
instance : Inf Tryd.prog 51 .nilFunc 1 8 := ⟨by kernel_rfl, by kernel_rfl⟩
instance : One Tryd.prog 53 := ⟨fun w => run_isAgg Tryd.underlying53 w⟩
instance : Inf Tryd.prog 53 .nilFunc 1 8 := ⟨by kernel_rfl, by kernel_rfl⟩
instance : One Tryd.prog 54 := ⟨fun w => run_isAgg Tryd.underlying54 w⟩
instance : Inf Tryd.prog 54 .nilFunc 1 8 := ⟨by kernel_rfl, by kernel_rfl⟩
instance : One Tryd.prog 55 := ⟨fun w => run_isAgg Tryd.underlying55 w⟩
instance : Inf Tryd.prog 55 .nilFunc 1 8 := ⟨by kernel_rfl, by kernel_rfl⟩
instance : One Tryd.prog 57 := ⟨fun w => run_isAgg Tryd.underlying57 w⟩
instance : Inf Tryd.prog 57 .nilFunc 1 8 := ⟨by kernel_rfl, by kernel_rfl⟩
instance : One Tryd.prog 58 := ⟨fun w => run_isAgg Tryd.underlying58 w⟩
instance : Inf Tryd.prog 58 .nilFunc 1 8 := ⟨by kernel_rfl, by kernel_rfl⟩
instance : Und Tryd.prog 59 (.slice 61) := ⟨Tryd.underlying59⟩
instance : Inf Tryd.prog 59 (.slice none 0 0) 1 24 := ⟨by kernel_rfl, by kernel_rfl⟩
instance : Agg Tryd.prog 60 := ⟨fun w => run_isAgg Tryd.underlying60 w⟩
instance : Inf Tryd.prog 60 (.agg #[(.int .i64 0), (.int .i64 0), (.slice none 0 0), (.slice none 0 0)]) 4 64 := ⟨by kernel_rfl, by kernel_rfl⟩
instance : Str Tryd.prog 60 [(0, 1), (1, 1), (2, 1), (3, 1)] := ⟨⟨_, Tryd.underlying60, by kernel_rfl, by kernel_rfl⟩⟩
instance : Fld Tryd.prog 60 0 0 3 1 := ⟨⟨_, _, Tryd.underlying60, rfl, rfl, rfl, by kernel_rfl⟩⟩
instance : Fld Tryd.prog 60 1 1 3 1 := ⟨⟨_, _, Tryd.underlying60, rfl, rfl, rfl, by kernel_rfl⟩⟩
instance : Fld Tryd.prog 60 2 2 22 1 := ⟨⟨_, _, Tryd.underlying60, rfl, rfl, rfl, by kernel_rfl⟩⟩
instance : Fld Tryd.prog 60 3 3 59 1 := ⟨⟨_, _, Tryd.underlying60, rfl, rfl, rfl, by kernel_rfl⟩⟩
instance : Agg Tryd.prog 61 := ⟨fun w => run_isAgg Tryd.underlying61 w⟩
instance : Inf Tryd.prog 61 (.agg #[(.int .i64 0), (.int .i64 0), (.slice none 0 0), (.slice none 0 0)]) 4 64 := ⟨by kernel_rfl, by kernel_rfl⟩
instance : Str Tryd.prog 61 [(0, 1), (1, 1), (2, 1), (3, 1)] := ⟨⟨_, Tryd.underlying61, by kernel_rfl, by kernel_rfl⟩⟩
instance : Fld Tryd.prog 61 0 0 3 1 := ⟨⟨_, _, Tryd.underlying61, rfl, rfl, rfl, by kernel_rfl⟩⟩
instance : Fld Tryd.prog 61 1 1 3 1 := ⟨⟨_, _, Tryd.underlying61, rfl, rfl, rfl, by kernel_rfl⟩⟩
instance : Fld Tryd.prog 61 2 2 22 1 := ⟨⟨_, _, Tryd.underlying61, rfl, rfl, rfl, by kernel_rfl⟩⟩
instance : Fld Tryd.prog 61 3 3 59 1 := ⟨⟨_, _, Tryd.underlying61, rfl, rfl, rfl, by kernel_rfl⟩⟩
instance : One Tryd.prog 63 := ⟨fun w => run_isAgg Tryd.underlying63 w⟩
instance : Inf Tryd.prog 63 .nilFunc 1 8 := ⟨by kernel_rfl, by kernel_rfl⟩
instance : One Tryd.prog 64 := ⟨fun w => run_isAgg Tryd.underlying64 w⟩
instance : Inf Tryd.prog 64 .nilFunc 1 8 := ⟨by kernel_rfl, by kernel_rfl⟩
instance : One Tryd.prog 65 := ⟨fun w => run_isAgg Tryd.underlying65 w⟩
instance : Inf Tryd.prog 65 .nilFunc 1 8 := ⟨by kernel_rfl, by kernel_rfl⟩
instance : One Tryd.prog 67 := ⟨fun w => run_isAgg Tryd.underlying67 w⟩
instance : Inf Tryd.prog 67 .nilFunc 1 8 := ⟨by kernel_rfl, by kernel_rfl⟩
instance : One Tryd.prog 69 := ⟨fun w => run_isAgg Tryd.underlying69 w⟩
instance : Inf Tryd.prog 69 .nilFunc 1 8 := ⟨by kernel_rfl, by kernel_rfl⟩
instance : One Tryd.prog 70 := ⟨fun w => run_isAgg Tryd.underlying70 w⟩
instance : Inf Tryd.prog 70 .nilFunc 1 8 := ⟨by kernel_rfl, by kernel_rfl⟩
instance : One Tryd.prog 71 := ⟨fun w => run_isAgg Tryd.underlying71 w⟩
instance : Inf Tryd.prog 71 .nilFunc 1 8 := ⟨by kernel_rfl, by kernel_rfl⟩
instance : One Tryd.prog 72 := ⟨fun w => run_isAgg Tryd.underlying72 w⟩
instance : Inf Tryd.prog 72 .nilFunc 1 8 := ⟨by kernel_rfl, by kernel_rfl⟩
instance : One Tryd.prog 73 := ⟨fun w => run_isAgg Tryd.underlying73 w⟩
instance : Inf Tryd.prog 73 .nilFunc 1 8 := ⟨by kernel_rfl, by kernel_rfl⟩
instance : One Tryd.prog 74 := ⟨fun w => run_isAgg Tryd.underlying74 w⟩
instance : Inf Tryd.prog 74 .nilFunc 1 8 := ⟨by kernel_rfl, by kernel_rfl⟩
instance : Und Tryd.prog 75 (.array 6 9) := ⟨Tryd.underlying75⟩
instance : Inf Tryd.prog 75 (.agg #[(.string ⟨#[]⟩), (.string ⟨#[]⟩), (.string ⟨#[]⟩), (.string ⟨#[]⟩), (.string ⟨#[]⟩), (.string ⟨#[]⟩)]) 6 96 := ⟨by kernel_rfl, by kernel_rfl⟩
instance : One Tryd.prog 76 := ⟨fun w => run_isAgg Tryd.underlying76 w⟩
instance : Inf Tryd.prog 76 .nilFunc 1 8 := ⟨by kernel_rfl, by kernel_rfl⟩
instance : One Tryd.prog 77 := ⟨fun w => run_isAgg Tryd.underlying77 w⟩
instance : Inf Tryd.prog 77 .nilFunc 1 8 := ⟨by kernel_rfl, by kernel_rfl⟩
instance : Und Tryd.prog 78 (.slice 9) := ⟨Tryd.underlying78⟩
instance : Inf Tryd.prog 78 (.slice none 0 0) 1 24 := ⟨by kernel_rfl, by kernel_rfl⟩
instance : One Tryd.prog 79 := ⟨fun w => run_isAgg Tryd.underlying79 w⟩
instance : Inf Tryd.prog 79 .nilFunc 1 8 := ⟨by kernel_rfl, by kernel_rfl⟩
instance : Und Tryd.prog 80 (.slice 85) := ⟨Tryd.underlying80⟩
instance : Inf Tryd.prog 80 (.slice none 0 0) 1 24 := ⟨by kernel_rfl, by kernel_rfl⟩
instance : One Tryd.prog 82 := ⟨fun w => run_isAgg Tryd.underlying82 w⟩
instance : Inf Tryd.prog 82 .nilFunc 1 8 := ⟨by kernel_rfl, by kernel_rfl⟩
instance : Und Tryd.prog 83 (.slice 3) := ⟨Tryd.underlying83⟩
instance : Inf Tryd.prog 83 (.slice none 0 0) 1 24 := ⟨by kernel_rfl, by kernel_rfl⟩
instance : Agg Tryd.prog 84 := ⟨fun w => run_isAgg Tryd.underlying84 w⟩
instance : Inf Tryd.prog 84 (.agg #[(.int .i64 0), (.int .i64 0), (.slice none 0 0), (.slice none 0 0)]) 4 64 := ⟨by kernel_rfl, by kernel_rfl⟩
instance : Str Tryd.prog 84 [(0, 1), (1, 1), (2, 1), (3, 1)] := ⟨⟨_, Tryd.underlying84, by kernel_rfl, by kernel_rfl⟩⟩
instance : Fld Tryd.prog 84 0 0 3 1 := ⟨⟨_, _, Tryd.underlying84, rfl, rfl, rfl, by kernel_rfl⟩⟩
instance : Fld Tryd.prog 84 1 1 3 1 := ⟨⟨_, _, Tryd.underlying84, rfl, rfl, rfl, by kernel_rfl⟩⟩
instance : Fld Tryd.prog 84 2 2 22 1 := ⟨⟨_, _, Tryd.underlying84, rfl, rfl, rfl, by kernel_rfl⟩⟩
instance : Fld Tryd.prog 84 3 3 83 1 := ⟨⟨_, _, Tryd.underlying84, rfl, rfl, rfl, by kernel_rfl⟩⟩
instance : Agg Tryd.prog 85 := ⟨fun w => run_isAgg Tryd.underlying85 w⟩
instance : Inf Tryd.prog 85 (.agg #[(.int .i64 0), (.int .i64 0), (.slice none 0 0), (.slice none 0 0)]) 4 64 := ⟨by kernel_rfl, by kernel_rfl⟩
instance : Str Tryd.prog 85 [(0, 1), (1, 1), (2, 1), (3, 1)] := ⟨⟨_, Tryd.underlying85, by kernel_rfl, by kernel_rfl⟩⟩
instance : Fld Tryd.prog 85 0 0 3 1 := ⟨⟨_, _, Tryd.underlying85, rfl, rfl, rfl, by kernel_rfl⟩⟩
instance : Fld Tryd.prog 85 1 1 3 1 := ⟨⟨_, _, Tryd.underlying85, rfl, rfl, rfl, by kernel_rfl⟩⟩
instance : Fld Tryd.prog 85 2 2 22 1 := ⟨⟨_, _, Tryd.underlying85, rfl, rfl, rfl, by kernel_rfl⟩⟩
instance : Fld Tryd.prog 85 3 3 83 1 := ⟨⟨_, _, Tryd.underlying85, rfl, rfl, rfl, by kernel_rfl⟩⟩
instance : Und Tryd.prog 86 (.array 5 3) := ⟨Tryd.underlying86⟩
instance : Inf Tryd.prog 86 (.agg #[(.int .i64 0), (.int .i64 0), (.int .i64 0), (.int .i64 0), (.int .i64 0)]) 5 40 := ⟨by kernel_rfl, by kernel_rfl⟩
instance : Und Tryd.prog 87 (.slice 93) := ⟨Tryd.underlying87⟩
instance : Inf Tryd.prog 87 (.slice none 0 0) 1 24 := ⟨by kernel_rfl, by kernel_rfl⟩
instance : One Tryd.prog 89 := ⟨fun w => run_isAgg Tryd.underlying89 w⟩
instance : Inf Tryd.prog 89 .nilFunc 1 8 := ⟨by kernel_rfl, by kernel_rfl⟩
instance : Und Tryd.prog 90 (.pointer 9) := ⟨Tryd.underlying90⟩
instance : Inf Tryd.prog 90 (.pointer none) 1 8 := ⟨by kernel_rfl, by kernel_rfl⟩
instance : Und Tryd.prog 91 (.pointer 3) := ⟨Tryd.underlying91⟩
instance : Inf Tryd.prog 91 (.pointer none) 1 8 := ⟨by kernel_rfl, by kernel_rfl⟩
instance : Agg Tryd.prog 92 := ⟨fun w => run_isAgg Tryd.underlying92 w⟩
instance : Inf Tryd.prog 92 (.agg #[(.pointer none), (.pointer none), (.bool false)]) 3 24 := ⟨by kernel_rfl, by kernel_rfl⟩
instance : Str Tryd.prog 92 [(0, 1), (1, 1), (2, 1)] := ⟨⟨_, Tryd.underlying92, by kernel_rfl, by kernel_rfl⟩⟩
instance : Fld Tryd.prog 92 0 0 90 1 := ⟨⟨_, _, Tryd.underlying92, rfl, rfl, rfl, by kernel_rfl⟩⟩
instance : Fld Tryd.prog 92 1 1 91 1 := ⟨⟨_, _, Tryd.underlying92, rfl, rfl, rfl, by kernel_rfl⟩⟩
instance : Fld Tryd.prog 92 2 2 4 1 := ⟨⟨_, _, Tryd.underlying92, rfl, rfl, rfl, by kernel_rfl⟩⟩
instance : Agg Tryd.prog 93 := ⟨fun w => run_isAgg Tryd.underlying93 w⟩
instance : Inf Tryd.prog 93 (.agg #[(.pointer none), (.pointer none), (.bool false)]) 3 24 := ⟨by kernel_rfl, by kernel_rfl⟩
instance : Str Tryd.prog 93 [(0, 1), (1, 1), (2, 1)] := ⟨⟨_, Tryd.underlying93, by kernel_rfl, by kernel_rfl⟩⟩
instance : Fld Tryd.prog 93 0 0 90 1 := ⟨⟨_, _, Tryd.underlying93, rfl, rfl, rfl, by kernel_rfl⟩⟩
instance : Fld Tryd.prog 93 1 1 91 1 := ⟨⟨_, _, Tryd.underlying93, rfl, rfl, rfl, by kernel_rfl⟩⟩
instance : Fld Tryd.prog 93 2 2 4 1 := ⟨⟨_, _, Tryd.underlying93, rfl, rfl, rfl, by kernel_rfl⟩⟩
instance : One Tryd.prog 94 := ⟨fun w => run_isAgg Tryd.underlying94 w⟩
instance : Inf Tryd.prog 94 .nilFunc 1 8 := ⟨by kernel_rfl, by kernel_rfl⟩
instance : Und Tryd.prog 95 (.pointer 97) := ⟨Tryd.underlying95⟩
instance : Inf Tryd.prog 95 (.pointer none) 1 8 := ⟨by kernel_rfl, by kernel_rfl⟩
instance : Agg Tryd.prog 96 := ⟨fun w => run_isAgg Tryd.underlying96 w⟩
instance : Inf Tryd.prog 96 (.agg #[(.slice none 0 0), (.bool false)]) 2 32 := ⟨by kernel_rfl, by kernel_rfl⟩
instance : Str Tryd.prog 96 [(0, 1), (1, 1)] := ⟨⟨_, Tryd.underlying96, by kernel_rfl, by kernel_rfl⟩⟩
instance : Fld Tryd.prog 96 0 0 22 1 := ⟨⟨_, _, Tryd.underlying96, rfl, rfl, rfl, by kernel_rfl⟩⟩
instance : Fld Tryd.prog 96 1 1 4 1 := ⟨⟨_, _, Tryd.underlying96, rfl, rfl, rfl, by kernel_rfl⟩⟩
instance : Agg Tryd.prog 97 := ⟨fun w => run_isAgg Tryd.underlying97 w⟩
instance : Inf Tryd.prog 97 (.agg #[(.slice none 0 0), (.bool false)]) 2 32 := ⟨by kernel_rfl, by kernel_rfl⟩
instance : Str Tryd.prog 97 [(0, 1), (1, 1)] := ⟨⟨_, Tryd.underlying97, by kernel_rfl, by kernel_rfl⟩⟩
instance : Fld Tryd.prog 97 0 0 22 1 := ⟨⟨_, _, Tryd.underlying97, rfl, rfl, rfl, by kernel_rfl⟩⟩
instance : Fld Tryd.prog 97 1 1 4 1 := ⟨⟨_, _, Tryd.underlying97, rfl, rfl, rfl, by kernel_rfl⟩⟩
instance : One Tryd.prog 98 := ⟨fun w => run_isAgg Tryd.underlying98 w⟩
instance : Inf Tryd.prog 98 .nilFunc 1 8 := ⟨by kernel_rfl, by kernel_rfl⟩
instance : Und Tryd.prog 99 (.array 11 9) := ⟨Tryd.underlying99⟩
instance : Inf Tryd.prog 99 (.agg #[(.string ⟨#[]⟩), (.string ⟨#[]⟩), (.string ⟨#[]⟩), (.string ⟨#[]⟩), (.string ⟨#[]⟩), (.string ⟨#[]⟩), (.string ⟨#[]⟩), (.string ⟨#[]⟩), (.string ⟨#[]⟩), (.string ⟨#[]⟩), (.string ⟨#[]⟩)]) 11 176 := ⟨by kernel_rfl, by kernel_rfl⟩
instance : Und Tryd.prog 100 (.array 11 3) := ⟨Tryd.underlying100⟩
instance : Inf Tryd.prog 100 (.agg #[(.int .i64 0), (.int .i64 0), (.int .i64 0), (.int .i64 0), (.int .i64 0), (.int .i64 0), (.int .i64 0), (.int .i64 0), (.int .i64 0), (.int .i64 0), (.int .i64 0)]) 11 88 := ⟨by kernel_rfl, by kernel_rfl⟩
instance : One Tryd.prog 102 := ⟨fun w => run_isAgg Tryd.underlying102 w⟩
instance : Inf Tryd.prog 102 .nilFunc 1 8 := ⟨by kernel_rfl, by kernel_rfl⟩
instance : One Tryd.prog 103 := ⟨fun w => run_isAgg Tryd.underlying103 w⟩
instance : Inf Tryd.prog 103 .nilFunc 1 8 := ⟨by kernel_rfl, by kernel_rfl⟩
instance : One Tryd.prog 104 := ⟨fun w => run_isAgg Tryd.underlying104 w⟩
instance : Inf Tryd.prog 104 .nilFunc 1 8 := ⟨by kernel_rfl, by kernel_rfl⟩
instance : Und Tryd.prog 105 (.array 256 5) := ⟨Tryd.underlying105⟩
instance : One Tryd.prog 106 := ⟨fun w => run_isAgg Tryd.underlying106 w⟩
instance : Inf Tryd.prog 106 .nilFunc 1 8 := ⟨by kernel_rfl, by kernel_rfl⟩
instance : One Tryd.prog 107 := ⟨fun w => run_isAgg Tryd.underlying107 w⟩
instance : Inf Tryd.prog 107 .nilFunc 1 8 := ⟨by kernel_rfl, by kernel_rfl⟩
instance : One Tryd.prog 109 := ⟨fun w => run_isAgg Tryd.underlying109 w⟩
instance : Inf Tryd.prog 109 .nilFunc 1 8 := ⟨by kernel_rfl, by kernel_rfl⟩
instance : Und Tryd.prog 110 (.pointer 30) := ⟨Tryd.underlying110⟩
instance : Inf Tryd.prog 110 (.pointer none) 1 8 := ⟨by kernel_rfl, by kernel_rfl⟩
instance : One Tryd.prog 111 := ⟨fun w => run_isAgg Tryd.underlying111 w⟩
instance : Inf Tryd.prog 111 .nilFunc 1 8 := ⟨by kernel_rfl, by kernel_rfl⟩
instance : One Tryd.prog 112 := ⟨fun w => run_isAgg Tryd.underlying112 w⟩
instance : Inf Tryd.prog 112 .nilFunc 1 8 := ⟨by kernel_rfl, by kernel_rfl⟩
instance : One Tryd.prog 113 := ⟨fun w => run_isAgg Tryd.underlying113 w⟩
instance : Inf Tryd.prog 113 .nilFunc 1 8 := ⟨by kernel_rfl, by kernel_rfl⟩
instance : Und Tryd.prog 114 (.pointer 118) := ⟨Tryd.underlying114⟩
instance : Inf Tryd.prog 114 (.pointer none) 1 8 := ⟨by kernel_rfl, by kernel_rfl⟩
instance : Agg Tryd.prog 115 := ⟨fun w => run_isAgg Tryd.underlying115 w⟩
instance : Inf Tryd.prog 115 (.agg #[(.slice none 0 0), (.int .i64 0)]) 2 32 := ⟨by kernel_rfl, by kernel_rfl⟩
instance : Str Tryd.prog 115 [(0, 1), (1, 1)] := ⟨⟨_, Tryd.underlying115, by kernel_rfl, by kernel_rfl⟩⟩
instance : Fld Tryd.prog 115 0 0 22 1 := ⟨⟨_, _, Tryd.underlying115, rfl, rfl, rfl, by kernel_rfl⟩⟩
instance : Fld Tryd.prog 115 1 1 3 1 := ⟨⟨_, _, Tryd.underlying115, rfl, rfl, rfl, by kernel_rfl⟩⟩
instance : Agg Tryd.prog 116 := ⟨fun w => run_isAgg Tryd.underlying116 w⟩
instance : Inf Tryd.prog 116 (.agg #[(.slice none 0 0), (.int .i64 0)]) 2 32 := ⟨by kernel_rfl, by kernel_rfl⟩
instance : Str Tryd.prog 116 [(0, 1), (1, 1)] := ⟨⟨_, Tryd.underlying116, by kernel_rfl, by kernel_rfl⟩⟩
instance : Fld Tryd.prog 116 0 0 22 1 := ⟨⟨_, _, Tryd.underlying116, rfl, rfl, rfl, by kernel_rfl⟩⟩
instance : Fld Tryd.prog 116 1 1 3 1 := ⟨⟨_, _, Tryd.underlying116, rfl, rfl, rfl, by kernel_rfl⟩⟩
instance : Agg Tryd.prog 117 := ⟨fun w => run_isAgg Tryd.underlying117 w⟩
instance : Inf Tryd.prog 117 (.agg #[(.slice none 0 0), (.int .i64 0), (.int .i64 0)]) 3 40 := ⟨by kernel_rfl, by kernel_rfl⟩
instance : Str Tryd.prog 117 [(0, 2), (2, 1)] := ⟨⟨_, Tryd.underlying117, by kernel_rfl, by kernel_rfl⟩⟩
instance : Fld Tryd.prog 117 0 0 116 2 := ⟨⟨_, _, Tryd.underlying117, rfl, rfl, rfl, by kernel_rfl⟩⟩
instance : Fld Tryd.prog 117 1 2 33 1 := ⟨⟨_, _, Tryd.underlying117, rfl, rfl, rfl, by kernel_rfl⟩⟩
instance : Agg Tryd.prog 118 := ⟨fun w => run_isAgg Tryd.underlying118 w⟩
instance : Inf Tryd.prog 118 (.agg #[(.slice none 0 0), (.int .i64 0), (.int .i64 0)]) 3 40 := ⟨by kernel_rfl, by kernel_rfl⟩
instance : Str Tryd.prog 118 [(0, 2), (2, 1)] := ⟨⟨_, Tryd.underlying118, by kernel_rfl, by kernel_rfl⟩⟩
instance : Fld Tryd.prog 118 0 0 116 2 := ⟨⟨_, _, Tryd.underlying118, rfl, rfl, rfl, by kernel_rfl⟩⟩
instance : Fld Tryd.prog 118 1 2 33 1 := ⟨⟨_, _, Tryd.underlying118, rfl, rfl, rfl, by kernel_rfl⟩⟩
instance : One Tryd.prog 119 := ⟨fun w => run_isAgg Tryd.underlying119 w⟩
instance : Inf Tryd.prog 119 .nilFunc 1 8 := ⟨by kernel_rfl, by kernel_rfl⟩
instance : Und Tryd.prog 120 (.slice 122) := ⟨Tryd.underlying120⟩
instance : Inf Tryd.prog 120 (.slice none 0 0) 1 24 := ⟨by kernel_rfl, by kernel_rfl⟩
instance : Agg Tryd.prog 121 := ⟨fun w => run_isAgg Tryd.underlying121 w⟩
instance : Inf Tryd.prog 121 (.agg #[(.int .i64 0), (.int .i64 0)]) 2 16 := ⟨by kernel_rfl, by kernel_rfl⟩
instance : Str Tryd.prog 121 [(0, 1), (1, 1)] := ⟨⟨_, Tryd.underlying121, by kernel_rfl, by kernel_rfl⟩⟩
instance : Fld Tryd.prog 121 0 0 3 1 := ⟨⟨_, _, Tryd.underlying121, rfl, rfl, rfl, by kernel_rfl⟩⟩
instance : Fld Tryd.prog 121 1 1 3 1 := ⟨⟨_, _, Tryd.underlying121, rfl, rfl, rfl, by kernel_rfl⟩⟩
instance : Agg Tryd.prog 122 := ⟨fun w => run_isAgg Tryd.underlying122 w⟩
instance : Inf Tryd.prog 122 (.agg #[(.int .i64 0), (.int .i64 0)]) 2 16 := ⟨by kernel_rfl, by kernel_rfl⟩
instance : Str Tryd.prog 122 [(0, 1), (1, 1)] := ⟨⟨_, Tryd.underlying122, by kernel_rfl, by kernel_rfl⟩⟩
instance : Fld Tryd.prog 122 0 0 3 1 := ⟨⟨_, _, Tryd.underlying122, rfl, rfl, rfl, by kernel_rfl⟩⟩
instance : Fld Tryd.prog 122 1 1 3 1 := ⟨⟨_, _, Tryd.underlying122, rfl, rfl, rfl, by kernel_rfl⟩⟩
instance : Und Tryd.prog 123 (.int .u32) := ⟨Tryd.underlying123⟩
instance : Inf Tryd.prog 123 (.int .u32 0) 1 4 := ⟨by kernel_rfl, by kernel_rfl⟩
instance : One Tryd.prog 124 := ⟨fun w => run_isAgg Tryd.underlying124 w⟩
instance : Inf Tryd.prog 124 .nilFunc 1 8 := ⟨by kernel_rfl, by kernel_rfl⟩
instance : Und Tryd.prog 125 (.pointer 134) := ⟨Tryd.underlying125⟩
instance : Inf Tryd.prog 125 (.pointer none) 1 8 := ⟨by kernel_rfl, by kernel_rfl⟩
instance : One Tryd.prog 126 := ⟨fun w => run_isAgg Tryd.underlying126 w⟩
instance : Inf Tryd.prog 126 .nilFunc 1 8 := ⟨by kernel_rfl, by kernel_rfl⟩
instance : One Tryd.prog 127 := ⟨fun w => run_isAgg Tryd.underlying127 w⟩
instance : Inf Tryd.prog 127 .nilFunc 1 8 := ⟨by kernel_rfl, by kernel_rfl⟩
instance : One Tryd.prog 128 := ⟨fun w => run_isAgg Tryd.underlying128 w⟩
instance : Inf Tryd.prog 128 .nilFunc 1 8 := ⟨by kernel_rfl, by kernel_rfl⟩
instance : One Tryd.prog 129 := ⟨fun w => run_isAgg Tryd.underlying129 w⟩
instance : Inf Tryd.prog 129 .nilFunc 1 8 := ⟨by kernel_rfl, by kernel_rfl⟩
instance : One Tryd.prog 130 := ⟨fun w => run_isAgg Tryd.underlying130 w⟩
instance : Inf Tryd.prog 130 .nilFunc 1 8 := ⟨by kernel_rfl, by kernel_rfl⟩
instance : Und Tryd.prog 131 (.slice 137) := ⟨Tryd.underlying131⟩
instance : Inf Tryd.prog 131 (.slice none 0 0) 1 24 := ⟨by kernel_rfl, by kernel_rfl⟩
instance : Und Tryd.prog 132 (.slice 140) := ⟨Tryd.underlying132⟩
instance : Inf Tryd.prog 132 (.slice none 0 0) 1 24 := ⟨by kernel_rfl, by kernel_rfl⟩
instance : Agg Tryd.prog 133 := ⟨fun w => run_isAgg Tryd.underlying133 w⟩
instance : Inf Tryd.prog 133 (.agg #[(.slice none 0 0), (.slice none 0 0), (.int .i64 0)]) 3 56 := ⟨by kernel_rfl, by kernel_rfl⟩
instance : Str Tryd.prog 133 [(0, 1), (1, 1), (2, 1)] := ⟨⟨_, Tryd.underlying133, by kernel_rfl, by kernel_rfl⟩⟩
instance : Fld Tryd.prog 133 0 0 131 1 := ⟨⟨_, _, Tryd.underlying133, rfl, rfl, rfl, by kernel_rfl⟩⟩
instance : Fld Tryd.prog 133 1 1 132 1 := ⟨⟨_, _, Tryd.underlying133, rfl, rfl, rfl, by kernel_rfl⟩⟩
instance : Fld Tryd.prog 133 2 2 3 1 := ⟨⟨_, _, Tryd.underlying133, rfl, rfl, rfl, by kernel_rfl⟩⟩
instance : Agg Tryd.prog 134 := ⟨fun w => run_isAgg Tryd.underlying134 w⟩
instance : Inf Tryd.prog 134 (.agg #[(.slice none 0 0), (.slice none 0 0), (.int .i64 0)]) 3 56 := ⟨by kernel_rfl, by kernel_rfl⟩
instance : Str Tryd.prog 134 [(0, 1), (1, 1), (2, 1)] := ⟨⟨_, Tryd.underlying134, by kernel_rfl, by kernel_rfl⟩⟩
instance : Fld Tryd.prog 134 0 0 131 1 := ⟨⟨_, _, Tryd.underlying134, rfl, rfl, rfl, by kernel_rfl⟩⟩
instance : Fld Tryd.prog 134 1 1 132 1 := ⟨⟨_, _, Tryd.underlying134, rfl, rfl, rfl, by kernel_rfl⟩⟩
instance : Fld Tryd.prog 134 2 2 3 1 := ⟨⟨_, _, Tryd.underlying134, rfl, rfl, rfl, by kernel_rfl⟩⟩
instance : Und Tryd.prog 135 (.int .u16) := ⟨Tryd.underlying135⟩
instance : Inf Tryd.prog 135 (.int .u16 0) 1 2 := ⟨by kernel_rfl, by kernel_rfl⟩
instance : Agg Tryd.prog 136 := ⟨fun w => run_isAgg Tryd.underlying136 w⟩
instance : Inf Tryd.prog 136 (.agg #[(.int .u16 0), (.int .u16 0), (.int .u16 0)]) 3 6 := ⟨by kernel_rfl, by kernel_rfl⟩
instance : Str Tryd.prog 136 [(0, 1), (1, 1), (2, 1)] := ⟨⟨_, Tryd.underlying136, by kernel_rfl, by kernel_rfl⟩⟩
instance : Fld Tryd.prog 136 0 0 135 1 := ⟨⟨_, _, Tryd.underlying136, rfl, rfl, rfl, by kernel_rfl⟩⟩
instance : Fld Tryd.prog 136 1 1 135 1 := ⟨⟨_, _, Tryd.underlying136, rfl, rfl, rfl, by kernel_rfl⟩⟩
instance : Fld Tryd.prog 136 2 2 135 1 := ⟨⟨_, _, Tryd.underlying136, rfl, rfl, rfl, by kernel_rfl⟩⟩
instance : Agg Tryd.prog 137 := ⟨fun w => run_isAgg Tryd.underlying137 w⟩
instance : Inf Tryd.prog 137 (.agg #[(.int .u16 0), (.int .u16 0), (.int .u16 0)]) 3 6 := ⟨by kernel_rfl, by kernel_rfl⟩
instance : Str Tryd.prog 137 [(0, 1), (1, 1), (2, 1)] := ⟨⟨_, Tryd.underlying137, by kernel_rfl, by kernel_rfl⟩⟩
instance : Fld Tryd.prog 137 0 0 135 1 := ⟨⟨_, _, Tryd.underlying137, rfl, rfl, rfl, by kernel_rfl⟩⟩
instance : Fld Tryd.prog 137 1 1 135 1 := ⟨⟨_, _, Tryd.underlying137, rfl, rfl, rfl, by kernel_rfl⟩⟩
instance : Fld Tryd.prog 137 2 2 135 1 := ⟨⟨_, _, Tryd.underlying137, rfl, rfl, rfl, by kernel_rfl⟩⟩
instance : One Tryd.prog 138 := ⟨fun w => run_isAgg Tryd.underlying138 w⟩
instance : Inf Tryd.prog 138 .nilFunc 1 8 := ⟨by kernel_rfl, by kernel_rfl⟩
instance : Agg Tryd.prog 139 := ⟨fun w => run_isAgg Tryd.underlying139 w⟩
instance : Inf Tryd.prog 139 (.agg #[(.int .u32 0), (.int .u32 0), (.int .u32 0)]) 3 12 := ⟨by kernel_rfl, by kernel_rfl⟩
instance : Str Tryd.prog 139 [(0, 1), (1, 1), (2, 1)] := ⟨⟨_, Tryd.underlying139, by kernel_rfl, by kernel_rfl⟩⟩
instance : Fld Tryd.prog 139 0 0 123 1 := ⟨⟨_, _, Tryd.underlying139, rfl, rfl, rfl, by kernel_rfl⟩⟩
instance : Fld Tryd.prog 139 1 1 123 1 := ⟨⟨_, _, Tryd.underlying139, rfl, rfl, rfl, by kernel_rfl⟩⟩
instance : Fld Tryd.prog 139 2 2 123 1 := ⟨⟨_, _, Tryd.underlying139, rfl, rfl, rfl, by kernel_rfl⟩⟩
instance : Agg Tryd.prog 140 := ⟨fun w => run_isAgg Tryd.underlying140 w⟩
instance : Inf Tryd.prog 140 (.agg #[(.int .u32 0), (.int .u32 0), (.int .u32 0)]) 3 12 := ⟨by kernel_rfl, by kernel_rfl⟩
instance : Str Tryd.prog 140 [(0, 1), (1, 1), (2, 1)] := ⟨⟨_, Tryd.underlying140, by kernel_rfl, by kernel_rfl⟩⟩
instance : Fld Tryd.prog 140 0 0 123 1 := ⟨⟨_, _, Tryd.underlying140, rfl, rfl, rfl, by kernel_rfl⟩⟩
instance : Fld Tryd.prog 140 1 1 123 1 := ⟨⟨_, _, Tryd.underlying140, rfl, rfl, rfl, by kernel_rfl⟩⟩
instance : Fld Tryd.prog 140 2 2 123 1 := ⟨⟨_, _, Tryd.underlying140, rfl, rfl, rfl, by kernel_rfl⟩⟩
instance : One Tryd.prog 141 := ⟨fun w => run_isAgg Tryd.underlying141 w⟩
instance : Inf Tryd.prog 141 .nilFunc 1 8 := ⟨by kernel_rfl, by kernel_rfl⟩
instance : One Tryd.prog 142 := ⟨fun w => run_isAgg Tryd.underlying142 w⟩
instance : Inf Tryd.prog 142 .nilFunc 1 8 := ⟨by kernel_rfl, by kernel_rfl⟩
instance : Und Tryd.prog 143 (.pointer 116) := ⟨Tryd.underlying143⟩
instance : Inf Tryd.prog 143 (.pointer none) 1 8 := ⟨by kernel_rfl, by kernel_rfl⟩
instance : One Tryd.prog 144 := ⟨fun w => run_isAgg Tryd.underlying144 w⟩
instance : Inf Tryd.prog 144 .nilFunc 1 8 := ⟨by kernel_rfl, by kernel_rfl⟩
instance : One Tryd.prog 145 := ⟨fun w => run_isAgg Tryd.underlying145 w⟩
instance : Inf Tryd.prog 145 .nilIface 1 16 := ⟨by kernel_rfl, by kernel_rfl⟩
instance : One Tryd.prog 146 := ⟨fun w => run_isAgg Tryd.underlying146 w⟩
instance : Inf Tryd.prog 146 .nilIface 1 16 := ⟨by kernel_rfl, by kernel_rfl⟩
instance : One Tryd.prog 148 := ⟨fun w => run_isAgg Tryd.underlying148 w⟩
instance : Inf Tryd.prog 148 .nilFunc 1 8 := ⟨by kernel_rfl, by kernel_rfl⟩
instance : Und Tryd.prog 149 (.pointer 137) := ⟨Tryd.underlying149⟩
instance : Inf Tryd.prog 149 (.pointer none) 1 8 := ⟨by kernel_rfl, by kernel_rfl⟩
instance : Und Tryd.prog 150 (.int .u64) := ⟨Tryd.underlying150⟩
instance : Inf Tryd.prog 150 (.int .u64 0) 1 8 := ⟨by kernel_rfl, by kernel_rfl⟩
instance : Und Tryd.prog 151 (.pointer 140) := ⟨Tryd.underlying151⟩
instance : Inf Tryd.prog 151 (.pointer none) 1 8 := ⟨by kernel_rfl, by kernel_rfl⟩
instance : Und Tryd.prog 152 (.array 24 5) := ⟨Tryd.underlying152⟩
instance : Inf Tryd.prog 152 (.agg (List.replicate 24 (.int .u8 0)).toArray) 24 24 := ⟨by kernel_rfl, by kernel_rfl⟩
instance : Und Tryd.prog 153 (.int .u64) := ⟨Tryd.underlying153⟩
instance : Inf Tryd.prog 153 (.int .u64 0) 1 8 := ⟨by kernel_rfl, by kernel_rfl⟩
instance : One Tryd.prog 154 := ⟨fun w => run_isAgg Tryd.underlying154 w⟩
instance : Inf Tryd.prog 154 .nilFunc 1 8 := ⟨by kernel_rfl, by kernel_rfl⟩
instance : One Tryd.prog 155 := ⟨fun w => run_isAgg Tryd.underlying155 w⟩
instance : Inf Tryd.prog 155 .nilFunc 1 8 := ⟨by kernel_rfl, by kernel_rfl⟩
instance : One Tryd.prog 157 := ⟨fun w => run_isAgg Tryd.underlying157 w⟩
instance : Inf Tryd.prog 157 .nilFunc 1 8 := ⟨by kernel_rfl, by kernel_rfl⟩
instance : One Tryd.prog 158 := ⟨fun w => run_isAgg Tryd.underlying158 w⟩
instance : Inf Tryd.prog 158 .nilFunc 1 8 := ⟨by kernel_rfl, by kernel_rfl⟩
instance : One Tryd.prog 159 := ⟨fun w => run_isAgg Tryd.underlying159 w⟩
instance : Inf Tryd.prog 159 .nilFunc 1 8 := ⟨by kernel_rfl, by kernel_rfl⟩
instance : One Tryd.prog 160 := ⟨fun w => run_isAgg Tryd.underlying160 w⟩
instance : Inf Tryd.prog 160 .nilFunc 1 8 := ⟨by kernel_rfl, by kernel_rfl⟩
instance : Und Tryd.prog 161 (.array 20 153) := ⟨Tryd.underlying161⟩
instance : Inf Tryd.prog 161 (.agg (List.replicate 20 (.int .u64 0)).toArray) 20 160 := ⟨by kernel_rfl, by kernel_rfl⟩
instance : Und Tryd.prog 162 (.array 65 5) := ⟨Tryd.underlying162⟩
instance : Inf Tryd.prog 162 (.agg (List.replicate 65 (.int .u8 0)).toArray) 65 65 := ⟨by kernel_rfl, by kernel_rfl⟩
instance : One Tryd.prog 163 := ⟨fun w => run_isAgg Tryd.underlying163 w⟩
instance : Inf Tryd.prog 163 .nilFunc 1 8 := ⟨by kernel_rfl, by kernel_rfl⟩
instance : One Tryd.prog 164 := ⟨fun w => run_isAgg Tryd.underlying164 w⟩
instance : Inf Tryd.prog 164 .nilFunc 1 8 := ⟨by kernel_rfl, by kernel_rfl⟩
instance : Und Tryd.prog 165 (.int .i64) := ⟨Tryd.underlying165⟩
instance : Inf Tryd.prog 165 (.int .i64 0) 1 8 := ⟨by kernel_rfl, by kernel_rfl⟩
instance : One Tryd.prog 167 := ⟨fun w => run_isAgg Tryd.underlying167 w⟩
instance : Inf Tryd.prog 167 .nilFunc 1 8 := ⟨by kernel_rfl, by kernel_rfl⟩
instance : Und Tryd.prog 168 (.pointer 175) := ⟨Tryd.underlying168⟩
instance : Inf Tryd.prog 168 (.pointer none) 1 8 := ⟨by kernel_rfl, by kernel_rfl⟩
instance : One Tryd.prog 169 := ⟨fun w => run_isAgg Tryd.underlying169 w⟩
instance : Inf Tryd.prog 169 .nilFunc 1 8 := ⟨by kernel_rfl, by kernel_rfl⟩
instance : One Tryd.prog 170 := ⟨fun w => run_isAgg Tryd.underlying170 w⟩
instance : Inf Tryd.prog 170 .nilFunc 1 8 := ⟨by kernel_rfl, by kernel_rfl⟩
instance : One Tryd.prog 171 := ⟨fun w => run_isAgg Tryd.underlying171 w⟩
instance : Inf Tryd.prog 171 .nilFunc 1 8 := ⟨by kernel_rfl, by kernel_rfl⟩
instance : One Tryd.prog 173 := ⟨fun w => run_isAgg Tryd.underlying173 w⟩
instance : Inf Tryd.prog 173 .nilFunc 1 8 := ⟨by kernel_rfl, by kernel_rfl⟩
instance : Agg Tryd.prog 174 := ⟨fun w => run_isAgg Tryd.underlying174 w⟩
instance : Inf Tryd.prog 174 (.agg #[(.string ⟨#[]⟩), (.string ⟨#[]⟩), .nilIface]) 3 48 := ⟨by kernel_rfl, by kernel_rfl⟩
instance : Str Tryd.prog 174 [(0, 1), (1, 1), (2, 1)] := ⟨⟨_, Tryd.underlying174, by kernel_rfl, by kernel_rfl⟩⟩
instance : Fld Tryd.prog 174 0 0 9 1 := ⟨⟨_, _, Tryd.underlying174, rfl, rfl, rfl, by kernel_rfl⟩⟩
instance : Fld Tryd.prog 174 1 1 9 1 := ⟨⟨_, _, Tryd.underlying174, rfl, rfl, rfl, by kernel_rfl⟩⟩
instance : Fld Tryd.prog 174 2 2 146 1 := ⟨⟨_, _, Tryd.underlying174, rfl, rfl, rfl, by kernel_rfl⟩⟩
instance : Agg Tryd.prog 175 := ⟨fun w => run_isAgg Tryd.underlying175 w⟩
instance : Inf Tryd.prog 175 (.agg #[(.string ⟨#[]⟩), (.string ⟨#[]⟩), .nilIface]) 3 48 := ⟨by kernel_rfl, by kernel_rfl⟩
instance : Str Tryd.prog 175 [(0, 1), (1, 1), (2, 1)] := ⟨⟨_, Tryd.underlying175, by kernel_rfl, by kernel_rfl⟩⟩
instance : Fld Tryd.prog 175 0 0 9 1 := ⟨⟨_, _, Tryd.underlying175, rfl, rfl, rfl, by kernel_rfl⟩⟩
instance : Fld Tryd.prog 175 1 1 9 1 := ⟨⟨_, _, Tryd.underlying175, rfl, rfl, rfl, by kernel_rfl⟩⟩
instance : Fld Tryd.prog 175 2 2 146 1 := ⟨⟨_, _, Tryd.underlying175, rfl, rfl, rfl, by kernel_rfl⟩⟩
instance : One Tryd.prog 176 := ⟨fun w => run_isAgg Tryd.underlying176 w⟩
instance : Inf Tryd.prog 176 .nilFunc 1 8 := ⟨by kernel_rfl, by kernel_rfl⟩
instance : Und Tryd.prog 177 (.array 32 5) := ⟨Tryd.underlying177⟩
instance : Inf Tryd.prog 177 (.agg (List.replicate 32 (.int .u8 0)).toArray) 32 32 := ⟨by kernel_rfl, by kernel_rfl⟩
instance : Und Tryd.prog 178 (.array 64 5) := ⟨Tryd.underlying178⟩
instance : Inf Tryd.prog 178 (.agg (List.replicate 64 (.int .u8 0)).toArray) 64 64 := ⟨by kernel_rfl, by kernel_rfl⟩
instance : One Tryd.prog 179 := ⟨fun w => run_isAgg Tryd.underlying179 w⟩
instance : Inf Tryd.prog 179 .nilFunc 1 8 := ⟨by kernel_rfl, by kernel_rfl⟩
instance : Und Tryd.prog 180 (.pointer 5) := ⟨Tryd.underlying180⟩
instance : Inf Tryd.prog 180 (.pointer none) 1 8 := ⟨by kernel_rfl, by kernel_rfl⟩
instance : Und Tryd.prog 181 (.pointer 183) := ⟨Tryd.underlying181⟩
instance : Inf Tryd.prog 181 (.pointer none) 1 8 := ⟨by kernel_rfl, by kernel_rfl⟩
instance : Agg Tryd.prog 182 := ⟨fun w => run_isAgg Tryd.underlying182 w⟩
instance : Inf Tryd.prog 182 (.agg #[(.string ⟨#[]⟩)]) 1 16 := ⟨by kernel_rfl, by kernel_rfl⟩
instance : Str Tryd.prog 182 [(0, 1)] := ⟨⟨_, Tryd.underlying182, by kernel_rfl, by kernel_rfl⟩⟩
instance : Fld Tryd.prog 182 0 0 9 1 := ⟨⟨_, _, Tryd.underlying182, rfl, rfl, rfl, by kernel_rfl⟩⟩
instance : Agg Tryd.prog 183 := ⟨fun w => run_isAgg Tryd.underlying183 w⟩
instance : Inf Tryd.prog 183 (.agg #[(.string ⟨#[]⟩)]) 1 16 := ⟨by kernel_rfl, by kernel_rfl⟩
instance : Str Tryd.prog 183 [(0, 1)] := ⟨⟨_, Tryd.underlying183, by kernel_rfl, by kernel_rfl⟩⟩
instance : Fld Tryd.prog 183 0 0 9 1 := ⟨⟨_, _, Tryd.underlying183, rfl, rfl, rfl, by kernel_rfl⟩⟩
instance : One Tryd.prog 184 := ⟨fun w => run_isAgg Tryd.underlying184 w⟩
instance : Inf Tryd.prog 184 .nilFunc 1 8 := ⟨by kernel_rfl, by kernel_rfl⟩
instance : Agg Tryd.prog 185 := ⟨fun w => run_isAgg Tryd.underlying185 w⟩
instance : Inf Tryd.prog 185 (.agg #[(.pointer none), (.pointer none), (.pointer none), (.string ⟨#[]⟩)]) 4 40 := ⟨by kernel_rfl, by kernel_rfl⟩
instance : Str Tryd.prog 185 [(0, 1), (1, 1), (2, 1), (3, 1)] := ⟨⟨_, Tryd.underlying185, by kernel_rfl, by kernel_rfl⟩⟩
instance : Fld Tryd.prog 185 0 0 17 1 := ⟨⟨_, _, Tryd.underlying185, rfl, rfl, rfl, by kernel_rfl⟩⟩
instance : Fld Tryd.prog 185 1 1 17 1 := ⟨⟨_, _, Tryd.underlying185, rfl, rfl, rfl, by kernel_rfl⟩⟩
instance : Fld Tryd.prog 185 2 2 17 1 := ⟨⟨_, _, Tryd.underlying185, rfl, rfl, rfl, by kernel_rfl⟩⟩
instance : Fld Tryd.prog 185 3 3 9 1 := ⟨⟨_, _, Tryd.underlying185, rfl, rfl, rfl, by kernel_rfl⟩⟩
instance : Agg Tryd.prog 186 := ⟨fun w => run_isAgg Tryd.underlying186 w⟩
instance : Inf Tryd.prog 186 (.agg #[(.pointer none), (.pointer none), (.pointer none), (.string ⟨#[]⟩)]) 4 40 := ⟨by kernel_rfl, by kernel_rfl⟩
instance : Str Tryd.prog 186 [(0, 1), (1, 1), (2, 1), (3, 1)] := ⟨⟨_, Tryd.underlying186, by kernel_rfl, by kernel_rfl⟩⟩
instance : Fld Tryd.prog 186 0 0 17 1 := ⟨⟨_, _, Tryd.underlying186, rfl, rfl, rfl, by kernel_rfl⟩⟩
instance : Fld Tryd.prog 186 1 1 17 1 := ⟨⟨_, _, Tryd.underlying186, rfl, rfl, rfl, by kernel_rfl⟩⟩
instance : Fld Tryd.prog 186 2 2 17 1 := ⟨⟨_, _, Tryd.underlying186, rfl, rfl, rfl, by kernel_rfl⟩⟩
instance : Fld Tryd.prog 186 3 3 9 1 := ⟨⟨_, _, Tryd.underlying186, rfl, rfl, rfl, by kernel_rfl⟩⟩
instance : Und Tryd.prog 187 (.array 0 16) := ⟨Tryd.underlying187⟩
instance : Inf Tryd.prog 187 (.agg #[]) 0 0 := ⟨by kernel_rfl, by kernel_rfl⟩
instance : Agg Tryd.prog 188 := ⟨fun w => run_isAgg Tryd.underlying188 w⟩
instance : Inf Tryd.prog 188 (.agg #[]) 0 0 := ⟨by kernel_rfl, by kernel_rfl⟩
instance : Str Tryd.prog 188 [(0, 0)] := ⟨⟨_, Tryd.underlying188, by kernel_rfl, by kernel_rfl⟩⟩
instance : Agg Tryd.prog 189 := ⟨fun w => run_isAgg Tryd.underlying189 w⟩
instance : Inf Tryd.prog 189 (.agg #[]) 0 0 := ⟨by kernel_rfl, by kernel_rfl⟩
instance : Str Tryd.prog 189 [(0, 0)] := ⟨⟨_, Tryd.underlying189, by kernel_rfl, by kernel_rfl⟩⟩
instance : One Tryd.prog 190 := ⟨fun w => run_isAgg Tryd.underlying190 w⟩
instance : Inf Tryd.prog 190 .nilFunc 1 8 := ⟨by kernel_rfl, by kernel_rfl⟩
instance : Und Tryd.prog 191 (.int .u8) := ⟨Tryd.underlying191⟩
instance : Inf Tryd.prog 191 (.int .u8 0) 1 1 := ⟨by kernel_rfl, by kernel_rfl⟩
instance : Und Tryd.prog 192 (.int .u8) := ⟨Tryd.underlying192⟩
instance : Inf Tryd.prog 192 (.int .u8 0) 1 1 := ⟨by kernel_rfl, by kernel_rfl⟩
instance : One Tryd.prog 193 := ⟨fun w => run_isAgg Tryd.underlying193 w⟩
instance : Inf Tryd.prog 193 .nilFunc 1 8 := ⟨by kernel_rfl, by kernel_rfl⟩
instance : Und Tryd.prog 194 (.int .i32) := ⟨Tryd.underlying194⟩
instance : Inf Tryd.prog 194 (.int .i32 0) 1 4 := ⟨by kernel_rfl, by kernel_rfl⟩
instance : Und Tryd.prog 195 (.int .i32) := ⟨Tryd.underlying195⟩
instance : Inf Tryd.prog 195 (.int .i32 0) 1 4 := ⟨by kernel_rfl, by kernel_rfl⟩
instance : Agg Tryd.prog 196 := ⟨fun w => run_isAgg Tryd.underlying196 w⟩
instance : Inf Tryd.prog 196 (.agg #[(.int .u64 0), (.int .u64 0), (.int .u32 0), (.int .u8 0), (.int .u8 0), (.int .u8 0), (.int .u8 0), .nilFunc, (.pointer none), (.int .i32 0), (.int .i32 0)]) 11 48 := ⟨by kernel_rfl, by kernel_rfl⟩
instance : Str Tryd.prog 196 [(0, 1), (1, 1), (2, 1), (3, 1), (4, 1), (5, 1), (6, 1), (7, 1), (8, 1), (9, 1), (10, 1)] := ⟨⟨_, Tryd.underlying196, by kernel_rfl, by kernel_rfl⟩⟩
instance : Fld Tryd.prog 196 0 0 12 1 := ⟨⟨_, _, Tryd.underlying196, rfl, rfl, rfl, by kernel_rfl⟩⟩
instance : Fld Tryd.prog 196 1 1 12 1 := ⟨⟨_, _, Tryd.underlying196, rfl, rfl, rfl, by kernel_rfl⟩⟩
instance : Fld Tryd.prog 196 2 2 123 1 := ⟨⟨_, _, Tryd.underlying196, rfl, rfl, rfl, by kernel_rfl⟩⟩
instance : Fld Tryd.prog 196 3 3 191 1 := ⟨⟨_, _, Tryd.underlying196, rfl, rfl, rfl, by kernel_rfl⟩⟩
instance : Fld Tryd.prog 196 4 4 5 1 := ⟨⟨_, _, Tryd.underlying196, rfl, rfl, rfl, by kernel_rfl⟩⟩
instance : Fld Tryd.prog 196 5 5 5 1 := ⟨⟨_, _, Tryd.underlying196, rfl, rfl, rfl, by kernel_rfl⟩⟩
instance : Fld Tryd.prog 196 6 6 192 1 := ⟨⟨_, _, Tryd.underlying196, rfl, rfl, rfl, by kernel_rfl⟩⟩
instance : Fld Tryd.prog 196 7 7 193 1 := ⟨⟨_, _, Tryd.underlying196, rfl, rfl, rfl, by kernel_rfl⟩⟩
instance : Fld Tryd.prog 196 8 8 180 1 := ⟨⟨_, _, Tryd.underlying196, rfl, rfl, rfl, by kernel_rfl⟩⟩
instance : Fld Tryd.prog 196 9 9 194 1 := ⟨⟨_, _, Tryd.underlying196, rfl, rfl, rfl, by kernel_rfl⟩⟩
instance : Fld Tryd.prog 196 10 10 195 1 := ⟨⟨_, _, Tryd.underlying196, rfl, rfl, rfl, by kernel_rfl⟩⟩
instance : Agg Tryd.prog 197 := ⟨fun w => run_isAgg Tryd.underlying197 w⟩
instance : Inf Tryd.prog 197 (.agg #[(.int .u64 0), (.int .u64 0), (.int .u32 0), (.int .u8 0), (.int .u8 0), (.int .u8 0), (.int .u8 0), .nilFunc, (.pointer none), (.int .i32 0), (.int .i32 0)]) 11 48 := ⟨by kernel_rfl, by kernel_rfl⟩
instance : Str Tryd.prog 197 [(0, 1), (1, 1), (2, 1), (3, 1), (4, 1), (5, 1), (6, 1), (7, 1), (8, 1), (9, 1), (10, 1)] := ⟨⟨_, Tryd.underlying197, by kernel_rfl, by kernel_rfl⟩⟩
instance : Fld Tryd.prog 197 0 0 12 1 := ⟨⟨_, _, Tryd.underlying197, rfl, rfl, rfl, by kernel_rfl⟩⟩
instance : Fld Tryd.prog 197 1 1 12 1 := ⟨⟨_, _, Tryd.underlying197, rfl, rfl, rfl, by kernel_rfl⟩⟩
instance : Fld Tryd.prog 197 2 2 123 1 := ⟨⟨_, _, Tryd.underlying197, rfl, rfl, rfl, by kernel_rfl⟩⟩
instance : Fld Tryd.prog 197 3 3 191 1 := ⟨⟨_, _, Tryd.underlying197, rfl, rfl, rfl, by kernel_rfl⟩⟩
instance : Fld Tryd.prog 197 4 4 5 1 := ⟨⟨_, _, Tryd.underlying197, rfl, rfl, rfl, by kernel_rfl⟩⟩
instance : Fld Tryd.prog 197 5 5 5 1 := ⟨⟨_, _, Tryd.underlying197, rfl, rfl, rfl, by kernel_rfl⟩⟩
instance : Fld Tryd.prog 197 6 6 192 1 := ⟨⟨_, _, Tryd.underlying197, rfl, rfl, rfl, by kernel_rfl⟩⟩
instance : Fld Tryd.prog 197 7 7 193 1 := ⟨⟨_, _, Tryd.underlying197, rfl, rfl, rfl, by kernel_rfl⟩⟩
instance : Fld Tryd.prog 197 8 8 180 1 := ⟨⟨_, _, Tryd.underlying197, rfl, rfl, rfl, by kernel_rfl⟩⟩
instance : Fld Tryd.prog 197 9 9 194 1 := ⟨⟨_, _, Tryd.underlying197, rfl, rfl, rfl, by kernel_rfl⟩⟩
instance : Fld Tryd.prog 197 10 10 195 1 := ⟨⟨_, _, Tryd.underlying197, rfl, rfl, rfl, by kernel_rfl⟩⟩
instance : One Tryd.prog 198 := ⟨fun w => run_isAgg Tryd.underlying198 w⟩
instance : Inf Tryd.prog 198 (.pointer none) 1 8 := ⟨by kernel_rfl, by kernel_rfl⟩
instance : Fun Tryd.prog 3 := Fun.mk' Tryd.func3 (by kernel_rfl) (by kernel_rfl)
instance : Fun Tryd.prog 4 := Fun.mk' Tryd.func4 (by kernel_rfl) (by kernel_rfl)
instance : Fun Tryd.prog 5 := Fun.mk' Tryd.func5 (by kernel_rfl) (by kernel_rfl)
instance : Fun Tryd.prog 6 := Fun.mk' Tryd.func6 (by kernel_rfl) (by kernel_rfl)
instance : Fun Tryd.prog 7 := Fun.mk' Tryd.func7 (by kernel_rfl) (by kernel_rfl)
instance : Fun Tryd.prog 8 := Fun.mk' Tryd.func8 (by kernel_rfl) (by kernel_rfl)
instance : Fun Tryd.prog 9 := Fun.mk' Tryd.func9 (by kernel_rfl) (by kernel_rfl)
instance : Fun Tryd.prog 10 := Fun.mk' Tryd.func10 (by kernel_rfl) (by kernel_rfl)
instance : Fun Tryd.prog 11 := Fun.mk' Tryd.func11 (by kernel_rfl) (by kernel_rfl)
instance : Fun Tryd.prog 12 := Fun.mk' Tryd.func12 (by kernel_rfl) (by kernel_rfl)
instance : Fun Tryd.prog 13 := Fun.mk' Tryd.func13 (by kernel_rfl) (by kernel_rfl)
instance : Fun Tryd.prog 14 := Fun.mk' Tryd.func14 (by kernel_rfl) (by kernel_rfl)
instance : Fun Tryd.prog 15 := Fun.mk' Tryd.func15 (by kernel_rfl) (by kernel_rfl)
instance : Fun Tryd.prog 16 := Fun.mk' Tryd.func16 (by kernel_rfl) (by kernel_rfl)
instance : Fun Tryd.prog 17 := Fun.mk' Tryd.func17 (by kernel_rfl) (by kernel_rfl)
instance : Fun Tryd.prog 18 := Fun.mk' Tryd.func18 (by kernel_rfl) (by kernel_rfl)
instance : Fun Tryd.prog 19 := Fun.mk' Tryd.func19 (by kernel_rfl) (by kernel_rfl)
instance : Fun Tryd.prog 20 := Fun.mk' Tryd.func20 (by kernel_rfl) (by kernel_rfl)
instance : Fun Tryd.prog 21 := Fun.mk' Tryd.func21 (by kernel_rfl) (by kernel_rfl)
instance : Fun Tryd.prog 22 := Fun.mk' Tryd.func22 (by kernel_rfl) (by kernel_rfl)
instance : Fun Tryd.prog 23 := Fun.mk' Tryd.func23 (by kernel_rfl) (by kernel_rfl)
instance : Fun Tryd.prog 24 := Fun.mk' Tryd.func24 (by kernel_rfl) (by kernel_rfl)
instance : Fun Tryd.prog 25 := Fun.mk' Tryd.func25 (by kernel_rfl) (by kernel_rfl)
instance : Fun Tryd.prog 26 := Fun.mk' Tryd.func26 (by kernel_rfl) (by kernel_rfl)
instance : Fun Tryd.prog 27 := Fun.mk' Tryd.func27 (by kernel_rfl) (by kernel_rfl)
instance : Fun Tryd.prog 28 := Fun.mk' Tryd.func28 (by kernel_rfl) (by kernel_rfl)
instance : Fun Tryd.prog 29 := Fun.mk' Tryd.func29 (by kernel_rfl) (by kernel_rfl)
instance : Fun Tryd.prog 30 := Fun.mk' Tryd.func30 (by kernel_rfl) (by kernel_rfl)
instance : Fun Tryd.prog 31 := Fun.mk' Tryd.func31 (by kernel_rfl) (by kernel_rfl)
instance : Fun Tryd.prog 32 := Fun.mk' Tryd.func32 (by kernel_rfl) (by kernel_rfl)
instance : Fun Tryd.prog 33 := Fun.mk' Tryd.func33 (by kernel_rfl) (by kernel_rfl)
instance : Fun Tryd.prog 34 := Fun.mk' Tryd.func34 (by kernel_rfl) (by kernel_rfl)
instance : Fun Tryd.prog 35 := Fun.mk' Tryd.func35 (by kernel_rfl) (by kernel_rfl)
instance : Fun Tryd.prog 36 := Fun.mk' Tryd.func36 (by kernel_rfl) (by kernel_rfl)
instance : Fun Tryd.prog 37 := Fun.mk' Tryd.func37 (by kernel_rfl) (by kernel_rfl)
instance : Fun Tryd.prog 38 := Fun.mk' Tryd.func38 (by kernel_rfl) (by kernel_rfl)
instance : Fun Tryd.prog 39 := Fun.mk' Tryd.func39 (by kernel_rfl) (by kernel_rfl)
instance : Fun Tryd.prog 40 := Fun.mk' Tryd.func40 (by kernel_rfl) (by kernel_rfl)
instance : Fun Tryd.prog 41 := Fun.mk' Tryd.func41 (by kernel_rfl) (by kernel_rfl)
instance : Fun Tryd.prog 42 := Fun.mk' Tryd.func42 (by kernel_rfl) (by kernel_rfl)
instance : Fun Tryd.prog 43 := Fun.mk' Tryd.func43 (by kernel_rfl) (by kernel_rfl)
instance : Fun Tryd.prog 44 := Fun.mk' Tryd.func44 (by kernel_rfl) (by kernel_rfl)
instance : Fun Tryd.prog 45 := Fun.mk' Tryd.func45 (by kernel_rfl) (by kernel_rfl)
instance : Fun Tryd.prog 46 := Fun.mk' Tryd.func46 (by kernel_rfl) (by kernel_rfl)
instance : Fun Tryd.prog 47 := Fun.mk' Tryd.func47 (by kernel_rfl) (by kernel_rfl)
instance : Fun Tryd.prog 48 := Fun.mk' Tryd.func48 (by kernel_rfl) (by kernel_rfl)
instance : Fun Tryd.prog 49 := Fun.mk' Tryd.func49 (by kernel_rfl) (by kernel_rfl)
instance : Fun Tryd.prog 50 := Fun.mk' Tryd.func50 (by kernel_rfl) (by kernel_rfl)
instance : Fun Tryd.prog 51 := Fun.mk' Tryd.func51 (by kernel_rfl) (by kernel_rfl)
instance : Fun Tryd.prog 52 := Fun.mk' Tryd.func52 (by kernel_rfl) (by kernel_rfl)
instance : Fun Tryd.prog 53 := Fun.mk' Tryd.func53 (by kernel_rfl) (by kernel_rfl)
instance : Fun Tryd.prog 54 := Fun.mk' Tryd.func54 (by kernel_rfl) (by kernel_rfl)
instance : Fun Tryd.prog 55 := Fun.mk' Tryd.func55 (by kernel_rfl) (by kernel_rfl)
instance : Fun Tryd.prog 56 := Fun.mk' Tryd.func56 (by kernel_rfl) (by kernel_rfl)
instance : Fun Tryd.prog 57 := Fun.mk' Tryd.func57 (by kernel_rfl) (by kernel_rfl)
instance : Fun Tryd.prog 58 := Fun.mk' Tryd.func58 (by kernel_rfl) (by kernel_rfl)
instance : Fun Tryd.prog 59 := Fun.mk' Tryd.func59 (by kernel_rfl) (by kernel_rfl)
instance : Fun Tryd.prog 60 := Fun.mk' Tryd.func60 (by kernel_rfl) (by kernel_rfl)
instance : Fun Tryd.prog 61 := Fun.mk' Tryd.func61 (by kernel_rfl) (by kernel_rfl)
instance : Fun Tryd.prog 62 := Fun.mk' Tryd.func62 (by kernel_rfl) (by kernel_rfl)
instance : Fun Tryd.prog 63 := Fun.mk' Tryd.func63 (by kernel_rfl) (by kernel_rfl)
instance : Fun Tryd.prog 64 := Fun.mk' Tryd.func64 (by kernel_rfl) (by kernel_rfl)
instance : Fun Tryd.prog 65 := Fun.mk' Tryd.func65 (by kernel_rfl) (by kernel_rfl)
instance : Fun Tryd.prog 66 := Fun.mk' Tryd.func66 (by kernel_rfl) (by kernel_rfl)
instance : Fun Tryd.prog 67 := Fun.mk' Tryd.func67 (by kernel_rfl) (by kernel_rfl)
instance : Fun Tryd.prog 68 := Fun.mk' Tryd.func68 (by kernel_rfl) (by kernel_rfl)
instance : Fun Tryd.prog 69 := Fun.mk' Tryd.func69 (by kernel_rfl) (by kernel_rfl)
instance : Fun Tryd.prog 70 := Fun.mk' Tryd.func70 (by kernel_rfl) (by kernel_rfl)
instance : Fun Tryd.prog 71 := Fun.mk' Tryd.func71 (by kernel_rfl) (by kernel_rfl)
instance : Fun Tryd.prog 72 := Fun.mk' Tryd.func72 (by kernel_rfl) (by kernel_rfl)
instance : Fun Tryd.prog 73 := Fun.mk' Tryd.func73 (by kernel_rfl) (by kernel_rfl)
instance : Fun Tryd.prog 74 := Fun.mk' Tryd.func74 (by kernel_rfl) (by kernel_rfl)
instance : Fun Tryd.prog 75 := Fun.mk' Tryd.func75 (by kernel_rfl) (by kernel_rfl)
instance : Fun Tryd.prog 76 := Fun.mk' Tryd.func76 (by kernel_rfl) (by kernel_rfl)
instance : Fun Tryd.prog 77 := Fun.mk' Tryd.func77 (by kernel_rfl) (by kernel_rfl)
instance : Fun Tryd.prog 78 := Fun.mk' Tryd.func78 (by kernel_rfl) (by kernel_rfl)
instance : Fun Tryd.prog 79 := Fun.mk' Tryd.func79 (by kernel_rfl) (by kernel_rfl)
instance : Fun Tryd.prog 80 := Fun.mk' Tryd.func80 (by kernel_rfl) (by kernel_rfl)
instance : Fun Tryd.prog 81 := Fun.mk' Tryd.func81 (by kernel_rfl) (by kernel_rfl)
instance : Fun Tryd.prog 82 := Fun.mk' Tryd.func82 (by kernel_rfl) (by kernel_rfl)
instance : Fun Tryd.prog 83 := Fun.mk' Tryd.func83 (by kernel_rfl) (by kernel_rfl)
instance : Fun Tryd.prog 84 := Fun.mk' Tryd.func84 (by kernel_rfl) (by kernel_rfl)
instance : Fun Tryd.prog 85 := Fun.mk' Tryd.func85 (by kernel_rfl) (by kernel_rfl)
instance : Fun Tryd.prog 86 := Fun.mk' Tryd.func86 (by kernel_rfl) (by kernel_rfl)
instance : Fun Tryd.prog 87 := Fun.mk' Tryd.func87 (by kernel_rfl) (by kernel_rfl)
instance : Fun Tryd.prog 88 := Fun.mk' Tryd.func88 (by kernel_rfl) (by kernel_rfl)
instance : Fun Tryd.prog 89 := Fun.mk' Tryd.func89 (by kernel_rfl) (by kernel_rfl)
instance : Fun Tryd.prog 90 := Fun.mk' Tryd.func90 (by kernel_rfl) (by kernel_rfl)
instance : Fun Tryd.prog 91 := Fun.mk' Tryd.func91 (by kernel_rfl) (by kernel_rfl)
instance : Fun Tryd.prog 92 := Fun.mk' Tryd.func92 (by kernel_rfl) (by kernel_rfl)
instance : Fun Tryd.prog 93 := Fun.mk' Tryd.func93 (by kernel_rfl) (by kernel_rfl)
instance : Fun Tryd.prog 94 := Fun.mk' Tryd.func94 (by kernel_rfl) (by kernel_rfl)
instance : Fun Tryd.prog 95 := Fun.mk' Tryd.func95 (by kernel_rfl) (by kernel_rfl)
instance : Fun Tryd.prog 96 := Fun.mk' Tryd.func96 (by kernel_rfl) (by kernel_rfl)
instance : Fun Tryd.prog 97 := Fun.mk' Tryd.func97 (by kernel_rfl) (by kernel_rfl)
instance : Fun Tryd.prog 98 := Fun.mk' Tryd.func98 (by kernel_rfl) (by kernel_rfl)
instance : Fun Tryd.prog 99 := Fun.mk' Tryd.func99 (by kernel_rfl) (by kernel_rfl)
theorem mixed : Tryd.prog.follows .mixedOrders = true := by kernel_rfl
end Cr
namespace Go.Proofs
open Go.Shelf
def Tryd.laysM171_ren : Go.Shelf.Ren := ⟨fun | 171 => 60 | 243 => 65 | 246 => 74 | 283 => 77 | 284 => 78 | 285 => 79 | 286 => 80 | 129 => 84 | 317 => 83 | 318 => 85 | 319 => 86 | 320 => 87 | 337 => 93 | 338 => 94 | n => n, fun | 3 => 3 | 9 => 9 | 2 => 2 | 4 => 4 | 171 => 152 | 0 => 0 | 53 => 153 | 37 => 22 | 5 => 5 | 173 => 156 | 212 => 161 | 51 => 123 | 20 => 20 | 213 => 162 | 46 => 150 | 232 => 177 | 233 => 178 | n => n, fun | 17 => 2 | 18 => 5 | 19 => 6 | n => n⟩
theorem Tryd.laysM171 : Go.Proofs.LaysM.n171 Tryd.prog Tryd.laysM171_ren := {
  mixed := by kernel_rfl
  f129 := Tryd.func84.trans (congrArg some (by kernel_rfl))
  f171 := Tryd.func60.trans (congrArg some (by kernel_rfl))
  f243 := Tryd.func65.trans (congrArg some (by kernel_rfl))
  f246 := Tryd.func74.trans (congrArg some (by kernel_rfl))
  f283 := Tryd.func77.trans (congrArg some (by kernel_rfl))
  f284 := Tryd.func78.trans (congrArg some (by kernel_rfl))
  f285 := Tryd.func79.trans (congrArg some (by kernel_rfl))
  f286 := Tryd.func80.trans (congrArg some (by kernel_rfl))
  f317 := Tryd.func83.trans (congrArg some (by kernel_rfl))
  f318 := Tryd.func85.trans (congrArg some (by kernel_rfl))
  f319 := Tryd.func86.trans (congrArg some (by kernel_rfl))
  f320 := Tryd.func87.trans (congrArg some (by kernel_rfl))
  f337 := Tryd.func93.trans (congrArg some (by kernel_rfl))
  f338 := Tryd.func94.trans (congrArg some (by kernel_rfl))
  t0 := Tryd.underlying0
  a0 := Tryd.isAgg0
  z0 := Tryd.sizeOf0
  v0 := Tryd.zeroValue0
  t2 := Tryd.underlying2
  a2 := Tryd.isAgg2
  z2 := Tryd.sizeOf2
  v2 := Tryd.zeroValue2
  t3 := Tryd.underlying3
  a3 := Tryd.isAgg3
  z3 := Tryd.sizeOf3
  v3 := Tryd.zeroValue3
  t4 := Tryd.underlying4
  a4 := Tryd.isAgg4
  z4 := Tryd.sizeOf4
  v4 := Tryd.zeroValue4
  t5 := Tryd.underlying5
  a5 := Tryd.isAgg5
  z5 := Tryd.sizeOf5
  v5 := Tryd.zeroValue5
  t9 := Tryd.underlying9
  a9 := Tryd.isAgg9
  z9 := Tryd.sizeOf9
  v9 := Tryd.zeroValue9
  t20 := Tryd.underlying20
  a20 := Tryd.isAgg20
  z20 := Tryd.sizeOf20
  v20 := Tryd.zeroValue20
  t37 := Tryd.underlying22
  a37 := Tryd.isAgg22
  z37 := Tryd.sizeOf22
  v37 := Tryd.zeroValue22
  t46 := Tryd.underlying150
  a46 := Tryd.isAgg150
  z46 := Tryd.sizeOf150
  v46 := Tryd.zeroValue150
  t51 := Tryd.underlying123
  a51 := Tryd.isAgg123
  z51 := Tryd.sizeOf123
  v51 := Tryd.zeroValue123
  t53 := Tryd.underlying153
  a53 := Tryd.isAgg153
  z53 := Tryd.sizeOf153
  v53 := Tryd.zeroValue153
  t171 := Tryd.underlying152
  a171 := Tryd.isAgg152
  z171 := Tryd.sizeOf152
  v171 := Tryd.zeroValue152
  t173 := Tryd.underlying156
  a173 := Tryd.isAgg156
  z173 := Tryd.sizeOf156
  v173 := Tryd.zeroValue156
  t212 := Tryd.underlying161
  a212 := Tryd.isAgg161
  z212 := Tryd.sizeOf161
  v212 := Tryd.zeroValue161
  t213 := Tryd.underlying162
  a213 := Tryd.isAgg162
  z213 := Tryd.sizeOf162
  t232 := Tryd.underlying177
  a232 := Tryd.isAgg177
  z232 := Tryd.sizeOf177
  v232 := Tryd.zeroValue177
  t233 := Tryd.underlying178
  a233 := Tryd.isAgg178
  z233 := Tryd.sizeOf178
  v233 := Tryd.zeroValue178
  g17 := by kernel_rfl
  g18 := by kernel_rfl
  g19 := by kernel_rfl
  i0 := by kernel_rfl
  i2 := by kernel_rfl
  i3 := by kernel_rfl
  i4 := by kernel_rfl
  i5 := by kernel_rfl
  i9 := by kernel_rfl
  i20 := by kernel_rfl
  i37 := by kernel_rfl
  i46 := by kernel_rfl
  i51 := by kernel_rfl
  i53 := by kernel_rfl
  i171 := by kernel_rfl
  i173 := by kernel_rfl
  i212 := by kernel_rfl
  i232 := by kernel_rfl
  i233 := by kernel_rfl
  m17 := by kernel_rfl
  m18 := by kernel_rfl
  m19 := by kernel_rfl }
open Go.RowKit Go.Sort Go.Lib in
/-- strconv.Itoa: "Itoa is equivalent to FormatInt(int64(i), 10).": i's DECIMAL NUMERAL ('Lib.itoa': a '-' where i is negative, then the digits), FOR EVERY int. The world behind the call: the world before it, new blocks behind the heap (the library's 'var a [24]byte'), draws. (LAID: no walk: one application.) -/
theorem Tryd.strconv_Itoa (n : Int) (h0 : -9223372036854775808 ≤ n) (h1 : n ≤ 9223372036854775807) (w : World) (htab : Lib.TabIs Tryd.prog w "internal/strconv.uint64pow10" .u64 Lib.pow10Tab) :
    Calls Tryd.prog 60 #[.int .i64 n] w fun e w' => e = .returned (.string ⟨(Lib.itoa n).toArray⟩) ∧ ∃ k os, w' = grow (w.drewN k) os := Any.strconv_Itoa Tryd.laysM171 n h0 h1 w htab
def Tryd.laysC172_ren : Go.Shelf.Ren := ⟨fun | 172 => 76 | 244 => 81 | 245 => 82 | 247 => 88 | 279 => 89 | 280 => 90 | 281 => 91 | 282 => 92 | 287 => 95 | 316 => 96 | 171 => 60 | 205 => 97 | 321 => 98 | 322 => 99 | 243 => 65 | 246 => 74 | 283 => 77 | 284 => 78 | 285 => 79 | 286 => 80 | 129 => 84 | 317 => 83 | 318 => 85 | 319 => 86 | 320 => 87 | 337 => 93 | 338 => 94 | n => n, fun | 9 => 9 | 3 => 3 | 75 => 146 | 76 => 147 | 4 => 4 | 5 => 5 | 167 => 165 | 37 => 22 | 0 => 0 | 85 => 166 | 2 => 2 | 168 => 168 | 53 => 153 | 175 => 172 | 46 => 150 | 210 => 175 | 127 => 180 | 145 => 183 | 143 => 181 | 21 => 21 | 171 => 152 | 173 => 156 | 212 => 161 | 51 => 123 | 20 => 20 | 213 => 162 | 232 => 177 | 233 => 178 | 80 => 184 | n => n, fun | 15 => 3 | 16 => 4 | 17 => 2 | 18 => 5 | 19 => 6 | n => n⟩
theorem Tryd.laysC172 : Go.Proofs.LaysC.n172 Tryd.prog Tryd.laysC172_ren := {
  mixed := by kernel_rfl
  f129 := Tryd.func84.trans (congrArg some (by kernel_rfl))
  f171 := Tryd.func60.trans (congrArg some (by kernel_rfl))
  f172 := Tryd.func76.trans (congrArg some (by kernel_rfl))
  f205 := Tryd.func97.trans (congrArg some (by kernel_rfl))
  f243 := Tryd.func65.trans (congrArg some (by kernel_rfl))
  f244 := Tryd.func81.trans (congrArg some (by kernel_rfl))
  f245 := Tryd.func82.trans (congrArg some (by kernel_rfl))
  f246 := Tryd.func74.trans (congrArg some (by kernel_rfl))
  f247 := Tryd.func88.trans (congrArg some (by kernel_rfl))
  f279 := Tryd.func89.trans (congrArg some (by kernel_rfl))
  f280 := Tryd.func90.trans (congrArg some (by kernel_rfl))
  f281 := Tryd.func91.trans (congrArg some (by kernel_rfl))
  f282 := Tryd.func92.trans (congrArg some (by kernel_rfl))
  f283 := Tryd.func77.trans (congrArg some (by kernel_rfl))
  f284 := Tryd.func78.trans (congrArg some (by kernel_rfl))
  f285 := Tryd.func79.trans (congrArg some (by kernel_rfl))
  f286 := Tryd.func80.trans (congrArg some (by kernel_rfl))
  f287 := Tryd.func95.trans (congrArg some (by kernel_rfl))
  f316 := Tryd.func96.trans (congrArg some (by kernel_rfl))
  f317 := Tryd.func83.trans (congrArg some (by kernel_rfl))
  f318 := Tryd.func85.trans (congrArg some (by kernel_rfl))
  f319 := Tryd.func86.trans (congrArg some (by kernel_rfl))
  f320 := Tryd.func87.trans (congrArg some (by kernel_rfl))
  f321 := Tryd.func98.trans (congrArg some (by kernel_rfl))
  f322 := Tryd.func99.trans (congrArg some (by kernel_rfl))
  f337 := Tryd.func93.trans (congrArg some (by kernel_rfl))
  f338 := Tryd.func94.trans (congrArg some (by kernel_rfl))
  t0 := Tryd.underlying0
  a0 := Tryd.isAgg0
  z0 := Tryd.sizeOf0
  v0 := Tryd.zeroValue0
  t2 := Tryd.underlying2
  a2 := Tryd.isAgg2
  z2 := Tryd.sizeOf2
  v2 := Tryd.zeroValue2
  t3 := Tryd.underlying3
  a3 := Tryd.isAgg3
  z3 := Tryd.sizeOf3
  v3 := Tryd.zeroValue3
  t4 := Tryd.underlying4
  a4 := Tryd.isAgg4
  z4 := Tryd.sizeOf4
  v4 := Tryd.zeroValue4
  t5 := Tryd.underlying5
  a5 := Tryd.isAgg5
  z5 := Tryd.sizeOf5
  v5 := Tryd.zeroValue5
  t9 := Tryd.underlying9
  a9 := Tryd.isAgg9
  z9 := Tryd.sizeOf9
  v9 := Tryd.zeroValue9
  t20 := Tryd.underlying20
  a20 := Tryd.isAgg20
  z20 := Tryd.sizeOf20
  v20 := Tryd.zeroValue20
  t21 := Tryd.underlying21
  a21 := Tryd.isAgg21
  z21 := Tryd.sizeOf21
  v21 := Tryd.zeroValue21
  t37 := Tryd.underlying22
  a37 := Tryd.isAgg22
  z37 := Tryd.sizeOf22
  v37 := Tryd.zeroValue22
  t46 := Tryd.underlying150
  a46 := Tryd.isAgg150
  z46 := Tryd.sizeOf150
  v46 := Tryd.zeroValue150
  t51 := Tryd.underlying123
  a51 := Tryd.isAgg123
  z51 := Tryd.sizeOf123
  v51 := Tryd.zeroValue123
  t53 := Tryd.underlying153
  a53 := Tryd.isAgg153
  z53 := Tryd.sizeOf153
  v53 := Tryd.zeroValue153
  t75 := Tryd.underlying146
  a75 := Tryd.isAgg146
  z75 := Tryd.sizeOf146
  v75 := Tryd.zeroValue146
  t76 := Tryd.underlying147
  a76 := Tryd.isAgg147
  z76 := Tryd.sizeOf147
  v76 := Tryd.zeroValue147
  t85 := Tryd.underlying166
  a85 := Tryd.isAgg166
  z85 := Tryd.sizeOf166
  v85 := Tryd.zeroValue166
  t127 := Tryd.underlying180
  a127 := Tryd.isAgg180
  z127 := Tryd.sizeOf180
  v127 := Tryd.zeroValue180
  t143 := Tryd.underlying181
  a143 := Tryd.isAgg181
  z143 := Tryd.sizeOf181
  v143 := Tryd.zeroValue181
  t145 := Tryd.underlying183
  a145 := Tryd.isAgg183
  z145 := Tryd.sizeOf183
  v145 := Tryd.zeroValue183
  t167 := Tryd.underlying165
  a167 := Tryd.isAgg165
  z167 := Tryd.sizeOf165
  v167 := Tryd.zeroValue165
  t168 := Tryd.underlying168
  a168 := Tryd.isAgg168
  z168 := Tryd.sizeOf168
  v168 := Tryd.zeroValue168
  t171 := Tryd.underlying152
  a171 := Tryd.isAgg152
  z171 := Tryd.sizeOf152
  v171 := Tryd.zeroValue152
  t173 := Tryd.underlying156
  a173 := Tryd.isAgg156
  z173 := Tryd.sizeOf156
  v173 := Tryd.zeroValue156
  t175 := Tryd.underlying172
  a175 := Tryd.isAgg172
  z175 := Tryd.sizeOf172
  v175 := Tryd.zeroValue172
  t210 := Tryd.underlying175
  a210 := Tryd.isAgg175
  z210 := Tryd.sizeOf175
  v210 := Tryd.zeroValue175
  t212 := Tryd.underlying161
  a212 := Tryd.isAgg161
  z212 := Tryd.sizeOf161
  v212 := Tryd.zeroValue161
  t213 := Tryd.underlying162
  a213 := Tryd.isAgg162
  z213 := Tryd.sizeOf162
  t232 := Tryd.underlying177
  a232 := Tryd.isAgg177
  z232 := Tryd.sizeOf177
  v232 := Tryd.zeroValue177
  t233 := Tryd.underlying178
  a233 := Tryd.isAgg178
  z233 := Tryd.sizeOf178
  v233 := Tryd.zeroValue178
  g15 := by kernel_rfl
  g16 := by kernel_rfl
  g17 := by kernel_rfl
  g18 := by kernel_rfl
  g19 := by kernel_rfl
  t80 := Tryd.underlying184
  a80 := Tryd.isAgg184
  z80 := Tryd.sizeOf184
  v80 := Tryd.zeroValue184
  i0 := by kernel_rfl
  i2 := by kernel_rfl
  i3 := by kernel_rfl
  i4 := by kernel_rfl
  i5 := by kernel_rfl
  i9 := by kernel_rfl
  i20 := by kernel_rfl
  i21 := by kernel_rfl
  i37 := by kernel_rfl
  i46 := by kernel_rfl
  i51 := by kernel_rfl
  i53 := by kernel_rfl
  i75 := by kernel_rfl
  i76 := by kernel_rfl
  i80 := by kernel_rfl
  i85 := by kernel_rfl
  i127 := by kernel_rfl
  i143 := by kernel_rfl
  i145 := by kernel_rfl
  i167 := by kernel_rfl
  i168 := by kernel_rfl
  i171 := by kernel_rfl
  i173 := by kernel_rfl
  i175 := by kernel_rfl
  i210 := by kernel_rfl
  i212 := by kernel_rfl
  i232 := by kernel_rfl
  i233 := by kernel_rfl
  m15 := by kernel_rfl
  m16 := by kernel_rfl
  m17 := by kernel_rfl
  m18 := by kernel_rfl
  m19 := by kernel_rfl
  c0 := by kernel_rfl
  c2 := by kernel_rfl
  c3 := by kernel_rfl
  c4 := by kernel_rfl
  c5 := by kernel_rfl
  c9 := by kernel_rfl
  c20 := by kernel_rfl
  c21 := by kernel_rfl
  c37 := by kernel_rfl
  c46 := by kernel_rfl
  c51 := by kernel_rfl
  c53 := by kernel_rfl
  c75 := by kernel_rfl
  c76 := by kernel_rfl
  c80 := by kernel_rfl
  c85 := by kernel_rfl
  c127 := by kernel_rfl
  c143 := by kernel_rfl
  c145 := by kernel_rfl
  c167 := by kernel_rfl
  c168 := by kernel_rfl
  c171 := by kernel_rfl
  c173 := by kernel_rfl
  c175 := by kernel_rfl
  c210 := by kernel_rfl
  c212 := by kernel_rfl
  c213 := by kernel_rfl
  c232 := by kernel_rfl
  c233 := by kernel_rfl }
open Go.RowKit in
/-- strconv.Atoi, AT EVERY STRING THAT SPELLS AN int ('Lib.atoiAll .. = .ok v'; of whatever length: leading zeros count): v, AND NO ERROR. The world: as it was, or with the one new row that '[]byte(..)' lays. (LAID: no walk: one application.) -/
theorem Tryd.strconv_Atoi_ok (s : ByteArray) (hmax : s.size ≤ 9223372036854775806) (v : Int) (h : Lib.atoiAll s.data.toList = .ok v) (w : World) :
    Calls Tryd.prog 76 #[.string s] w fun e w' => e = .returned (.tuple #[.int .i64 v, .nilIface]) ∧ (w' = w ∨ ∃ t, w' = Lib.bytesWorld w 5 t) := Any.strconv_Atoi_ok Tryd.laysC172 s hmax v h w
open Go.RowKit in
theorem Tryd.strconv_Atoi_range_var (s : ByteArray) (hlim : s.size ≤ 281474976710656) (h : Lib.atoiAll s.data.toList = .range) (tp : TypeId) (p : Value) (w : World) (hvar : w.var? Tryd.prog "strconv.ErrRange" = some #[.iface tp p]) :
    Calls Tryd.prog 76 #[.string s] w fun e w' => ∃ N, e = .returned (.tuple #[.int .i64 (Lib.atoiSat s.data.toList), .iface 168 (.pointer (some ⟨N, 0, none⟩))]) ∧ w.heap.size ≤ N ∧ w'.heap[N]? = some (.cells #[.string ⟨#[65, 116, 111, 105]⟩, .string s, .iface tp p] 175 (0, 0)) ∧ Below w.heap.size w w' := Any.strconv_Atoi_range_var Tryd.laysC172 s hlim h tp p w hvar
def Tryd.laysM157_ren : Go.Shelf.Ren := ⟨fun | 157 => 41 | 229 => 52 | 199 => 53 | 261 => 63 | 311 => 72 | 312 => 73 | n => n, fun | 9 => 9 | 31 => 78 | 3 => 3 | 5 => 5 | 4 => 4 | 119 => 105 | 0 => 0 | 40 => 107 | 152 => 120 | 21 => 21 | 154 => 122 | 51 => 123 | 141 => 125 | 196 => 134 | 193 => 131 | 198 => 137 | 49 => 135 | 194 => 132 | 201 => 140 | 226 => 149 | 46 => 150 | 227 => 151 | n => n, fun | 0 => 0 | 6 => 1 | n => n⟩
theorem Tryd.laysM157 : Go.Proofs.LaysM.n157 Tryd.prog Tryd.laysM157_ren := {
  mixed := by kernel_rfl
  f157 := Tryd.func41.trans (congrArg some (by kernel_rfl))
  f199 := Tryd.func53.trans (congrArg some (by kernel_rfl))
  f229 := Tryd.func52.trans (congrArg some (by kernel_rfl))
  f261 := Tryd.func63.trans (congrArg some (by kernel_rfl))
  f311 := Tryd.func72.trans (congrArg some (by kernel_rfl))
  f312 := Tryd.func73.trans (congrArg some (by kernel_rfl))
  t0 := Tryd.underlying0
  a0 := Tryd.isAgg0
  z0 := Tryd.sizeOf0
  v0 := Tryd.zeroValue0
  t3 := Tryd.underlying3
  a3 := Tryd.isAgg3
  z3 := Tryd.sizeOf3
  v3 := Tryd.zeroValue3
  t4 := Tryd.underlying4
  a4 := Tryd.isAgg4
  z4 := Tryd.sizeOf4
  v4 := Tryd.zeroValue4
  t5 := Tryd.underlying5
  a5 := Tryd.isAgg5
  z5 := Tryd.sizeOf5
  v5 := Tryd.zeroValue5
  t9 := Tryd.underlying9
  a9 := Tryd.isAgg9
  z9 := Tryd.sizeOf9
  v9 := Tryd.zeroValue9
  t21 := Tryd.underlying21
  a21 := Tryd.isAgg21
  z21 := Tryd.sizeOf21
  v21 := Tryd.zeroValue21
  t31 := Tryd.underlying78
  a31 := Tryd.isAgg78
  z31 := Tryd.sizeOf78
  v31 := Tryd.zeroValue78
  t40 := Tryd.underlying107
  a40 := Tryd.isAgg107
  z40 := Tryd.sizeOf107
  v40 := Tryd.zeroValue107
  t46 := Tryd.underlying150
  a46 := Tryd.isAgg150
  z46 := Tryd.sizeOf150
  v46 := Tryd.zeroValue150
  t49 := Tryd.underlying135
  a49 := Tryd.isAgg135
  z49 := Tryd.sizeOf135
  v49 := Tryd.zeroValue135
  t51 := Tryd.underlying123
  a51 := Tryd.isAgg123
  z51 := Tryd.sizeOf123
  v51 := Tryd.zeroValue123
  t119 := Tryd.underlying105
  a119 := Tryd.isAgg105
  z119 := Tryd.sizeOf105
  t141 := Tryd.underlying125
  a141 := Tryd.isAgg125
  z141 := Tryd.sizeOf125
  v141 := Tryd.zeroValue125
  t152 := Tryd.underlying120
  a152 := Tryd.isAgg120
  z152 := Tryd.sizeOf120
  v152 := Tryd.zeroValue120
  t154 := Tryd.underlying122
  a154 := Tryd.isAgg122
  z154 := Tryd.sizeOf122
  v154 := Tryd.zeroValue122
  t193 := Tryd.underlying131
  a193 := Tryd.isAgg131
  z193 := Tryd.sizeOf131
  v193 := Tryd.zeroValue131
  t194 := Tryd.underlying132
  a194 := Tryd.isAgg132
  z194 := Tryd.sizeOf132
  v194 := Tryd.zeroValue132
  t196 := Tryd.underlying134
  a196 := Tryd.isAgg134
  z196 := Tryd.sizeOf134
  v196 := Tryd.zeroValue134
  t198 := Tryd.underlying137
  a198 := Tryd.isAgg137
  z198 := Tryd.sizeOf137
  v198 := Tryd.zeroValue137
  t201 := Tryd.underlying140
  a201 := Tryd.isAgg140
  z201 := Tryd.sizeOf140
  v201 := Tryd.zeroValue140
  t226 := Tryd.underlying149
  a226 := Tryd.isAgg149
  z226 := Tryd.sizeOf149
  v226 := Tryd.zeroValue149
  t227 := Tryd.underlying151
  a227 := Tryd.isAgg151
  z227 := Tryd.sizeOf151
  v227 := Tryd.zeroValue151
  g0 := by kernel_rfl
  g6 := by kernel_rfl
  i0 := by kernel_rfl
  i3 := by kernel_rfl
  i4 := by kernel_rfl
  i5 := by kernel_rfl
  i9 := by kernel_rfl
  i21 := by kernel_rfl
  i31 := by kernel_rfl
  i40 := by kernel_rfl
  i46 := by kernel_rfl
  i49 := by kernel_rfl
  i51 := by kernel_rfl
  i141 := by kernel_rfl
  i152 := by kernel_rfl
  i154 := by kernel_rfl
  i193 := by kernel_rfl
  i194 := by kernel_rfl
  i196 := by kernel_rfl
  i198 := by kernel_rfl
  i201 := by kernel_rfl
  i226 := by kernel_rfl
  i227 := by kernel_rfl
  m0 := by kernel_rfl
  m6 := by kernel_rfl }
open Go.RowKit Go.Lib in
/-- strings.Fields on ASCII bytes. (The table: 'Lib.TabIs', as strings.TrimSpace's contract asks it.) (LAID: no walk: one application.) -/
theorem Tryd.strings_Fields_laid (s : ByteArray) (w : World) (hs : s.size < 4294967281) (hascii : ∀ (j : Nat) b, s.data.toList[j]? = some b → b.toNat < 128) (htab : Lib.TabIs Tryd.prog w "strings.asciiSpace" .u8 Lib.asciiSpaceTab) :
    Calls Tryd.prog 41 #[.string s] w fun e w' =>
      e = .returned (.slice (some ⟨w.heap.size, 0, none⟩) (Lib.fields s.data.toList).length (Lib.fields s.data.toList).length) ∧ w' = w.alloc (.cells ((Lib.fields s.data.toList).map fun l => Value.string ⟨l.toArray⟩).toArray 9) := Any.strings_Fields_laid Tryd.laysM157 s w hs hascii htab
def Tryd.lays110_ren : Go.Shelf.Ren := ⟨fun | 110 => 40 | 109 => 51 | n => n, fun | 31 => 78 | 9 => 9 | 4 => 4 | 3 => 3 | 0 => 0 | n => n, fun | n => n⟩
theorem Tryd.lays110 : Go.Proofs.Lays.n110 Tryd.prog Tryd.lays110_ren := {
  mixed := by kernel_rfl
  f109 := Tryd.func51.trans (congrArg some (by kernel_rfl))
  f110 := Tryd.func40.trans (congrArg some (by kernel_rfl))
  t0 := Tryd.underlying0
  a0 := Tryd.isAgg0
  z0 := Tryd.sizeOf0
  v0 := Tryd.zeroValue0
  t3 := Tryd.underlying3
  a3 := Tryd.isAgg3
  z3 := Tryd.sizeOf3
  v3 := Tryd.zeroValue3
  t4 := Tryd.underlying4
  a4 := Tryd.isAgg4
  z4 := Tryd.sizeOf4
  v4 := Tryd.zeroValue4
  t9 := Tryd.underlying9
  a9 := Tryd.isAgg9
  z9 := Tryd.sizeOf9
  v9 := Tryd.zeroValue9
  t31 := Tryd.underlying78
  a31 := Tryd.isAgg78
  z31 := Tryd.sizeOf78
  v31 := Tryd.zeroValue78 }
open Go.Lib in
/-- slices.Contains at []string: "Contains reports whether v is present in s.": IT RETURNS 'Lib.containsS (the elements) v', which is true just where v is among them ('Lib.containsS_iff'); the world is as it was. ITS CALLEE slices.Index IS MET BY ITS OWN CONTRACT OFF THE SHELF (lay that first): no loop is walked here. (LAID: no walk: one application.) -/
theorem Tryd.slices_Contains_string (b off n c : Nat) (zs : List ByteArray) (x : ByteArray) (w : World) (hz : n ≤ zs.length) (hbig : n ≤ 9223372036854775807) (hc : ∀ j, j < zs.length → w.cell? ⟨b, off + j, none⟩ = some (.string (zs.getD j ByteArray.empty))) :
    Calls Tryd.prog 40 #[.slice (some ⟨b, off, none⟩) n c, .string x] w fun e w' => e = .returned (.bool (Lib.containsS (zs.take n) x)) ∧ w' = w := Any.slices_Contains_string Tryd.lays110 b off n c zs x w hz hbig hc
open Go.Lib in
/-- The same at a slice of length 0, a nil one too. (LAID: no walk: one application.) -/
theorem Tryd.slices_Contains_string_empty (a : Option Addr) (c : Nat) (x : ByteArray) (w : World) :
    Calls Tryd.prog 40 #[.slice a 0 c, .string x] w fun e w' => e = .returned (.bool false) ∧ w' = w := Any.slices_Contains_string_empty Tryd.lays110 a c x w
end Go.Proofs
namespace Cr
open Go Go.Proofs
set_option maxRecDepth 100000
set_option maxHeartbeats 4000000
attribute [local irreducible] Calls

/-- A global variable's block, whole. -/
def glob (g : Nat) (cs : List Value) : Res := fun h => ∃ t fz, h = single g (.cells cs.toArray t fz)
theorem glob_var {P : Program} {w : World} {g : Nat} {cs : List Value} {n : String} (hg : P.globalNamed n = some g) (H : Rd w (glob g cs)) : w.var? P n = some cs.toArray := by
  obtain ⟨h, ⟨t, fz, rfl⟩, ha⟩ := H
  have hb := ha g _ (single_self _ _)
  unfold World.var?
  rw [hg]
  simp only [Option.bind_some]
  rw [hb]
theorem glob_of_var {P : Program} {w : World} {g : Nat} {cs : Array Value} {n : String} (hg : P.globalNamed n = some g) (H : w.var? P n = some cs) : Rd w (glob g cs.toList) := by
  unfold World.var? at H
  rw [hg] at H
  simp only [Option.bind_some] at H
  cases hb : w.heap[g]? with
  | none => rw [hb] at H; cases H
  | some o =>
    cases o with
    | cells c t fz =>
      rw [hb] at H
      obtain rfl : c = cs := by simpa using H
      refine ⟨single g (.cells c t fz), ⟨t, fz, by simp⟩, fun b o e => ?_⟩
      obtain ⟨rfl, rfl⟩ := of_single e
      exact hb
    | _ => rw [hb] at H; cases H
/-- What the library's number functions read: the powers of ten, the error of numbers too great. -/
def Lg (W : World) (F : Nat → Prop) : Prop := Ro W F (glob 2 (Lib.pow10Tab.map fun z => Value.int .u64 z)) ∧ ∃ tp p, Ro W F (glob 4 [.iface tp p])
theorem Lg.mono {W W' : World} {F F' : Nat → Prop} (H : Lg W F) (hm : ∀ r, Ro W F r → Ro W' F' r) : Lg W' F' := by
  obtain ⟨h1, tp, p, h2⟩ := H
  exact ⟨hm _ h1, tp, p, hm _ h2⟩
theorem itoa_ (n : Int) (W : World) (F : Nat → Prop) (hG : Lg W F) (h0 : -9223372036854775808 ≤ n) (h1 : n ≤ 9223372036854775807) :
    Calls Tryd.prog 60 #[.int .i64 n] W (Ret fun v w => v = .string (str (Lib.itoa n)) ∧ St W noF [] w) := by
  refine (Tryd.strconv_Itoa n h0 h1 W (glob_var (by kernel_rfl) hG.1.start)).mono ?_
  rintro e w ⟨rfl, k, os, rfl⟩
  refine ⟨_, rfl, rfl, (St.start W).below ⟨rfl, rfl, rfl, by simp [Sort.grow], fun j hj => ?_⟩⟩
  show (W.heap ++ os)[j]? = _
  rw [Array.getElem?_append_left hj]
theorem atoi_ (s : List UInt8) (W : World) (F : Nat → Prop) (hG : Lg W F) (hl : s.length ≤ 1099511627776) (hs : (∃ n, Lib.atoiAll s = .ok n) ∨ Lib.atoiAll s = .range) :
    Calls Tryd.prog 76 #[.string (str s)] W (Ret fun v w => (∃ n er, v = .tuple #[.int .i64 n, er] ∧ ((Lib.atoiAll s = .ok n ∧ er = .nilIface) ∨ (Lib.atoiAll s = .range ∧ ∃ t p, er = .iface t p))) ∧ St W noF [] w) := by
  have hz : (str s).size = s.length := str_size s
  have ht : (str s).data.toList = s := by simp [str]
  rcases hs with ⟨n, h⟩ | h
  · refine (Tryd.strconv_Atoi_ok (str s) (by omega) n (by rw [ht]; exact h) W).mono ?_
    rintro e w ⟨rfl, hw⟩
    refine ⟨_, rfl, ⟨n, _, rfl, .inl ⟨h, rfl⟩⟩, ?_⟩
    rcases hw with rfl | ⟨t, rfl⟩
    · exact St.start _
    · exact (St.start W).below (Lib.bytesWorld_below W _ t)
  · obtain ⟨tp, p, he⟩ := hG.2
    have hv := glob_var (P := Tryd.prog) (n := "strconv.ErrRange") (by kernel_rfl) he.start
    refine (Tryd.strconv_Atoi_range_var (str s) (by omega) (by rw [ht]; exact h) tp p W hv).mono ?_
    rintro e w ⟨N, rfl, _, _, hb⟩
    exact ⟨_, rfl, ⟨_, _, rfl, .inr ⟨h, _, _, rfl⟩⟩, (St.start W).below hb⟩
theorem bclone_ (a : Option Addr) (n c : Nat) (s : List UInt8) (W : World) (hs : Rd W (bytes a s)) (hn : s.length = n) (hlim : n ≤ 1073741824) :
    Calls Tryd.prog 62 #[.slice a n c] W (Ret fun v w => ∃ a' c', v = .slice a' n c' ∧ (a' = none ↔ a = none) ∧ n ≤ c' ∧ St W noF [own 5 1 a' c' (bv s)] w) := by
  have hS := St.start W
  cases a with
  | none =>
    have h0 : bv s = [] := hs.none_nil
    obtain rfl : n = 0 := by rw [← hn, ← bv_length s, h0]; rfl
    refine calls_C Tryd.func62 rfl Tryd.ntmps62 rfl ?_
    repeat (first | (refine G_id ?_; first | refine G_nil ?_ | refine G_plain rfl rfl ?_) | (refine X_id ?_; first | refine X_yl (Yl_move rfl rfl) rfl rfl ?_ | refine X_yl (Yl_assign rfl rfl) rfl rfl ?_ | refine X_yl (Yl_eqlNilSlice rfl rfl rfl) rfl rfl ?_) | (refine C_id ?_; first | refine C_seq ?_ | refine C_region ?_ | refine C_ret ?_ | refine C_cond_t rfl ?_) | (refine E_id ?_; first | refine E_code ?_ | refine E_then_ret ?_ | refine E_ret1 rfl (Rv_tmp rfl) (Ret.mk ?_)))
    refine ⟨none, 0, rfl, by simp, by omega, ?_⟩
    rw [h0]
    exact hS.own_none _ _ _
  | some ad =>
    refine calls_C Tryd.func62 rfl Tryd.ntmps62 rfl ?_
    repeat (first | (refine G_id ?_; first | refine G_nil ?_ | refine G_plain rfl rfl ?_) | (refine X_id ?_; first | refine X_yl (Yl_move rfl rfl) rfl rfl ?_ | refine X_yl (Yl_assign rfl rfl) rfl rfl ?_ | refine X_yl (Yl_eqlNilSlice rfl rfl rfl) rfl rfl ?_ | refine X_buildSlice rfl rfl rfl rfl rfl rfl rfl rfl hS (fun _ _ hS _ => ?_)) | (refine C_id ?_; first | refine C_seq ?_ | refine C_region ?_ | refine C_skip ?_ | refine C_cond_f rfl ?_) | (refine E_id ?_; first | refine E_code ?_))
    rename_i b w hb
    have hs := hs.below hb
    repeat (first | fail)
    refine X_append rfl rfl rfl rfl rfl hS rfl (by omega) hs (by simp [hn]) bv_one (by omega) (by simp only [maxLen]; omega) (fun a' c' w hS hc hnil => ?_)
    repeat (first | (refine G_id ?_; first | refine G_nil ?_ | refine G_plain rfl rfl ?_) | (refine X_id ?_; first | refine X_yl (Yl_assign rfl rfl) rfl rfl ?_) | (refine C_id ?_; first | refine C_ret ?_) | (refine E_id ?_; first | refine E_code ?_ | refine E_ret1 rfl (Rv_tmp rfl) (Ret.mk ?_)))
    refine ⟨a', c', by rw [Nat.zero_add], by rw [hnil]; simp, by omega, hS⟩
theorem bequal_ (a b : Option Addr) (n m c c' : Nat) (s t : List UInt8) (W : World) (ha : Rd W (bytes a s)) (hb : Rd W (bytes b t)) (hn : s.length = n) (hm : t.length = m) :
    Calls Tryd.prog 31 #[.slice a n c, .slice b m c'] W (Ret fun v w => v = .bool (decide (s = t)) ∧ W = w) := by
  refine calls_C Tryd.func31 rfl Tryd.ntmps31 rfl ?_
  repeat (first | (refine G_id ?_; first | refine G_nil ?_ | refine G_plain rfl rfl ?_) | (refine X_id ?_; first | refine X_yl (Yl_move rfl rfl) rfl rfl ?_ | refine X_yl (Yl_assign rfl rfl) rfl rfl ?_) | (refine C_id ?_; first | refine C_seq ?_ | refine C_region ?_) | (refine E_id ?_; first | refine E_code ?_))
  refine X_yl (Yl_bytesStr rfl rfl ha hn) rfl rfl ?_
  repeat (first | (refine G_id ?_; first | refine G_plain rfl rfl ?_) | (refine X_id ?_; first | refine X_yl (Yl_move rfl rfl) rfl rfl ?_))
  refine X_yl (Yl_bytesStr rfl rfl hb hm) rfl rfl ?_
  repeat (first | (refine G_id ?_; first | refine G_nil ?_ | refine G_plain rfl rfl ?_) | (refine X_id ?_; first | refine X_yl (Yl_assign rfl rfl) rfl rfl ?_ | refine X_yl (Yl_eqlStr rfl rfl rfl) rfl rfl ?_) | (refine C_id ?_; first | refine C_ret ?_) | (refine E_id ?_; first | refine E_code ?_ | refine E_ret1 rfl (Rv_tmp rfl) (Ret.mk ?_)))
  exact ⟨rfl, rfl⟩
end Cr
namespace Go.Proofs.YtkdolbmcnekeoaaDoor
open Go.ChangeShapes Go.WideShapes Go.ChangeAt Go.RowKit
theorem lawOwn : ownKnob Tryd.prog.godebug = none := by kernel_rfl
theorem lawLaid : laidOutB Tryd.prog = true := by kernel_rfl
theorem post_of_law {H : Type} {enc : TypeId × Value → H} {P : Program} {f : Func} {s : ChangeSpec} {apart fresh handsOn again : Bool} {W W' : World} {args : Array Value} {v : Value} {ds gs : List (DataW H)} {before pa pv : List MemPlace}
    (hW : DataW.Whole enc P f.params.toList s.vars apart W args.toList ds gs before)
    (hres : ∀ (b : Nat) (sp : Nat → Bool) (hd : Bool), DataW.TrodAll enc P W' b sp hd f.resultTypes.toList (v.resultList f.resultTypes.size) (s.fn H (ds ++ gs)).results [])
    (hargs : ∀ sp : Nat → Bool, (∀ p ∈ before, sp p.block = true) → DataW.TrodAll enc P W' 0 sp true f.params.toList args.toList (s.fn H (ds ++ gs)).args pa)
    (hvars : ∀ sp : Nat → Bool, (∀ p ∈ before, sp p.block = true) → DataW.TrodVars enc P W' sp s.vars (s.fn H (ds ++ gs)).vars pv)
    (hps : before = pa ++ pv) (hk : W.keptBut W' (· ∈ before)) (hfz : ∀ a : Addr, a.block < W.heap.size → W'.frozen? a = W.frozen? a)
    (hok : ∀ (j : Nat) (t : TypeId) (r : Value), f.resultTypes[j]? = some t → (v.resultList f.resultTypes.size)[j]? = some r → Value.okWide P W' .any 0 t r) :
    s.post enc P f apart fresh handsOn again W args v W' := by
  have hold : ∀ p ∈ before, (fun b => decide (b < W.heap.size)) p.block = true := fun p hp => by simpa using hW.lt p hp
  have hlt : ∀ p ∈ before, p.block < W.heap.size := hW.lt
  refine ⟨ds, gs, before, [], pa, pv, hW, hres _ _ _, hargs _ hold, hvars _ hold, World.keptBut_mono (fun p hp => ⟨hp, ?_⟩) hk, fun _ => ?_⟩
  · rw [hps, List.mem_append] at hp
    exact Or.inr hp
  · obtain ⟨_, _, _, _, _, hz, hn⟩ := hW
    refine ⟨hok, _, _, ([] ++ pa) ++ pv, ⟨[] ++ pa, pv, trodAll_append (hargs _ (fun _ _ => rfl)) (hres _ _ _), hvars _ (fun _ _ => rfl), rfl, ?_, ?_⟩, ?_⟩
    · intro b off hp
      have hp' := hp
      rw [show ([] ++ pa) ++ pv = before by rw [hps]; rfl] at hp'
      rw [hfz _ (hlt _ hp')]
      exact hz b off hp'
    · intro ha
      have := hn ha
      rw [hps] at this
      simpa using this
    · intro p hp _
      rw [hps]
      simpa using hp
theorem trodAll_stays {H : Type} {enc : TypeId × Value → H} {P : Program} (hl : laidOutB P = true) {W W' : World} (hb : Below W.heap.size W W') {sp : Nat → Bool} : ∀ {ts : List TypeId} {vs : List Value} {ds : List (DataW H)} {ps : List MemPlace}, (∀ t ∈ ts, P.readableRec t = true ∧ t < P.types.size) →
    DataW.TrodAll enc P W 0 (fun _ => true) true ts vs ds ps → (∀ p ∈ ps, p.block < W.heap.size) → (∀ p ∈ ps, sp p.block = true) → DataW.TrodAll enc P W' 0 sp true ts vs ds ps
  | [], [], [], _, _, h, _, _ => h
  | _ :: _, _ :: _, _ :: _, _, hT, ⟨p, q, h1, h2, e⟩, hlt, hs => ⟨p, q,
      WideElems.Trod_stays hl (hT _ (List.mem_cons_self ..)).1 (hT _ (List.mem_cons_self ..)).2 h1 (fun x hx => hb.same (hlt x (by rw [e]; exact List.mem_append_left _ hx))) (fun x hx => hs x (by rw [e]; exact List.mem_append_left _ hx)),
      trodAll_stays hl hb (fun t ht => hT t (List.mem_cons_of_mem _ ht)) h2 (fun x hx => hlt x (by rw [e]; exact List.mem_append_right _ hx)) (fun x hx => hs x (by rw [e]; exact List.mem_append_right _ hx)), e⟩
def tabOf (l : List Value) : Obj → Obj
  | .cells _ t frozen => .cells l.toArray t frozen
  | o => o
def tab32 : List Int := [0, 1, 28, 2, 29, 14, 24, 3, 30, 22, 20, 15, 25, 17, 4, 8, 31, 27, 13, 23, 21, 19, 16, 7, 26, 12, 18, 6, 11, 5, 10, 9]
def tab64 : List Int := [0, 1, 56, 2, 57, 49, 28, 3, 61, 58, 42, 50, 38, 29, 17, 4, 62, 47, 59, 36, 45, 43, 51, 22, 53, 39, 33, 30, 24, 18, 12, 5, 63, 55, 48, 27, 60, 41, 37, 16, 46, 35, 44, 21, 52, 32, 23, 11, 54, 26, 40, 15, 34, 20, 31, 10, 25, 14, 19, 9, 13, 8, 7, 6]
def rangeText : List UInt8 := [118, 97, 108, 117, 101, 32, 111, 117, 116, 32, 111, 102, 32, 114, 97, 110, 103, 101]
def syntaxText : List UInt8 := [105, 110, 118, 97, 108, 105, 100, 32, 115, 121, 110, 116, 97, 120]
theorem errStar : "*" ++ "errors.errorString" = "*errors.errorString" := by decide
theorem errRow (u : TypeId) (h : Tryd.prog.typeName? 3 u = some "*errors.errorString") : u = 181 :=
  typeName_ptr_named (nm := "errors.errorString") (by rw [errStar]; kernel_rfl) (by kernel_rfl) (by decide) u (by rw [errStar]; exact h)
noncomputable def lowBlock : Nat := (World.holding Tryd.prog default ⟨#[], #[], []⟩).heap.size
def u8s (l : List Int) : List Value := l.map fun n => Value.int .u8 n
/-- A world for a witness: the settled one, the listed variables as their initialisers lay them. -/
noncomputable def lawWorld (os : Os) : World :=
  let w0 := World.holding Tryd.prog os ⟨#[.cells #[.string (Cr.str rangeText)] 183, .cells #[.string (Cr.str syntaxText)] 183], #[], []⟩
  { w0 with heap := ((((w0.heap.modify 5 (tabOf (u8s tab32))).modify 6 (tabOf (u8s tab64))).modify 2 (tabOf (Lib.pow10Tab.map fun z => Value.int .u64 z))).modify 4 (tabOf [.iface 181 (.pointer (some ⟨lowBlock, 0, none⟩))])).modify 3 (tabOf [.iface 181 (.pointer (some ⟨lowBlock + 1, 0, none⟩))]) }
theorem lg_of_laid {W : World} (h : laidMetH Tryd.prog Rows.commandReadsRow.laid W) : Cr.Lg W Cr.noF := by
  have h2 := laidMet.tail (laidMet.tail h)
  have h1 : Lib.TabIs Tryd.prog W "internal/strconv.uint64pow10" .u64 Lib.pow10Tab := Lib.tabIs_of_head (g := 2) (t := 161) (e := 153) (n := 20) (rest := [_, _]) (by kernel_rfl) (by kernel_rfl) Tryd.underlying161 Tryd.underlying153 (by kernel_rfl) (by kernel_rfl) h2
  obtain ⟨a0, s0, hv, _, _, _⟩ := laid_sentinel (g := 4) (laidMet.tail h2) (by kernel_rfl) (show (Tryd.prog.globals[4]?).map (·.type) = some 146 by kernel_rfl) Tryd.underlying146 errRow Tryd.underlying181 Tryd.underlying183 rfl rfl Tryd.underlying9 (by kernel_rfl) (by kernel_rfl)
  refine ⟨?_, 181, .pointer (some a0), ?_⟩
  · have := Cr.glob_of_var (P := Tryd.prog) (n := "internal/strconv.uint64pow10") (g := 2) (by kernel_rfl) h1
    simpa using this.ro
  · have := Cr.glob_of_var (P := Tryd.prog) (n := "strconv.ErrRange") (g := 4) (by kernel_rfl) hv
    simpa using this.ro
end Go.Proofs.YtkdolbmcnekeoaaDoor
namespace Cr
open Go Go.Proofs Go.ChangeShapes Go.WideShapes Go.Deep
section
variable {H : Type} {enc : TypeId × Value → H} {P : Program} {w : World} {base : Nat} {sp : Nat → Bool} {held : Bool}
theorem Rd.ofCellsA {a : Addr} {l : List Value} (h : ∀ i v, l[i]? = some v → w.cell? (a.add i) = some v) : Rd w (row (some a) l) := by
  cases l with
  | nil => exact Rd_nil w _
  | cons x r =>
    have h0 := h 0 x rfl
    have hsp : a.spot = none := by
      have := World.cell?_spot h0
      simpa [Addr.add] using this
    obtain ⟨b, off, spot⟩ := a
    obtain rfl : spot = none := hsp
    unfold World.cell? at h0
    split at h0
    · rename_i c t fz hb
      have hb : w.heap[b]? = some (.cells c t fz) := by simpa [Addr.add] using hb
      refine ⟨single b (.cells c t fz), .inr ⟨b, off, c, t, fz, rfl, rfl, fun i v hv => ?_⟩, fun k o e => ?_⟩
      · have := h i v hv
        have e : (⟨b, off, none⟩ : Addr).add i = ⟨b, off + i, none⟩ := by
          unfold Addr.add; split
          · rename_i h; subst h; rfl
          · rfl
        rw [e, cell_of_row w b (off + i) c t fz hb] at this
        exact this
      · obtain ⟨rfl, rfl⟩ := of_single e
        exact hb
    · cases h0
theorem u8_back {n : Int} (h : (Lit.int .u8 n).wf = true) : Value.int .u8 n = .int .u8 ((UInt8.ofNat n.toNat).toNat : Int) := by
  simp only [Lit.wf, Bool.and_eq_true, decide_eq_true_eq] at h
  have h1 : 0 ≤ n := h.1
  have h2 : n ≤ 255 := h.2
  congr 1
  have : (UInt8.ofNat n.toNat).toNat = n.toNat := by rw [UInt8.toNat_ofNat']; omega
  rw [this]; omega
/-- A slice of bytes. -/
theorem open_bytes {t e : TypeId} {fuel : Nat} {cs : List Value} {x : DataW H × List MemPlace} (ht : P.underlying t = some (.slice e)) (he : P.underlying e = some (.int .u8)) (hc : P.cellsOf e = 1)
    (h : DataW.trod enc P w base sp held fuel t cs = some x) : ∃ a s c, cs = [.slice a s.length c] ∧ s.length ≤ c ∧ c ≤ maxLen ∧ Rd w (bytes a s) := by
  rcases open_ints ht he hc h with ⟨rfl, _⟩ | ⟨a, len, cap, zs, rfl, _, hl, hm, hz, _, hcell, hwf⟩
  · exact ⟨none, [], 0, rfl, Nat.le_refl _, Nat.zero_le _, Rd_nil w _⟩
  · have hlz : len ≤ zs.length := by rw [hz]; split <;> omega
    have e1 : bv ((zs.take len).map fun n => UInt8.ofNat n.toNat) = (zs.take len).map fun n => Value.int .u8 n := by
      unfold bv
      rw [List.map_map]
      refine List.map_congr_left fun n hn => ?_
      exact (u8_back (hwf n (List.mem_of_mem_take hn))).symm
    have e2 : ((zs.take len).map fun n => UInt8.ofNat n.toNat).length = len := by simp; omega
    refine ⟨some a, (zs.take len).map fun n => UInt8.ofNat n.toNat, cap, by rw [e2], by rw [e2]; exact hl, hm, ?_⟩
    unfold bytes
    rw [e1]
    refine Rd.ofCellsA fun i v hv => ?_
    rw [List.getElem?_map, List.getElem?_take] at hv
    split at hv
    · rename_i hi
      rw [hcell i (by omega)]
      have h3 : zs[i]? = some zs[i] := List.getElem?_eq_getElem (by omega)
      rw [h3] at hv
      rw [List.getD_eq_getElem?_getD, h3]
      exact hv
    · cases hv
end
end Cr
