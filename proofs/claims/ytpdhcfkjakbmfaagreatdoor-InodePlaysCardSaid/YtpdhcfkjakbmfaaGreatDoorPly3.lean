/-
  FACTS ON THE TYPES AND FUNCTIONS OF THIS SEAT's TRANSLATION, written by a program off the dump's rows; each is proved by the kernel.
  'for .. := range f { .. }', f a function: rules for the walk. Over any program.
  Bits, strings of bytes. Over any program.
  Layer 2 (digest): what each function of package digest computes.
  The two tables of package digest, as the program's text lays them.
  A law's wrap, for every law alike: what is as it was reads as it did.
-/
import Derived.Test.YtpdhcfkjakbmfaaGreatDoorPly2
import Derived.Test.YtpdhcfkjakbmfaaGreatDoorRows
import Derived.Test.YtpdhcfkjakbmfaaGreatDoorCards
import Derived.Test.YtpdhcfkjakbmfaaGreatDoorTie
import Derived.WalkKit
import Derived.ProofKit
import Derived.OpenShut
import Derived.Deep.DeepHandedRow
import Derived.Lib.LaidTab
import Derived.Stop.LaidErr
import Derived.Carry
namespace Cr
open Go Go.Proofs
instance : One Tryz.prog 1 := ⟨fun w => run_isAgg Tryz.underlying1 w⟩
instance : Inf Tryz.prog 1 .nilFunc 1 8 := ⟨by kernel_rfl, by kernel_rfl⟩
instance : Und Tryz.prog 2 (.int .i64) := ⟨Tryz.underlying2⟩
instance : Inf Tryz.prog 2 (.int .i64 0) 1 8 := ⟨by kernel_rfl, by kernel_rfl⟩
instance : Und Tryz.prog 3 (.int .i64) := ⟨Tryz.underlying3⟩
instance : Inf Tryz.prog 3 (.int .i64 0) 1 8 := ⟨by kernel_rfl, by kernel_rfl⟩
instance : Und Tryz.prog 4 (.bool) := ⟨Tryz.underlying4⟩
instance : Inf Tryz.prog 4 (.bool false) 1 1 := ⟨by kernel_rfl, by kernel_rfl⟩
instance : Und Tryz.prog 5 (.int .u8) := ⟨Tryz.underlying5⟩
instance : Inf Tryz.prog 5 (.int .u8 0) 1 1 := ⟨by kernel_rfl, by kernel_rfl⟩
instance : Und Tryz.prog 6 (.int .u8) := ⟨Tryz.underlying6⟩
instance : Inf Tryz.prog 6 (.int .u8 0) 1 1 := ⟨by kernel_rfl, by kernel_rfl⟩
instance : Agg Tryz.prog 7 := ⟨fun w => run_isAgg Tryz.underlying7 w⟩
instance : Inf Tryz.prog 7 (.agg #[(.int .i64 0), (.int .i64 0), (.bool false), (.int .u8 0)]) 4 24 := ⟨by kernel_rfl, by kernel_rfl⟩
instance : Str Tryz.prog 7 [(0, 1), (1, 1), (2, 1), (3, 1)] := ⟨⟨_, Tryz.underlying7, by kernel_rfl, by kernel_rfl⟩⟩
instance : Fld Tryz.prog 7 0 0 2 1 := ⟨⟨_, _, Tryz.underlying7, rfl, rfl, rfl, by kernel_rfl⟩⟩
instance : Fld Tryz.prog 7 1 1 3 1 := ⟨⟨_, _, Tryz.underlying7, rfl, rfl, rfl, by kernel_rfl⟩⟩
instance : Fld Tryz.prog 7 2 2 4 1 := ⟨⟨_, _, Tryz.underlying7, rfl, rfl, rfl, by kernel_rfl⟩⟩
instance : Fld Tryz.prog 7 3 3 6 1 := ⟨⟨_, _, Tryz.underlying7, rfl, rfl, rfl, by kernel_rfl⟩⟩
instance : Agg Tryz.prog 8 := ⟨fun w => run_isAgg Tryz.underlying8 w⟩
instance : Inf Tryz.prog 8 (.agg #[(.int .i64 0), (.int .i64 0), (.bool false), (.int .u8 0)]) 4 24 := ⟨by kernel_rfl, by kernel_rfl⟩
instance : Str Tryz.prog 8 [(0, 1), (1, 1), (2, 1), (3, 1)] := ⟨⟨_, Tryz.underlying8, by kernel_rfl, by kernel_rfl⟩⟩
instance : Fld Tryz.prog 8 0 0 2 1 := ⟨⟨_, _, Tryz.underlying8, rfl, rfl, rfl, by kernel_rfl⟩⟩
instance : Fld Tryz.prog 8 1 1 3 1 := ⟨⟨_, _, Tryz.underlying8, rfl, rfl, rfl, by kernel_rfl⟩⟩
instance : Fld Tryz.prog 8 2 2 4 1 := ⟨⟨_, _, Tryz.underlying8, rfl, rfl, rfl, by kernel_rfl⟩⟩
instance : Fld Tryz.prog 8 3 3 6 1 := ⟨⟨_, _, Tryz.underlying8, rfl, rfl, rfl, by kernel_rfl⟩⟩
instance : Und Tryz.prog 9 (.string) := ⟨Tryz.underlying9⟩
instance : Inf Tryz.prog 9 (.string ⟨#[]⟩) 1 16 := ⟨by kernel_rfl, by kernel_rfl⟩
instance : Und Tryz.prog 10 (.string) := ⟨Tryz.underlying10⟩
instance : Inf Tryz.prog 10 (.string ⟨#[]⟩) 1 16 := ⟨by kernel_rfl, by kernel_rfl⟩
instance : Und Tryz.prog 11 (.string) := ⟨Tryz.underlying11⟩
instance : Inf Tryz.prog 11 (.string ⟨#[]⟩) 1 16 := ⟨by kernel_rfl, by kernel_rfl⟩
instance : Und Tryz.prog 12 (.int .u64) := ⟨Tryz.underlying12⟩
instance : Inf Tryz.prog 12 (.int .u64 0) 1 8 := ⟨by kernel_rfl, by kernel_rfl⟩
instance : Agg Tryz.prog 13 := ⟨fun w => run_isAgg Tryz.underlying13 w⟩
instance : Inf Tryz.prog 13 (.agg #[(.string ⟨#[]⟩), (.int .u64 0)]) 2 24 := ⟨by kernel_rfl, by kernel_rfl⟩
instance : Str Tryz.prog 13 [(0, 1), (1, 1)] := ⟨⟨_, Tryz.underlying13, by kernel_rfl, by kernel_rfl⟩⟩
instance : Fld Tryz.prog 13 0 0 9 1 := ⟨⟨_, _, Tryz.underlying13, rfl, rfl, rfl, by kernel_rfl⟩⟩
instance : Fld Tryz.prog 13 1 1 12 1 := ⟨⟨_, _, Tryz.underlying13, rfl, rfl, rfl, by kernel_rfl⟩⟩
instance : Agg Tryz.prog 14 := ⟨fun w => run_isAgg Tryz.underlying14 w⟩
instance : Inf Tryz.prog 14 (.agg #[(.string ⟨#[]⟩), (.int .u64 0)]) 2 24 := ⟨by kernel_rfl, by kernel_rfl⟩
instance : Str Tryz.prog 14 [(0, 1), (1, 1)] := ⟨⟨_, Tryz.underlying14, by kernel_rfl, by kernel_rfl⟩⟩
instance : Fld Tryz.prog 14 0 0 9 1 := ⟨⟨_, _, Tryz.underlying14, rfl, rfl, rfl, by kernel_rfl⟩⟩
instance : Fld Tryz.prog 14 1 1 12 1 := ⟨⟨_, _, Tryz.underlying14, rfl, rfl, rfl, by kernel_rfl⟩⟩
instance : Und Tryz.prog 15 (.pointer 238) := ⟨Tryz.underlying15⟩
instance : Inf Tryz.prog 15 (.pointer none) 1 8 := ⟨by kernel_rfl, by kernel_rfl⟩
instance : Und Tryz.prog 16 (.pointer 241) := ⟨Tryz.underlying16⟩
instance : Inf Tryz.prog 16 (.pointer none) 1 8 := ⟨by kernel_rfl, by kernel_rfl⟩
instance : Und Tryz.prog 17 (.pointer 249) := ⟨Tryz.underlying17⟩
instance : Inf Tryz.prog 17 (.pointer none) 1 8 := ⟨by kernel_rfl, by kernel_rfl⟩
instance : Agg Tryz.prog 18 := ⟨fun w => run_isAgg Tryz.underlying18 w⟩
instance : Inf Tryz.prog 18 (.agg #[(.pointer none)]) 1 8 := ⟨by kernel_rfl, by kernel_rfl⟩
instance : Str Tryz.prog 18 [(0, 1)] := ⟨⟨_, Tryz.underlying18, by kernel_rfl, by kernel_rfl⟩⟩
instance : Fld Tryz.prog 18 0 0 17 1 := ⟨⟨_, _, Tryz.underlying18, rfl, rfl, rfl, by kernel_rfl⟩⟩
instance : Agg Tryz.prog 19 := ⟨fun w => run_isAgg Tryz.underlying19 w⟩
instance : Inf Tryz.prog 19 (.agg #[(.pointer none)]) 1 8 := ⟨by kernel_rfl, by kernel_rfl⟩
instance : Str Tryz.prog 19 [(0, 1)] := ⟨⟨_, Tryz.underlying19, by kernel_rfl, by kernel_rfl⟩⟩
instance : Fld Tryz.prog 19 0 0 17 1 := ⟨⟨_, _, Tryz.underlying19, rfl, rfl, rfl, by kernel_rfl⟩⟩
instance : One Tryz.prog 20 := ⟨fun w => run_isAgg Tryz.underlying20 w⟩
instance : Inf Tryz.prog 20 .nilIface 1 16 := ⟨by kernel_rfl, by kernel_rfl⟩
instance : Und Tryz.prog 21 (.int .i32) := ⟨Tryz.underlying21⟩
instance : Inf Tryz.prog 21 (.int .i32 0) 1 4 := ⟨by kernel_rfl, by kernel_rfl⟩
instance : Und Tryz.prog 22 (.slice 30) := ⟨Tryz.underlying22⟩
instance : Inf Tryz.prog 22 (.slice none 0 0) 1 24 := ⟨by kernel_rfl, by kernel_rfl⟩
instance : Und Tryz.prog 23 (.pointer 109) := ⟨Tryz.underlying23⟩
instance : Inf Tryz.prog 23 (.pointer none) 1 8 := ⟨by kernel_rfl, by kernel_rfl⟩
instance : Und Tryz.prog 24 (.pointer 121) := ⟨Tryz.underlying24⟩
instance : Inf Tryz.prog 24 (.pointer none) 1 8 := ⟨by kernel_rfl, by kernel_rfl⟩
instance : Und Tryz.prog 25 (.pointer 75) := ⟨Tryz.underlying25⟩
instance : Inf Tryz.prog 25 (.pointer none) 1 8 := ⟨by kernel_rfl, by kernel_rfl⟩
instance : Und Tryz.prog 26 (.pointer 58) := ⟨Tryz.underlying26⟩
instance : Inf Tryz.prog 26 (.pointer none) 1 8 := ⟨by kernel_rfl, by kernel_rfl⟩
instance : One Tryz.prog 28 := ⟨fun w => run_isAgg Tryz.underlying28 w⟩
instance : Inf Tryz.prog 28 .nilFunc 1 8 := ⟨by kernel_rfl, by kernel_rfl⟩
instance : Und Tryz.prog 29 (.slice 44) := ⟨Tryz.underlying29⟩
instance : Inf Tryz.prog 29 (.slice none 0 0) 1 24 := ⟨by kernel_rfl, by kernel_rfl⟩
instance : Und Tryz.prog 30 (.slice 64) := ⟨Tryz.underlying30⟩
instance : Inf Tryz.prog 30 (.slice none 0 0) 1 24 := ⟨by kernel_rfl, by kernel_rfl⟩
instance : One Tryz.prog 32 := ⟨fun w => run_isAgg Tryz.underlying32 w⟩
instance : Inf Tryz.prog 32 .nilFunc 1 8 := ⟨by kernel_rfl, by kernel_rfl⟩
instance : One Tryz.prog 33 := ⟨fun w => run_isAgg Tryz.underlying33 w⟩
instance : Inf Tryz.prog 33 .nilFunc 1 8 := ⟨by kernel_rfl, by kernel_rfl⟩
instance : One Tryz.prog 35 := ⟨fun w => run_isAgg Tryz.underlying35 w⟩
instance : Inf Tryz.prog 35 .nilFunc 1 8 := ⟨by kernel_rfl, by kernel_rfl⟩
instance : Und Tryz.prog 36 (.int .i64) := ⟨Tryz.underlying36⟩
instance : Inf Tryz.prog 36 (.int .i64 0) 1 8 := ⟨by kernel_rfl, by kernel_rfl⟩
instance : One Tryz.prog 37 := ⟨fun w => run_isAgg Tryz.underlying37 w⟩
instance : Inf Tryz.prog 37 .nilFunc 1 8 := ⟨by kernel_rfl, by kernel_rfl⟩
instance : Agg Tryz.prog 38 := ⟨fun w => run_isAgg Tryz.underlying38 w⟩
instance : Inf Tryz.prog 38 (.agg #[(.int .i64 0), (.int .i64 0), (.int .i64 0), (.int .i64 0)]) 4 32 := ⟨by kernel_rfl, by kernel_rfl⟩
instance : Str Tryz.prog 38 [(0, 1), (1, 1), (2, 1), (3, 1)] := ⟨⟨_, Tryz.underlying38, by kernel_rfl, by kernel_rfl⟩⟩
instance : Fld Tryz.prog 38 0 0 3 1 := ⟨⟨_, _, Tryz.underlying38, rfl, rfl, rfl, by kernel_rfl⟩⟩
instance : Fld Tryz.prog 38 1 1 3 1 := ⟨⟨_, _, Tryz.underlying38, rfl, rfl, rfl, by kernel_rfl⟩⟩
instance : Fld Tryz.prog 38 2 2 3 1 := ⟨⟨_, _, Tryz.underlying38, rfl, rfl, rfl, by kernel_rfl⟩⟩
instance : Fld Tryz.prog 38 3 3 3 1 := ⟨⟨_, _, Tryz.underlying38, rfl, rfl, rfl, by kernel_rfl⟩⟩
instance : Agg Tryz.prog 39 := ⟨fun w => run_isAgg Tryz.underlying39 w⟩
instance : Inf Tryz.prog 39 (.agg #[(.int .i64 0), (.int .i64 0), (.int .i64 0), (.int .i64 0)]) 4 32 := ⟨by kernel_rfl, by kernel_rfl⟩
instance : Str Tryz.prog 39 [(0, 1), (1, 1), (2, 1), (3, 1)] := ⟨⟨_, Tryz.underlying39, by kernel_rfl, by kernel_rfl⟩⟩
instance : Fld Tryz.prog 39 0 0 3 1 := ⟨⟨_, _, Tryz.underlying39, rfl, rfl, rfl, by kernel_rfl⟩⟩
instance : Fld Tryz.prog 39 1 1 3 1 := ⟨⟨_, _, Tryz.underlying39, rfl, rfl, rfl, by kernel_rfl⟩⟩
instance : Fld Tryz.prog 39 2 2 3 1 := ⟨⟨_, _, Tryz.underlying39, rfl, rfl, rfl, by kernel_rfl⟩⟩
instance : Fld Tryz.prog 39 3 3 3 1 := ⟨⟨_, _, Tryz.underlying39, rfl, rfl, rfl, by kernel_rfl⟩⟩
instance : Und Tryz.prog 40 (.slice 5) := ⟨Tryz.underlying40⟩
instance : Inf Tryz.prog 40 (.slice none 0 0) 1 24 := ⟨by kernel_rfl, by kernel_rfl⟩
instance : Agg Tryz.prog 41 := ⟨fun w => run_isAgg Tryz.underlying41 w⟩
instance : Inf Tryz.prog 41 (.agg #[(.int .i64 0), (.int .i64 0), (.int .i64 0), (.int .i64 0), (.slice none 0 0)]) 5 56 := ⟨by kernel_rfl, by kernel_rfl⟩
instance : Str Tryz.prog 41 [(0, 4), (4, 1)] := ⟨⟨_, Tryz.underlying41, by kernel_rfl, by kernel_rfl⟩⟩
instance : Fld Tryz.prog 41 0 0 39 4 := ⟨⟨_, _, Tryz.underlying41, rfl, rfl, rfl, by kernel_rfl⟩⟩
instance : Fld Tryz.prog 41 1 4 40 1 := ⟨⟨_, _, Tryz.underlying41, rfl, rfl, rfl, by kernel_rfl⟩⟩
instance : Agg Tryz.prog 42 := ⟨fun w => run_isAgg Tryz.underlying42 w⟩
instance : Inf Tryz.prog 42 (.agg #[(.int .i64 0), (.int .i64 0), (.int .i64 0), (.int .i64 0), (.slice none 0 0)]) 5 56 := ⟨by kernel_rfl, by kernel_rfl⟩
instance : Str Tryz.prog 42 [(0, 4), (4, 1)] := ⟨⟨_, Tryz.underlying42, by kernel_rfl, by kernel_rfl⟩⟩
instance : Fld Tryz.prog 42 0 0 39 4 := ⟨⟨_, _, Tryz.underlying42, rfl, rfl, rfl, by kernel_rfl⟩⟩
instance : Fld Tryz.prog 42 1 4 40 1 := ⟨⟨_, _, Tryz.underlying42, rfl, rfl, rfl, by kernel_rfl⟩⟩
instance : Agg Tryz.prog 43 := ⟨fun w => run_isAgg Tryz.underlying43 w⟩
instance : Inf Tryz.prog 43 (.agg #[(.int .i64 0), (.int .i64 0), (.int .i64 0), (.int .i64 0), (.int .i64 0), (.slice none 0 0), (.bool false)]) 7 72 := ⟨by kernel_rfl, by kernel_rfl⟩
instance : Str Tryz.prog 43 [(0, 1), (1, 5), (6, 1)] := ⟨⟨_, Tryz.underlying43, by kernel_rfl, by kernel_rfl⟩⟩
instance : Fld Tryz.prog 43 0 0 3 1 := ⟨⟨_, _, Tryz.underlying43, rfl, rfl, rfl, by kernel_rfl⟩⟩
instance : Fld Tryz.prog 43 1 1 42 5 := ⟨⟨_, _, Tryz.underlying43, rfl, rfl, rfl, by kernel_rfl⟩⟩
instance : Fld Tryz.prog 43 2 6 4 1 := ⟨⟨_, _, Tryz.underlying43, rfl, rfl, rfl, by kernel_rfl⟩⟩
instance : Agg Tryz.prog 44 := ⟨fun w => run_isAgg Tryz.underlying44 w⟩
instance : Inf Tryz.prog 44 (.agg #[(.int .i64 0), (.int .i64 0), (.int .i64 0), (.int .i64 0), (.int .i64 0), (.slice none 0 0), (.bool false)]) 7 72 := ⟨by kernel_rfl, by kernel_rfl⟩
instance : Str Tryz.prog 44 [(0, 1), (1, 5), (6, 1)] := ⟨⟨_, Tryz.underlying44, by kernel_rfl, by kernel_rfl⟩⟩
instance : Fld Tryz.prog 44 0 0 3 1 := ⟨⟨_, _, Tryz.underlying44, rfl, rfl, rfl, by kernel_rfl⟩⟩
instance : Fld Tryz.prog 44 1 1 42 5 := ⟨⟨_, _, Tryz.underlying44, rfl, rfl, rfl, by kernel_rfl⟩⟩
instance : Fld Tryz.prog 44 2 6 4 1 := ⟨⟨_, _, Tryz.underlying44, rfl, rfl, rfl, by kernel_rfl⟩⟩
instance : One Tryz.prog 45 := ⟨fun w => run_isAgg Tryz.underlying45 w⟩
instance : Inf Tryz.prog 45 .nilFunc 1 8 := ⟨by kernel_rfl, by kernel_rfl⟩
instance : One Tryz.prog 47 := ⟨fun w => run_isAgg Tryz.underlying47 w⟩
instance : Inf Tryz.prog 47 .nilFunc 1 8 := ⟨by kernel_rfl, by kernel_rfl⟩
instance : One Tryz.prog 48 := ⟨fun w => run_isAgg Tryz.underlying48 w⟩
instance : Inf Tryz.prog 48 .nilFunc 1 8 := ⟨by kernel_rfl, by kernel_rfl⟩
instance : One Tryz.prog 49 := ⟨fun w => run_isAgg Tryz.underlying49 w⟩
instance : Inf Tryz.prog 49 .nilFunc 1 8 := ⟨by kernel_rfl, by kernel_rfl⟩
instance : One Tryz.prog 50 := ⟨fun w => run_isAgg Tryz.underlying50 w⟩
instance : Inf Tryz.prog 50 .nilFunc 1 8 := ⟨by kernel_rfl, by kernel_rfl⟩
instance : One Tryz.prog 52 := ⟨fun w => run_isAgg Tryz.underlying52 w⟩
instance : Inf Tryz.prog 52 .nilFunc 1 8 := ⟨by kernel_rfl, by kernel_rfl⟩
instance : One Tryz.prog 54 := ⟨fun w => run_isAgg Tryz.underlying54 w⟩
instance : Inf Tryz.prog 54 .nilFunc 1 8 := ⟨by kernel_rfl, by kernel_rfl⟩
instance : Und Tryz.prog 55 (.slice 62) := ⟨Tryz.underlying55⟩
instance : Inf Tryz.prog 55 (.slice none 0 0) 1 24 := ⟨by kernel_rfl, by kernel_rfl⟩
instance : Und Tryz.prog 56 (.slice 4) := ⟨Tryz.underlying56⟩
instance : Inf Tryz.prog 56 (.slice none 0 0) 1 24 := ⟨by kernel_rfl, by kernel_rfl⟩
instance : Agg Tryz.prog 57 := ⟨fun w => run_isAgg Tryz.underlying57 w⟩
instance : Inf Tryz.prog 57 (.agg #[(.slice none 0 0), (.slice none 0 0), (.int .i64 0)]) 3 56 := ⟨by kernel_rfl, by kernel_rfl⟩
instance : Str Tryz.prog 57 [(0, 1), (1, 1), (2, 1)] := ⟨⟨_, Tryz.underlying57, by kernel_rfl, by kernel_rfl⟩⟩
instance : Fld Tryz.prog 57 0 0 55 1 := ⟨⟨_, _, Tryz.underlying57, rfl, rfl, rfl, by kernel_rfl⟩⟩
instance : Fld Tryz.prog 57 1 1 56 1 := ⟨⟨_, _, Tryz.underlying57, rfl, rfl, rfl, by kernel_rfl⟩⟩
instance : Fld Tryz.prog 57 2 2 3 1 := ⟨⟨_, _, Tryz.underlying57, rfl, rfl, rfl, by kernel_rfl⟩⟩
instance : Agg Tryz.prog 58 := ⟨fun w => run_isAgg Tryz.underlying58 w⟩
instance : Inf Tryz.prog 58 (.agg #[(.slice none 0 0), (.slice none 0 0), (.int .i64 0)]) 3 56 := ⟨by kernel_rfl, by kernel_rfl⟩
instance : Str Tryz.prog 58 [(0, 1), (1, 1), (2, 1)] := ⟨⟨_, Tryz.underlying58, by kernel_rfl, by kernel_rfl⟩⟩
instance : Fld Tryz.prog 58 0 0 55 1 := ⟨⟨_, _, Tryz.underlying58, rfl, rfl, rfl, by kernel_rfl⟩⟩
instance : Fld Tryz.prog 58 1 1 56 1 := ⟨⟨_, _, Tryz.underlying58, rfl, rfl, rfl, by kernel_rfl⟩⟩
instance : Fld Tryz.prog 58 2 2 3 1 := ⟨⟨_, _, Tryz.underlying58, rfl, rfl, rfl, by kernel_rfl⟩⟩
instance : One Tryz.prog 59 := ⟨fun w => run_isAgg Tryz.underlying59 w⟩
instance : Inf Tryz.prog 59 .nilFunc 1 8 := ⟨by kernel_rfl, by kernel_rfl⟩
instance : Agg Tryz.prog 60 := ⟨fun w => run_isAgg Tryz.underlying60 w⟩
instance : Inf Tryz.prog 60 (.agg #[(.int .i64 0), (.int .i64 0), (.int .i64 0), (.int .i64 0)]) 4 32 := ⟨by kernel_rfl, by kernel_rfl⟩
instance : Str Tryz.prog 60 [(0, 1), (1, 1), (2, 1), (3, 1)] := ⟨⟨_, Tryz.underlying60, by kernel_rfl, by kernel_rfl⟩⟩
instance : Fld Tryz.prog 60 0 0 3 1 := ⟨⟨_, _, Tryz.underlying60, rfl, rfl, rfl, by kernel_rfl⟩⟩
instance : Fld Tryz.prog 60 1 1 3 1 := ⟨⟨_, _, Tryz.underlying60, rfl, rfl, rfl, by kernel_rfl⟩⟩
instance : Fld Tryz.prog 60 2 2 3 1 := ⟨⟨_, _, Tryz.underlying60, rfl, rfl, rfl, by kernel_rfl⟩⟩
instance : Fld Tryz.prog 60 3 3 3 1 := ⟨⟨_, _, Tryz.underlying60, rfl, rfl, rfl, by kernel_rfl⟩⟩
instance : Agg Tryz.prog 61 := ⟨fun w => run_isAgg Tryz.underlying61 w⟩
instance : Inf Tryz.prog 61 (.agg #[(.int .i64 0), (.int .i64 0), (.int .i64 0), (.int .i64 0), (.slice none 0 0)]) 5 56 := ⟨by kernel_rfl, by kernel_rfl⟩
instance : Str Tryz.prog 61 [(0, 4), (4, 1)] := ⟨⟨_, Tryz.underlying61, by kernel_rfl, by kernel_rfl⟩⟩
instance : Fld Tryz.prog 61 0 0 60 4 := ⟨⟨_, _, Tryz.underlying61, rfl, rfl, rfl, by kernel_rfl⟩⟩
instance : Fld Tryz.prog 61 1 4 40 1 := ⟨⟨_, _, Tryz.underlying61, rfl, rfl, rfl, by kernel_rfl⟩⟩
instance : Agg Tryz.prog 62 := ⟨fun w => run_isAgg Tryz.underlying62 w⟩
instance : Inf Tryz.prog 62 (.agg #[(.int .i64 0), (.int .i64 0), (.int .i64 0), (.int .i64 0), (.slice none 0 0)]) 5 56 := ⟨by kernel_rfl, by kernel_rfl⟩
instance : Str Tryz.prog 62 [(0, 4), (4, 1)] := ⟨⟨_, Tryz.underlying62, by kernel_rfl, by kernel_rfl⟩⟩
instance : Fld Tryz.prog 62 0 0 60 4 := ⟨⟨_, _, Tryz.underlying62, rfl, rfl, rfl, by kernel_rfl⟩⟩
instance : Fld Tryz.prog 62 1 4 40 1 := ⟨⟨_, _, Tryz.underlying62, rfl, rfl, rfl, by kernel_rfl⟩⟩
instance : Agg Tryz.prog 63 := ⟨fun w => run_isAgg Tryz.underlying63 w⟩
instance : Inf Tryz.prog 63 (.agg #[(.int .i64 0), (.int .i64 0), (.int .i64 0), (.int .i64 0), (.int .i64 0), (.slice none 0 0), (.bool false)]) 7 72 := ⟨by kernel_rfl, by kernel_rfl⟩
instance : Str Tryz.prog 63 [(0, 1), (1, 5), (6, 1)] := ⟨⟨_, Tryz.underlying63, by kernel_rfl, by kernel_rfl⟩⟩
instance : Fld Tryz.prog 63 0 0 3 1 := ⟨⟨_, _, Tryz.underlying63, rfl, rfl, rfl, by kernel_rfl⟩⟩
instance : Fld Tryz.prog 63 1 1 62 5 := ⟨⟨_, _, Tryz.underlying63, rfl, rfl, rfl, by kernel_rfl⟩⟩
instance : Fld Tryz.prog 63 2 6 4 1 := ⟨⟨_, _, Tryz.underlying63, rfl, rfl, rfl, by kernel_rfl⟩⟩
instance : Agg Tryz.prog 64 := ⟨fun w => run_isAgg Tryz.underlying64 w⟩
instance : Inf Tryz.prog 64 (.agg #[(.int .i64 0), (.int .i64 0), (.int .i64 0), (.int .i64 0), (.int .i64 0), (.slice none 0 0), (.bool false)]) 7 72 := ⟨by kernel_rfl, by kernel_rfl⟩
instance : Str Tryz.prog 64 [(0, 1), (1, 5), (6, 1)] := ⟨⟨_, Tryz.underlying64, by kernel_rfl, by kernel_rfl⟩⟩
instance : Fld Tryz.prog 64 0 0 3 1 := ⟨⟨_, _, Tryz.underlying64, rfl, rfl, rfl, by kernel_rfl⟩⟩
instance : Fld Tryz.prog 64 1 1 62 5 := ⟨⟨_, _, Tryz.underlying64, rfl, rfl, rfl, by kernel_rfl⟩⟩
instance : Fld Tryz.prog 64 2 6 4 1 := ⟨⟨_, _, Tryz.underlying64, rfl, rfl, rfl, by kernel_rfl⟩⟩
instance : One Tryz.prog 65 := ⟨fun w => run_isAgg Tryz.underlying65 w⟩
instance : Inf Tryz.prog 65 .nilFunc 1 8 := ⟨by kernel_rfl, by kernel_rfl⟩
instance : One Tryz.prog 66 := ⟨fun w => run_isAgg Tryz.underlying66 w⟩
instance : Inf Tryz.prog 66 .nilFunc 1 8 := ⟨by kernel_rfl, by kernel_rfl⟩
instance : One Tryz.prog 67 := ⟨fun w => run_isAgg Tryz.underlying67 w⟩
instance : Inf Tryz.prog 67 .nilFunc 1 8 := ⟨by kernel_rfl, by kernel_rfl⟩
instance : One Tryz.prog 68 := ⟨fun w => run_isAgg Tryz.underlying68 w⟩
instance : Inf Tryz.prog 68 .nilFunc 1 8 := ⟨by kernel_rfl, by kernel_rfl⟩
instance : Und Tryz.prog 69 (.map 3 73) := ⟨Tryz.underlying69⟩
instance : Inf Tryz.prog 69 (.map none) 1 8 := ⟨by kernel_rfl, by kernel_rfl⟩
instance : One Tryz.prog 70 := ⟨fun w => run_isAgg Tryz.underlying70 w⟩
instance : Inf Tryz.prog 70 .nilFunc 1 8 := ⟨by kernel_rfl, by kernel_rfl⟩
instance : Und Tryz.prog 71 (.slice 3) := ⟨Tryz.underlying71⟩
instance : Inf Tryz.prog 71 (.slice none 0 0) 1 24 := ⟨by kernel_rfl, by kernel_rfl⟩
instance : Agg Tryz.prog 72 := ⟨fun w => run_isAgg Tryz.underlying72 w⟩
instance : Inf Tryz.prog 72 (.agg #[(.int .i64 0), (.int .i64 0), (.int .i64 0), (.int .i64 0), (.slice none 0 0), (.slice none 0 0)]) 6 80 := ⟨by kernel_rfl, by kernel_rfl⟩
instance : Str Tryz.prog 72 [(0, 5), (5, 1)] := ⟨⟨_, Tryz.underlying72, by kernel_rfl, by kernel_rfl⟩⟩
instance : Fld Tryz.prog 72 0 0 42 5 := ⟨⟨_, _, Tryz.underlying72, rfl, rfl, rfl, by kernel_rfl⟩⟩
instance : Fld Tryz.prog 72 1 5 71 1 := ⟨⟨_, _, Tryz.underlying72, rfl, rfl, rfl, by kernel_rfl⟩⟩
instance : Agg Tryz.prog 73 := ⟨fun w => run_isAgg Tryz.underlying73 w⟩
instance : Inf Tryz.prog 73 (.agg #[(.int .i64 0), (.int .i64 0), (.int .i64 0), (.int .i64 0), (.slice none 0 0), (.slice none 0 0)]) 6 80 := ⟨by kernel_rfl, by kernel_rfl⟩
instance : Str Tryz.prog 73 [(0, 5), (5, 1)] := ⟨⟨_, Tryz.underlying73, by kernel_rfl, by kernel_rfl⟩⟩
instance : Fld Tryz.prog 73 0 0 42 5 := ⟨⟨_, _, Tryz.underlying73, rfl, rfl, rfl, by kernel_rfl⟩⟩
instance : Fld Tryz.prog 73 1 5 71 1 := ⟨⟨_, _, Tryz.underlying73, rfl, rfl, rfl, by kernel_rfl⟩⟩
instance : Agg Tryz.prog 74 := ⟨fun w => run_isAgg Tryz.underlying74 w⟩
instance : Inf Tryz.prog 74 (.agg #[(.pointer none), (.int .i64 0), (.map none)]) 3 24 := ⟨by kernel_rfl, by kernel_rfl⟩
instance : Str Tryz.prog 74 [(0, 1), (1, 1), (2, 1)] := ⟨⟨_, Tryz.underlying74, by kernel_rfl, by kernel_rfl⟩⟩
instance : Fld Tryz.prog 74 0 0 24 1 := ⟨⟨_, _, Tryz.underlying74, rfl, rfl, rfl, by kernel_rfl⟩⟩
instance : Fld Tryz.prog 74 1 1 3 1 := ⟨⟨_, _, Tryz.underlying74, rfl, rfl, rfl, by kernel_rfl⟩⟩
instance : Fld Tryz.prog 74 2 2 69 1 := ⟨⟨_, _, Tryz.underlying74, rfl, rfl, rfl, by kernel_rfl⟩⟩
instance : Agg Tryz.prog 75 := ⟨fun w => run_isAgg Tryz.underlying75 w⟩
instance : Inf Tryz.prog 75 (.agg #[(.pointer none), (.int .i64 0), (.map none)]) 3 24 := ⟨by kernel_rfl, by kernel_rfl⟩
instance : Str Tryz.prog 75 [(0, 1), (1, 1), (2, 1)] := ⟨⟨_, Tryz.underlying75, by kernel_rfl, by kernel_rfl⟩⟩
instance : Fld Tryz.prog 75 0 0 24 1 := ⟨⟨_, _, Tryz.underlying75, rfl, rfl, rfl, by kernel_rfl⟩⟩
instance : Fld Tryz.prog 75 1 1 3 1 := ⟨⟨_, _, Tryz.underlying75, rfl, rfl, rfl, by kernel_rfl⟩⟩
instance : Fld Tryz.prog 75 2 2 69 1 := ⟨⟨_, _, Tryz.underlying75, rfl, rfl, rfl, by kernel_rfl⟩⟩
instance : One Tryz.prog 76 := ⟨fun w => run_isAgg Tryz.underlying76 w⟩
instance : Inf Tryz.prog 76 .nilFunc 1 8 := ⟨by kernel_rfl, by kernel_rfl⟩
instance : Und Tryz.prog 77 (.slice 80) := ⟨Tryz.underlying77⟩
instance : Inf Tryz.prog 77 (.slice none 0 0) 1 24 := ⟨by kernel_rfl, by kernel_rfl⟩
instance : One Tryz.prog 78 := ⟨fun w => run_isAgg Tryz.underlying78 w⟩
instance : Inf Tryz.prog 78 .nilFunc 1 8 := ⟨by kernel_rfl, by kernel_rfl⟩
instance : Agg Tryz.prog 79 := ⟨fun w => run_isAgg Tryz.underlying79 w⟩
instance : Inf Tryz.prog 79 (.agg #[(.int .i64 0), (.slice none 0 0)]) 2 32 := ⟨by kernel_rfl, by kernel_rfl⟩
instance : Str Tryz.prog 79 [(0, 1), (1, 1)] := ⟨⟨_, Tryz.underlying79, by kernel_rfl, by kernel_rfl⟩⟩
instance : Fld Tryz.prog 79 0 0 3 1 := ⟨⟨_, _, Tryz.underlying79, rfl, rfl, rfl, by kernel_rfl⟩⟩
instance : Fld Tryz.prog 79 1 1 40 1 := ⟨⟨_, _, Tryz.underlying79, rfl, rfl, rfl, by kernel_rfl⟩⟩
instance : Agg Tryz.prog 80 := ⟨fun w => run_isAgg Tryz.underlying80 w⟩
instance : Inf Tryz.prog 80 (.agg #[(.int .i64 0), (.slice none 0 0)]) 2 32 := ⟨by kernel_rfl, by kernel_rfl⟩
instance : Str Tryz.prog 80 [(0, 1), (1, 1)] := ⟨⟨_, Tryz.underlying80, by kernel_rfl, by kernel_rfl⟩⟩
instance : Fld Tryz.prog 80 0 0 3 1 := ⟨⟨_, _, Tryz.underlying80, rfl, rfl, rfl, by kernel_rfl⟩⟩
instance : Fld Tryz.prog 80 1 1 40 1 := ⟨⟨_, _, Tryz.underlying80, rfl, rfl, rfl, by kernel_rfl⟩⟩
instance : One Tryz.prog 81 := ⟨fun w => run_isAgg Tryz.underlying81 w⟩
instance : Inf Tryz.prog 81 .nilFunc 1 8 := ⟨by kernel_rfl, by kernel_rfl⟩
instance : One Tryz.prog 82 := ⟨fun w => run_isAgg Tryz.underlying82 w⟩
instance : Inf Tryz.prog 82 .nilFunc 1 8 := ⟨by kernel_rfl, by kernel_rfl⟩
instance : One Tryz.prog 83 := ⟨fun w => run_isAgg Tryz.underlying83 w⟩
instance : Inf Tryz.prog 83 .nilFunc 1 8 := ⟨by kernel_rfl, by kernel_rfl⟩
instance : One Tryz.prog 84 := ⟨fun w => run_isAgg Tryz.underlying84 w⟩
instance : Inf Tryz.prog 84 .nilFunc 1 8 := ⟨by kernel_rfl, by kernel_rfl⟩
instance : One Tryz.prog 86 := ⟨fun w => run_isAgg Tryz.underlying86 w⟩
instance : Inf Tryz.prog 86 .nilFunc 1 8 := ⟨by kernel_rfl, by kernel_rfl⟩
instance : One Tryz.prog 87 := ⟨fun w => run_isAgg Tryz.underlying87 w⟩
instance : Inf Tryz.prog 87 .nilFunc 1 8 := ⟨by kernel_rfl, by kernel_rfl⟩
instance : One Tryz.prog 88 := ⟨fun w => run_isAgg Tryz.underlying88 w⟩
instance : Inf Tryz.prog 88 .nilFunc 1 8 := ⟨by kernel_rfl, by kernel_rfl⟩
instance : One Tryz.prog 90 := ⟨fun w => run_isAgg Tryz.underlying90 w⟩
instance : Inf Tryz.prog 90 .nilFunc 1 8 := ⟨by kernel_rfl, by kernel_rfl⟩
instance : One Tryz.prog 92 := ⟨fun w => run_isAgg Tryz.underlying92 w⟩
instance : Inf Tryz.prog 92 .nilFunc 1 8 := ⟨by kernel_rfl, by kernel_rfl⟩
instance : One Tryz.prog 93 := ⟨fun w => run_isAgg Tryz.underlying93 w⟩
instance : Inf Tryz.prog 93 .nilFunc 1 8 := ⟨by kernel_rfl, by kernel_rfl⟩
instance : One Tryz.prog 94 := ⟨fun w => run_isAgg Tryz.underlying94 w⟩
instance : Inf Tryz.prog 94 .nilFunc 1 8 := ⟨by kernel_rfl, by kernel_rfl⟩
instance : One Tryz.prog 95 := ⟨fun w => run_isAgg Tryz.underlying95 w⟩
instance : Inf Tryz.prog 95 .nilFunc 1 8 := ⟨by kernel_rfl, by kernel_rfl⟩
instance : One Tryz.prog 96 := ⟨fun w => run_isAgg Tryz.underlying96 w⟩
instance : Inf Tryz.prog 96 .nilFunc 1 8 := ⟨by kernel_rfl, by kernel_rfl⟩
instance : One Tryz.prog 98 := ⟨fun w => run_isAgg Tryz.underlying98 w⟩
instance : Inf Tryz.prog 98 .nilFunc 1 8 := ⟨by kernel_rfl, by kernel_rfl⟩
instance : Und Tryz.prog 99 (.slice 168) := ⟨Tryz.underlying99⟩
instance : Inf Tryz.prog 99 (.slice none 0 0) 1 24 := ⟨by kernel_rfl, by kernel_rfl⟩
instance : Agg Tryz.prog 100 := ⟨fun w => run_isAgg Tryz.underlying100 w⟩
instance : Inf Tryz.prog 100 (.agg #[(.bool false), (.bool false), (.int .i64 0)]) 3 16 := ⟨by kernel_rfl, by kernel_rfl⟩
instance : Str Tryz.prog 100 [(0, 1), (1, 1), (2, 1)] := ⟨⟨_, Tryz.underlying100, by kernel_rfl, by kernel_rfl⟩⟩
instance : Fld Tryz.prog 100 0 0 4 1 := ⟨⟨_, _, Tryz.underlying100, rfl, rfl, rfl, by kernel_rfl⟩⟩
instance : Fld Tryz.prog 100 1 1 4 1 := ⟨⟨_, _, Tryz.underlying100, rfl, rfl, rfl, by kernel_rfl⟩⟩
instance : Fld Tryz.prog 100 2 2 3 1 := ⟨⟨_, _, Tryz.underlying100, rfl, rfl, rfl, by kernel_rfl⟩⟩
instance : Agg Tryz.prog 101 := ⟨fun w => run_isAgg Tryz.underlying101 w⟩
instance : Inf Tryz.prog 101 (.agg #[(.bool false), (.bool false), (.int .i64 0)]) 3 16 := ⟨by kernel_rfl, by kernel_rfl⟩
instance : Str Tryz.prog 101 [(0, 1), (1, 1), (2, 1)] := ⟨⟨_, Tryz.underlying101, by kernel_rfl, by kernel_rfl⟩⟩
instance : Fld Tryz.prog 101 0 0 4 1 := ⟨⟨_, _, Tryz.underlying101, rfl, rfl, rfl, by kernel_rfl⟩⟩
instance : Fld Tryz.prog 101 1 1 4 1 := ⟨⟨_, _, Tryz.underlying101, rfl, rfl, rfl, by kernel_rfl⟩⟩
instance : Fld Tryz.prog 101 2 2 3 1 := ⟨⟨_, _, Tryz.underlying101, rfl, rfl, rfl, by kernel_rfl⟩⟩
instance : Und Tryz.prog 102 (.slice 170) := ⟨Tryz.underlying102⟩
instance : Inf Tryz.prog 102 (.slice none 0 0) 1 24 := ⟨by kernel_rfl, by kernel_rfl⟩
instance : Agg Tryz.prog 103 := ⟨fun w => run_isAgg Tryz.underlying103 w⟩
instance : Inf Tryz.prog 103 (.agg #[]) 0 0 := ⟨by kernel_rfl, by kernel_rfl⟩
instance : Str Tryz.prog 103 [] := ⟨⟨_, Tryz.underlying103, by kernel_rfl, by kernel_rfl⟩⟩
instance : Agg Tryz.prog 104 := ⟨fun w => run_isAgg Tryz.underlying104 w⟩
instance : Inf Tryz.prog 104 (.agg #[]) 0 0 := ⟨by kernel_rfl, by kernel_rfl⟩
instance : Str Tryz.prog 104 [] := ⟨⟨_, Tryz.underlying104, by kernel_rfl, by kernel_rfl⟩⟩
instance : Agg Tryz.prog 105 := ⟨fun w => run_isAgg Tryz.underlying105 w⟩
instance : Inf Tryz.prog 105 (.agg #[]) 0 0 := ⟨by kernel_rfl, by kernel_rfl⟩
instance : Str Tryz.prog 105 [] := ⟨⟨_, Tryz.underlying105, by kernel_rfl, by kernel_rfl⟩⟩
instance : Agg Tryz.prog 106 := ⟨fun w => run_isAgg Tryz.underlying106 w⟩
instance : Inf Tryz.prog 106 (.agg #[(.int .i64 0)]) 1 8 := ⟨by kernel_rfl, by kernel_rfl⟩
instance : Str Tryz.prog 106 [(0, 0), (0, 0), (0, 1)] := ⟨⟨_, Tryz.underlying106, by kernel_rfl, by kernel_rfl⟩⟩
instance : Fld Tryz.prog 106 2 0 2 1 := ⟨⟨_, _, Tryz.underlying106, rfl, rfl, rfl, by kernel_rfl⟩⟩
instance : Agg Tryz.prog 107 := ⟨fun w => run_isAgg Tryz.underlying107 w⟩
instance : Inf Tryz.prog 107 (.agg #[(.int .i64 0)]) 1 8 := ⟨by kernel_rfl, by kernel_rfl⟩
instance : Str Tryz.prog 107 [(0, 0), (0, 0), (0, 1)] := ⟨⟨_, Tryz.underlying107, by kernel_rfl, by kernel_rfl⟩⟩
instance : Fld Tryz.prog 107 2 0 2 1 := ⟨⟨_, _, Tryz.underlying107, rfl, rfl, rfl, by kernel_rfl⟩⟩
instance : Agg Tryz.prog 108 := ⟨fun w => run_isAgg Tryz.underlying108 w⟩
instance : Inf Tryz.prog 108 (.agg #[(.bool false), (.bool false), (.int .i64 0), (.slice none 0 0), (.slice none 0 0), (.int .i64 0), (.int .i64 0)]) 7 80 := ⟨by kernel_rfl, by kernel_rfl⟩
instance : Str Tryz.prog 108 [(0, 3), (3, 1), (4, 1), (5, 1), (6, 1)] := ⟨⟨_, Tryz.underlying108, by kernel_rfl, by kernel_rfl⟩⟩
instance : Fld Tryz.prog 108 0 0 101 3 := ⟨⟨_, _, Tryz.underlying108, rfl, rfl, rfl, by kernel_rfl⟩⟩
instance : Fld Tryz.prog 108 1 3 99 1 := ⟨⟨_, _, Tryz.underlying108, rfl, rfl, rfl, by kernel_rfl⟩⟩
instance : Fld Tryz.prog 108 2 4 102 1 := ⟨⟨_, _, Tryz.underlying108, rfl, rfl, rfl, by kernel_rfl⟩⟩
instance : Fld Tryz.prog 108 3 5 107 1 := ⟨⟨_, _, Tryz.underlying108, rfl, rfl, rfl, by kernel_rfl⟩⟩
instance : Fld Tryz.prog 108 4 6 107 1 := ⟨⟨_, _, Tryz.underlying108, rfl, rfl, rfl, by kernel_rfl⟩⟩
instance : Agg Tryz.prog 109 := ⟨fun w => run_isAgg Tryz.underlying109 w⟩
instance : Inf Tryz.prog 109 (.agg #[(.bool false), (.bool false), (.int .i64 0), (.slice none 0 0), (.slice none 0 0), (.int .i64 0), (.int .i64 0)]) 7 80 := ⟨by kernel_rfl, by kernel_rfl⟩
instance : Str Tryz.prog 109 [(0, 3), (3, 1), (4, 1), (5, 1), (6, 1)] := ⟨⟨_, Tryz.underlying109, by kernel_rfl, by kernel_rfl⟩⟩
instance : Fld Tryz.prog 109 0 0 101 3 := ⟨⟨_, _, Tryz.underlying109, rfl, rfl, rfl, by kernel_rfl⟩⟩
instance : Fld Tryz.prog 109 1 3 99 1 := ⟨⟨_, _, Tryz.underlying109, rfl, rfl, rfl, by kernel_rfl⟩⟩
instance : Fld Tryz.prog 109 2 4 102 1 := ⟨⟨_, _, Tryz.underlying109, rfl, rfl, rfl, by kernel_rfl⟩⟩
instance : Fld Tryz.prog 109 3 5 107 1 := ⟨⟨_, _, Tryz.underlying109, rfl, rfl, rfl, by kernel_rfl⟩⟩
instance : Fld Tryz.prog 109 4 6 107 1 := ⟨⟨_, _, Tryz.underlying109, rfl, rfl, rfl, by kernel_rfl⟩⟩
instance : Agg Tryz.prog 110 := ⟨fun w => run_isAgg Tryz.underlying110 w⟩
instance : Inf Tryz.prog 110 (.agg #[]) 0 0 := ⟨by kernel_rfl, by kernel_rfl⟩
instance : Str Tryz.prog 110 [] := ⟨⟨_, Tryz.underlying110, by kernel_rfl, by kernel_rfl⟩⟩
instance : Und Tryz.prog 111 (.int .u32) := ⟨Tryz.underlying111⟩
instance : Inf Tryz.prog 111 (.int .u32 0) 1 4 := ⟨by kernel_rfl, by kernel_rfl⟩
instance : Agg Tryz.prog 112 := ⟨fun w => run_isAgg Tryz.underlying112 w⟩
instance : Inf Tryz.prog 112 (.agg #[(.int .u32 0)]) 1 4 := ⟨by kernel_rfl, by kernel_rfl⟩
instance : Str Tryz.prog 112 [(0, 0), (0, 1)] := ⟨⟨_, Tryz.underlying112, by kernel_rfl, by kernel_rfl⟩⟩
instance : Fld Tryz.prog 112 1 0 111 1 := ⟨⟨_, _, Tryz.underlying112, rfl, rfl, rfl, by kernel_rfl⟩⟩
instance : Agg Tryz.prog 113 := ⟨fun w => run_isAgg Tryz.underlying113 w⟩
instance : Inf Tryz.prog 113 (.agg #[(.int .u32 0)]) 1 4 := ⟨by kernel_rfl, by kernel_rfl⟩
instance : Str Tryz.prog 113 [(0, 0), (0, 1)] := ⟨⟨_, Tryz.underlying113, by kernel_rfl, by kernel_rfl⟩⟩
instance : Fld Tryz.prog 113 1 0 111 1 := ⟨⟨_, _, Tryz.underlying113, rfl, rfl, rfl, by kernel_rfl⟩⟩
instance : Agg Tryz.prog 114 := ⟨fun w => run_isAgg Tryz.underlying114 w⟩
instance : Inf Tryz.prog 114 (.agg #[(.int .i32 0), (.int .u32 0)]) 2 8 := ⟨by kernel_rfl, by kernel_rfl⟩
instance : Str Tryz.prog 114 [(0, 1), (1, 1)] := ⟨⟨_, Tryz.underlying114, by kernel_rfl, by kernel_rfl⟩⟩
instance : Fld Tryz.prog 114 0 0 21 1 := ⟨⟨_, _, Tryz.underlying114, rfl, rfl, rfl, by kernel_rfl⟩⟩
instance : Fld Tryz.prog 114 1 1 111 1 := ⟨⟨_, _, Tryz.underlying114, rfl, rfl, rfl, by kernel_rfl⟩⟩
instance : Agg Tryz.prog 115 := ⟨fun w => run_isAgg Tryz.underlying115 w⟩
instance : Inf Tryz.prog 115 (.agg #[(.int .i32 0), (.int .u32 0)]) 2 8 := ⟨by kernel_rfl, by kernel_rfl⟩
instance : Str Tryz.prog 115 [(0, 1), (1, 1)] := ⟨⟨_, Tryz.underlying115, by kernel_rfl, by kernel_rfl⟩⟩
instance : Fld Tryz.prog 115 0 0 21 1 := ⟨⟨_, _, Tryz.underlying115, rfl, rfl, rfl, by kernel_rfl⟩⟩
instance : Fld Tryz.prog 115 1 1 111 1 := ⟨⟨_, _, Tryz.underlying115, rfl, rfl, rfl, by kernel_rfl⟩⟩
instance : Agg Tryz.prog 116 := ⟨fun w => run_isAgg Tryz.underlying116 w⟩
instance : Inf Tryz.prog 116 (.agg #[(.int .i32 0), (.int .u32 0)]) 2 8 := ⟨by kernel_rfl, by kernel_rfl⟩
instance : Str Tryz.prog 116 [(0, 0), (0, 2)] := ⟨⟨_, Tryz.underlying116, by kernel_rfl, by kernel_rfl⟩⟩
instance : Fld Tryz.prog 116 1 0 115 2 := ⟨⟨_, _, Tryz.underlying116, rfl, rfl, rfl, by kernel_rfl⟩⟩
instance : Agg Tryz.prog 117 := ⟨fun w => run_isAgg Tryz.underlying117 w⟩
instance : Inf Tryz.prog 117 (.agg #[(.int .i32 0), (.int .u32 0)]) 2 8 := ⟨by kernel_rfl, by kernel_rfl⟩
instance : Str Tryz.prog 117 [(0, 0), (0, 2)] := ⟨⟨_, Tryz.underlying117, by kernel_rfl, by kernel_rfl⟩⟩
instance : Fld Tryz.prog 117 1 0 115 2 := ⟨⟨_, _, Tryz.underlying117, rfl, rfl, rfl, by kernel_rfl⟩⟩
instance : Agg Tryz.prog 118 := ⟨fun w => run_isAgg Tryz.underlying118 w⟩
instance : Inf Tryz.prog 118 (.agg #[(.int .u32 0), (.int .i32 0), (.int .u32 0)]) 3 12 := ⟨by kernel_rfl, by kernel_rfl⟩
instance : Str Tryz.prog 118 [(0, 0), (0, 1), (1, 2)] := ⟨⟨_, Tryz.underlying118, by kernel_rfl, by kernel_rfl⟩⟩
instance : Fld Tryz.prog 118 1 0 113 1 := ⟨⟨_, _, Tryz.underlying118, rfl, rfl, rfl, by kernel_rfl⟩⟩
instance : Fld Tryz.prog 118 2 1 117 2 := ⟨⟨_, _, Tryz.underlying118, rfl, rfl, rfl, by kernel_rfl⟩⟩
instance : Agg Tryz.prog 119 := ⟨fun w => run_isAgg Tryz.underlying119 w⟩
instance : Inf Tryz.prog 119 (.agg #[(.int .u32 0), (.int .i32 0), (.int .u32 0)]) 3 12 := ⟨by kernel_rfl, by kernel_rfl⟩
instance : Str Tryz.prog 119 [(0, 0), (0, 1), (1, 2)] := ⟨⟨_, Tryz.underlying119, by kernel_rfl, by kernel_rfl⟩⟩
instance : Fld Tryz.prog 119 1 0 113 1 := ⟨⟨_, _, Tryz.underlying119, rfl, rfl, rfl, by kernel_rfl⟩⟩
instance : Fld Tryz.prog 119 2 1 117 2 := ⟨⟨_, _, Tryz.underlying119, rfl, rfl, rfl, by kernel_rfl⟩⟩
instance : Agg Tryz.prog 120 := ⟨fun w => run_isAgg Tryz.underlying120 w⟩
instance : Inf Tryz.prog 120 (.agg #[(.pointer none), (.int .u32 0), (.int .i32 0), (.int .u32 0), (.int .i64 0), (.int .i64 0), (.bool false)]) 7 48 := ⟨by kernel_rfl, by kernel_rfl⟩
instance : Str Tryz.prog 120 [(0, 1), (1, 3), (4, 1), (5, 1), (6, 1)] := ⟨⟨_, Tryz.underlying120, by kernel_rfl, by kernel_rfl⟩⟩
instance : Fld Tryz.prog 120 0 0 23 1 := ⟨⟨_, _, Tryz.underlying120, rfl, rfl, rfl, by kernel_rfl⟩⟩
instance : Fld Tryz.prog 120 1 1 119 3 := ⟨⟨_, _, Tryz.underlying120, rfl, rfl, rfl, by kernel_rfl⟩⟩
instance : Fld Tryz.prog 120 2 4 3 1 := ⟨⟨_, _, Tryz.underlying120, rfl, rfl, rfl, by kernel_rfl⟩⟩
instance : Fld Tryz.prog 120 3 5 3 1 := ⟨⟨_, _, Tryz.underlying120, rfl, rfl, rfl, by kernel_rfl⟩⟩
instance : Fld Tryz.prog 120 4 6 4 1 := ⟨⟨_, _, Tryz.underlying120, rfl, rfl, rfl, by kernel_rfl⟩⟩
instance : Agg Tryz.prog 121 := ⟨fun w => run_isAgg Tryz.underlying121 w⟩
instance : Inf Tryz.prog 121 (.agg #[(.pointer none), (.int .u32 0), (.int .i32 0), (.int .u32 0), (.int .i64 0), (.int .i64 0), (.bool false)]) 7 48 := ⟨by kernel_rfl, by kernel_rfl⟩
instance : Str Tryz.prog 121 [(0, 1), (1, 3), (4, 1), (5, 1), (6, 1)] := ⟨⟨_, Tryz.underlying121, by kernel_rfl, by kernel_rfl⟩⟩
instance : Fld Tryz.prog 121 0 0 23 1 := ⟨⟨_, _, Tryz.underlying121, rfl, rfl, rfl, by kernel_rfl⟩⟩
instance : Fld Tryz.prog 121 1 1 119 3 := ⟨⟨_, _, Tryz.underlying121, rfl, rfl, rfl, by kernel_rfl⟩⟩
instance : Fld Tryz.prog 121 2 4 3 1 := ⟨⟨_, _, Tryz.underlying121, rfl, rfl, rfl, by kernel_rfl⟩⟩
instance : Fld Tryz.prog 121 3 5 3 1 := ⟨⟨_, _, Tryz.underlying121, rfl, rfl, rfl, by kernel_rfl⟩⟩
instance : Fld Tryz.prog 121 4 6 4 1 := ⟨⟨_, _, Tryz.underlying121, rfl, rfl, rfl, by kernel_rfl⟩⟩
instance : One Tryz.prog 122 := ⟨fun w => run_isAgg Tryz.underlying122 w⟩
instance : Inf Tryz.prog 122 .nilFunc 1 8 := ⟨by kernel_rfl, by kernel_rfl⟩
instance : One Tryz.prog 123 := ⟨fun w => run_isAgg Tryz.underlying123 w⟩
instance : Inf Tryz.prog 123 .nilFunc 1 8 := ⟨by kernel_rfl, by kernel_rfl⟩
instance : One Tryz.prog 124 := ⟨fun w => run_isAgg Tryz.underlying124 w⟩
instance : Inf Tryz.prog 124 .nilFunc 1 8 := ⟨by kernel_rfl, by kernel_rfl⟩
instance : One Tryz.prog 125 := ⟨fun w => run_isAgg Tryz.underlying125 w⟩
instance : Inf Tryz.prog 125 .nilFunc 1 8 := ⟨by kernel_rfl, by kernel_rfl⟩
instance : One Tryz.prog 126 := ⟨fun w => run_isAgg Tryz.underlying126 w⟩
instance : Inf Tryz.prog 126 .nilFunc 1 8 := ⟨by kernel_rfl, by kernel_rfl⟩
instance : One Tryz.prog 127 := ⟨fun w => run_isAgg Tryz.underlying127 w⟩
instance : Inf Tryz.prog 127 .nilFunc 1 8 := ⟨by kernel_rfl, by kernel_rfl⟩
instance : One Tryz.prog 128 := ⟨fun w => run_isAgg Tryz.underlying128 w⟩
instance : Inf Tryz.prog 128 .nilFunc 1 8 := ⟨by kernel_rfl, by kernel_rfl⟩
instance : Und Tryz.prog 129 (.map 3 4) := ⟨Tryz.underlying129⟩
instance : Inf Tryz.prog 129 (.map none) 1 8 := ⟨by kernel_rfl, by kernel_rfl⟩
instance : One Tryz.prog 130 := ⟨fun w => run_isAgg Tryz.underlying130 w⟩
instance : Inf Tryz.prog 130 .nilFunc 1 8 := ⟨by kernel_rfl, by kernel_rfl⟩
instance : One Tryz.prog 131 := ⟨fun w => run_isAgg Tryz.underlying131 w⟩
instance : Inf Tryz.prog 131 .nilFunc 1 8 := ⟨by kernel_rfl, by kernel_rfl⟩
instance : One Tryz.prog 132 := ⟨fun w => run_isAgg Tryz.underlying132 w⟩
instance : Inf Tryz.prog 132 .nilFunc 1 8 := ⟨by kernel_rfl, by kernel_rfl⟩
instance : One Tryz.prog 133 := ⟨fun w => run_isAgg Tryz.underlying133 w⟩
instance : Inf Tryz.prog 133 .nilFunc 1 8 := ⟨by kernel_rfl, by kernel_rfl⟩
instance : Und Tryz.prog 134 (.pointer 136) := ⟨Tryz.underlying134⟩
instance : Inf Tryz.prog 134 (.pointer none) 1 8 := ⟨by kernel_rfl, by kernel_rfl⟩
instance : Agg Tryz.prog 135 := ⟨fun w => run_isAgg Tryz.underlying135 w⟩
instance : Inf Tryz.prog 135 (.agg #[(.pointer none), (.int .i64 0)]) 2 16 := ⟨by kernel_rfl, by kernel_rfl⟩
instance : Str Tryz.prog 135 [(0, 1), (1, 1)] := ⟨⟨_, Tryz.underlying135, by kernel_rfl, by kernel_rfl⟩⟩
instance : Fld Tryz.prog 135 0 0 23 1 := ⟨⟨_, _, Tryz.underlying135, rfl, rfl, rfl, by kernel_rfl⟩⟩
instance : Fld Tryz.prog 135 1 1 36 1 := ⟨⟨_, _, Tryz.underlying135, rfl, rfl, rfl, by kernel_rfl⟩⟩
instance : Agg Tryz.prog 136 := ⟨fun w => run_isAgg Tryz.underlying136 w⟩
instance : Inf Tryz.prog 136 (.agg #[(.pointer none), (.int .i64 0)]) 2 16 := ⟨by kernel_rfl, by kernel_rfl⟩
instance : Str Tryz.prog 136 [(0, 1), (1, 1)] := ⟨⟨_, Tryz.underlying136, by kernel_rfl, by kernel_rfl⟩⟩
instance : Fld Tryz.prog 136 0 0 23 1 := ⟨⟨_, _, Tryz.underlying136, rfl, rfl, rfl, by kernel_rfl⟩⟩
instance : Fld Tryz.prog 136 1 1 36 1 := ⟨⟨_, _, Tryz.underlying136, rfl, rfl, rfl, by kernel_rfl⟩⟩
instance : Und Tryz.prog 137 (.array 32 5) := ⟨Tryz.underlying137⟩
instance : Inf Tryz.prog 137 (.agg (List.replicate 32 (.int .u8 0)).toArray) 32 32 := ⟨by kernel_rfl, by kernel_rfl⟩
instance : One Tryz.prog 138 := ⟨fun w => run_isAgg Tryz.underlying138 w⟩
instance : Inf Tryz.prog 138 .nilFunc 1 8 := ⟨by kernel_rfl, by kernel_rfl⟩
instance : One Tryz.prog 139 := ⟨fun w => run_isAgg Tryz.underlying139 w⟩
instance : Inf Tryz.prog 139 .nilFunc 1 8 := ⟨by kernel_rfl, by kernel_rfl⟩
instance : One Tryz.prog 140 := ⟨fun w => run_isAgg Tryz.underlying140 w⟩
instance : Inf Tryz.prog 140 .nilFunc 1 8 := ⟨by kernel_rfl, by kernel_rfl⟩
instance : One Tryz.prog 141 := ⟨fun w => run_isAgg Tryz.underlying141 w⟩
instance : Inf Tryz.prog 141 .nilFunc 1 8 := ⟨by kernel_rfl, by kernel_rfl⟩
instance : One Tryz.prog 142 := ⟨fun w => run_isAgg Tryz.underlying142 w⟩
instance : Inf Tryz.prog 142 .nilFunc 1 8 := ⟨by kernel_rfl, by kernel_rfl⟩
instance : One Tryz.prog 143 := ⟨fun w => run_isAgg Tryz.underlying143 w⟩
instance : Inf Tryz.prog 143 .nilFunc 1 8 := ⟨by kernel_rfl, by kernel_rfl⟩
instance : One Tryz.prog 144 := ⟨fun w => run_isAgg Tryz.underlying144 w⟩
instance : Inf Tryz.prog 144 .nilFunc 1 8 := ⟨by kernel_rfl, by kernel_rfl⟩
instance : One Tryz.prog 145 := ⟨fun w => run_isAgg Tryz.underlying145 w⟩
instance : Inf Tryz.prog 145 .nilFunc 1 8 := ⟨by kernel_rfl, by kernel_rfl⟩
instance : One Tryz.prog 146 := ⟨fun w => run_isAgg Tryz.underlying146 w⟩
instance : Inf Tryz.prog 146 .nilFunc 1 8 := ⟨by kernel_rfl, by kernel_rfl⟩
instance : One Tryz.prog 147 := ⟨fun w => run_isAgg Tryz.underlying147 w⟩
instance : Inf Tryz.prog 147 .nilFunc 1 8 := ⟨by kernel_rfl, by kernel_rfl⟩
instance : One Tryz.prog 149 := ⟨fun w => run_isAgg Tryz.underlying149 w⟩
instance : Inf Tryz.prog 149 .nilFunc 1 8 := ⟨by kernel_rfl, by kernel_rfl⟩
instance : Und Tryz.prog 150 (.pointer 119) := ⟨Tryz.underlying150⟩
instance : Inf Tryz.prog 150 (.pointer none) 1 8 := ⟨by kernel_rfl, by kernel_rfl⟩
instance : One Tryz.prog 152 := ⟨fun w => run_isAgg Tryz.underlying152 w⟩
instance : Inf Tryz.prog 152 .nilFunc 1 8 := ⟨by kernel_rfl, by kernel_rfl⟩
instance : One Tryz.prog 153 := ⟨fun w => run_isAgg Tryz.underlying153 w⟩
instance : Inf Tryz.prog 153 .nilFunc 1 8 := ⟨by kernel_rfl, by kernel_rfl⟩
instance : One Tryz.prog 154 := ⟨fun w => run_isAgg Tryz.underlying154 w⟩
instance : Inf Tryz.prog 154 .nilFunc 1 8 := ⟨by kernel_rfl, by kernel_rfl⟩
instance : One Tryz.prog 155 := ⟨fun w => run_isAgg Tryz.underlying155 w⟩
instance : Inf Tryz.prog 155 .nilFunc 1 8 := ⟨by kernel_rfl, by kernel_rfl⟩
instance : One Tryz.prog 156 := ⟨fun w => run_isAgg Tryz.underlying156 w⟩
instance : Inf Tryz.prog 156 .nilFunc 1 8 := ⟨by kernel_rfl, by kernel_rfl⟩
instance : Und Tryz.prog 157 (.slice 40) := ⟨Tryz.underlying157⟩
instance : Inf Tryz.prog 157 (.slice none 0 0) 1 24 := ⟨by kernel_rfl, by kernel_rfl⟩
instance : One Tryz.prog 158 := ⟨fun w => run_isAgg Tryz.underlying158 w⟩
instance : Inf Tryz.prog 158 .nilFunc 1 8 := ⟨by kernel_rfl, by kernel_rfl⟩
instance : Und Tryz.prog 159 (.int .u64) := ⟨Tryz.underlying159⟩
instance : Inf Tryz.prog 159 (.int .u64 0) 1 8 := ⟨by kernel_rfl, by kernel_rfl⟩
instance : One Tryz.prog 160 := ⟨fun w => run_isAgg Tryz.underlying160 w⟩
instance : Inf Tryz.prog 160 .nilFunc 1 8 := ⟨by kernel_rfl, by kernel_rfl⟩
instance : One Tryz.prog 161 := ⟨fun w => run_isAgg Tryz.underlying161 w⟩
instance : Inf Tryz.prog 161 .nilFunc 1 8 := ⟨by kernel_rfl, by kernel_rfl⟩
instance : One Tryz.prog 162 := ⟨fun w => run_isAgg Tryz.underlying162 w⟩
instance : Inf Tryz.prog 162 .nilFunc 1 8 := ⟨by kernel_rfl, by kernel_rfl⟩
instance : One Tryz.prog 163 := ⟨fun w => run_isAgg Tryz.underlying163 w⟩
instance : Inf Tryz.prog 163 .nilFunc 1 8 := ⟨by kernel_rfl, by kernel_rfl⟩
instance : One Tryz.prog 164 := ⟨fun w => run_isAgg Tryz.underlying164 w⟩
instance : Inf Tryz.prog 164 .nilFunc 1 8 := ⟨by kernel_rfl, by kernel_rfl⟩
instance : One Tryz.prog 165 := ⟨fun w => run_isAgg Tryz.underlying165 w⟩
instance : Inf Tryz.prog 165 .nilFunc 1 8 := ⟨by kernel_rfl, by kernel_rfl⟩
instance : One Tryz.prog 166 := ⟨fun w => run_isAgg Tryz.underlying166 w⟩
instance : Inf Tryz.prog 166 .nilFunc 1 8 := ⟨by kernel_rfl, by kernel_rfl⟩
instance : Und Tryz.prog 167 (.array 64 5) := ⟨Tryz.underlying167⟩
instance : Inf Tryz.prog 167 (.agg (List.replicate 64 (.int .u8 0)).toArray) 64 64 := ⟨by kernel_rfl, by kernel_rfl⟩
instance : Und Tryz.prog 168 (.array 64 5) := ⟨Tryz.underlying168⟩
instance : Inf Tryz.prog 168 (.agg (List.replicate 64 (.int .u8 0)).toArray) 64 64 := ⟨by kernel_rfl, by kernel_rfl⟩
instance : Agg Tryz.prog 169 := ⟨fun w => run_isAgg Tryz.underlying169 w⟩
instance : Inf Tryz.prog 169 (.agg ((.int .i64 0) :: (List.replicate 64 (.int .u8 0))).toArray) 65 72 := ⟨by kernel_rfl, by kernel_rfl⟩
instance : Str Tryz.prog 169 [(0, 1), (1, 64)] := ⟨⟨_, Tryz.underlying169, by kernel_rfl, by kernel_rfl⟩⟩
instance : Fld Tryz.prog 169 0 0 3 1 := ⟨⟨_, _, Tryz.underlying169, rfl, rfl, rfl, by kernel_rfl⟩⟩
instance : Fld Tryz.prog 169 1 1 168 64 := ⟨⟨_, _, Tryz.underlying169, rfl, rfl, rfl, by kernel_rfl⟩⟩
instance : Agg Tryz.prog 170 := ⟨fun w => run_isAgg Tryz.underlying170 w⟩
instance : Inf Tryz.prog 170 (.agg ((.int .i64 0) :: (List.replicate 64 (.int .u8 0))).toArray) 65 72 := ⟨by kernel_rfl, by kernel_rfl⟩
instance : Str Tryz.prog 170 [(0, 1), (1, 64)] := ⟨⟨_, Tryz.underlying170, by kernel_rfl, by kernel_rfl⟩⟩
instance : Fld Tryz.prog 170 0 0 3 1 := ⟨⟨_, _, Tryz.underlying170, rfl, rfl, rfl, by kernel_rfl⟩⟩
instance : Fld Tryz.prog 170 1 1 168 64 := ⟨⟨_, _, Tryz.underlying170, rfl, rfl, rfl, by kernel_rfl⟩⟩
instance : Und Tryz.prog 171 (.pointer 175) := ⟨Tryz.underlying171⟩
instance : Inf Tryz.prog 171 (.pointer none) 1 8 := ⟨by kernel_rfl, by kernel_rfl⟩
instance : Und Tryz.prog 172 (.array 8 111) := ⟨Tryz.underlying172⟩
instance : Inf Tryz.prog 172 (.agg #[(.int .u32 0), (.int .u32 0), (.int .u32 0), (.int .u32 0), (.int .u32 0), (.int .u32 0), (.int .u32 0), (.int .u32 0)]) 8 32 := ⟨by kernel_rfl, by kernel_rfl⟩
instance : Und Tryz.prog 173 (.array 8 111) := ⟨Tryz.underlying173⟩
instance : Inf Tryz.prog 173 (.agg #[(.int .u32 0), (.int .u32 0), (.int .u32 0), (.int .u32 0), (.int .u32 0), (.int .u32 0), (.int .u32 0), (.int .u32 0)]) 8 32 := ⟨by kernel_rfl, by kernel_rfl⟩
instance : Agg Tryz.prog 174 := ⟨fun w => run_isAgg Tryz.underlying174 w⟩
instance : Inf Tryz.prog 174 (.agg ((.int .u32 0) :: (.int .u32 0) :: (.int .u32 0) :: (.int .u32 0) :: (.int .u32 0) :: (.int .u32 0) :: (.int .u32 0) :: (.int .u32 0) :: (List.replicate 64 (.int .u8 0) ++ ([(.int .i64 0)]))).toArray) 73 104 := ⟨by kernel_rfl, by kernel_rfl⟩
instance : Str Tryz.prog 174 [(0, 8), (8, 64), (72, 1)] := ⟨⟨_, Tryz.underlying174, by kernel_rfl, by kernel_rfl⟩⟩
instance : Fld Tryz.prog 174 0 0 173 8 := ⟨⟨_, _, Tryz.underlying174, rfl, rfl, rfl, by kernel_rfl⟩⟩
instance : Fld Tryz.prog 174 1 8 167 64 := ⟨⟨_, _, Tryz.underlying174, rfl, rfl, rfl, by kernel_rfl⟩⟩
instance : Fld Tryz.prog 174 2 72 3 1 := ⟨⟨_, _, Tryz.underlying174, rfl, rfl, rfl, by kernel_rfl⟩⟩
instance : Agg Tryz.prog 175 := ⟨fun w => run_isAgg Tryz.underlying175 w⟩
instance : Inf Tryz.prog 175 (.agg ((.int .u32 0) :: (.int .u32 0) :: (.int .u32 0) :: (.int .u32 0) :: (.int .u32 0) :: (.int .u32 0) :: (.int .u32 0) :: (.int .u32 0) :: (List.replicate 64 (.int .u8 0) ++ ([(.int .i64 0)]))).toArray) 73 104 := ⟨by kernel_rfl, by kernel_rfl⟩
instance : Str Tryz.prog 175 [(0, 8), (8, 64), (72, 1)] := ⟨⟨_, Tryz.underlying175, by kernel_rfl, by kernel_rfl⟩⟩
instance : Fld Tryz.prog 175 0 0 173 8 := ⟨⟨_, _, Tryz.underlying175, rfl, rfl, rfl, by kernel_rfl⟩⟩
instance : Fld Tryz.prog 175 1 8 167 64 := ⟨⟨_, _, Tryz.underlying175, rfl, rfl, rfl, by kernel_rfl⟩⟩
instance : Fld Tryz.prog 175 2 72 3 1 := ⟨⟨_, _, Tryz.underlying175, rfl, rfl, rfl, by kernel_rfl⟩⟩
instance : Und Tryz.prog 176 (.array 4 5) := ⟨Tryz.underlying176⟩
instance : Inf Tryz.prog 176 (.agg #[(.int .u8 0), (.int .u8 0), (.int .u8 0), (.int .u8 0)]) 4 4 := ⟨by kernel_rfl, by kernel_rfl⟩
instance : One Tryz.prog 177 := ⟨fun w => run_isAgg Tryz.underlying177 w⟩
instance : Inf Tryz.prog 177 .nilFunc 1 8 := ⟨by kernel_rfl, by kernel_rfl⟩
instance : One Tryz.prog 178 := ⟨fun w => run_isAgg Tryz.underlying178 w⟩
instance : Inf Tryz.prog 178 .nilFunc 1 8 := ⟨by kernel_rfl, by kernel_rfl⟩
instance : Und Tryz.prog 179 (.pointer 113) := ⟨Tryz.underlying179⟩
instance : Inf Tryz.prog 179 (.pointer none) 1 8 := ⟨by kernel_rfl, by kernel_rfl⟩
instance : One Tryz.prog 180 := ⟨fun w => run_isAgg Tryz.underlying180 w⟩
instance : Inf Tryz.prog 180 .nilFunc 1 8 := ⟨by kernel_rfl, by kernel_rfl⟩
instance : Und Tryz.prog 181 (.pointer 111) := ⟨Tryz.underlying181⟩
instance : Inf Tryz.prog 181 (.pointer none) 1 8 := ⟨by kernel_rfl, by kernel_rfl⟩
instance : One Tryz.prog 182 := ⟨fun w => run_isAgg Tryz.underlying182 w⟩
instance : Inf Tryz.prog 182 .nilFunc 1 8 := ⟨by kernel_rfl, by kernel_rfl⟩
instance : One Tryz.prog 184 := ⟨fun w => run_isAgg Tryz.underlying184 w⟩
instance : Inf Tryz.prog 184 .nilFunc 1 8 := ⟨by kernel_rfl, by kernel_rfl⟩
instance : One Tryz.prog 185 := ⟨fun w => run_isAgg Tryz.underlying185 w⟩
instance : Inf Tryz.prog 185 .nilFunc 1 8 := ⟨by kernel_rfl, by kernel_rfl⟩
instance : One Tryz.prog 186 := ⟨fun w => run_isAgg Tryz.underlying186 w⟩
instance : Inf Tryz.prog 186 .nilFunc 1 8 := ⟨by kernel_rfl, by kernel_rfl⟩
instance : One Tryz.prog 187 := ⟨fun w => run_isAgg Tryz.underlying187 w⟩
instance : Inf Tryz.prog 187 .nilFunc 1 8 := ⟨by kernel_rfl, by kernel_rfl⟩
instance : One Tryz.prog 188 := ⟨fun w => run_isAgg Tryz.underlying188 w⟩
instance : Inf Tryz.prog 188 .nilFunc 1 8 := ⟨by kernel_rfl, by kernel_rfl⟩
instance : One Tryz.prog 189 := ⟨fun w => run_isAgg Tryz.underlying189 w⟩
instance : Inf Tryz.prog 189 .nilFunc 1 8 := ⟨by kernel_rfl, by kernel_rfl⟩
instance : One Tryz.prog 190 := ⟨fun w => run_isAgg Tryz.underlying190 w⟩
instance : Inf Tryz.prog 190 .nilFunc 1 8 := ⟨by kernel_rfl, by kernel_rfl⟩
instance : Und Tryz.prog 191 (.int .u64) := ⟨Tryz.underlying191⟩
instance : Inf Tryz.prog 191 (.int .u64 0) 1 8 := ⟨by kernel_rfl, by kernel_rfl⟩
instance : One Tryz.prog 192 := ⟨fun w => run_isAgg Tryz.underlying192 w⟩
instance : Inf Tryz.prog 192 .nilFunc 1 8 := ⟨by kernel_rfl, by kernel_rfl⟩
instance : One Tryz.prog 193 := ⟨fun w => run_isAgg Tryz.underlying193 w⟩
instance : Inf Tryz.prog 193 .nilFunc 1 8 := ⟨by kernel_rfl, by kernel_rfl⟩
instance : One Tryz.prog 194 := ⟨fun w => run_isAgg Tryz.underlying194 w⟩
instance : Inf Tryz.prog 194 .nilFunc 1 8 := ⟨by kernel_rfl, by kernel_rfl⟩
instance : Und Tryz.prog 195 (.pointer 117) := ⟨Tryz.underlying195⟩
instance : Inf Tryz.prog 195 (.pointer none) 1 8 := ⟨by kernel_rfl, by kernel_rfl⟩
instance : One Tryz.prog 196 := ⟨fun w => run_isAgg Tryz.underlying196 w⟩
instance : Inf Tryz.prog 196 .nilFunc 1 8 := ⟨by kernel_rfl, by kernel_rfl⟩
instance : One Tryz.prog 197 := ⟨fun w => run_isAgg Tryz.underlying197 w⟩
instance : Inf Tryz.prog 197 .nilFunc 1 8 := ⟨by kernel_rfl, by kernel_rfl⟩
instance : Und Tryz.prog 198 (.pointer 101) := ⟨Tryz.underlying198⟩
instance : Inf Tryz.prog 198 (.pointer none) 1 8 := ⟨by kernel_rfl, by kernel_rfl⟩
instance : Und Tryz.prog 199 (.pointer 107) := ⟨Tryz.underlying199⟩
instance : Inf Tryz.prog 199 (.pointer none) 1 8 := ⟨by kernel_rfl, by kernel_rfl⟩
instance : One Tryz.prog 200 := ⟨fun w => run_isAgg Tryz.underlying200 w⟩
instance : Inf Tryz.prog 200 .nilFunc 1 8 := ⟨by kernel_rfl, by kernel_rfl⟩
instance : Und Tryz.prog 201 (.pointer 2) := ⟨Tryz.underlying201⟩
instance : Inf Tryz.prog 201 (.pointer none) 1 8 := ⟨by kernel_rfl, by kernel_rfl⟩
instance : One Tryz.prog 202 := ⟨fun w => run_isAgg Tryz.underlying202 w⟩
instance : Inf Tryz.prog 202 .nilFunc 1 8 := ⟨by kernel_rfl, by kernel_rfl⟩
instance : Und Tryz.prog 203 (.int .i64) := ⟨Tryz.underlying203⟩
instance : Inf Tryz.prog 203 (.int .i64 0) 1 8 := ⟨by kernel_rfl, by kernel_rfl⟩
instance : One Tryz.prog 205 := ⟨fun w => run_isAgg Tryz.underlying205 w⟩
instance : Inf Tryz.prog 205 .nilFunc 1 8 := ⟨by kernel_rfl, by kernel_rfl⟩
instance : One Tryz.prog 206 := ⟨fun w => run_isAgg Tryz.underlying206 w⟩
instance : Inf Tryz.prog 206 .nilFunc 1 8 := ⟨by kernel_rfl, by kernel_rfl⟩
instance : One Tryz.prog 207 := ⟨fun w => run_isAgg Tryz.underlying207 w⟩
instance : Inf Tryz.prog 207 .nilFunc 1 8 := ⟨by kernel_rfl, by kernel_rfl⟩
instance : One Tryz.prog 208 := ⟨fun w => run_isAgg Tryz.underlying208 w⟩
instance : Inf Tryz.prog 208 .nilFunc 1 8 := ⟨by kernel_rfl, by kernel_rfl⟩
instance : One Tryz.prog 209 := ⟨fun w => run_isAgg Tryz.underlying209 w⟩
instance : Inf Tryz.prog 209 .nilFunc 1 8 := ⟨by kernel_rfl, by kernel_rfl⟩
instance : One Tryz.prog 210 := ⟨fun w => run_isAgg Tryz.underlying210 w⟩
instance : Inf Tryz.prog 210 .nilFunc 1 8 := ⟨by kernel_rfl, by kernel_rfl⟩
instance : One Tryz.prog 211 := ⟨fun w => run_isAgg Tryz.underlying211 w⟩
instance : Inf Tryz.prog 211 .nilFunc 1 8 := ⟨by kernel_rfl, by kernel_rfl⟩
instance : Und Tryz.prog 212 (.pointer 173) := ⟨Tryz.underlying212⟩
instance : Inf Tryz.prog 212 (.pointer none) 1 8 := ⟨by kernel_rfl, by kernel_rfl⟩
instance : Und Tryz.prog 213 (.pointer 115) := ⟨Tryz.underlying213⟩
instance : Inf Tryz.prog 213 (.pointer none) 1 8 := ⟨by kernel_rfl, by kernel_rfl⟩
instance : One Tryz.prog 214 := ⟨fun w => run_isAgg Tryz.underlying214 w⟩
instance : Inf Tryz.prog 214 .nilFunc 1 8 := ⟨by kernel_rfl, by kernel_rfl⟩
instance : Und Tryz.prog 215 (.pointer 21) := ⟨Tryz.underlying215⟩
instance : Inf Tryz.prog 215 (.pointer none) 1 8 := ⟨by kernel_rfl, by kernel_rfl⟩
instance : One Tryz.prog 216 := ⟨fun w => run_isAgg Tryz.underlying216 w⟩
instance : Inf Tryz.prog 216 .nilFunc 1 8 := ⟨by kernel_rfl, by kernel_rfl⟩
instance : One Tryz.prog 217 := ⟨fun w => run_isAgg Tryz.underlying217 w⟩
instance : Inf Tryz.prog 217 (.pointer none) 1 8 := ⟨by kernel_rfl, by kernel_rfl⟩
instance : One Tryz.prog 218 := ⟨fun w => run_isAgg Tryz.underlying218 w⟩
instance : Inf Tryz.prog 218 .nilFunc 1 8 := ⟨by kernel_rfl, by kernel_rfl⟩
instance : One Tryz.prog 219 := ⟨fun w => run_isAgg Tryz.underlying219 w⟩
instance : Inf Tryz.prog 219 .nilFunc 1 8 := ⟨by kernel_rfl, by kernel_rfl⟩
instance : Und Tryz.prog 220 (.int .u64) := ⟨Tryz.underlying220⟩
instance : Inf Tryz.prog 220 (.int .u64 0) 1 8 := ⟨by kernel_rfl, by kernel_rfl⟩
instance : One Tryz.prog 221 := ⟨fun w => run_isAgg Tryz.underlying221 w⟩
instance : Inf Tryz.prog 221 .nilFunc 1 8 := ⟨by kernel_rfl, by kernel_rfl⟩
instance : One Tryz.prog 222 := ⟨fun w => run_isAgg Tryz.underlying222 w⟩
instance : Inf Tryz.prog 222 .nilFunc 1 8 := ⟨by kernel_rfl, by kernel_rfl⟩
instance : One Tryz.prog 223 := ⟨fun w => run_isAgg Tryz.underlying223 w⟩
instance : Inf Tryz.prog 223 .nilFunc 1 8 := ⟨by kernel_rfl, by kernel_rfl⟩
instance : Und Tryz.prog 224 (.pointer 3) := ⟨Tryz.underlying224⟩
instance : Inf Tryz.prog 224 (.pointer none) 1 8 := ⟨by kernel_rfl, by kernel_rfl⟩
instance : One Tryz.prog 225 := ⟨fun w => run_isAgg Tryz.underlying225 w⟩
instance : Inf Tryz.prog 225 .nilFunc 1 8 := ⟨by kernel_rfl, by kernel_rfl⟩
instance : Und Tryz.prog 226 (.array 64 111) := ⟨Tryz.underlying226⟩
instance : Inf Tryz.prog 226 (.agg (List.replicate 64 (.int .u32 0)).toArray) 64 256 := ⟨by kernel_rfl, by kernel_rfl⟩
instance : One Tryz.prog 227 := ⟨fun w => run_isAgg Tryz.underlying227 w⟩
instance : Inf Tryz.prog 227 .nilFunc 1 8 := ⟨by kernel_rfl, by kernel_rfl⟩
instance : One Tryz.prog 228 := ⟨fun w => run_isAgg Tryz.underlying228 w⟩
instance : Inf Tryz.prog 228 .nilFunc 1 8 := ⟨by kernel_rfl, by kernel_rfl⟩
instance : One Tryz.prog 229 := ⟨fun w => run_isAgg Tryz.underlying229 w⟩
instance : Inf Tryz.prog 229 .nilFunc 1 8 := ⟨by kernel_rfl, by kernel_rfl⟩
instance : One Tryz.prog 230 := ⟨fun w => run_isAgg Tryz.underlying230 w⟩
instance : Inf Tryz.prog 230 .nilFunc 1 8 := ⟨by kernel_rfl, by kernel_rfl⟩
instance : One Tryz.prog 231 := ⟨fun w => run_isAgg Tryz.underlying231 w⟩
instance : Inf Tryz.prog 231 .nilFunc 1 8 := ⟨by kernel_rfl, by kernel_rfl⟩
instance : One Tryz.prog 232 := ⟨fun w => run_isAgg Tryz.underlying232 w⟩
instance : Inf Tryz.prog 232 .nilFunc 1 8 := ⟨by kernel_rfl, by kernel_rfl⟩
instance : Und Tryz.prog 233 (.pointer 220) := ⟨Tryz.underlying233⟩
instance : Inf Tryz.prog 233 (.pointer none) 1 8 := ⟨by kernel_rfl, by kernel_rfl⟩
instance : One Tryz.prog 235 := ⟨fun w => run_isAgg Tryz.underlying235 w⟩
instance : Inf Tryz.prog 235 .nilFunc 1 8 := ⟨by kernel_rfl, by kernel_rfl⟩
instance : One Tryz.prog 236 := ⟨fun w => run_isAgg Tryz.underlying236 w⟩
instance : Inf Tryz.prog 236 .nilFunc 1 8 := ⟨by kernel_rfl, by kernel_rfl⟩
instance : Agg Tryz.prog 237 := ⟨fun w => run_isAgg Tryz.underlying237 w⟩
instance : Inf Tryz.prog 237 (.agg #[(.pointer none), (.pointer none), (.pointer none), (.string ⟨#[]⟩)]) 4 40 := ⟨by kernel_rfl, by kernel_rfl⟩
instance : Str Tryz.prog 237 [(0, 1), (1, 1), (2, 1), (3, 1)] := ⟨⟨_, Tryz.underlying237, by kernel_rfl, by kernel_rfl⟩⟩
instance : Fld Tryz.prog 237 0 0 17 1 := ⟨⟨_, _, Tryz.underlying237, rfl, rfl, rfl, by kernel_rfl⟩⟩
instance : Fld Tryz.prog 237 1 1 17 1 := ⟨⟨_, _, Tryz.underlying237, rfl, rfl, rfl, by kernel_rfl⟩⟩
instance : Fld Tryz.prog 237 2 2 17 1 := ⟨⟨_, _, Tryz.underlying237, rfl, rfl, rfl, by kernel_rfl⟩⟩
instance : Fld Tryz.prog 237 3 3 9 1 := ⟨⟨_, _, Tryz.underlying237, rfl, rfl, rfl, by kernel_rfl⟩⟩
instance : Agg Tryz.prog 238 := ⟨fun w => run_isAgg Tryz.underlying238 w⟩
instance : Inf Tryz.prog 238 (.agg #[(.pointer none), (.pointer none), (.pointer none), (.string ⟨#[]⟩)]) 4 40 := ⟨by kernel_rfl, by kernel_rfl⟩
instance : Str Tryz.prog 238 [(0, 1), (1, 1), (2, 1), (3, 1)] := ⟨⟨_, Tryz.underlying238, by kernel_rfl, by kernel_rfl⟩⟩
instance : Fld Tryz.prog 238 0 0 17 1 := ⟨⟨_, _, Tryz.underlying238, rfl, rfl, rfl, by kernel_rfl⟩⟩
instance : Fld Tryz.prog 238 1 1 17 1 := ⟨⟨_, _, Tryz.underlying238, rfl, rfl, rfl, by kernel_rfl⟩⟩
instance : Fld Tryz.prog 238 2 2 17 1 := ⟨⟨_, _, Tryz.underlying238, rfl, rfl, rfl, by kernel_rfl⟩⟩
instance : Fld Tryz.prog 238 3 3 9 1 := ⟨⟨_, _, Tryz.underlying238, rfl, rfl, rfl, by kernel_rfl⟩⟩
instance : Und Tryz.prog 239 (.array 0 16) := ⟨Tryz.underlying239⟩
instance : Inf Tryz.prog 239 (.agg #[]) 0 0 := ⟨by kernel_rfl, by kernel_rfl⟩
instance : Agg Tryz.prog 240 := ⟨fun w => run_isAgg Tryz.underlying240 w⟩
instance : Inf Tryz.prog 240 (.agg #[]) 0 0 := ⟨by kernel_rfl, by kernel_rfl⟩
instance : Str Tryz.prog 240 [(0, 0)] := ⟨⟨_, Tryz.underlying240, by kernel_rfl, by kernel_rfl⟩⟩
instance : Agg Tryz.prog 241 := ⟨fun w => run_isAgg Tryz.underlying241 w⟩
instance : Inf Tryz.prog 241 (.agg #[]) 0 0 := ⟨by kernel_rfl, by kernel_rfl⟩
instance : Str Tryz.prog 241 [(0, 0)] := ⟨⟨_, Tryz.underlying241, by kernel_rfl, by kernel_rfl⟩⟩
instance : Und Tryz.prog 242 (.int .u8) := ⟨Tryz.underlying242⟩
instance : Inf Tryz.prog 242 (.int .u8 0) 1 1 := ⟨by kernel_rfl, by kernel_rfl⟩
instance : Und Tryz.prog 243 (.int .u8) := ⟨Tryz.underlying243⟩
instance : Inf Tryz.prog 243 (.int .u8 0) 1 1 := ⟨by kernel_rfl, by kernel_rfl⟩
instance : One Tryz.prog 244 := ⟨fun w => run_isAgg Tryz.underlying244 w⟩
instance : Inf Tryz.prog 244 .nilFunc 1 8 := ⟨by kernel_rfl, by kernel_rfl⟩
instance : Und Tryz.prog 245 (.pointer 5) := ⟨Tryz.underlying245⟩
instance : Inf Tryz.prog 245 (.pointer none) 1 8 := ⟨by kernel_rfl, by kernel_rfl⟩
instance : Und Tryz.prog 246 (.int .i32) := ⟨Tryz.underlying246⟩
instance : Inf Tryz.prog 246 (.int .i32 0) 1 4 := ⟨by kernel_rfl, by kernel_rfl⟩
instance : Und Tryz.prog 247 (.int .i32) := ⟨Tryz.underlying247⟩
instance : Inf Tryz.prog 247 (.int .i32 0) 1 4 := ⟨by kernel_rfl, by kernel_rfl⟩
instance : Agg Tryz.prog 248 := ⟨fun w => run_isAgg Tryz.underlying248 w⟩
instance : Inf Tryz.prog 248 (.agg #[(.int .u64 0), (.int .u64 0), (.int .u32 0), (.int .u8 0), (.int .u8 0), (.int .u8 0), (.int .u8 0), .nilFunc, (.pointer none), (.int .i32 0), (.int .i32 0)]) 11 48 := ⟨by kernel_rfl, by kernel_rfl⟩
instance : Str Tryz.prog 248 [(0, 1), (1, 1), (2, 1), (3, 1), (4, 1), (5, 1), (6, 1), (7, 1), (8, 1), (9, 1), (10, 1)] := ⟨⟨_, Tryz.underlying248, by kernel_rfl, by kernel_rfl⟩⟩
instance : Fld Tryz.prog 248 0 0 12 1 := ⟨⟨_, _, Tryz.underlying248, rfl, rfl, rfl, by kernel_rfl⟩⟩
instance : Fld Tryz.prog 248 1 1 12 1 := ⟨⟨_, _, Tryz.underlying248, rfl, rfl, rfl, by kernel_rfl⟩⟩
instance : Fld Tryz.prog 248 2 2 111 1 := ⟨⟨_, _, Tryz.underlying248, rfl, rfl, rfl, by kernel_rfl⟩⟩
instance : Fld Tryz.prog 248 3 3 242 1 := ⟨⟨_, _, Tryz.underlying248, rfl, rfl, rfl, by kernel_rfl⟩⟩
instance : Fld Tryz.prog 248 4 4 5 1 := ⟨⟨_, _, Tryz.underlying248, rfl, rfl, rfl, by kernel_rfl⟩⟩
instance : Fld Tryz.prog 248 5 5 5 1 := ⟨⟨_, _, Tryz.underlying248, rfl, rfl, rfl, by kernel_rfl⟩⟩
instance : Fld Tryz.prog 248 6 6 243 1 := ⟨⟨_, _, Tryz.underlying248, rfl, rfl, rfl, by kernel_rfl⟩⟩
instance : Fld Tryz.prog 248 7 7 244 1 := ⟨⟨_, _, Tryz.underlying248, rfl, rfl, rfl, by kernel_rfl⟩⟩
instance : Fld Tryz.prog 248 8 8 245 1 := ⟨⟨_, _, Tryz.underlying248, rfl, rfl, rfl, by kernel_rfl⟩⟩
instance : Fld Tryz.prog 248 9 9 246 1 := ⟨⟨_, _, Tryz.underlying248, rfl, rfl, rfl, by kernel_rfl⟩⟩
instance : Fld Tryz.prog 248 10 10 247 1 := ⟨⟨_, _, Tryz.underlying248, rfl, rfl, rfl, by kernel_rfl⟩⟩
instance : Agg Tryz.prog 249 := ⟨fun w => run_isAgg Tryz.underlying249 w⟩
instance : Inf Tryz.prog 249 (.agg #[(.int .u64 0), (.int .u64 0), (.int .u32 0), (.int .u8 0), (.int .u8 0), (.int .u8 0), (.int .u8 0), .nilFunc, (.pointer none), (.int .i32 0), (.int .i32 0)]) 11 48 := ⟨by kernel_rfl, by kernel_rfl⟩
instance : Str Tryz.prog 249 [(0, 1), (1, 1), (2, 1), (3, 1), (4, 1), (5, 1), (6, 1), (7, 1), (8, 1), (9, 1), (10, 1)] := ⟨⟨_, Tryz.underlying249, by kernel_rfl, by kernel_rfl⟩⟩
instance : Fld Tryz.prog 249 0 0 12 1 := ⟨⟨_, _, Tryz.underlying249, rfl, rfl, rfl, by kernel_rfl⟩⟩
instance : Fld Tryz.prog 249 1 1 12 1 := ⟨⟨_, _, Tryz.underlying249, rfl, rfl, rfl, by kernel_rfl⟩⟩
instance : Fld Tryz.prog 249 2 2 111 1 := ⟨⟨_, _, Tryz.underlying249, rfl, rfl, rfl, by kernel_rfl⟩⟩
instance : Fld Tryz.prog 249 3 3 242 1 := ⟨⟨_, _, Tryz.underlying249, rfl, rfl, rfl, by kernel_rfl⟩⟩
instance : Fld Tryz.prog 249 4 4 5 1 := ⟨⟨_, _, Tryz.underlying249, rfl, rfl, rfl, by kernel_rfl⟩⟩
instance : Fld Tryz.prog 249 5 5 5 1 := ⟨⟨_, _, Tryz.underlying249, rfl, rfl, rfl, by kernel_rfl⟩⟩
instance : Fld Tryz.prog 249 6 6 243 1 := ⟨⟨_, _, Tryz.underlying249, rfl, rfl, rfl, by kernel_rfl⟩⟩
instance : Fld Tryz.prog 249 7 7 244 1 := ⟨⟨_, _, Tryz.underlying249, rfl, rfl, rfl, by kernel_rfl⟩⟩
instance : Fld Tryz.prog 249 8 8 245 1 := ⟨⟨_, _, Tryz.underlying249, rfl, rfl, rfl, by kernel_rfl⟩⟩
instance : Fld Tryz.prog 249 9 9 246 1 := ⟨⟨_, _, Tryz.underlying249, rfl, rfl, rfl, by kernel_rfl⟩⟩
instance : Fld Tryz.prog 249 10 10 247 1 := ⟨⟨_, _, Tryz.underlying249, rfl, rfl, rfl, by kernel_rfl⟩⟩
instance : One Tryz.prog 250 := ⟨fun w => run_isAgg Tryz.underlying250 w⟩
instance : Inf Tryz.prog 250 .nilFunc 1 8 := ⟨by kernel_rfl, by kernel_rfl⟩
instance : Fun Tryz.prog 3 := Fun.mk' Tryz.func3 (by kernel_rfl) (by kernel_rfl)
instance : Fun Tryz.prog 4 := Fun.mk' Tryz.func4 (by kernel_rfl) (by kernel_rfl)
instance : Fun Tryz.prog 5 := Fun.mk' Tryz.func5 (by kernel_rfl) (by kernel_rfl)
instance : Fun Tryz.prog 6 := Fun.mk' Tryz.func6 (by kernel_rfl) (by kernel_rfl)
instance : Fun Tryz.prog 7 := Fun.mk' Tryz.func7 (by kernel_rfl) (by kernel_rfl)
instance : Fun Tryz.prog 8 := Fun.mk' Tryz.func8 (by kernel_rfl) (by kernel_rfl)
instance : Fun Tryz.prog 9 := Fun.mk' Tryz.func9 (by kernel_rfl) (by kernel_rfl)
instance : Fun Tryz.prog 10 := Fun.mk' Tryz.func10 (by kernel_rfl) (by kernel_rfl)
instance : Fun Tryz.prog 11 := Fun.mk' Tryz.func11 (by kernel_rfl) (by kernel_rfl)
instance : Fun Tryz.prog 12 := Fun.mk' Tryz.func12 (by kernel_rfl) (by kernel_rfl)
instance : Fun Tryz.prog 13 := Fun.mk' Tryz.func13 (by kernel_rfl) (by kernel_rfl)
instance : Fun Tryz.prog 14 := Fun.mk' Tryz.func14 (by kernel_rfl) (by kernel_rfl)
instance : Fun Tryz.prog 15 := Fun.mk' Tryz.func15 (by kernel_rfl) (by kernel_rfl)
instance : Fun Tryz.prog 16 := Fun.mk' Tryz.func16 (by kernel_rfl) (by kernel_rfl)
instance : Fun Tryz.prog 17 := Fun.mk' Tryz.func17 (by kernel_rfl) (by kernel_rfl)
instance : Fun Tryz.prog 18 := Fun.mk' Tryz.func18 (by kernel_rfl) (by kernel_rfl)
instance : Fun Tryz.prog 19 := Fun.mk' Tryz.func19 (by kernel_rfl) (by kernel_rfl)
instance : Fun Tryz.prog 20 := Fun.mk' Tryz.func20 (by kernel_rfl) (by kernel_rfl)
instance : Fun Tryz.prog 21 := Fun.mk' Tryz.func21 (by kernel_rfl) (by kernel_rfl)
instance : Fun Tryz.prog 22 := Fun.mk' Tryz.func22 (by kernel_rfl) (by kernel_rfl)
instance : Fun Tryz.prog 23 := Fun.mk' Tryz.func23 (by kernel_rfl) (by kernel_rfl)
instance : Fun Tryz.prog 24 := Fun.mk' Tryz.func24 (by kernel_rfl) (by kernel_rfl)
instance : Fun Tryz.prog 25 := Fun.mk' Tryz.func25 (by kernel_rfl) (by kernel_rfl)
instance : Fun Tryz.prog 26 := Fun.mk' Tryz.func26 (by kernel_rfl) (by kernel_rfl)
instance : Fun Tryz.prog 27 := Fun.mk' Tryz.func27 (by kernel_rfl) (by kernel_rfl)
instance : Fun Tryz.prog 28 := Fun.mk' Tryz.func28 (by kernel_rfl) (by kernel_rfl)
instance : Fun Tryz.prog 29 := Fun.mk' Tryz.func29 (by kernel_rfl) (by kernel_rfl)
instance : Fun Tryz.prog 30 := Fun.mk' Tryz.func30 (by kernel_rfl) (by kernel_rfl)
instance : Fun Tryz.prog 31 := Fun.mk' Tryz.func31 (by kernel_rfl) (by kernel_rfl)
instance : Fun Tryz.prog 32 := Fun.mk' Tryz.func32 (by kernel_rfl) (by kernel_rfl)
instance : Fun Tryz.prog 33 := Fun.mk' Tryz.func33 (by kernel_rfl) (by kernel_rfl)
instance : Fun Tryz.prog 34 := Fun.mk' Tryz.func34 (by kernel_rfl) (by kernel_rfl)
instance : Fun Tryz.prog 35 := Fun.mk' Tryz.func35 (by kernel_rfl) (by kernel_rfl)
instance : Fun Tryz.prog 36 := Fun.mk' Tryz.func36 (by kernel_rfl) (by kernel_rfl)
instance : Fun Tryz.prog 37 := Fun.mk' Tryz.func37 (by kernel_rfl) (by kernel_rfl)
instance : Fun Tryz.prog 38 := Fun.mk' Tryz.func38 (by kernel_rfl) (by kernel_rfl)
instance : Fun Tryz.prog 39 := Fun.mk' Tryz.func39 (by kernel_rfl) (by kernel_rfl)
instance : Fun Tryz.prog 40 := Fun.mk' Tryz.func40 (by kernel_rfl) (by kernel_rfl)
instance : Fun Tryz.prog 41 := Fun.mk' Tryz.func41 (by kernel_rfl) (by kernel_rfl)
instance : Fun Tryz.prog 42 := Fun.mk' Tryz.func42 (by kernel_rfl) (by kernel_rfl)
instance : Fun Tryz.prog 43 := Fun.mk' Tryz.func43 (by kernel_rfl) (by kernel_rfl)
instance : Fun Tryz.prog 44 := Fun.mk' Tryz.func44 (by kernel_rfl) (by kernel_rfl)
instance : Fun Tryz.prog 45 := Fun.mk' Tryz.func45 (by kernel_rfl) (by kernel_rfl)
instance : Fun Tryz.prog 46 := Fun.mk' Tryz.func46 (by kernel_rfl) (by kernel_rfl)
instance : Fun Tryz.prog 47 := Fun.mk' Tryz.func47 (by kernel_rfl) (by kernel_rfl)
instance : Fun Tryz.prog 48 := Fun.mk' Tryz.func48 (by kernel_rfl) (by kernel_rfl)
instance : Fun Tryz.prog 49 := Fun.mk' Tryz.func49 (by kernel_rfl) (by kernel_rfl)
instance : Fun Tryz.prog 50 := Fun.mk' Tryz.func50 (by kernel_rfl) (by kernel_rfl)
instance : Fun Tryz.prog 51 := Fun.mk' Tryz.func51 (by kernel_rfl) (by kernel_rfl)
instance : Fun Tryz.prog 53 := Fun.mk' Tryz.func53 (by kernel_rfl) (by kernel_rfl)
instance : Fun Tryz.prog 54 := Fun.mk' Tryz.func54 (by kernel_rfl) (by kernel_rfl)
instance : Fun Tryz.prog 55 := Fun.mk' Tryz.func55 (by kernel_rfl) (by kernel_rfl)
instance : Fun Tryz.prog 56 := Fun.mk' Tryz.func56 (by kernel_rfl) (by kernel_rfl)
instance : Fun Tryz.prog 57 := Fun.mk' Tryz.func57 (by kernel_rfl) (by kernel_rfl)
instance : Fun Tryz.prog 58 := Fun.mk' Tryz.func58 (by kernel_rfl) (by kernel_rfl)
instance : Fun Tryz.prog 59 := Fun.mk' Tryz.func59 (by kernel_rfl) (by kernel_rfl)
instance : Fun Tryz.prog 60 := Fun.mk' Tryz.func60 (by kernel_rfl) (by kernel_rfl)
instance : Fun Tryz.prog 61 := Fun.mk' Tryz.func61 (by kernel_rfl) (by kernel_rfl)
instance : Fun Tryz.prog 62 := Fun.mk' Tryz.func62 (by kernel_rfl) (by kernel_rfl)
instance : Fun Tryz.prog 63 := Fun.mk' Tryz.func63 (by kernel_rfl) (by kernel_rfl)
instance : Fun Tryz.prog 64 := Fun.mk' Tryz.func64 (by kernel_rfl) (by kernel_rfl)
instance : Fun Tryz.prog 65 := Fun.mk' Tryz.func65 (by kernel_rfl) (by kernel_rfl)
instance : Fun Tryz.prog 66 := Fun.mk' Tryz.func66 (by kernel_rfl) (by kernel_rfl)
instance : Fun Tryz.prog 67 := Fun.mk' Tryz.func67 (by kernel_rfl) (by kernel_rfl)
instance : Fun Tryz.prog 68 := Fun.mk' Tryz.func68 (by kernel_rfl) (by kernel_rfl)
instance : Fun Tryz.prog 69 := Fun.mk' Tryz.func69 (by kernel_rfl) (by kernel_rfl)
instance : Fun Tryz.prog 70 := Fun.mk' Tryz.func70 (by kernel_rfl) (by kernel_rfl)
instance : Fun Tryz.prog 71 := Fun.mk' Tryz.func71 (by kernel_rfl) (by kernel_rfl)
instance : Fun Tryz.prog 72 := Fun.mk' Tryz.func72 (by kernel_rfl) (by kernel_rfl)
instance : Fun Tryz.prog 73 := Fun.mk' Tryz.func73 (by kernel_rfl) (by kernel_rfl)
instance : Fun Tryz.prog 74 := Fun.mk' Tryz.func74 (by kernel_rfl) (by kernel_rfl)
instance : Fun Tryz.prog 75 := Fun.mk' Tryz.func75 (by kernel_rfl) (by kernel_rfl)
instance : Fun Tryz.prog 76 := Fun.mk' Tryz.func76 (by kernel_rfl) (by kernel_rfl)
instance : Fun Tryz.prog 77 := Fun.mk' Tryz.func77 (by kernel_rfl) (by kernel_rfl)
instance : Fun Tryz.prog 78 := Fun.mk' Tryz.func78 (by kernel_rfl) (by kernel_rfl)
instance : Fun Tryz.prog 79 := Fun.mk' Tryz.func79 (by kernel_rfl) (by kernel_rfl)
instance : Fun Tryz.prog 80 := Fun.mk' Tryz.func80 (by kernel_rfl) (by kernel_rfl)
instance : Fun Tryz.prog 81 := Fun.mk' Tryz.func81 (by kernel_rfl) (by kernel_rfl)
instance : Fun Tryz.prog 82 := Fun.mk' Tryz.func82 (by kernel_rfl) (by kernel_rfl)
instance : Fun Tryz.prog 83 := Fun.mk' Tryz.func83 (by kernel_rfl) (by kernel_rfl)
instance : Fun Tryz.prog 84 := Fun.mk' Tryz.func84 (by kernel_rfl) (by kernel_rfl)
instance : Fun Tryz.prog 85 := Fun.mk' Tryz.func85 (by kernel_rfl) (by kernel_rfl)
instance : Fun Tryz.prog 86 := Fun.mk' Tryz.func86 (by kernel_rfl) (by kernel_rfl)
instance : Fun Tryz.prog 87 := Fun.mk' Tryz.func87 (by kernel_rfl) (by kernel_rfl)
instance : Fun Tryz.prog 88 := Fun.mk' Tryz.func88 (by kernel_rfl) (by kernel_rfl)
instance : Fun Tryz.prog 89 := Fun.mk' Tryz.func89 (by kernel_rfl) (by kernel_rfl)
instance : Fun Tryz.prog 90 := Fun.mk' Tryz.func90 (by kernel_rfl) (by kernel_rfl)
instance : Fun Tryz.prog 91 := Fun.mk' Tryz.func91 (by kernel_rfl) (by kernel_rfl)
instance : Fun Tryz.prog 92 := Fun.mk' Tryz.func92 (by kernel_rfl) (by kernel_rfl)
instance : Fun Tryz.prog 93 := Fun.mk' Tryz.func93 (by kernel_rfl) (by kernel_rfl)
instance : Fun Tryz.prog 94 := Fun.mk' Tryz.func94 (by kernel_rfl) (by kernel_rfl)
instance : Fun Tryz.prog 95 := Fun.mk' Tryz.func95 (by kernel_rfl) (by kernel_rfl)
instance : ELoad Tryz.prog 96 .u32 := ⟨fun hc => run_call_load Tryz.func96 (by kernel_rfl) (by kernel_rfl) (by kernel_rfl) .u32 (by kernel_rfl) hc⟩
instance : Fun Tryz.prog 97 := Fun.mk' Tryz.func97 (by kernel_rfl) (by kernel_rfl)
instance : Fun Tryz.prog 98 := Fun.mk' Tryz.func98 (by kernel_rfl) (by kernel_rfl)
instance : Fun Tryz.prog 99 := Fun.mk' Tryz.func99 (by kernel_rfl) (by kernel_rfl)
instance : Fun Tryz.prog 100 := Fun.mk' Tryz.func100 (by kernel_rfl) (by kernel_rfl)
instance : Fun Tryz.prog 101 := Fun.mk' Tryz.func101 (by kernel_rfl) (by kernel_rfl)
instance : Fun Tryz.prog 102 := Fun.mk' Tryz.func102 (by kernel_rfl) (by kernel_rfl)
instance : Fun Tryz.prog 103 := Fun.mk' Tryz.func103 (by kernel_rfl) (by kernel_rfl)
instance : Fun Tryz.prog 104 := Fun.mk' Tryz.func104 (by kernel_rfl) (by kernel_rfl)
instance : Fun Tryz.prog 105 := Fun.mk' Tryz.func105 (by kernel_rfl) (by kernel_rfl)
instance : Fun Tryz.prog 106 := Fun.mk' Tryz.func106 (by kernel_rfl) (by kernel_rfl)
instance : Fun Tryz.prog 107 := Fun.mk' Tryz.func107 (by kernel_rfl) (by kernel_rfl)
instance : Fun Tryz.prog 108 := Fun.mk' Tryz.func108 (by kernel_rfl) (by kernel_rfl)
instance : Fun Tryz.prog 109 := Fun.mk' Tryz.func109 (by kernel_rfl) (by kernel_rfl)
instance : Fun Tryz.prog 110 := Fun.mk' Tryz.func110 (by kernel_rfl) (by kernel_rfl)
instance : Fun Tryz.prog 111 := Fun.mk' Tryz.func111 (by kernel_rfl) (by kernel_rfl)
instance : Fun Tryz.prog 112 := Fun.mk' Tryz.func112 (by kernel_rfl) (by kernel_rfl)
instance : Fun Tryz.prog 113 := Fun.mk' Tryz.func113 (by kernel_rfl) (by kernel_rfl)
instance : Fun Tryz.prog 114 := Fun.mk' Tryz.func114 (by kernel_rfl) (by kernel_rfl)
instance : Fun Tryz.prog 115 := Fun.mk' Tryz.func115 (by kernel_rfl) (by kernel_rfl)
instance : EStore Tryz.prog 116 := ⟨fun hc hz => run_call_store Tryz.func116 (by kernel_rfl) (by kernel_rfl) (by kernel_rfl) (by kernel_rfl) hc hz⟩
instance : Fun Tryz.prog 117 := Fun.mk' Tryz.func117 (by kernel_rfl) (by kernel_rfl)
instance : EAdd Tryz.prog 118 .i64 := ⟨fun hc hz hs => run_call_add Tryz.func118 (by kernel_rfl) (by kernel_rfl) (by kernel_rfl) .i64 (by kernel_rfl) hc hz hs⟩
instance : Fun Tryz.prog 120 := Fun.mk' Tryz.func120 (by kernel_rfl) (by kernel_rfl)
instance : Fun Tryz.prog 121 := Fun.mk' Tryz.func121 (by kernel_rfl) (by kernel_rfl)
instance : Fun Tryz.prog 122 := Fun.mk' Tryz.func122 (by kernel_rfl) (by kernel_rfl)
instance : Fun Tryz.prog 123 := Fun.mk' Tryz.func123 (by kernel_rfl) (by kernel_rfl)
instance : Fun Tryz.prog 124 := Fun.mk' Tryz.func124 (by kernel_rfl) (by kernel_rfl)
instance : Fun Tryz.prog 125 := Fun.mk' Tryz.func125 (by kernel_rfl) (by kernel_rfl)
instance : Fun Tryz.prog 126 := Fun.mk' Tryz.func126 (by kernel_rfl) (by kernel_rfl)
instance : Fun Tryz.prog 127 := Fun.mk' Tryz.func127 (by kernel_rfl) (by kernel_rfl)
instance : Fun Tryz.prog 128 := Fun.mk' Tryz.func128 (by kernel_rfl) (by kernel_rfl)
instance : Fun Tryz.prog 129 := Fun.mk' Tryz.func129 (by kernel_rfl) (by kernel_rfl)
instance : Fun Tryz.prog 130 := Fun.mk' Tryz.func130 (by kernel_rfl) (by kernel_rfl)
instance : Fun Tryz.prog 131 := Fun.mk' Tryz.func131 (by kernel_rfl) (by kernel_rfl)
instance : EMark0 Tryz.prog 132 := ⟨fun w => run_call_mark0 Tryz.func132 (by kernel_rfl) (by kernel_rfl) (by kernel_rfl) .disable (by kernel_rfl) w⟩
instance : ECas Tryz.prog 133 .i32 := ⟨fun hc hz => run_call_cas_hit Tryz.func133 (by kernel_rfl) (by kernel_rfl) (by kernel_rfl) .i32 (by kernel_rfl) hc hz⟩
instance : EMark0 Tryz.prog 134 := ⟨fun w => run_call_mark0 Tryz.func134 (by kernel_rfl) (by kernel_rfl) (by kernel_rfl) .enable (by kernel_rfl) w⟩
instance : EMark Tryz.prog 135 := ⟨fun a w => run_call_marked Tryz.func135 (by kernel_rfl) (by kernel_rfl) (by kernel_rfl) .acquire (by kernel_rfl) a w⟩
instance : Fun Tryz.prog 136 := Fun.mk' Tryz.func136 (by kernel_rfl) (by kernel_rfl)
instance : EMark Tryz.prog 137 := ⟨fun a w => run_call_marked Tryz.func137 (by kernel_rfl) (by kernel_rfl) (by kernel_rfl) .releaseMerge (by kernel_rfl) a w⟩
instance : EAdd Tryz.prog 138 .i32 := ⟨fun hc hz hs => run_call_add Tryz.func138 (by kernel_rfl) (by kernel_rfl) (by kernel_rfl) .i32 (by kernel_rfl) hc hz hs⟩
instance : Fun Tryz.prog 139 := Fun.mk' Tryz.func139 (by kernel_rfl) (by kernel_rfl)
instance : Fun Tryz.prog 140 := Fun.mk' Tryz.func140 (by kernel_rfl) (by kernel_rfl)
instance : Fun Tryz.prog 141 := Fun.mk' Tryz.func141 (by kernel_rfl) (by kernel_rfl)
instance : Fun Tryz.prog 142 := Fun.mk' Tryz.func142 (by kernel_rfl) (by kernel_rfl)
instance : Fun Tryz.prog 143 := Fun.mk' Tryz.func143 (by kernel_rfl) (by kernel_rfl)
instance : Fun Tryz.prog 144 := Fun.mk' Tryz.func144 (by kernel_rfl) (by kernel_rfl)
instance : Fun Tryz.prog 145 := Fun.mk' Tryz.func145 (by kernel_rfl) (by kernel_rfl)
instance : Fun Tryz.prog 146 := Fun.mk' Tryz.func146 (by kernel_rfl) (by kernel_rfl)
instance : Fun Tryz.prog 147 := Fun.mk' Tryz.func147 (by kernel_rfl) (by kernel_rfl)
instance : Fun Tryz.prog 148 := Fun.mk' Tryz.func148 (by kernel_rfl) (by kernel_rfl)
instance : Fun Tryz.prog 156 := Fun.mk' Tryz.func156 (by kernel_rfl) (by kernel_rfl)
theorem mixed : Tryz.prog.follows .mixedOrders = true := by kernel_rfl
end Cr
namespace Cr
open Go

theorem setBlock_put {w : World} {b : Nat} {o o' : Obj} (h : w.heap[b]? = some o) : SetBlock w { w with heap := w.heap.setIfInBounds b o' } b o' := by
  have hlt := lt_of_get h
  refine ⟨by simp, ?_, fun k hk => ?_, rfl, rfl, rfl⟩
  · simp [hlt]
  · simp [Ne.symm hk]

section
variable {P : Program} {Q : Exit → Act → World → Prop} {N : Nat} {ds : Md} {σ : Env} {w : World}
theorem Yl_makeFunc {o : Oper} {fn : Fn} {xs ys : List Operand} {first captured : List Value} (ho : o.op = .makeFunc fn xs.toArray ys.toArray) (hx : evs σ xs = some first) (hy : evs σ ys = some captured) : Yl P o σ w (.func fn first.toArray captured.toArray) := ⟨fun N ds a ha => by
  simp [execOp, ho, Instr.makeFunc, ha.evals hx, ha.evals hy]⟩
theorem run_load1 {t : TypeId} {ad : Addr} {v : Value} [h : One P t] (hc : w.cell? ad = some v) : (loadVar t ad).run P w = .ok v w := by
  simp [loadVar, h.one, load, Sem.run, hc]
theorem run_loadN {t : TypeId} {a : Addr} {cs : List Value} {n : Nat} [h : Agg P t] [hs : Siz P t n] (hc : CellsN w a n cs) : (loadVar t a).run P w = .ok (.agg cs.toArray) w := by
  obtain ⟨hc, rfl⟩ := hc
  exact run_loadAgg hc
theorem E_code2 {Q : Exit → Act → World → Prop} {y : Code} {ds' : Md} (hF : Fc ds' = Fc ds) (h : C P y Q N ds σ w) : E (Exit.then (y.wpIn (Fc ds') 0 P Q) Q) .normal N ds σ w := ⟨fun a ha => by rw [hF]; exact h.run a ha⟩
theorem E_plain {Q : Exit → Act → World → Prop} {e : Exit} (h : E Q e N ds σ w) : E Q e N ds σ w := h
def recd (fn : FuncId) (tm : Array Value) (ps : Array Tmp) (assign body : Code) (r : Nat) (st : LoopState) (jump : Option Code) : Loop :=
  { state := st, pending := jump, fn, tmps := tm, params := ps, assign, body, defers := r }
def mark (r : Nat) : Deferred := { target := .collected r, args := #[] }
/-- A yield's call, in the function that is ranged over. -/
theorem G_yield {ops : Array Oper} {rest : List Oper} {o : Oper} {f : Operand} {xs : List Operand} {vs : List Value} {ts : Array TypeId} {l d : Nat} {r : Loop} {R : Value → World → Prop} (hgd : o.guard = none) (ho : o.op = .call { callee := .value f, args := xs.toArray, argTypes := ts }) (hf : ev σ f = some (.func (.yield l) #[] #[])) (hv : evs σ xs = some vs)
    (hd : o.dst = some d) (hN : Nat.blt d N = true) (hl : w.heap[l]? = some (.loop r)) (hsz : vs.length = r.params.size)
    (hr : RoundIn Fence.wide 0 P l r.fn ((r.params.zip vs.toArray).foldl (fun tmps (t, a) => tmps.setIfInBounds t a) r.tmps) r.assign r.body w (Ret R)) (h : ∀ v w', R v w' → G P ops Q rest N ds ((d, v) :: σ) w') : G P ops Q (o :: rest) N ds σ w := ⟨fun a ha =>
  wpListIn_plain hgd fun K hK => by
    have hsem : o.semAt (Fc ds).round a.eval = execOp a.eval o := Oper.semAt_eq _ _ _ fun c hc => by rw [ho] at hc; cases hc
    refine ⟨fun _ _ => trivial, ?_⟩
    rw [hsem]
    have hexec : (execOp a.eval o).run P w = .ok (.round l r.fn ((r.params.zip vs.toArray).foldl (fun tmps (t, a) => tmps.setIfInBounds t a) r.tmps) r.assign r.body) w := by
      simp [execOp, ho, resolve, ha.eval hf, Deferred.ofValue, invoke, ha.evals hv, Instr.yield, Instr.getLoop, getObj, Sem.run, hl, hsz]
    rw [hexec]
    refine ⟨Fc_depth ds, ?_⟩
    obtain ⟨hF, hr⟩ := hr
    refine ⟨trivial, fun c cs hroom => ?_⟩
    obtain ⟨e, w', hR, hs⟩ := hr c cs (fun _ h => by simp [Fence.wide] at h)
    obtain ⟨v, rfl, hR⟩ := hR
    refine ⟨.returned v, w', ?_, hs⟩
    have := (h v w' hR).run _ (ha.put (lt_of_blt hN) v)
    rw [← hd] at this
    exact hK _ _ this⟩
/-- The frame of a round: the loop's slots with the parameters laid. -/
theorem Fr.round {tm : Array Value} (hsz : tm.size = N) (h : ∀ n v, look σ n = some v → tm[n]? = some v) (l : Nat) : Fr σ N ⟨[], some l⟩ { tmps := tm, defers := [] } := ⟨hsz, rfl, h⟩
def QA (P : Program) (l : Nat) (body : Code) (R : Ending → World → Prop) : Exit → Act → World → Prop :=
  Exit.then (fun a1 w1 => ∃ w2, (Instr.beginRound l).run P w1 = .ok () w2 ∧ body.wpIn (Fc ⟨[], some l⟩) 0 P (roundPost P l R) a1 w2) (fun _ _ _ => False)
theorem round_C {l : Nat} {f : FuncId} {tm : Array Value} {assign body : Code} {R : Ending → World → Prop} (hF : Fr σ N ⟨[], some l⟩ { tmps := tm, defers := [] }) (h : C P assign (QA P l body R) N ⟨[], some l⟩ σ w) :
    RoundIn Fence.wide 0 P l f tm assign body w R := roundIn_of_wpIn (F := Fence.wide) trivial (h.run _ hF)
theorem C_eq {A A' : Code} {Q : Exit → Act → World → Prop} (e : A = A') (h : C P A' Q N ds σ w) : C P A Q N ds σ w := e ▸ h
theorem E_begin {l : Nat} {fn : FuncId} {tm : Array Value} {ps : Array Tmp} {A B : Code} {rr : Nat} {j : Option Code} {body : Code} {R : Ending → World → Prop} (hl : w.heap[l]? = some (.loop (recd fn tm ps A B rr .ready j))) (h : ∀ w2, SetBlock w w2 l (.loop (recd fn tm ps A B rr .busy j)) → C P body (roundPost P l R) N ⟨[], some l⟩ σ w2) :
    E (QA P l body R) .normal N ⟨[], some l⟩ σ w := ⟨fun a ha => ⟨{ w with heap := w.heap.setIfInBounds l (.loop (recd fn tm ps A B rr .busy j)) }, by
  simp [Instr.beginRound, Instr.getLoop, getObj, setObj, Sem.run, hl, recd], (h _ (setBlock_put hl)).run a ha⟩⟩
theorem run_endRound {l : Nat} {fn : FuncId} {tm : Array Value} {ps : Array Tmp} {A B : Code} {rr : Nat} {st : LoopState} {j0 : Option Code} {j : Option Code} (hl : w.heap[l]? = some (.loop (recd fn tm ps A B rr st j0))) :
    (Instr.endRound l j).run P w = .ok (.bool j.isNone) { w with heap := w.heap.setIfInBounds l (.loop (recd fn tm ps A B rr (if j.isNone then .ready else .done) j)) } := by
  simp [Instr.endRound, Instr.getLoop, getObj, setObj, Sem.run, hl, recd]
theorem E_round_n {l : Nat} {fn : FuncId} {tm : Array Value} {ps : Array Tmp} {A B : Code} {rr : Nat} {st : LoopState} {j0 : Option Code} {R : Ending → World → Prop} {m : Md} (hl : w.heap[l]? = some (.loop (recd fn tm ps A B rr st j0))) (h : ∀ w', SetBlock w w' l (.loop (recd fn tm ps A B rr .ready none)) → R (.returned (.bool true)) w') : E (roundPost P l R) .normal N m σ w :=
  ⟨fun _ _ => ⟨_, _, run_endRound (j := none) hl, h _ (setBlock_put hl)⟩⟩
theorem E_round_ret {l : Nat} {fn : FuncId} {tm : Array Value} {ps : Array Tmp} {A B : Code} {rr : Nat} {st : LoopState} {j0 : Option Code} {R : Ending → World → Prop} {m : Md} (hl : w.heap[l]? = some (.loop (recd fn tm ps A B rr st j0))) (h : ∀ w', SetBlock w w' l (.loop (recd fn tm ps A B rr .done (some .ret))) → R (.returned (.bool false)) w') : E (roundPost P l R) .ret N m σ w :=
  ⟨fun _ _ => ⟨_, _, run_endRound (j := some .ret) hl, h _ (setBlock_put hl)⟩⟩
theorem E_round_exit {l id : Nat} {fn : FuncId} {tm : Array Value} {ps : Array Tmp} {A B : Code} {rr : Nat} {st : LoopState} {j0 : Option Code} {R : Ending → World → Prop} {m : Md} (hl : w.heap[l]? = some (.loop (recd fn tm ps A B rr st j0))) (h : ∀ w', SetBlock w w' l (.loop (recd fn tm ps A B rr .done (some (.exit id)))) → R (.returned (.bool false)) w') : E (roundPost P l R) (.exit id) N m σ w :=
  ⟨fun _ _ => ⟨_, _, run_endRound (j := some (.exit id)) hl, h _ (setBlock_put hl)⟩⟩

theorem C_rangeFunc {W : World} {F : Nat → Prop} {rs : List Res} {g : Operand} {ps : Array Tmp} {assign body : Code} {gid : FuncId} {first captured : List Value} (J : Nat → Nat → Option Code → World → Prop)
    (hro : ds.ro = none) (hg : ev σ g = some (.func (.func gid) first.toArray captured.toArray)) [hfun : Fun P gid] (hS : St W F rs w)
    (hcall : ∀ A B, A = assign → B = body → ∀ fn tm l r w1, tm.size = N → (∀ n v, look σ n = some v → tm[n]? = some v) → St W F (pts l (.loop (recd fn tm ps A B r .ready none)) :: pts r (.deferred (some [])) :: rs) w1 →
      CallsIn Fence.wide 0 P gid (first ++ (.func (.yield l) #[] #[] :: captured)).toArray w1 (Ret fun _ w3 => ∃ st jump, st ≠ .busy ∧ w3.heap[l]? = some (.loop (recd fn tm ps A B r st jump)) ∧
        ∀ w4, SetBlock w3 w4 l (.loop (recd fn tm ps A B r .exhausted jump)) → J l r jump w4))
    (hnone : ∀ l r w4, J l r none w4 → E Q .normal N ⟨mark r :: ds.ds, none⟩ σ w4)
    (hsome : ∀ l r c w4, J l r (some c) w4 → C P c Q N ⟨mark r :: ds.ds, none⟩ σ w4) : C P (.rangeFunc g ps assign body) Q N ds σ w := ⟨fun a ha => by
  rw [Fc_none hro]
  refine wpIn_rangeFunc fun fn _ => ?_
  have s1 := hS.alloc (.deferred (some []))
  have s2 := s1.alloc (.loop (recd fn a.tmps ps assign body w.heap.size .ready none))
  simp only [World.size_alloc] at s2
  obtain ⟨w1, hw1⟩ : ∃ w1, w1 = (w.alloc (.deferred (some []))).alloc (.loop (recd fn a.tmps ps assign body w.heap.size .ready none)) := ⟨_, rfl⟩
  rw [← hw1] at s2
  refine ⟨w.heap.size + 1, [mark w.heap.size], w1, { target := .fn (.func gid) captured.toArray, args := first.toArray ++ #[.func (.yield (w.heap.size + 1)) #[] #[]] }, w1, gid,
    (first ++ (.func (.yield (w.heap.size + 1)) #[] #[] :: captured)).toArray, w1, ?_, ?_, fun _ _ => trivial, ?_, fun h => by simp [Fence.wide] at h, ?_⟩
  · rw [hw1]
    simp [Instr.enterLoop, Fence.wide, recd, mark, newObj, Sem.run]
  · simp only [resolve, ha.eval hg, List.map_toArray, List.map_cons, List.map_nil]
    rfl
  · have := hfun.run (first ++ (.func (.yield (w.heap.size + 1)) #[] #[] :: captured)).toArray w1
    simp only [invoke]
    simpa using this
  · obtain ⟨_, hc⟩ := hcall _ _ rfl rfl fn a.tmps (w.heap.size + 1) w.heap.size _ ha.size ha.at_ s2
    refine ⟨trivial, fun cs hr => ?_⟩
    obtain ⟨e, w3, fr, ⟨v, he, st, jump, hst, hl, hJ⟩, hs, hfn, hlv⟩ := hc cs hr
    subst he
    refine ⟨.returned v, w3, fr, ⟨jump, { w3 with heap := w3.heap.setIfInBounds (w.heap.size + 1) (.loop (recd fn a.tmps ps assign body w.heap.size .exhausted jump)) }, ?_, ?_⟩, hs, hfn, hlv⟩
    · simp [Instr.endLoop, Instr.getLoop, getObj, setObj, Sem.run, hl, recd, hst]
    · have hJ' := hJ _ (setBlock_put hl)
      have ha' : Fr σ N ⟨mark w.heap.size :: ds.ds, none⟩ { a with defers := [mark w.heap.size] ++ a.defers } := ⟨ha.size, by simp [ha.defers], ha.at_⟩
      cases jump with
      | none => exact (hnone _ _ _ hJ').run _ ha'
      | some c => exact (hsome _ _ c _ hJ').run _ ha'⟩
/-- A return behind a range over a function: the mark goes. -/
theorem E_mark {fn : Func} {R : Ending → World → Prop} {r : Nat} {dl : List Deferred} {e : Exit} (he : e = .ret ∨ e = .normal) (hr : w.heap[r]? = some (.deferred (some []))) (h : ∀ w', SetBlock w w' r (.deferred none) → E (BP P fn R) e N ⟨dl, none⟩ σ w') : E (BP P fn R) e N ⟨mark r :: dl, none⟩ σ w := ⟨fun a ha => by
  have h1 := h _ (setBlock_put hr)
  have h2 := h1.run { a with defers := dl } ⟨ha.size, rfl, ha.at_⟩
  have hd : a.defers = mark r :: dl := ha.defers
  have hk : (Instr.takeDeferred r).run P w = .ok [] { w with heap := w.heap.setIfInBounds r (.deferred none) } := by
    simp [Instr.takeDeferred, getObj, setObj, Sem.run, hr]
  rcases he with rfl | rfl
  · show LeavesInM _ _ _ _ a.tmps R a.defers .returning w
    rw [hd]
    exact ⟨by simp, .inl ⟨r, _, rfl, hk, h2⟩⟩
  · show LeavesInM _ _ _ _ a.tmps R a.defers .returning w
    rw [hd]
    exact ⟨by simp, .inl ⟨r, _, rfl, hk, h2⟩⟩⟩
end
end Cr
namespace Cr
open Go
def iand (k : IntKind) (x y : Int) : Int := k.wrap (BitVec.ofInt k.bits x &&& BitVec.ofInt k.bits y).toNat
def ior (k : IntKind) (x y : Int) : Int := k.wrap (BitVec.ofInt k.bits x ||| BitVec.ofInt k.bits y).toNat
def ixor (k : IntKind) (x y : Int) : Int := k.wrap (BitVec.ofInt k.bits x ^^^ BitVec.ofInt k.bits y).toNat
def ishl (k : IntKind) (x : Int) (n : Nat) : Int := k.wrap (x * 2 ^ (min n k.bits))
def ishr (k : IntKind) (x : Int) (n : Nat) : Int := x.fdiv (2 ^ (min n k.bits))
section
variable {P : Program} {o : Oper} {σ : Env} {w : World} {x y : Operand} {t ty : TypeId} {k k' : IntKind} {a b : Int}
theorem Yl_and (ho : o.op = .binOp .and t x y ty) (hx : ev σ x = some (.int k a)) (hy : ev σ y = some (.int k b)) : Yl P o σ w (.int k (iand k a b)) := ⟨fun N ds f ha => by
  simp only [execOp, ho, ha.eval hx, ha.eval hy, binOp, eqGuard, Op.intBits, ne_eq, not_true_eq_false, if_false]; rfl⟩
theorem Yl_or (ho : o.op = .binOp .or t x y ty) (hx : ev σ x = some (.int k a)) (hy : ev σ y = some (.int k b)) : Yl P o σ w (.int k (ior k a b)) := ⟨fun N ds f ha => by
  simp only [execOp, ho, ha.eval hx, ha.eval hy, binOp, eqGuard, Op.intBits, ne_eq, not_true_eq_false, if_false]; rfl⟩
theorem Yl_xor (ho : o.op = .binOp .xor t x y ty) (hx : ev σ x = some (.int k a)) (hy : ev σ y = some (.int k b)) : Yl P o σ w (.int k (ixor k a b)) := ⟨fun N ds f ha => by
  simp only [execOp, ho, ha.eval hx, ha.eval hy, binOp, eqGuard, Op.intBits, ne_eq, not_true_eq_false, if_false]; rfl⟩
theorem Yl_shl (ho : o.op = .binOp .shl t x y ty) (hx : ev σ x = some (.int k a)) (hy : ev σ y = some (.int k' b)) (hb : 0 ≤ b) : Yl P o σ w (.int k (ishl k a b.toNat)) := ⟨fun N ds f ha => by
  have : ¬ b < 0 := by omega
  simp only [execOp, ho, ha.eval hx, ha.eval hy, binOp, eqGuard, Op.shift, if_neg this]; rfl⟩
theorem Yl_shr (ho : o.op = .binOp .shr t x y ty) (hx : ev σ x = some (.int k a)) (hy : ev σ y = some (.int k' b)) (hb : 0 ≤ b) : Yl P o σ w (.int k (ishr k a b.toNat)) := ⟨fun N ds f ha => by
  have : ¬ b < 0 := by omega
  simp only [execOp, ho, ha.eval hx, ha.eval hy, binOp, eqGuard, Op.shift, if_neg this]; rfl⟩
/-- A call that touches nothing of ours. -/
theorem X_callq {N : Nat} {ds : Md} {K : Env → World → Prop} (g : FuncId) {f : Operand} {xs : List Operand} {vs : List Value} {ts : Array TypeId} {d : Nat} {R : Value → Prop} {W : World} {F : Nat → Prop} {rs : List Res} (ho : o.op = .call { callee := .value f, args := xs.toArray, argTypes := ts }) (hf : ev σ f = some (.func (.func g) #[] #[])) (hv : evs σ xs = some vs) [hg : Fun P g]
    (hd : o.dst = some d) (hN : Nat.blt d N = true) (hS : St W F rs w) (hc : Calls P g vs.toArray w (Ret fun v w' => R v ∧ St w noF [] w')) (h : ∀ v w', R v → St W F rs w' → K ((d, v) :: σ) w') : X P o N ds σ w K :=
  X_callg g ho hf hv hd hN hc fun v w' ⟨hR, h'⟩ => h v w' hR (hS.below h'.toBelow)
theorem iand_7 (x : Int) : iand .i64 x 7 = x % 8 := by
  unfold iand
  have e : (BitVec.ofInt IntKind.i64.bits x &&& BitVec.ofInt IntKind.i64.bits 7).toNat = (x % 8).toNat := by
    rw [BitVec.toNat_and, BitVec.toNat_ofInt, BitVec.toNat_ofInt]
    show (x % 18446744073709551616).toNat &&& 7 = _
    rw [show (7 : Nat) = 2 ^ 3 - 1 from rfl, Nat.and_two_pow_sub_one_eq_mod]
    omega
  rw [e, IntKind.wrap_i64]
  omega
/-! blocks of numbers -/
def ints (k : IntKind) (L : List Int) : List Value := L.map (Value.int k)
theorem ints_length (k : IntKind) (L : List Int) : (ints k L).length = L.length := by simp [ints]
instance ones_ints (k : IntKind) (L : List Int) : Ones (ints k L) := ⟨fun u hu => by simp [ints] at hu; obtain ⟨n, _, rfl⟩ := hu; rfl⟩
theorem ints_get {k : IntKind} {L : List Int} {i : Nat} (h : i < L.length) : (ints k L)[i]? = some (.int k (L.getD i 0)) := by
  simp [ints, h, List.getD_eq_getElem?_getD]
theorem ints_rep (k : IntKind) (n : Nat) (x : Int) : List.replicate n (Value.int k x) = ints k (List.replicate n x) := by simp [ints]
theorem ints_set {k : IntKind} {L : List Int} {i : Nat} {x : Int} : (ints k L).set i (.int k x) = ints k (L.set i x) := by simp [ints, List.map_set]
theorem St.cellI {W : World} {F : Nat → Prop} {rs : List Res} {b off : Nat} {k : IntKind} {L : List Int} {T : TypeId} (hS : St W F rs w) [hh : Has rs b (.cells (ints k L).toArray T (0, 0))] (h : off < L.length) : w.cell? ⟨b, off, none⟩ = some (.int k (L.getD off 0)) := by
  rw [cell_of_row w b off _ T (0, 0) hS.has]
  simpa using ints_get (k := k) h
theorem X_storeI {N : Nat} {ds : Md} {K : Env → World → Prop} {b off : Nat} {k : IntKind} {n : Int} {L : List Int} {T : TypeId} {W : World} {F : Nat → Prop} {rs rs' : List Res} (ho : o.op = .store t x y) (hx : ev σ x = some (.pointer (some ⟨b, off, none⟩))) (hy : ev σ y = some (.int k n)) [hs : Siz P t 1]
    (hd : o.dst = none) (hS : St W F rs w) [hh : Has rs b (.cells (ints k L).toArray T (0, 0))] (hfit : off < L.length) [hu : Upd rs b (.cells (ints k (L.set off n)).toArray T (0, 0)) rs']
    (h : ∀ w', St W F rs' w' → K σ w') : X P o N ds σ w K := by
  have e : splice (ints k L) off [.int k n] = ints k (L.set off n) := by
    rw [← ints_set, set_mid _ _ _ (by rw [ints_length]; exact hfit)]
    simp [splice]
  have hu' : Upd rs b (.cells (splice (ints k L) off [.int k n]).toArray T (0, 0)) rs' := by rw [e]; exact hu
  exact X_storeL ho hx hy rfl (fun u hu => by simp at hu; subst hu; rfl) hd hS (by rw [ints_length]; exact hfit) (fun w' h' _ => h w' h')
theorem St.cellIP {W : World} {F : Nat → Prop} {rs : List Res} {b off : Nat} {k : IntKind} {L : List Int} {r : List Value} {T : TypeId} (hS : St W F rs w) [hh : Has rs b (.cells (ints k L ++ r).toArray T (0, 0))] (h : off < L.length) : w.cell? ⟨b, off, none⟩ = some (.int k (L.getD off 0)) := by
  rw [cell_of_row w b off _ T (0, 0) hS.has]
  have := ints_get (k := k) h
  simp only [List.getElem?_toArray]
  rw [List.getElem?_append_left (by rw [ints_length]; exact h)]
  exact this
theorem X_storeIP {N : Nat} {ds : Md} {K : Env → World → Prop} {b off : Nat} {k : IntKind} {n : Int} {L : List Int} {r : List Value} {T : TypeId} {W : World} {F : Nat → Prop} {rs rs' : List Res} (ho : o.op = .store t x y) (hx : ev σ x = some (.pointer (some ⟨b, off, none⟩))) (hy : ev σ y = some (.int k n)) [hs : Siz P t 1]
    (hd : o.dst = none) (hS : St W F rs w) [hh : Has rs b (.cells (ints k L ++ r).toArray T (0, 0))] (hfit : off < L.length) [hu : Upd rs b (.cells (ints k (L.set off n) ++ r).toArray T (0, 0)) rs']
    (h : ∀ w', St W F rs' w' → K σ w') : X P o N ds σ w K := by
  have e : splice (ints k L ++ r) off [.int k n] = ints k (L.set off n) ++ r := by
    rw [splice_append (by rw [ints_length]; exact hfit), ← ints_set, set_mid _ _ _ (by rw [ints_length]; exact hfit)]
    simp [splice]
  have hu' : Upd rs b (.cells (splice (ints k L ++ r) off [.int k n]).toArray T (0, 0)) rs' := by rw [e]; exact hu
  exact X_storeL ho hx hy rfl (fun u hu => by simp at hu; subst hu; rfl) hd hS (by rw [List.length_append, ints_length]; exact Nat.le_trans hfit (Nat.le_add_right _ _)) (fun w' h' _ => h w' h')
/-- A call of a closure that changes nothing. -/
theorem X_callc {N : Nat} {ds : Md} {K : Env → World → Prop} (g : FuncId) {f : Operand} {xs : List Operand} {vs captured : List Value} {ts : Array TypeId} {d : Nat} {R : Value → Prop} (ho : o.op = .call { callee := .value f, args := xs.toArray, argTypes := ts }) (hf : ev σ f = some (.func (.func g) #[] captured.toArray)) (hv : evs σ xs = some vs) [hg : Fun P g]
    (hd : o.dst = some d) (hN : Nat.blt d N = true) (hc : Calls P g (vs ++ captured).toArray w (Ret fun v w' => R v ∧ w = w')) (h : ∀ v, R v → K ((d, v) :: σ) w) : X P o N ds σ w K :=
  X_call (first := []) (captured := captured) ho hf hv hd hN (by simpa using hc) (by
    intro v w' h'
    obtain ⟨hR, e⟩ := h'
    subst e
    exact h v hR)
theorem row_pts_at {b off n : Nat} {l cs : List Value} {T : TypeId} (hs : (l.drop off).take n = cs) : ∀ h, pts b (.cells l.toArray T (0, 0)) h → row (some ⟨b, off, none⟩) cs h := fun _ hg => .inr ⟨b, off, l.toArray, T, (0, 0), rfl, hg, fun j v hv => by
  subst hs
  rw [List.getElem?_take] at hv
  split at hv
  · rw [List.getElem?_drop] at hv
    simpa using hv
  · cases hv⟩
theorem Rd.cellI {b o i : Nat} {k : IntKind} {L : List Int} (H : Rd w (row (some ⟨b, o, none⟩) (ints k L))) (h : i < L.length) : w.cell? ⟨b, o + i, none⟩ = some (.int k (L.getD i 0)) := H.cells i _ (ints_get h)
/-- One cell of a row. -/
theorem Rd.cell {a : Option Addr} {cs : List Value} {i : Nat} {v : Value} (H : Rd w (row a cs)) (hi : cs[i]? = some v) : w.cell? (adr a i) = some v := H.cells i v hi
end
end Cr
namespace Cr
open Go Go.Proofs
set_option maxRecDepth 100000
set_option maxHeartbeats 4000000

def spin (x : Int) (n : Nat) : Int := ior .u32 (ishr .u32 x n) (ishl .u32 x (32 - n))
theorem spin_ (x : Int) (n : Nat) (W : World) (h : n ≤ 32) : Calls Tryz.prog 148 #[.int .u32 x, .int .i64 n] W (Ret fun v w => v = .int .u32 (spin x n) ∧ St W noF [] w) := by
  have hS := St.start W
  refine calls_C Tryz.func148 rfl Tryz.ntmps148 rfl ?_
  repeat (first | (refine G_id ?_; first | refine G_nil ?_ | refine G_plain rfl rfl ?_) | (refine X_id ?_; first | refine X_yl (Yl_assign rfl rfl) rfl rfl ?_) | (refine C_id ?_; first | refine C_seq ?_ | refine C_region ?_) | (refine E_id ?_; first | refine E_code ?_))
  refine C_ord (.s 0 (.s 1 (.s 2 (.s 3 (.s 4 (.s 5 (.s 6 (.s 7 (.s 8 .nil))))))))) mixed (by kernel_rfl) rfl ?_
  have hS := hS.drew
  repeat (first | (refine C_id ?_; first | refine C_ret ?_) | (refine E_id ?_; first | refine E_code ?_ | refine E_ret1 rfl (Rv_tmp rfl) (Ret.mk ?_)) | (refine GO_id ?_; first | refine GO_nil ?_ | refine GO_pure rfl rfl (fun _ => Yl_move rfl rfl) rfl rfl ?_ | refine GO_pure rfl rfl (fun _ => Yl_assign rfl rfl) rfl rfl ?_ | refine GO_pure rfl rfl (fun _ => Yl_sub rfl rfl rfl (w64 (by omega) (by omega))) rfl rfl ?_ | refine GO_pure rfl rfl (fun _ => Yl_or rfl rfl rfl) rfl rfl ?_ | refine GO_pure rfl rfl (fun _ => Yl_shr rfl rfl rfl (by omega)) rfl rfl ?_ | refine GO_pure rfl rfl (fun _ => Yl_shl rfl rfl rfl (by omega)) rfl rfl ?_))
  refine ⟨?_, hS⟩
  unfold spin
  congr 3
  omega
theorem at_ (k i : Int) (b bi : Nat) (W : World) (hk : 0 ≤ k) (hk' : k < 8) (hi : 0 ≤ i) (hi' : i < 64) (hbi : Ro W noF (pts bi (.cells #[.int .i64 i] 3))) :
    Calls Tryz.prog 147 #[.int .i64 k, .pointer (some ⟨b, 0, none⟩), .pointer (some ⟨bi, 0, none⟩)] W (Ret fun v w => v = .pointer (some ⟨b, ((k - i) % 8).toNat, none⟩) ∧ W = w) := by
  have hS := St.start W
  have hbi := (hbi.rd hS).pts
  refine calls_C Tryz.func147 rfl Tryz.ntmps147 rfl ?_
  repeat (first | (refine G_id ?_; first | refine G_nil ?_ | refine G_plain rfl rfl ?_) | (refine X_id ?_; first | refine X_yl (Yl_move rfl rfl) rfl rfl ?_ | refine X_yl (Yl_assign rfl rfl) rfl rfl ?_ | refine X_yl (Yl_sub rfl rfl rfl (w64 (by omega) (by omega))) rfl rfl ?_ | refine X_yl (Yl_and rfl rfl rfl) rfl rfl ?_ | refine X_yl (Yl_load rfl rfl (cell_at (by assumption))) rfl rfl ?_) | (refine C_id ?_; first | refine C_seq ?_ | refine C_region ?_) | (refine E_id ?_; first | refine E_code ?_))
  rw [iand_7]
  repeat (first | (refine G_id ?_; first | refine G_nil ?_ | refine G_plain rfl rfl ?_) | (refine X_id ?_; first | refine X_yl (Yl_assign rfl rfl) rfl rfl ?_ | refine X_yl (Yl_indexAddr_arr rfl rfl rfl (by omega) (by omega)) rfl rfl ?_) | (refine C_id ?_; first | refine C_ret ?_) | (refine E_id ?_; first | refine E_code ?_ | refine E_ret1 rfl (Rv_tmp rfl) (Ret.mk ?_)))
  exact ⟨by simp, rfl⟩

/-! ### spread -/
def u32 (x : Int) : Int := IntKind.u32.wrap x
def byteAt (b : List UInt8) (i : Nat) : Int := u32 (b.getD i 0).toNat
def word (b : List UInt8) (i : Nat) : Int := ior .u32 (ior .u32 (ior .u32 (ishl .u32 (byteAt b (4 * i)) 24) (ishl .u32 (byteAt b (4 * i + 1)) 16)) (ishl .u32 (byteAt b (4 * i + 2)) 8)) (byteAt b (4 * i + 3))
def sig (a : Int) (p q r : Nat) : Int := ixor .u32 (ixor .u32 (spin a p) (spin a q)) (ishr .u32 a r)
def later (L : List Int) (i : Nat) : Int := u32 (u32 (u32 (L.getD (i - 16) 0 + sig (L.getD (i - 15) 0) 7 18 3) + L.getD (i - 7) 0) + sig (L.getD (i - 2) 0) 17 19 10)
def spreadTo (b : List UInt8) : Nat → List Int
  | 0 => List.replicate 64 0
  | i + 1 => (spreadTo b i).set i (if i < 16 then word b i else later (spreadTo b i) i)
theorem spreadTo_length (b : List UInt8) : ∀ i, (spreadTo b i).length = 64
  | 0 => by simp [spreadTo]
  | i + 1 => by simp [spreadTo, spreadTo_length b i]
theorem spread_ (a : Option Addr) (c : Nat) (b : List UInt8) (W : World) (hb : Rd W (bytes a b)) (h64 : b.length = 64) (hc : 64 ≤ c) :
    Calls Tryz.prog 146 #[.slice a 64 c] W (Ret fun v w => v = .agg (ints .u32 (spreadTo b 64)).toArray ∧ St W noF [] w) := by
  have hS := St.start W
  have hbo := hb.ro
  obtain ⟨ab, ao, rfl⟩ := hb.base (by intro e; have := bv_length b; rw [e] at this; simp at this; omega)
  refine calls_C Tryz.func146 rfl Tryz.ntmps146 rfl ?_
  repeat (first | (refine G_id ?_; first | refine G_nil ?_ | refine G_plain rfl rfl ?_) | (refine X_id ?_; first | refine X_yl (Yl_move rfl rfl) rfl rfl ?_ | refine X_alloc rfl rfl rfl hS (fun _ _ hS _ => ?_)) | (refine C_id ?_; first | refine C_seq ?_ | refine C_region ?_ | refine C_block ?_) | (refine E_id ?_; first | refine E_code ?_))
  rename_i b2 _ _ _ b3 _ _
  rw [ints_rep] at hS
  refine C_loop (α := Nat) (fun i => [(0, .slice (some ⟨ab, ao, none⟩) 64 c), (2, .pointer (some ⟨b2, 0, none⟩)), (3, .pointer (some ⟨b3, 0, none⟩)), (8, .int .i64 (i : Nat))])
    (fun i w => i ≤ 64 ∧ St W noF [pts b3 (.cells (ints .u32 (spreadTo b i)).toArray 226), pts b2 (.cells (List.replicate 64 (.int .u32 0)).toArray 226)] w) (fun i => 64 - i) 0 ⟨rfl, rfl, rfl, rfl, trivial⟩ ⟨Nat.zero_le _, hS⟩ ?_
  clear hS
  rintro i w ⟨hi, hS⟩
  obtain ⟨L, hLe⟩ : ∃ L, L = spreadTo b i := ⟨_, rfl⟩
  have hL : L.length = 64 := by rw [hLe]; exact spreadTo_length b i
  rw [← hLe] at hS
  by_cases h16 : i < 16
  · repeat (first | (refine G_id ?_; first | refine G_nil ?_ | refine G_plain rfl rfl ?_) | (refine X_id ?_; first | refine X_yl (Yl_move rfl rfl) rfl rfl ?_ | refine X_yl (Yl_assign rfl rfl) rfl rfl ?_ | refine X_yl (Yl_lss_t rfl rfl rfl (by omega)) rfl rfl ?_ | refine X_yl (Yl_add rfl rfl rfl (w64 (by omega) (by omega))) rfl rfl ?_ | refine X_yl (Yl_mul rfl rfl rfl (w64 (by omega) (by omega))) rfl rfl ?_) | (refine C_id ?_; first | refine C_seq ?_ | refine C_region ?_ | refine C_block ?_ | refine C_skip ?_ | refine C_cond_t rfl ?_) | (refine E_id ?_; first | refine E_code ?_))
    refine X_yl (Yl_slice (l := 4 * i) (h := 4 * i + 4) rfl rfl rfl rfl (.inr ⟨_, _, rfl, by omega, by omega, by omega⟩) (.inr ⟨_, _, rfl, by omega, by omega, by omega⟩)) rfl rfl ?_
    rw [show sub (some ⟨ab, ao, none⟩) (4 * i) 1 c = some ⟨ab, ao + 4 * i, none⟩ by unfold sub; rw [if_neg (by omega)]; simp [add_lit], show 4 * i + 4 - 4 * i = 4 by omega]
    repeat (first | (refine G_id ?_; first | refine G_nil ?_ | refine G_plain rfl rfl ?_) | (refine X_id ?_; first | refine X_yl (Yl_assign rfl rfl) rfl rfl ?_) | (refine C_id ?_; first | refine C_seq ?_) | (refine E_id ?_; first | refine E_code ?_))
    refine C_ord (.s 0 (.s 1 (.s 2 (.s 3 (.s 4 (.s 5 (.s 6 (.s 7 (.s 8 (.s 9 (.s 10 (.s 11 (.s 12 (.s 13 (.s 14 (.s 15 (.s 16 (.s 17 (.s 18 (.s 19 (.s 20 (.s 21 (.s 22 (.s 23 (.h 24 .nil .no))))))))))))))))))))))))) mixed (by kernel_rfl) rfl ?_
    have hS := hS.drew
    have hcell : ∀ j, j < 4 → _root_.Go.World.cell? _ ⟨ab, ao + 4 * i + j, none⟩ = some (.int .u8 ((b.getD (4 * i + j) 0).toNat : Nat)) := fun j hj => by
      have := (hbo.rd hS).cell (i := 4 * i + j) (v := .int .u8 ((b.getD (4 * i + j) 0).toNat : Nat)) (by simp [bv, List.getD_eq_getElem?_getD, show 4 * i + j < b.length by omega])
      simpa [adr, Nat.add_assoc] using this
    have q0 := hcell 0 (by omega)
    have q1 := hcell 1 (by omega)
    have q2 := hcell 2 (by omega)
    have q3 := hcell 3 (by omega)
    repeat (first | (refine G_id ?_; first | refine G_nil ?_ | refine G_plain rfl rfl ?_) | (refine X_id ?_; first | refine X_yl (Yl_move rfl rfl) rfl rfl ?_ | refine X_yl (Yl_add rfl rfl rfl (w64 (by omega) (by omega))) rfl rfl ?_ | refine X_storeI rfl rfl rfl rfl hS (by omega) (fun _ hS => ?_)) | (refine C_id ?_; first | refine C_region ?_ | refine C_exit ?_) | (refine E_id ?_; first | refine E_code ?_ | refine E_then_exit ?_ | refine E_blk_same ?_) | (refine GO_id ?_; first | refine GO_nil ?_ | refine GO_pure rfl rfl (fun _ => Yl_move rfl rfl) rfl rfl ?_ | refine GO_pure rfl rfl (fun _ => Yl_indexAddr_arr rfl rfl rfl (by omega) (by omega)) rfl rfl ?_ | refine GO_pure rfl rfl (fun _ => Yl_indexAddr rfl rfl rfl (by omega) (by omega) (by first | assumption | exact ⟨_, _, rfl⟩)) rfl rfl ?_ | refine GO_pure rfl rfl (fun _ => Yl_convInt rfl rfl rfl) rfl rfl ?_ | refine GO_pure rfl rfl (fun _ => Yl_or rfl rfl rfl) rfl rfl ?_ | refine GO_pure rfl rfl (fun _ => Yl_shl rfl rfl rfl (by omega)) rfl rfl ?_ | refine GO_read (fun w' => w'.cell? _ = some _) rfl rfl (by assumption) (fun _ hc => Yl_load rfl rfl hc) rfl rfl ?_ | refine GO_hard rfl rfl ?_) | (refine Keep_id ?_; first | refine And.intro (by repeat (first | exact trivial | refine And.intro (.inl (by decide +kernel)) ?_ | refine And.intro (.inr (by first | assumption | exact hS.cell | exact cell_at (by assumption) | exact hS.cellI (by omega) | exact hS.cellIP (by omega) | exact hS.cellsN | exact ((hr.rd hS).cellX (by omega) hx) | exact ((hr2.rd hS).cellX (by omega) hx2) | exact hS.cellB (by omega) | exact hS.cellBA (by omega) | exact (hb.rd hS).cellB' (by omega) | exact (hb2.rd hS).cellB' (by omega) | exact (hg.rd hS).cellI (by omega) | exact (hg2.rd hS).cellI (by omega) | exact ((hr.rd hS).cellF (by first | omega | (dsimp only; omega)) hx) | exact ((hr2.rd hS).cellF (by first | omega | (dsimp only; omega)) hx2) | exact hS.cellO 0 (by omega) | exact hS.cellO 1 (by omega) | exact hS.cellIA (by omega) | exact (hg.rd hS).cellIA (by omega) | exact (hg2.rd hS).cellIA (by omega) | exact cell_at (hc.rd hS).pts | exact hb.rd hS | exact (hr.rd hS).cellsF7 (by first | omega | (dsimp only; omega)) hst4 rfl | exact (hr2.rd hS).cellsF7 (by first | omega | (dsimp only; omega)) hst4 rfl | exact hS.cellO 4 (by omega) | exact hS.cellO 5 (by omega) | exact hS.cellO 6 (by omega) | exact hS.cellO 7 (by omega) | exact hS.cellO 8 (by omega) | exact hS.cellO 9 (by omega) | exact hS.cellO 10 (by omega) | exact hS.cellO 11 (by omega) | exact hS.cellO 12 (by omega) | exact hS.cellO 13 (by omega) | exact hS.cellO 2 (by omega) | exact hS.cellO 3 (by omega))) ?_)) ?_))
    refine E_round (i + 1) ⟨rfl, rfl, rfl, rfl, trivial⟩ ⟨by omega, ?_⟩ (by omega)
    rw [show 0 + (i : Int).toNat * 1 = i by omega, hLe] at hS
    simp only [spreadTo, if_pos h16]
    exact hS
  · by_cases h64 : i < 64
    · repeat (first | (refine G_id ?_; first | refine G_nil ?_ | refine G_plain rfl rfl ?_) | (refine X_id ?_; first | refine X_yl (Yl_move rfl rfl) rfl rfl ?_ | refine X_yl (Yl_assign rfl rfl) rfl rfl ?_ | refine X_yl (Yl_lss_t rfl rfl rfl (by omega)) rfl rfl ?_ | refine X_yl (Yl_lss_f rfl rfl rfl (by omega)) rfl rfl ?_) | (refine C_id ?_; first | refine C_seq ?_ | refine C_region ?_ | refine C_block ?_ | refine C_skip ?_ | refine C_cond_t rfl ?_ | refine C_cond_f rfl ?_) | (refine E_id ?_; first | refine E_code ?_))
      refine C_ord (.s 0 (.s 1 (.s 2 (.s 3 (.s 4 (.s 5 (.s 6 (.s 7 (.s 8 (.s 9 .nil)))))))))) mixed (by kernel_rfl) rfl ?_
      have hS := hS.drew
      repeat (first | (refine E_id ?_; first | refine E_code ?_) | (refine GO_id ?_; first | refine GO_nil ?_ | refine GO_pure rfl rfl (fun _ => Yl_move rfl rfl) rfl rfl ?_ | refine GO_pure rfl rfl (fun _ => Yl_assign rfl rfl) rfl rfl ?_ | refine GO_pure rfl rfl (fun _ => Yl_indexAddr_arr rfl rfl rfl (by omega) (by omega)) rfl rfl ?_ | refine GO_pure rfl rfl (fun _ => Yl_sub rfl rfl rfl (w64 (by omega) (by omega))) rfl rfl ?_ | refine GO_read (fun w' => w'.cell? _ = some _) rfl rfl (hS.cellI (by omega)) (fun _ hc => Yl_load rfl rfl hc) rfl rfl ?_))
      refine C_ord (.s 0 (.s 1 (.s 2 (.s 3 (.s 4 (.s 5 (.s 7 (.s 10 (.s 11 (.s 14 (.s 15 (.s 16 (.s 17 (.s 19 (.s 21 (.s 24 (.s 25 (.h 6 (.h 8 (.s 9 (.s 12 (.s 13 (.s 18 (.h 20 (.h 22 (.s 23 (.s 26 (.s 27 (.s 28 (.h 29 .nil .no))))) .no) .no))))) .no) .no)))))))))))))))))) mixed (by kernel_rfl) rfl ?_
      have hS := hS.drew
      repeat (first | (refine G_id ?_; first | refine G_nil ?_ | refine G_plain rfl rfl ?_) | (refine X_id ?_; first | (refine X_callq 148 rfl rfl rfl rfl rfl hS (spin_ _ _ _ (by decide)) ?_; rintro _ _ rfl hS) | refine X_yl (Yl_move rfl rfl) rfl rfl ?_ | refine X_yl (Yl_add rfl rfl rfl (w64 (by omega) (by omega))) rfl rfl ?_ | refine X_storeI rfl rfl rfl rfl hS (by omega) (fun _ hS => ?_)) | (refine C_id ?_; first | refine C_region ?_) | (refine E_id ?_; first | refine E_code ?_ | refine E_blk_n ?_) | (refine GO_id ?_; first | refine GO_nil ?_ | refine GO_pure rfl rfl (fun _ => Yl_move rfl rfl) rfl rfl ?_ | refine GO_pure rfl rfl (fun _ => Yl_indexAddr_arr rfl rfl rfl (by omega) (by omega)) rfl rfl ?_ | refine GO_pure rfl rfl (fun _ => Yl_sub rfl rfl rfl (w64 (by omega) (by omega))) rfl rfl ?_ | refine GO_pure rfl rfl (fun _ => Yl_add rfl rfl rfl rfl) rfl rfl ?_ | refine GO_pure rfl rfl (fun _ => Yl_xor rfl rfl rfl) rfl rfl ?_ | refine GO_pure rfl rfl (fun _ => Yl_shr rfl rfl rfl (by omega)) rfl rfl ?_ | refine GO_read (fun w' => w'.cell? _ = some _) rfl rfl (hS.cellI (by omega)) (fun _ hc => Yl_load rfl rfl hc) rfl rfl ?_ | refine GO_hard rfl rfl ?_) | (refine Keep_id ?_; first | refine And.intro (by repeat (first | exact trivial | refine And.intro (.inl (by decide +kernel)) ?_ | refine And.intro (.inr (by first | assumption | exact hS.cell | exact cell_at (by assumption) | exact hS.cellI (by omega) | exact hS.cellIP (by omega) | exact hS.cellsN | exact ((hr.rd hS).cellX (by omega) hx) | exact ((hr2.rd hS).cellX (by omega) hx2) | exact hS.cellB (by omega) | exact hS.cellBA (by omega) | exact (hb.rd hS).cellB' (by omega) | exact (hb2.rd hS).cellB' (by omega) | exact (hg.rd hS).cellI (by omega) | exact (hg2.rd hS).cellI (by omega) | exact ((hr.rd hS).cellF (by first | omega | (dsimp only; omega)) hx) | exact ((hr2.rd hS).cellF (by first | omega | (dsimp only; omega)) hx2) | exact hS.cellO 0 (by omega) | exact hS.cellO 1 (by omega) | exact hS.cellIA (by omega) | exact (hg.rd hS).cellIA (by omega) | exact (hg2.rd hS).cellIA (by omega) | exact cell_at (hc.rd hS).pts | exact hb.rd hS | exact (hr.rd hS).cellsF7 (by first | omega | (dsimp only; omega)) hst4 rfl | exact (hr2.rd hS).cellsF7 (by first | omega | (dsimp only; omega)) hst4 rfl | exact hS.cellO 4 (by omega) | exact hS.cellO 5 (by omega) | exact hS.cellO 6 (by omega) | exact hS.cellO 7 (by omega) | exact hS.cellO 8 (by omega) | exact hS.cellO 9 (by omega) | exact hS.cellO 10 (by omega) | exact hS.cellO 11 (by omega) | exact hS.cellO 12 (by omega) | exact hS.cellO 13 (by omega) | exact hS.cellO 2 (by omega) | exact hS.cellO 3 (by omega))) ?_)) ?_))
      refine E_round (i + 1) ⟨rfl, rfl, rfl, rfl, trivial⟩ ⟨by omega, ?_⟩ (by omega)
      rw [show 0 + (i : Int).toNat * 1 = i by omega, show 0 + ((i : Int) - 16).toNat * 1 = i - 16 by omega, show 0 + ((i : Int) - 15).toNat * 1 = i - 15 by omega, show 0 + ((i : Int) - 7).toNat * 1 = i - 7 by omega, show 0 + ((i : Int) - 2).toNat * 1 = i - 2 by omega, hLe] at hS
      simp only [spreadTo, if_neg h16]
      exact hS
    · obtain rfl : i = 64 := by omega
      have hlen : LenIs (ints .u32 L) 64 := ⟨by rw [ints_length]; exact hL⟩
      repeat (first | (refine G_id ?_; first | refine G_nil ?_ | refine G_plain rfl rfl ?_) | (refine X_id ?_; first | refine X_yl (Yl_lss_f rfl rfl rfl (by omega)) rfl rfl ?_ | refine X_yl (Yl_loadN rfl rfl hS.cellsN) rfl rfl ?_ | refine X_store rfl rfl rfl rfl hS (fun _ hS _ => ?_)) | (refine C_id ?_; first | refine C_seq ?_ | refine C_region ?_ | refine C_ret ?_ | refine C_exit ?_ | refine C_cond_f rfl ?_) | (refine E_id ?_; first | refine E_code ?_ | refine E_then_exit ?_ | refine E_blk_same ?_ | refine E_ret1 rfl (by first | exact Rv_tmp rfl | exact Rv_cell rfl (run_load1 hS.cell) | exact Rv_cell rfl (run_loadN hS.cellsN)) (Ret.mk ?_)))
      exact ⟨by rw [hLe], hS.drops⟩
end Cr
namespace Cr
open Go
theorem Rd.ofCells {w : World} {b : Nat} {l : List Value} (h : ∀ i v, l[i]? = some v → w.cell? ⟨b, i, none⟩ = some v) (hl : l ≠ []) : Rd w (row (some ⟨b, 0, none⟩) l) := by
  obtain ⟨v0, hv0⟩ : ∃ v, l[0]? = some v := by
    cases l with
    | nil => exact absurd rfl hl
    | cons x r => exact ⟨x, rfl⟩
  have h0 := h 0 v0 hv0
  unfold World.cell? at h0
  split at h0
  · rename_i c t fz hb
    refine ⟨single b (.cells c t fz), .inr ⟨b, 0, c, t, fz, rfl, rfl, fun i v hv => ?_⟩, fun k o e => ?_⟩
    · have := h i v hv
      rw [cell_of_row w b i c t fz hb] at this
      simpa using this
    · obtain ⟨rfl, rfl⟩ := of_single e
      exact hb
  · cases h0
def roundL : List Int := [1116352408, 1899447441, 3049323471, 3921009573, 961987163, 1508970993, 2453635748, 2870763221, 3624381080, 310598401, 607225278, 1426881987, 1925078388, 2162078206, 2614888103, 3248222580, 3835390401, 4022224774, 264347078, 604807628, 770255983, 1249150122, 1555081692, 1996064986, 2554220882, 2821834349, 2952996808, 3210313671, 3336571891, 3584528711, 113926993, 338241895, 666307205, 773529912, 1294757372, 1396182291, 1695183700, 1986661051, 2177026350, 2456956037, 2730485921, 2820302411, 3259730800, 3345764771, 3516065817, 3600352804, 4094571909, 275423344, 430227734, 506948616, 659060556, 883997877, 958139571, 1322822218, 1537002063, 1747873779, 1955562222, 2024104815, 2227730452, 2361852424, 2428436474, 2756734187, 3204031479, 3329325298]
def firstL : List Int := [1779033703, 3144134277, 1013904242, 2773480762, 1359893119, 2600822924, 528734635, 1541459225]
theorem roundL_length : roundL.length = 64 := rfl
theorem firstL_length : firstL.length = 8 := rfl
end Cr
namespace Go.Proofs.YtpdhcfkjakbmfaaGreatDoor
open Go.ChangeShapes Go.WideShapes Go.ChangeAt Go.RowKit
theorem lawOwn : ownKnob Tryz.prog.godebug = none := by kernel_rfl
theorem lawLaid : laidOutB Tryz.prog = true := by kernel_rfl
theorem post_of_law {H : Type} {enc : TypeId × Value → H} {P : Program} {f : Func} {s : ChangeSpec} {apart fresh handsOn again : Bool} {W W' : World} {args : Array Value} {v : Value} {ds gs : List (DataW H)} {before pa pv : List MemPlace}
    (hW : DataW.Whole enc P f.params.toList s.vars apart W args.toList ds gs before)
    (hres : ∀ (b : Nat) (sp : Nat → Bool) (hd : Bool), DataW.TrodAll enc P W' b sp hd f.resultTypes.toList (v.resultList f.resultTypes.size) (s.fn H (ds ++ gs)).results [])
    (hargs : ∀ sp : Nat → Bool, (∀ p ∈ before, sp p.block = true) → DataW.TrodAll enc P W' 0 sp true f.params.toList args.toList (s.fn H (ds ++ gs)).args pa)
    (hvars : ∀ sp : Nat → Bool, (∀ p ∈ before, sp p.block = true) → DataW.TrodVars enc P W' sp s.vars (s.fn H (ds ++ gs)).vars pv)
    (hps : before = pa ++ pv) (hk : W.keptBut W' (· ∈ before)) (hfz : ∀ a : Addr, a.block < W.heap.size → W'.frozen? a = W.frozen? a)
    (hok : ∀ (j : Nat) (t : TypeId) (r : Value), f.resultTypes[j]? = some t → (v.resultList f.resultTypes.size)[j]? = some r → Value.okWide P W' .any 0 t r) :
    s.post enc P f apart fresh handsOn again W args v W' := by
  have hold : ∀ p ∈ before, (fun b => decide (b < W.heap.size)) p.block = true := fun p hp => by simpa using hW.lt p hp
  have hlt : ∀ p ∈ before, p.block < W.heap.size := hW.lt
  refine ⟨ds, gs, before, [], pa, pv, hW, hres _ _ _, hargs _ hold, hvars _ hold, World.keptBut_mono (fun p hp => ⟨hp, ?_⟩) hk, fun _ => ?_⟩
  · rw [hps, List.mem_append] at hp
    exact Or.inr hp
  · obtain ⟨_, _, _, _, _, hz, hn⟩ := hW
    refine ⟨hok, _, _, ([] ++ pa) ++ pv, ⟨[] ++ pa, pv, trodAll_append (hargs _ (fun _ _ => rfl)) (hres _ _ _), hvars _ (fun _ _ => rfl), rfl, ?_, ?_⟩, ?_⟩
    · intro b off hp
      have hp' := hp
      rw [show ([] ++ pa) ++ pv = before by rw [hps]; rfl] at hp'
      rw [hfz _ (hlt _ hp')]
      exact hz b off hp'
    · intro ha
      have := hn ha
      rw [hps] at this
      simpa using this
    · intro p hp _
      rw [hps]
      simpa using hp
theorem trodAll_stays {H : Type} {enc : TypeId × Value → H} {P : Program} (hl : laidOutB P = true) {W W' : World} (hb : Below W.heap.size W W') {sp : Nat → Bool} : ∀ {ts : List TypeId} {vs : List Value} {ds : List (DataW H)} {ps : List MemPlace}, (∀ t ∈ ts, P.readableRec t = true ∧ t < P.types.size) →
    DataW.TrodAll enc P W 0 (fun _ => true) true ts vs ds ps → (∀ p ∈ ps, p.block < W.heap.size) → (∀ p ∈ ps, sp p.block = true) → DataW.TrodAll enc P W' 0 sp true ts vs ds ps
  | [], [], [], _, _, h, _, _ => h
  | _ :: _, _ :: _, _ :: _, _, hT, ⟨p, q, h1, h2, e⟩, hlt, hs => ⟨p, q,
      WideElems.Trod_stays hl (hT _ (List.mem_cons_self ..)).1 (hT _ (List.mem_cons_self ..)).2 h1 (fun x hx => hb.same (hlt x (by rw [e]; exact List.mem_append_left _ hx))) (fun x hx => hs x (by rw [e]; exact List.mem_append_left _ hx)),
      trodAll_stays hl hb (fun t ht => hT t (List.mem_cons_of_mem _ ht)) h2 (fun x hx => hlt x (by rw [e]; exact List.mem_append_right _ hx)) (fun x hx => hs x (by rw [e]; exact List.mem_append_right _ hx)), e⟩
def tabOf (l : List Value) : Obj → Obj
  | .cells _ t frozen => .cells l.toArray t frozen
  | o => o
/-- A world for a witness: the settled one, the two tables of package digest as their initialisers lay them. -/
noncomputable def lawWorld (os : Os) : World :=
  { World.holding Tryz.prog os ⟨#[], #[], []⟩ with heap := ((World.holding Tryz.prog os ⟨#[], #[], []⟩).heap.modify 2 (tabOf (Cr.ints .u32 Cr.roundL))).modify 0 (tabOf (Cr.ints .u32 Cr.firstL)) }
end Go.Proofs.YtpdhcfkjakbmfaaGreatDoor
