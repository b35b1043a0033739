/-
  FACTS ON THE TYPES AND FUNCTIONS OF THIS SEAT's TRANSLATION, written by a program off the dump's rows; each is proved by the kernel.
-/
import Derived.Test.YtfcnoebnnglfkaaGreatDoorInd2
import Derived.Test.YtfcnoebnnglfkaaGreatDoorRows
namespace Cr
open Go Go.Proofs
instance : One Tryz.prog 1 := ⟨fun w => run_isAgg Tryz.underlying1 w⟩
instance : Inf Tryz.prog 1 .nilFunc 1 8 := ⟨by kernel_rfl, by kernel_rfl⟩
instance : Und Tryz.prog 2 (.int .i64) := ⟨Tryz.underlying2⟩
instance : Inf Tryz.prog 2 (.int .i64 0) 1 8 := ⟨by kernel_rfl, by kernel_rfl⟩
instance : Und Tryz.prog 3 (.int .i64) := ⟨Tryz.underlying3⟩
instance : Inf Tryz.prog 3 (.int .i64 0) 1 8 := ⟨by kernel_rfl, by kernel_rfl⟩
instance : Und Tryz.prog 4 (.bool) := ⟨Tryz.underlying4⟩
instance : Inf Tryz.prog 4 (.bool false) 1 1 := ⟨by kernel_rfl, by kernel_rfl⟩
instance : Und Tryz.prog 5 (.int .u8) := ⟨Tryz.underlying5⟩
instance : Inf Tryz.prog 5 (.int .u8 0) 1 1 := ⟨by kernel_rfl, by kernel_rfl⟩
instance : Und Tryz.prog 6 (.int .u8) := ⟨Tryz.underlying6⟩
instance : Inf Tryz.prog 6 (.int .u8 0) 1 1 := ⟨by kernel_rfl, by kernel_rfl⟩
instance : Agg Tryz.prog 7 := ⟨fun w => run_isAgg Tryz.underlying7 w⟩
instance : Inf Tryz.prog 7 (.agg #[(.int .i64 0), (.int .i64 0), (.bool false), (.int .u8 0)]) 4 24 := ⟨by kernel_rfl, by kernel_rfl⟩
instance : Str Tryz.prog 7 [(0, 1), (1, 1), (2, 1), (3, 1)] := ⟨⟨_, Tryz.underlying7, by kernel_rfl, by kernel_rfl⟩⟩
instance : Fld Tryz.prog 7 0 0 2 1 := ⟨⟨_, _, Tryz.underlying7, rfl, rfl, rfl, by kernel_rfl⟩⟩
instance : Fld Tryz.prog 7 1 1 3 1 := ⟨⟨_, _, Tryz.underlying7, rfl, rfl, rfl, by kernel_rfl⟩⟩
instance : Fld Tryz.prog 7 2 2 4 1 := ⟨⟨_, _, Tryz.underlying7, rfl, rfl, rfl, by kernel_rfl⟩⟩
instance : Fld Tryz.prog 7 3 3 6 1 := ⟨⟨_, _, Tryz.underlying7, rfl, rfl, rfl, by kernel_rfl⟩⟩
instance : Agg Tryz.prog 8 := ⟨fun w => run_isAgg Tryz.underlying8 w⟩
instance : Inf Tryz.prog 8 (.agg #[(.int .i64 0), (.int .i64 0), (.bool false), (.int .u8 0)]) 4 24 := ⟨by kernel_rfl, by kernel_rfl⟩
instance : Str Tryz.prog 8 [(0, 1), (1, 1), (2, 1), (3, 1)] := ⟨⟨_, Tryz.underlying8, by kernel_rfl, by kernel_rfl⟩⟩
instance : Fld Tryz.prog 8 0 0 2 1 := ⟨⟨_, _, Tryz.underlying8, rfl, rfl, rfl, by kernel_rfl⟩⟩
instance : Fld Tryz.prog 8 1 1 3 1 := ⟨⟨_, _, Tryz.underlying8, rfl, rfl, rfl, by kernel_rfl⟩⟩
instance : Fld Tryz.prog 8 2 2 4 1 := ⟨⟨_, _, Tryz.underlying8, rfl, rfl, rfl, by kernel_rfl⟩⟩
instance : Fld Tryz.prog 8 3 3 6 1 := ⟨⟨_, _, Tryz.underlying8, rfl, rfl, rfl, by kernel_rfl⟩⟩
instance : Und Tryz.prog 9 (.string) := ⟨Tryz.underlying9⟩
instance : Inf Tryz.prog 9 (.string ⟨#[]⟩) 1 16 := ⟨by kernel_rfl, by kernel_rfl⟩
instance : Und Tryz.prog 10 (.string) := ⟨Tryz.underlying10⟩
instance : Inf Tryz.prog 10 (.string ⟨#[]⟩) 1 16 := ⟨by kernel_rfl, by kernel_rfl⟩
instance : Und Tryz.prog 11 (.string) := ⟨Tryz.underlying11⟩
instance : Inf Tryz.prog 11 (.string ⟨#[]⟩) 1 16 := ⟨by kernel_rfl, by kernel_rfl⟩
instance : Und Tryz.prog 12 (.int .u64) := ⟨Tryz.underlying12⟩
instance : Inf Tryz.prog 12 (.int .u64 0) 1 8 := ⟨by kernel_rfl, by kernel_rfl⟩
instance : Agg Tryz.prog 13 := ⟨fun w => run_isAgg Tryz.underlying13 w⟩
instance : Inf Tryz.prog 13 (.agg #[(.string ⟨#[]⟩), (.int .u64 0)]) 2 24 := ⟨by kernel_rfl, by kernel_rfl⟩
instance : Str Tryz.prog 13 [(0, 1), (1, 1)] := ⟨⟨_, Tryz.underlying13, by kernel_rfl, by kernel_rfl⟩⟩
instance : Fld Tryz.prog 13 0 0 9 1 := ⟨⟨_, _, Tryz.underlying13, rfl, rfl, rfl, by kernel_rfl⟩⟩
instance : Fld Tryz.prog 13 1 1 12 1 := ⟨⟨_, _, Tryz.underlying13, rfl, rfl, rfl, by kernel_rfl⟩⟩
instance : Agg Tryz.prog 14 := ⟨fun w => run_isAgg Tryz.underlying14 w⟩
instance : Inf Tryz.prog 14 (.agg #[(.string ⟨#[]⟩), (.int .u64 0)]) 2 24 := ⟨by kernel_rfl, by kernel_rfl⟩
instance : Str Tryz.prog 14 [(0, 1), (1, 1)] := ⟨⟨_, Tryz.underlying14, by kernel_rfl, by kernel_rfl⟩⟩
instance : Fld Tryz.prog 14 0 0 9 1 := ⟨⟨_, _, Tryz.underlying14, rfl, rfl, rfl, by kernel_rfl⟩⟩
instance : Fld Tryz.prog 14 1 1 12 1 := ⟨⟨_, _, Tryz.underlying14, rfl, rfl, rfl, by kernel_rfl⟩⟩
instance : Und Tryz.prog 15 (.pointer 543) := ⟨Tryz.underlying15⟩
instance : Inf Tryz.prog 15 (.pointer none) 1 8 := ⟨by kernel_rfl, by kernel_rfl⟩
instance : Und Tryz.prog 16 (.pointer 546) := ⟨Tryz.underlying16⟩
instance : Inf Tryz.prog 16 (.pointer none) 1 8 := ⟨by kernel_rfl, by kernel_rfl⟩
instance : Und Tryz.prog 17 (.pointer 553) := ⟨Tryz.underlying17⟩
instance : Inf Tryz.prog 17 (.pointer none) 1 8 := ⟨by kernel_rfl, by kernel_rfl⟩
instance : Agg Tryz.prog 18 := ⟨fun w => run_isAgg Tryz.underlying18 w⟩
instance : Inf Tryz.prog 18 (.agg #[(.pointer none)]) 1 8 := ⟨by kernel_rfl, by kernel_rfl⟩
instance : Str Tryz.prog 18 [(0, 1)] := ⟨⟨_, Tryz.underlying18, by kernel_rfl, by kernel_rfl⟩⟩
instance : Fld Tryz.prog 18 0 0 17 1 := ⟨⟨_, _, Tryz.underlying18, rfl, rfl, rfl, by kernel_rfl⟩⟩
instance : Agg Tryz.prog 19 := ⟨fun w => run_isAgg Tryz.underlying19 w⟩
instance : Inf Tryz.prog 19 (.agg #[(.pointer none)]) 1 8 := ⟨by kernel_rfl, by kernel_rfl⟩
instance : Str Tryz.prog 19 [(0, 1)] := ⟨⟨_, Tryz.underlying19, by kernel_rfl, by kernel_rfl⟩⟩
instance : Fld Tryz.prog 19 0 0 17 1 := ⟨⟨_, _, Tryz.underlying19, rfl, rfl, rfl, by kernel_rfl⟩⟩
instance : One Tryz.prog 20 := ⟨fun w => run_isAgg Tryz.underlying20 w⟩
instance : Inf Tryz.prog 20 .nilIface 1 16 := ⟨by kernel_rfl, by kernel_rfl⟩
instance : Und Tryz.prog 21 (.int .i32) := ⟨Tryz.underlying21⟩
instance : Inf Tryz.prog 21 (.int .i32 0) 1 4 := ⟨by kernel_rfl, by kernel_rfl⟩
instance : Und Tryz.prog 22 (.slice 30) := ⟨Tryz.underlying22⟩
instance : Inf Tryz.prog 22 (.slice none 0 0) 1 24 := ⟨by kernel_rfl, by kernel_rfl⟩
instance : Und Tryz.prog 23 (.pointer 226) := ⟨Tryz.underlying23⟩
instance : Inf Tryz.prog 23 (.pointer none) 1 8 := ⟨by kernel_rfl, by kernel_rfl⟩
instance : Und Tryz.prog 24 (.pointer 240) := ⟨Tryz.underlying24⟩
instance : Inf Tryz.prog 24 (.pointer none) 1 8 := ⟨by kernel_rfl, by kernel_rfl⟩
instance : Und Tryz.prog 25 (.pointer 193) := ⟨Tryz.underlying25⟩
instance : Inf Tryz.prog 25 (.pointer none) 1 8 := ⟨by kernel_rfl, by kernel_rfl⟩
instance : Und Tryz.prog 26 (.pointer 182) := ⟨Tryz.underlying26⟩
instance : Inf Tryz.prog 26 (.pointer none) 1 8 := ⟨by kernel_rfl, by kernel_rfl⟩
instance : One Tryz.prog 28 := ⟨fun w => run_isAgg Tryz.underlying28 w⟩
instance : Inf Tryz.prog 28 .nilFunc 1 8 := ⟨by kernel_rfl, by kernel_rfl⟩
instance : Und Tryz.prog 29 (.slice 44) := ⟨Tryz.underlying29⟩
instance : Inf Tryz.prog 29 (.slice none 0 0) 1 24 := ⟨by kernel_rfl, by kernel_rfl⟩
instance : Und Tryz.prog 30 (.slice 184) := ⟨Tryz.underlying30⟩
instance : Inf Tryz.prog 30 (.slice none 0 0) 1 24 := ⟨by kernel_rfl, by kernel_rfl⟩
instance : One Tryz.prog 32 := ⟨fun w => run_isAgg Tryz.underlying32 w⟩
instance : Inf Tryz.prog 32 .nilFunc 1 8 := ⟨by kernel_rfl, by kernel_rfl⟩
instance : One Tryz.prog 33 := ⟨fun w => run_isAgg Tryz.underlying33 w⟩
instance : Inf Tryz.prog 33 .nilFunc 1 8 := ⟨by kernel_rfl, by kernel_rfl⟩
instance : One Tryz.prog 35 := ⟨fun w => run_isAgg Tryz.underlying35 w⟩
instance : Inf Tryz.prog 35 .nilFunc 1 8 := ⟨by kernel_rfl, by kernel_rfl⟩
instance : Und Tryz.prog 36 (.int .i64) := ⟨Tryz.underlying36⟩
instance : Inf Tryz.prog 36 (.int .i64 0) 1 8 := ⟨by kernel_rfl, by kernel_rfl⟩
instance : One Tryz.prog 37 := ⟨fun w => run_isAgg Tryz.underlying37 w⟩
instance : Inf Tryz.prog 37 .nilFunc 1 8 := ⟨by kernel_rfl, by kernel_rfl⟩
instance : Agg Tryz.prog 38 := ⟨fun w => run_isAgg Tryz.underlying38 w⟩
instance : Inf Tryz.prog 38 (.agg #[(.int .i64 0), (.int .i64 0), (.int .i64 0), (.int .i64 0)]) 4 32 := ⟨by kernel_rfl, by kernel_rfl⟩
instance : Str Tryz.prog 38 [(0, 1), (1, 1), (2, 1), (3, 1)] := ⟨⟨_, Tryz.underlying38, by kernel_rfl, by kernel_rfl⟩⟩
instance : Fld Tryz.prog 38 0 0 3 1 := ⟨⟨_, _, Tryz.underlying38, rfl, rfl, rfl, by kernel_rfl⟩⟩
instance : Fld Tryz.prog 38 1 1 3 1 := ⟨⟨_, _, Tryz.underlying38, rfl, rfl, rfl, by kernel_rfl⟩⟩
instance : Fld Tryz.prog 38 2 2 3 1 := ⟨⟨_, _, Tryz.underlying38, rfl, rfl, rfl, by kernel_rfl⟩⟩
instance : Fld Tryz.prog 38 3 3 3 1 := ⟨⟨_, _, Tryz.underlying38, rfl, rfl, rfl, by kernel_rfl⟩⟩
instance : Agg Tryz.prog 39 := ⟨fun w => run_isAgg Tryz.underlying39 w⟩
instance : Inf Tryz.prog 39 (.agg #[(.int .i64 0), (.int .i64 0), (.int .i64 0), (.int .i64 0)]) 4 32 := ⟨by kernel_rfl, by kernel_rfl⟩
instance : Str Tryz.prog 39 [(0, 1), (1, 1), (2, 1), (3, 1)] := ⟨⟨_, Tryz.underlying39, by kernel_rfl, by kernel_rfl⟩⟩
instance : Fld Tryz.prog 39 0 0 3 1 := ⟨⟨_, _, Tryz.underlying39, rfl, rfl, rfl, by kernel_rfl⟩⟩
instance : Fld Tryz.prog 39 1 1 3 1 := ⟨⟨_, _, Tryz.underlying39, rfl, rfl, rfl, by kernel_rfl⟩⟩
instance : Fld Tryz.prog 39 2 2 3 1 := ⟨⟨_, _, Tryz.underlying39, rfl, rfl, rfl, by kernel_rfl⟩⟩
instance : Fld Tryz.prog 39 3 3 3 1 := ⟨⟨_, _, Tryz.underlying39, rfl, rfl, rfl, by kernel_rfl⟩⟩
instance : Und Tryz.prog 40 (.slice 5) := ⟨Tryz.underlying40⟩
instance : Inf Tryz.prog 40 (.slice none 0 0) 1 24 := ⟨by kernel_rfl, by kernel_rfl⟩
instance : Agg Tryz.prog 41 := ⟨fun w => run_isAgg Tryz.underlying41 w⟩
instance : Inf Tryz.prog 41 (.agg #[(.int .i64 0), (.int .i64 0), (.int .i64 0), (.int .i64 0), (.slice none 0 0)]) 5 56 := ⟨by kernel_rfl, by kernel_rfl⟩
instance : Str Tryz.prog 41 [(0, 4), (4, 1)] := ⟨⟨_, Tryz.underlying41, by kernel_rfl, by kernel_rfl⟩⟩
instance : Fld Tryz.prog 41 0 0 39 4 := ⟨⟨_, _, Tryz.underlying41, rfl, rfl, rfl, by kernel_rfl⟩⟩
instance : Fld Tryz.prog 41 1 4 40 1 := ⟨⟨_, _, Tryz.underlying41, rfl, rfl, rfl, by kernel_rfl⟩⟩
instance : Agg Tryz.prog 42 := ⟨fun w => run_isAgg Tryz.underlying42 w⟩
instance : Inf Tryz.prog 42 (.agg #[(.int .i64 0), (.int .i64 0), (.int .i64 0), (.int .i64 0), (.slice none 0 0)]) 5 56 := ⟨by kernel_rfl, by kernel_rfl⟩
instance : Str Tryz.prog 42 [(0, 4), (4, 1)] := ⟨⟨_, Tryz.underlying42, by kernel_rfl, by kernel_rfl⟩⟩
instance : Fld Tryz.prog 42 0 0 39 4 := ⟨⟨_, _, Tryz.underlying42, rfl, rfl, rfl, by kernel_rfl⟩⟩
instance : Fld Tryz.prog 42 1 4 40 1 := ⟨⟨_, _, Tryz.underlying42, rfl, rfl, rfl, by kernel_rfl⟩⟩
instance : Agg Tryz.prog 43 := ⟨fun w => run_isAgg Tryz.underlying43 w⟩
instance : Inf Tryz.prog 43 (.agg #[(.int .i64 0), (.int .i64 0), (.int .i64 0), (.int .i64 0), (.int .i64 0), (.slice none 0 0), (.bool false)]) 7 72 := ⟨by kernel_rfl, by kernel_rfl⟩
instance : Str Tryz.prog 43 [(0, 1), (1, 5), (6, 1)] := ⟨⟨_, Tryz.underlying43, by kernel_rfl, by kernel_rfl⟩⟩
instance : Fld Tryz.prog 43 0 0 3 1 := ⟨⟨_, _, Tryz.underlying43, rfl, rfl, rfl, by kernel_rfl⟩⟩
instance : Fld Tryz.prog 43 1 1 42 5 := ⟨⟨_, _, Tryz.underlying43, rfl, rfl, rfl, by kernel_rfl⟩⟩
instance : Fld Tryz.prog 43 2 6 4 1 := ⟨⟨_, _, Tryz.underlying43, rfl, rfl, rfl, by kernel_rfl⟩⟩
instance : Agg Tryz.prog 44 := ⟨fun w => run_isAgg Tryz.underlying44 w⟩
instance : Inf Tryz.prog 44 (.agg #[(.int .i64 0), (.int .i64 0), (.int .i64 0), (.int .i64 0), (.int .i64 0), (.slice none 0 0), (.bool false)]) 7 72 := ⟨by kernel_rfl, by kernel_rfl⟩
instance : Str Tryz.prog 44 [(0, 1), (1, 5), (6, 1)] := ⟨⟨_, Tryz.underlying44, by kernel_rfl, by kernel_rfl⟩⟩
instance : Fld Tryz.prog 44 0 0 3 1 := ⟨⟨_, _, Tryz.underlying44, rfl, rfl, rfl, by kernel_rfl⟩⟩
instance : Fld Tryz.prog 44 1 1 42 5 := ⟨⟨_, _, Tryz.underlying44, rfl, rfl, rfl, by kernel_rfl⟩⟩
instance : Fld Tryz.prog 44 2 6 4 1 := ⟨⟨_, _, Tryz.underlying44, rfl, rfl, rfl, by kernel_rfl⟩⟩
instance : One Tryz.prog 45 := ⟨fun w => run_isAgg Tryz.underlying45 w⟩
instance : Inf Tryz.prog 45 .nilFunc 1 8 := ⟨by kernel_rfl, by kernel_rfl⟩
instance : One Tryz.prog 47 := ⟨fun w => run_isAgg Tryz.underlying47 w⟩
instance : Inf Tryz.prog 47 .nilFunc 1 8 := ⟨by kernel_rfl, by kernel_rfl⟩
instance : One Tryz.prog 48 := ⟨fun w => run_isAgg Tryz.underlying48 w⟩
instance : Inf Tryz.prog 48 .nilFunc 1 8 := ⟨by kernel_rfl, by kernel_rfl⟩
instance : One Tryz.prog 49 := ⟨fun w => run_isAgg Tryz.underlying49 w⟩
instance : Inf Tryz.prog 49 .nilFunc 1 8 := ⟨by kernel_rfl, by kernel_rfl⟩
instance : One Tryz.prog 50 := ⟨fun w => run_isAgg Tryz.underlying50 w⟩
instance : Inf Tryz.prog 50 .nilFunc 1 8 := ⟨by kernel_rfl, by kernel_rfl⟩
instance : Agg Tryz.prog 51 := ⟨fun w => run_isAgg Tryz.underlying51 w⟩
instance : Inf Tryz.prog 51 (.agg #[(.int .i64 0), (.int .i64 0), (.int .i64 0), (.int .i64 0)]) 4 32 := ⟨by kernel_rfl, by kernel_rfl⟩
instance : Str Tryz.prog 51 [(0, 1), (1, 1), (2, 1), (3, 1)] := ⟨⟨_, Tryz.underlying51, by kernel_rfl, by kernel_rfl⟩⟩
instance : Fld Tryz.prog 51 0 0 3 1 := ⟨⟨_, _, Tryz.underlying51, rfl, rfl, rfl, by kernel_rfl⟩⟩
instance : Fld Tryz.prog 51 1 1 3 1 := ⟨⟨_, _, Tryz.underlying51, rfl, rfl, rfl, by kernel_rfl⟩⟩
instance : Fld Tryz.prog 51 2 2 3 1 := ⟨⟨_, _, Tryz.underlying51, rfl, rfl, rfl, by kernel_rfl⟩⟩
instance : Fld Tryz.prog 51 3 3 3 1 := ⟨⟨_, _, Tryz.underlying51, rfl, rfl, rfl, by kernel_rfl⟩⟩
instance : Agg Tryz.prog 52 := ⟨fun w => run_isAgg Tryz.underlying52 w⟩
instance : Inf Tryz.prog 52 (.agg #[(.int .i64 0), (.int .i64 0), (.int .i64 0), (.int .i64 0), (.slice none 0 0)]) 5 56 := ⟨by kernel_rfl, by kernel_rfl⟩
instance : Str Tryz.prog 52 [(0, 4), (4, 1)] := ⟨⟨_, Tryz.underlying52, by kernel_rfl, by kernel_rfl⟩⟩
instance : Fld Tryz.prog 52 0 0 51 4 := ⟨⟨_, _, Tryz.underlying52, rfl, rfl, rfl, by kernel_rfl⟩⟩
instance : Fld Tryz.prog 52 1 4 40 1 := ⟨⟨_, _, Tryz.underlying52, rfl, rfl, rfl, by kernel_rfl⟩⟩
instance : Agg Tryz.prog 53 := ⟨fun w => run_isAgg Tryz.underlying53 w⟩
instance : Inf Tryz.prog 53 (.agg #[(.int .i64 0), (.int .i64 0), (.int .i64 0), (.int .i64 0), (.slice none 0 0)]) 5 56 := ⟨by kernel_rfl, by kernel_rfl⟩
instance : Str Tryz.prog 53 [(0, 4), (4, 1)] := ⟨⟨_, Tryz.underlying53, by kernel_rfl, by kernel_rfl⟩⟩
instance : Fld Tryz.prog 53 0 0 51 4 := ⟨⟨_, _, Tryz.underlying53, rfl, rfl, rfl, by kernel_rfl⟩⟩
instance : Fld Tryz.prog 53 1 4 40 1 := ⟨⟨_, _, Tryz.underlying53, rfl, rfl, rfl, by kernel_rfl⟩⟩
instance : One Tryz.prog 55 := ⟨fun w => run_isAgg Tryz.underlying55 w⟩
instance : Inf Tryz.prog 55 .nilFunc 1 8 := ⟨by kernel_rfl, by kernel_rfl⟩
instance : One Tryz.prog 57 := ⟨fun w => run_isAgg Tryz.underlying57 w⟩
instance : Inf Tryz.prog 57 .nilFunc 1 8 := ⟨by kernel_rfl, by kernel_rfl⟩
instance : One Tryz.prog 58 := ⟨fun w => run_isAgg Tryz.underlying58 w⟩
instance : Inf Tryz.prog 58 .nilFunc 1 8 := ⟨by kernel_rfl, by kernel_rfl⟩
instance : One Tryz.prog 59 := ⟨fun w => run_isAgg Tryz.underlying59 w⟩
instance : Inf Tryz.prog 59 .nilFunc 1 8 := ⟨by kernel_rfl, by kernel_rfl⟩
instance : Und Tryz.prog 60 (.slice 3) := ⟨Tryz.underlying60⟩
instance : Inf Tryz.prog 60 (.slice none 0 0) 1 24 := ⟨by kernel_rfl, by kernel_rfl⟩
instance : One Tryz.prog 61 := ⟨fun w => run_isAgg Tryz.underlying61 w⟩
instance : Inf Tryz.prog 61 .nilFunc 1 8 := ⟨by kernel_rfl, by kernel_rfl⟩
instance : One Tryz.prog 62 := ⟨fun w => run_isAgg Tryz.underlying62 w⟩
instance : Inf Tryz.prog 62 .nilFunc 1 8 := ⟨by kernel_rfl, by kernel_rfl⟩
instance : One Tryz.prog 63 := ⟨fun w => run_isAgg Tryz.underlying63 w⟩
instance : Inf Tryz.prog 63 .nilFunc 1 8 := ⟨by kernel_rfl, by kernel_rfl⟩
instance : One Tryz.prog 64 := ⟨fun w => run_isAgg Tryz.underlying64 w⟩
instance : Inf Tryz.prog 64 .nilFunc 1 8 := ⟨by kernel_rfl, by kernel_rfl⟩
instance : Und Tryz.prog 65 (.int .u64) := ⟨Tryz.underlying65⟩
instance : Inf Tryz.prog 65 (.int .u64 0) 1 8 := ⟨by kernel_rfl, by kernel_rfl⟩
instance : One Tryz.prog 66 := ⟨fun w => run_isAgg Tryz.underlying66 w⟩
instance : Inf Tryz.prog 66 .nilFunc 1 8 := ⟨by kernel_rfl, by kernel_rfl⟩
instance : One Tryz.prog 68 := ⟨fun w => run_isAgg Tryz.underlying68 w⟩
instance : Inf Tryz.prog 68 .nilFunc 1 8 := ⟨by kernel_rfl, by kernel_rfl⟩
instance : One Tryz.prog 69 := ⟨fun w => run_isAgg Tryz.underlying69 w⟩
instance : Inf Tryz.prog 69 .nilFunc 1 8 := ⟨by kernel_rfl, by kernel_rfl⟩
instance : Und Tryz.prog 70 (.slice 254) := ⟨Tryz.underlying70⟩
instance : Inf Tryz.prog 70 (.slice none 0 0) 1 24 := ⟨by kernel_rfl, by kernel_rfl⟩
instance : Agg Tryz.prog 71 := ⟨fun w => run_isAgg Tryz.underlying71 w⟩
instance : Inf Tryz.prog 71 (.agg #[(.string ⟨#[]⟩), (.string ⟨#[]⟩), (.int .i64 0), (.slice none 0 0)]) 4 64 := ⟨by kernel_rfl, by kernel_rfl⟩
instance : Str Tryz.prog 71 [(0, 1), (1, 1), (2, 1), (3, 1)] := ⟨⟨_, Tryz.underlying71, by kernel_rfl, by kernel_rfl⟩⟩
instance : Fld Tryz.prog 71 0 0 9 1 := ⟨⟨_, _, Tryz.underlying71, rfl, rfl, rfl, by kernel_rfl⟩⟩
instance : Fld Tryz.prog 71 1 1 9 1 := ⟨⟨_, _, Tryz.underlying71, rfl, rfl, rfl, by kernel_rfl⟩⟩
instance : Fld Tryz.prog 71 2 2 3 1 := ⟨⟨_, _, Tryz.underlying71, rfl, rfl, rfl, by kernel_rfl⟩⟩
instance : Fld Tryz.prog 71 3 3 70 1 := ⟨⟨_, _, Tryz.underlying71, rfl, rfl, rfl, by kernel_rfl⟩⟩
instance : Agg Tryz.prog 72 := ⟨fun w => run_isAgg Tryz.underlying72 w⟩
instance : Inf Tryz.prog 72 (.agg #[(.string ⟨#[]⟩), (.string ⟨#[]⟩), (.int .i64 0), (.slice none 0 0)]) 4 64 := ⟨by kernel_rfl, by kernel_rfl⟩
instance : Str Tryz.prog 72 [(0, 1), (1, 1), (2, 1), (3, 1)] := ⟨⟨_, Tryz.underlying72, by kernel_rfl, by kernel_rfl⟩⟩
instance : Fld Tryz.prog 72 0 0 9 1 := ⟨⟨_, _, Tryz.underlying72, rfl, rfl, rfl, by kernel_rfl⟩⟩
instance : Fld Tryz.prog 72 1 1 9 1 := ⟨⟨_, _, Tryz.underlying72, rfl, rfl, rfl, by kernel_rfl⟩⟩
instance : Fld Tryz.prog 72 2 2 3 1 := ⟨⟨_, _, Tryz.underlying72, rfl, rfl, rfl, by kernel_rfl⟩⟩
instance : Fld Tryz.prog 72 3 3 70 1 := ⟨⟨_, _, Tryz.underlying72, rfl, rfl, rfl, by kernel_rfl⟩⟩
instance : Und Tryz.prog 73 (.array 2 9) := ⟨Tryz.underlying73⟩
instance : Inf Tryz.prog 73 (.agg #[(.string ⟨#[]⟩), (.string ⟨#[]⟩)]) 2 32 := ⟨by kernel_rfl, by kernel_rfl⟩
instance : Agg Tryz.prog 74 := ⟨fun w => run_isAgg Tryz.underlying74 w⟩
instance : Inf Tryz.prog 74 (.agg #[(.string ⟨#[]⟩), (.string ⟨#[]⟩), (.string ⟨#[]⟩), (.string ⟨#[]⟩), (.string ⟨#[]⟩)]) 5 80 := ⟨by kernel_rfl, by kernel_rfl⟩
instance : Str Tryz.prog 74 [(0, 2), (2, 2), (4, 1)] := ⟨⟨_, Tryz.underlying74, by kernel_rfl, by kernel_rfl⟩⟩
instance : Fld Tryz.prog 74 0 0 73 2 := ⟨⟨_, _, Tryz.underlying74, rfl, rfl, rfl, by kernel_rfl⟩⟩
instance : Fld Tryz.prog 74 1 2 73 2 := ⟨⟨_, _, Tryz.underlying74, rfl, rfl, rfl, by kernel_rfl⟩⟩
instance : Fld Tryz.prog 74 2 4 9 1 := ⟨⟨_, _, Tryz.underlying74, rfl, rfl, rfl, by kernel_rfl⟩⟩
instance : Agg Tryz.prog 75 := ⟨fun w => run_isAgg Tryz.underlying75 w⟩
instance : Inf Tryz.prog 75 (.agg #[(.string ⟨#[]⟩), (.string ⟨#[]⟩), (.string ⟨#[]⟩), (.string ⟨#[]⟩), (.string ⟨#[]⟩)]) 5 80 := ⟨by kernel_rfl, by kernel_rfl⟩
instance : Str Tryz.prog 75 [(0, 2), (2, 2), (4, 1)] := ⟨⟨_, Tryz.underlying75, by kernel_rfl, by kernel_rfl⟩⟩
instance : Fld Tryz.prog 75 0 0 73 2 := ⟨⟨_, _, Tryz.underlying75, rfl, rfl, rfl, by kernel_rfl⟩⟩
instance : Fld Tryz.prog 75 1 2 73 2 := ⟨⟨_, _, Tryz.underlying75, rfl, rfl, rfl, by kernel_rfl⟩⟩
instance : Fld Tryz.prog 75 2 4 9 1 := ⟨⟨_, _, Tryz.underlying75, rfl, rfl, rfl, by kernel_rfl⟩⟩
instance : Und Tryz.prog 76 (.pointer 243) := ⟨Tryz.underlying76⟩
instance : Inf Tryz.prog 76 (.pointer none) 1 8 := ⟨by kernel_rfl, by kernel_rfl⟩
instance : One Tryz.prog 78 := ⟨fun w => run_isAgg Tryz.underlying78 w⟩
instance : Inf Tryz.prog 78 .nilFunc 1 8 := ⟨by kernel_rfl, by kernel_rfl⟩
instance : Und Tryz.prog 79 (.slice 252) := ⟨Tryz.underlying79⟩
instance : Inf Tryz.prog 79 (.slice none 0 0) 1 24 := ⟨by kernel_rfl, by kernel_rfl⟩
instance : Agg Tryz.prog 80 := ⟨fun w => run_isAgg Tryz.underlying80 w⟩
instance : Inf Tryz.prog 80 (.agg #[(.string ⟨#[]⟩), (.string ⟨#[]⟩), (.int .i64 0), (.slice none 0 0)]) 4 64 := ⟨by kernel_rfl, by kernel_rfl⟩
instance : Str Tryz.prog 80 [(0, 1), (1, 1), (2, 1), (3, 1)] := ⟨⟨_, Tryz.underlying80, by kernel_rfl, by kernel_rfl⟩⟩
instance : Fld Tryz.prog 80 0 0 9 1 := ⟨⟨_, _, Tryz.underlying80, rfl, rfl, rfl, by kernel_rfl⟩⟩
instance : Fld Tryz.prog 80 1 1 9 1 := ⟨⟨_, _, Tryz.underlying80, rfl, rfl, rfl, by kernel_rfl⟩⟩
instance : Fld Tryz.prog 80 2 2 3 1 := ⟨⟨_, _, Tryz.underlying80, rfl, rfl, rfl, by kernel_rfl⟩⟩
instance : Fld Tryz.prog 80 3 3 79 1 := ⟨⟨_, _, Tryz.underlying80, rfl, rfl, rfl, by kernel_rfl⟩⟩
instance : Agg Tryz.prog 81 := ⟨fun w => run_isAgg Tryz.underlying81 w⟩
instance : Inf Tryz.prog 81 (.agg #[(.string ⟨#[]⟩), (.string ⟨#[]⟩), (.int .i64 0), (.slice none 0 0)]) 4 64 := ⟨by kernel_rfl, by kernel_rfl⟩
instance : Str Tryz.prog 81 [(0, 1), (1, 1), (2, 1), (3, 1)] := ⟨⟨_, Tryz.underlying81, by kernel_rfl, by kernel_rfl⟩⟩
instance : Fld Tryz.prog 81 0 0 9 1 := ⟨⟨_, _, Tryz.underlying81, rfl, rfl, rfl, by kernel_rfl⟩⟩
instance : Fld Tryz.prog 81 1 1 9 1 := ⟨⟨_, _, Tryz.underlying81, rfl, rfl, rfl, by kernel_rfl⟩⟩
instance : Fld Tryz.prog 81 2 2 3 1 := ⟨⟨_, _, Tryz.underlying81, rfl, rfl, rfl, by kernel_rfl⟩⟩
instance : Fld Tryz.prog 81 3 3 79 1 := ⟨⟨_, _, Tryz.underlying81, rfl, rfl, rfl, by kernel_rfl⟩⟩
instance : One Tryz.prog 83 := ⟨fun w => run_isAgg Tryz.underlying83 w⟩
instance : Inf Tryz.prog 83 .nilFunc 1 8 := ⟨by kernel_rfl, by kernel_rfl⟩
instance : One Tryz.prog 84 := ⟨fun w => run_isAgg Tryz.underlying84 w⟩
instance : Inf Tryz.prog 84 .nilFunc 1 8 := ⟨by kernel_rfl, by kernel_rfl⟩
instance : Und Tryz.prog 85 (.slice 81) := ⟨Tryz.underlying85⟩
instance : Inf Tryz.prog 85 (.slice none 0 0) 1 24 := ⟨by kernel_rfl, by kernel_rfl⟩
instance : One Tryz.prog 87 := ⟨fun w => run_isAgg Tryz.underlying87 w⟩
instance : Inf Tryz.prog 87 .nilFunc 1 8 := ⟨by kernel_rfl, by kernel_rfl⟩
instance : Und Tryz.prog 88 (.slice 94) := ⟨Tryz.underlying88⟩
instance : Inf Tryz.prog 88 (.slice none 0 0) 1 24 := ⟨by kernel_rfl, by kernel_rfl⟩
instance : One Tryz.prog 90 := ⟨fun w => run_isAgg Tryz.underlying90 w⟩
instance : Inf Tryz.prog 90 .nilFunc 1 8 := ⟨by kernel_rfl, by kernel_rfl⟩
instance : One Tryz.prog 91 := ⟨fun w => run_isAgg Tryz.underlying91 w⟩
instance : Inf Tryz.prog 91 .nilFunc 1 8 := ⟨by kernel_rfl, by kernel_rfl⟩
instance : One Tryz.prog 92 := ⟨fun w => run_isAgg Tryz.underlying92 w⟩
instance : Inf Tryz.prog 92 .nilFunc 1 8 := ⟨by kernel_rfl, by kernel_rfl⟩
instance : One Tryz.prog 93 := ⟨fun w => run_isAgg Tryz.underlying93 w⟩
instance : Inf Tryz.prog 93 .nilFunc 1 8 := ⟨by kernel_rfl, by kernel_rfl⟩
instance : Agg Tryz.prog 94 := ⟨fun w => run_isAgg Tryz.underlying94 w⟩
instance : Inf Tryz.prog 94 (.agg #[(.string ⟨#[]⟩), (.string ⟨#[]⟩), (.string ⟨#[]⟩), (.string ⟨#[]⟩), (.string ⟨#[]⟩)]) 5 80 := ⟨by kernel_rfl, by kernel_rfl⟩
instance : Str Tryz.prog 94 [(0, 2), (2, 2), (4, 1)] := ⟨⟨_, Tryz.underlying94, by kernel_rfl, by kernel_rfl⟩⟩
instance : Fld Tryz.prog 94 0 0 73 2 := ⟨⟨_, _, Tryz.underlying94, rfl, rfl, rfl, by kernel_rfl⟩⟩
instance : Fld Tryz.prog 94 1 2 73 2 := ⟨⟨_, _, Tryz.underlying94, rfl, rfl, rfl, by kernel_rfl⟩⟩
instance : Fld Tryz.prog 94 2 4 9 1 := ⟨⟨_, _, Tryz.underlying94, rfl, rfl, rfl, by kernel_rfl⟩⟩
instance : One Tryz.prog 95 := ⟨fun w => run_isAgg Tryz.underlying95 w⟩
instance : Inf Tryz.prog 95 .nilFunc 1 8 := ⟨by kernel_rfl, by kernel_rfl⟩
instance : One Tryz.prog 96 := ⟨fun w => run_isAgg Tryz.underlying96 w⟩
instance : Inf Tryz.prog 96 .nilFunc 1 8 := ⟨by kernel_rfl, by kernel_rfl⟩
instance : Und Tryz.prog 97 (.slice 114) := ⟨Tryz.underlying97⟩
instance : Inf Tryz.prog 97 (.slice none 0 0) 1 24 := ⟨by kernel_rfl, by kernel_rfl⟩
instance : Und Tryz.prog 98 (.pointer 259) := ⟨Tryz.underlying98⟩
instance : Inf Tryz.prog 98 (.pointer none) 1 8 := ⟨by kernel_rfl, by kernel_rfl⟩
instance : Und Tryz.prog 99 (.pointer 174) := ⟨Tryz.underlying99⟩
instance : Inf Tryz.prog 99 (.pointer none) 1 8 := ⟨by kernel_rfl, by kernel_rfl⟩
instance : One Tryz.prog 101 := ⟨fun w => run_isAgg Tryz.underlying101 w⟩
instance : Inf Tryz.prog 101 .nilFunc 1 8 := ⟨by kernel_rfl, by kernel_rfl⟩
instance : Und Tryz.prog 102 (.pointer 264) := ⟨Tryz.underlying102⟩
instance : Inf Tryz.prog 102 (.pointer none) 1 8 := ⟨by kernel_rfl, by kernel_rfl⟩
instance : One Tryz.prog 103 := ⟨fun w => run_isAgg Tryz.underlying103 w⟩
instance : Inf Tryz.prog 103 .nilFunc 1 8 := ⟨by kernel_rfl, by kernel_rfl⟩
instance : Und Tryz.prog 104 (.pointer 266) := ⟨Tryz.underlying104⟩
instance : Inf Tryz.prog 104 (.pointer none) 1 8 := ⟨by kernel_rfl, by kernel_rfl⟩
instance : One Tryz.prog 106 := ⟨fun w => run_isAgg Tryz.underlying106 w⟩
instance : Inf Tryz.prog 106 .nilFunc 1 8 := ⟨by kernel_rfl, by kernel_rfl⟩
instance : One Tryz.prog 107 := ⟨fun w => run_isAgg Tryz.underlying107 w⟩
instance : Inf Tryz.prog 107 .nilFunc 1 8 := ⟨by kernel_rfl, by kernel_rfl⟩
instance : Und Tryz.prog 108 (.slice 110) := ⟨Tryz.underlying108⟩
instance : Inf Tryz.prog 108 (.slice none 0 0) 1 24 := ⟨by kernel_rfl, by kernel_rfl⟩
instance : Agg Tryz.prog 109 := ⟨fun w => run_isAgg Tryz.underlying109 w⟩
instance : Inf Tryz.prog 109 (.agg #[(.int .i64 0), (.int .i64 0), (.slice none 0 0), (.slice none 0 0)]) 4 64 := ⟨by kernel_rfl, by kernel_rfl⟩
instance : Str Tryz.prog 109 [(0, 1), (1, 1), (2, 1), (3, 1)] := ⟨⟨_, Tryz.underlying109, by kernel_rfl, by kernel_rfl⟩⟩
instance : Fld Tryz.prog 109 0 0 3 1 := ⟨⟨_, _, Tryz.underlying109, rfl, rfl, rfl, by kernel_rfl⟩⟩
instance : Fld Tryz.prog 109 1 1 3 1 := ⟨⟨_, _, Tryz.underlying109, rfl, rfl, rfl, by kernel_rfl⟩⟩
instance : Fld Tryz.prog 109 2 2 40 1 := ⟨⟨_, _, Tryz.underlying109, rfl, rfl, rfl, by kernel_rfl⟩⟩
instance : Fld Tryz.prog 109 3 3 108 1 := ⟨⟨_, _, Tryz.underlying109, rfl, rfl, rfl, by kernel_rfl⟩⟩
instance : Agg Tryz.prog 110 := ⟨fun w => run_isAgg Tryz.underlying110 w⟩
instance : Inf Tryz.prog 110 (.agg #[(.int .i64 0), (.int .i64 0), (.slice none 0 0), (.slice none 0 0)]) 4 64 := ⟨by kernel_rfl, by kernel_rfl⟩
instance : Str Tryz.prog 110 [(0, 1), (1, 1), (2, 1), (3, 1)] := ⟨⟨_, Tryz.underlying110, by kernel_rfl, by kernel_rfl⟩⟩
instance : Fld Tryz.prog 110 0 0 3 1 := ⟨⟨_, _, Tryz.underlying110, rfl, rfl, rfl, by kernel_rfl⟩⟩
instance : Fld Tryz.prog 110 1 1 3 1 := ⟨⟨_, _, Tryz.underlying110, rfl, rfl, rfl, by kernel_rfl⟩⟩
instance : Fld Tryz.prog 110 2 2 40 1 := ⟨⟨_, _, Tryz.underlying110, rfl, rfl, rfl, by kernel_rfl⟩⟩
instance : Fld Tryz.prog 110 3 3 108 1 := ⟨⟨_, _, Tryz.underlying110, rfl, rfl, rfl, by kernel_rfl⟩⟩
instance : Und Tryz.prog 111 (.slice 268) := ⟨Tryz.underlying111⟩
instance : Inf Tryz.prog 111 (.slice none 0 0) 1 24 := ⟨by kernel_rfl, by kernel_rfl⟩
instance : Und Tryz.prog 112 (.slice 9) := ⟨Tryz.underlying112⟩
instance : Inf Tryz.prog 112 (.slice none 0 0) 1 24 := ⟨by kernel_rfl, by kernel_rfl⟩
instance : Agg Tryz.prog 113 := ⟨fun w => run_isAgg Tryz.underlying113 w⟩
instance : Inf Tryz.prog 113 (.agg #[(.int .i64 0), (.int .i64 0), (.string ⟨#[]⟩), (.string ⟨#[]⟩), (.string ⟨#[]⟩), (.slice none 0 0), (.slice none 0 0)]) 7 112 := ⟨by kernel_rfl, by kernel_rfl⟩
instance : Str Tryz.prog 113 [(0, 1), (1, 1), (2, 1), (3, 1), (4, 1), (5, 1), (6, 1)] := ⟨⟨_, Tryz.underlying113, by kernel_rfl, by kernel_rfl⟩⟩
instance : Fld Tryz.prog 113 0 0 3 1 := ⟨⟨_, _, Tryz.underlying113, rfl, rfl, rfl, by kernel_rfl⟩⟩
instance : Fld Tryz.prog 113 1 1 3 1 := ⟨⟨_, _, Tryz.underlying113, rfl, rfl, rfl, by kernel_rfl⟩⟩
instance : Fld Tryz.prog 113 2 2 9 1 := ⟨⟨_, _, Tryz.underlying113, rfl, rfl, rfl, by kernel_rfl⟩⟩
instance : Fld Tryz.prog 113 3 3 9 1 := ⟨⟨_, _, Tryz.underlying113, rfl, rfl, rfl, by kernel_rfl⟩⟩
instance : Fld Tryz.prog 113 4 4 9 1 := ⟨⟨_, _, Tryz.underlying113, rfl, rfl, rfl, by kernel_rfl⟩⟩
instance : Fld Tryz.prog 113 5 5 111 1 := ⟨⟨_, _, Tryz.underlying113, rfl, rfl, rfl, by kernel_rfl⟩⟩
instance : Fld Tryz.prog 113 6 6 112 1 := ⟨⟨_, _, Tryz.underlying113, rfl, rfl, rfl, by kernel_rfl⟩⟩
instance : Agg Tryz.prog 114 := ⟨fun w => run_isAgg Tryz.underlying114 w⟩
instance : Inf Tryz.prog 114 (.agg #[(.int .i64 0), (.int .i64 0), (.string ⟨#[]⟩), (.string ⟨#[]⟩), (.string ⟨#[]⟩), (.slice none 0 0), (.slice none 0 0)]) 7 112 := ⟨by kernel_rfl, by kernel_rfl⟩
instance : Str Tryz.prog 114 [(0, 1), (1, 1), (2, 1), (3, 1), (4, 1), (5, 1), (6, 1)] := ⟨⟨_, Tryz.underlying114, by kernel_rfl, by kernel_rfl⟩⟩
instance : Fld Tryz.prog 114 0 0 3 1 := ⟨⟨_, _, Tryz.underlying114, rfl, rfl, rfl, by kernel_rfl⟩⟩
instance : Fld Tryz.prog 114 1 1 3 1 := ⟨⟨_, _, Tryz.underlying114, rfl, rfl, rfl, by kernel_rfl⟩⟩
instance : Fld Tryz.prog 114 2 2 9 1 := ⟨⟨_, _, Tryz.underlying114, rfl, rfl, rfl, by kernel_rfl⟩⟩
instance : Fld Tryz.prog 114 3 3 9 1 := ⟨⟨_, _, Tryz.underlying114, rfl, rfl, rfl, by kernel_rfl⟩⟩
instance : Fld Tryz.prog 114 4 4 9 1 := ⟨⟨_, _, Tryz.underlying114, rfl, rfl, rfl, by kernel_rfl⟩⟩
instance : Fld Tryz.prog 114 5 5 111 1 := ⟨⟨_, _, Tryz.underlying114, rfl, rfl, rfl, by kernel_rfl⟩⟩
instance : Fld Tryz.prog 114 6 6 112 1 := ⟨⟨_, _, Tryz.underlying114, rfl, rfl, rfl, by kernel_rfl⟩⟩
instance : One Tryz.prog 116 := ⟨fun w => run_isAgg Tryz.underlying116 w⟩
instance : Inf Tryz.prog 116 .nilFunc 1 8 := ⟨by kernel_rfl, by kernel_rfl⟩
instance : One Tryz.prog 117 := ⟨fun w => run_isAgg Tryz.underlying117 w⟩
instance : Inf Tryz.prog 117 .nilFunc 1 8 := ⟨by kernel_rfl, by kernel_rfl⟩
instance : One Tryz.prog 119 := ⟨fun w => run_isAgg Tryz.underlying119 w⟩
instance : Inf Tryz.prog 119 .nilFunc 1 8 := ⟨by kernel_rfl, by kernel_rfl⟩
instance : One Tryz.prog 120 := ⟨fun w => run_isAgg Tryz.underlying120 w⟩
instance : Inf Tryz.prog 120 .nilFunc 1 8 := ⟨by kernel_rfl, by kernel_rfl⟩
instance : One Tryz.prog 121 := ⟨fun w => run_isAgg Tryz.underlying121 w⟩
instance : Inf Tryz.prog 121 .nilFunc 1 8 := ⟨by kernel_rfl, by kernel_rfl⟩
instance : One Tryz.prog 122 := ⟨fun w => run_isAgg Tryz.underlying122 w⟩
instance : Inf Tryz.prog 122 .nilFunc 1 8 := ⟨by kernel_rfl, by kernel_rfl⟩
instance : One Tryz.prog 124 := ⟨fun w => run_isAgg Tryz.underlying124 w⟩
instance : Inf Tryz.prog 124 .nilFunc 1 8 := ⟨by kernel_rfl, by kernel_rfl⟩
instance : One Tryz.prog 125 := ⟨fun w => run_isAgg Tryz.underlying125 w⟩
instance : Inf Tryz.prog 125 .nilFunc 1 8 := ⟨by kernel_rfl, by kernel_rfl⟩
instance : One Tryz.prog 126 := ⟨fun w => run_isAgg Tryz.underlying126 w⟩
instance : Inf Tryz.prog 126 .nilFunc 1 8 := ⟨by kernel_rfl, by kernel_rfl⟩
instance : One Tryz.prog 127 := ⟨fun w => run_isAgg Tryz.underlying127 w⟩
instance : Inf Tryz.prog 127 .nilFunc 1 8 := ⟨by kernel_rfl, by kernel_rfl⟩
instance : One Tryz.prog 129 := ⟨fun w => run_isAgg Tryz.underlying129 w⟩
instance : Inf Tryz.prog 129 .nilFunc 1 8 := ⟨by kernel_rfl, by kernel_rfl⟩
instance : One Tryz.prog 131 := ⟨fun w => run_isAgg Tryz.underlying131 w⟩
instance : Inf Tryz.prog 131 .nilFunc 1 8 := ⟨by kernel_rfl, by kernel_rfl⟩
instance : One Tryz.prog 132 := ⟨fun w => run_isAgg Tryz.underlying132 w⟩
instance : Inf Tryz.prog 132 .nilFunc 1 8 := ⟨by kernel_rfl, by kernel_rfl⟩
instance : One Tryz.prog 134 := ⟨fun w => run_isAgg Tryz.underlying134 w⟩
instance : Inf Tryz.prog 134 .nilFunc 1 8 := ⟨by kernel_rfl, by kernel_rfl⟩
instance : One Tryz.prog 135 := ⟨fun w => run_isAgg Tryz.underlying135 w⟩
instance : Inf Tryz.prog 135 .nilFunc 1 8 := ⟨by kernel_rfl, by kernel_rfl⟩
instance : One Tryz.prog 136 := ⟨fun w => run_isAgg Tryz.underlying136 w⟩
instance : Inf Tryz.prog 136 .nilFunc 1 8 := ⟨by kernel_rfl, by kernel_rfl⟩
instance : One Tryz.prog 137 := ⟨fun w => run_isAgg Tryz.underlying137 w⟩
instance : Inf Tryz.prog 137 .nilFunc 1 8 := ⟨by kernel_rfl, by kernel_rfl⟩
instance : One Tryz.prog 138 := ⟨fun w => run_isAgg Tryz.underlying138 w⟩
instance : Inf Tryz.prog 138 .nilFunc 1 8 := ⟨by kernel_rfl, by kernel_rfl⟩
instance : One Tryz.prog 139 := ⟨fun w => run_isAgg Tryz.underlying139 w⟩
instance : Inf Tryz.prog 139 .nilFunc 1 8 := ⟨by kernel_rfl, by kernel_rfl⟩
instance : Und Tryz.prog 140 (.slice 143) := ⟨Tryz.underlying140⟩
instance : Inf Tryz.prog 140 (.slice none 0 0) 1 24 := ⟨by kernel_rfl, by kernel_rfl⟩
instance : One Tryz.prog 141 := ⟨fun w => run_isAgg Tryz.underlying141 w⟩
instance : Inf Tryz.prog 141 .nilFunc 1 8 := ⟨by kernel_rfl, by kernel_rfl⟩
instance : Agg Tryz.prog 142 := ⟨fun w => run_isAgg Tryz.underlying142 w⟩
instance : Inf Tryz.prog 142 (.agg #[(.slice none 0 0), (.int .i64 0), (.int .i64 0), (.int .i64 0), (.int .i64 0), (.slice none 0 0)]) 6 80 := ⟨by kernel_rfl, by kernel_rfl⟩
instance : Str Tryz.prog 142 [(0, 1), (1, 5)] := ⟨⟨_, Tryz.underlying142, by kernel_rfl, by kernel_rfl⟩⟩
instance : Fld Tryz.prog 142 0 0 112 1 := ⟨⟨_, _, Tryz.underlying142, rfl, rfl, rfl, by kernel_rfl⟩⟩
instance : Fld Tryz.prog 142 1 1 42 5 := ⟨⟨_, _, Tryz.underlying142, rfl, rfl, rfl, by kernel_rfl⟩⟩
instance : Agg Tryz.prog 143 := ⟨fun w => run_isAgg Tryz.underlying143 w⟩
instance : Inf Tryz.prog 143 (.agg #[(.slice none 0 0), (.int .i64 0), (.int .i64 0), (.int .i64 0), (.int .i64 0), (.slice none 0 0)]) 6 80 := ⟨by kernel_rfl, by kernel_rfl⟩
instance : Str Tryz.prog 143 [(0, 1), (1, 5)] := ⟨⟨_, Tryz.underlying143, by kernel_rfl, by kernel_rfl⟩⟩
instance : Fld Tryz.prog 143 0 0 112 1 := ⟨⟨_, _, Tryz.underlying143, rfl, rfl, rfl, by kernel_rfl⟩⟩
instance : Fld Tryz.prog 143 1 1 42 5 := ⟨⟨_, _, Tryz.underlying143, rfl, rfl, rfl, by kernel_rfl⟩⟩
instance : One Tryz.prog 144 := ⟨fun w => run_isAgg Tryz.underlying144 w⟩
instance : Inf Tryz.prog 144 .nilFunc 1 8 := ⟨by kernel_rfl, by kernel_rfl⟩
instance : Und Tryz.prog 145 (.slice 152) := ⟨Tryz.underlying145⟩
instance : Inf Tryz.prog 145 (.slice none 0 0) 1 24 := ⟨by kernel_rfl, by kernel_rfl⟩
instance : One Tryz.prog 147 := ⟨fun w => run_isAgg Tryz.underlying147 w⟩
instance : Inf Tryz.prog 147 .nilFunc 1 8 := ⟨by kernel_rfl, by kernel_rfl⟩
instance : Und Tryz.prog 148 (.slice 112) := ⟨Tryz.underlying148⟩
instance : Inf Tryz.prog 148 (.slice none 0 0) 1 24 := ⟨by kernel_rfl, by kernel_rfl⟩
instance : Und Tryz.prog 149 (.slice 60) := ⟨Tryz.underlying149⟩
instance : Inf Tryz.prog 149 (.slice none 0 0) 1 24 := ⟨by kernel_rfl, by kernel_rfl⟩
instance : Und Tryz.prog 150 (.slice 4) := ⟨Tryz.underlying150⟩
instance : Inf Tryz.prog 150 (.slice none 0 0) 1 24 := ⟨by kernel_rfl, by kernel_rfl⟩
instance : Agg Tryz.prog 151 := ⟨fun w => run_isAgg Tryz.underlying151 w⟩
instance : Inf Tryz.prog 151 (.agg #[(.int .i64 0), (.slice none 0 0), (.slice none 0 0), (.slice none 0 0)]) 4 80 := ⟨by kernel_rfl, by kernel_rfl⟩
instance : Str Tryz.prog 151 [(0, 1), (1, 1), (2, 1), (3, 1)] := ⟨⟨_, Tryz.underlying151, by kernel_rfl, by kernel_rfl⟩⟩
instance : Fld Tryz.prog 151 0 0 3 1 := ⟨⟨_, _, Tryz.underlying151, rfl, rfl, rfl, by kernel_rfl⟩⟩
instance : Fld Tryz.prog 151 1 1 112 1 := ⟨⟨_, _, Tryz.underlying151, rfl, rfl, rfl, by kernel_rfl⟩⟩
instance : Fld Tryz.prog 151 2 2 60 1 := ⟨⟨_, _, Tryz.underlying151, rfl, rfl, rfl, by kernel_rfl⟩⟩
instance : Fld Tryz.prog 151 3 3 40 1 := ⟨⟨_, _, Tryz.underlying151, rfl, rfl, rfl, by kernel_rfl⟩⟩
instance : Agg Tryz.prog 152 := ⟨fun w => run_isAgg Tryz.underlying152 w⟩
instance : Inf Tryz.prog 152 (.agg #[(.int .i64 0), (.slice none 0 0), (.slice none 0 0), (.slice none 0 0)]) 4 80 := ⟨by kernel_rfl, by kernel_rfl⟩
instance : Str Tryz.prog 152 [(0, 1), (1, 1), (2, 1), (3, 1)] := ⟨⟨_, Tryz.underlying152, by kernel_rfl, by kernel_rfl⟩⟩
instance : Fld Tryz.prog 152 0 0 3 1 := ⟨⟨_, _, Tryz.underlying152, rfl, rfl, rfl, by kernel_rfl⟩⟩
instance : Fld Tryz.prog 152 1 1 112 1 := ⟨⟨_, _, Tryz.underlying152, rfl, rfl, rfl, by kernel_rfl⟩⟩
instance : Fld Tryz.prog 152 2 2 60 1 := ⟨⟨_, _, Tryz.underlying152, rfl, rfl, rfl, by kernel_rfl⟩⟩
instance : Fld Tryz.prog 152 3 3 40 1 := ⟨⟨_, _, Tryz.underlying152, rfl, rfl, rfl, by kernel_rfl⟩⟩
instance : One Tryz.prog 153 := ⟨fun w => run_isAgg Tryz.underlying153 w⟩
instance : Inf Tryz.prog 153 .nilFunc 1 8 := ⟨by kernel_rfl, by kernel_rfl⟩
instance : One Tryz.prog 154 := ⟨fun w => run_isAgg Tryz.underlying154 w⟩
instance : Inf Tryz.prog 154 .nilFunc 1 8 := ⟨by kernel_rfl, by kernel_rfl⟩
instance : One Tryz.prog 156 := ⟨fun w => run_isAgg Tryz.underlying156 w⟩
instance : Inf Tryz.prog 156 .nilFunc 1 8 := ⟨by kernel_rfl, by kernel_rfl⟩
instance : One Tryz.prog 158 := ⟨fun w => run_isAgg Tryz.underlying158 w⟩
instance : Inf Tryz.prog 158 .nilFunc 1 8 := ⟨by kernel_rfl, by kernel_rfl⟩
instance : One Tryz.prog 159 := ⟨fun w => run_isAgg Tryz.underlying159 w⟩
instance : Inf Tryz.prog 159 .nilFunc 1 8 := ⟨by kernel_rfl, by kernel_rfl⟩
instance : One Tryz.prog 160 := ⟨fun w => run_isAgg Tryz.underlying160 w⟩
instance : Inf Tryz.prog 160 .nilFunc 1 8 := ⟨by kernel_rfl, by kernel_rfl⟩
instance : Und Tryz.prog 161 (.slice 171) := ⟨Tryz.underlying161⟩
instance : Inf Tryz.prog 161 (.slice none 0 0) 1 24 := ⟨by kernel_rfl, by kernel_rfl⟩
instance : One Tryz.prog 163 := ⟨fun w => run_isAgg Tryz.underlying163 w⟩
instance : Inf Tryz.prog 163 .nilFunc 1 8 := ⟨by kernel_rfl, by kernel_rfl⟩
instance : Und Tryz.prog 164 (.array 8 3) := ⟨Tryz.underlying164⟩
instance : Inf Tryz.prog 164 (.agg #[(.int .i64 0), (.int .i64 0), (.int .i64 0), (.int .i64 0), (.int .i64 0), (.int .i64 0), (.int .i64 0), (.int .i64 0)]) 8 64 := ⟨by kernel_rfl, by kernel_rfl⟩
instance : Und Tryz.prog 165 (.array 64 3) := ⟨Tryz.underlying165⟩
instance : Inf Tryz.prog 165 (.agg (List.replicate 64 (.int .i64 0)).toArray) 64 512 := ⟨by kernel_rfl, by kernel_rfl⟩
instance : Agg Tryz.prog 166 := ⟨fun w => run_isAgg Tryz.underlying166 w⟩
instance : Inf Tryz.prog 166 (.agg (List.replicate 72 (.int .i64 0)).toArray) 72 576 := ⟨by kernel_rfl, by kernel_rfl⟩
instance : Str Tryz.prog 166 [(0, 8), (8, 64)] := ⟨⟨_, Tryz.underlying166, by kernel_rfl, by kernel_rfl⟩⟩
instance : Fld Tryz.prog 166 0 0 164 8 := ⟨⟨_, _, Tryz.underlying166, rfl, rfl, rfl, by kernel_rfl⟩⟩
instance : Fld Tryz.prog 166 1 8 165 64 := ⟨⟨_, _, Tryz.underlying166, rfl, rfl, rfl, by kernel_rfl⟩⟩
instance : Agg Tryz.prog 167 := ⟨fun w => run_isAgg Tryz.underlying167 w⟩
instance : Inf Tryz.prog 167 (.agg (List.replicate 72 (.int .i64 0)).toArray) 72 576 := ⟨by kernel_rfl, by kernel_rfl⟩
instance : Str Tryz.prog 167 [(0, 8), (8, 64)] := ⟨⟨_, Tryz.underlying167, by kernel_rfl, by kernel_rfl⟩⟩
instance : Fld Tryz.prog 167 0 0 164 8 := ⟨⟨_, _, Tryz.underlying167, rfl, rfl, rfl, by kernel_rfl⟩⟩
instance : Fld Tryz.prog 167 1 8 165 64 := ⟨⟨_, _, Tryz.underlying167, rfl, rfl, rfl, by kernel_rfl⟩⟩
instance : One Tryz.prog 168 := ⟨fun w => run_isAgg Tryz.underlying168 w⟩
instance : Inf Tryz.prog 168 .nilFunc 1 8 := ⟨by kernel_rfl, by kernel_rfl⟩
instance : One Tryz.prog 169 := ⟨fun w => run_isAgg Tryz.underlying169 w⟩
instance : Inf Tryz.prog 169 .nilFunc 1 8 := ⟨by kernel_rfl, by kernel_rfl⟩
instance : Agg Tryz.prog 170 := ⟨fun w => run_isAgg Tryz.underlying170 w⟩
instance : Inf Tryz.prog 170 (.agg #[(.int .i64 0), (.string ⟨#[]⟩), (.string ⟨#[]⟩), (.int .i64 0), (.slice none 0 0), (.string ⟨#[]⟩), (.string ⟨#[]⟩), (.string ⟨#[]⟩), (.string ⟨#[]⟩), (.string ⟨#[]⟩)]) 10 152 := ⟨by kernel_rfl, by kernel_rfl⟩
instance : Str Tryz.prog 170 [(0, 1), (1, 4), (5, 5)] := ⟨⟨_, Tryz.underlying170, by kernel_rfl, by kernel_rfl⟩⟩
instance : Fld Tryz.prog 170 0 0 3 1 := ⟨⟨_, _, Tryz.underlying170, rfl, rfl, rfl, by kernel_rfl⟩⟩
instance : Fld Tryz.prog 170 1 1 72 4 := ⟨⟨_, _, Tryz.underlying170, rfl, rfl, rfl, by kernel_rfl⟩⟩
instance : Fld Tryz.prog 170 2 5 75 5 := ⟨⟨_, _, Tryz.underlying170, rfl, rfl, rfl, by kernel_rfl⟩⟩
instance : Agg Tryz.prog 171 := ⟨fun w => run_isAgg Tryz.underlying171 w⟩
instance : Inf Tryz.prog 171 (.agg #[(.int .i64 0), (.string ⟨#[]⟩), (.string ⟨#[]⟩), (.int .i64 0), (.slice none 0 0), (.string ⟨#[]⟩), (.string ⟨#[]⟩), (.string ⟨#[]⟩), (.string ⟨#[]⟩), (.string ⟨#[]⟩)]) 10 152 := ⟨by kernel_rfl, by kernel_rfl⟩
instance : Str Tryz.prog 171 [(0, 1), (1, 4), (5, 5)] := ⟨⟨_, Tryz.underlying171, by kernel_rfl, by kernel_rfl⟩⟩
instance : Fld Tryz.prog 171 0 0 3 1 := ⟨⟨_, _, Tryz.underlying171, rfl, rfl, rfl, by kernel_rfl⟩⟩
instance : Fld Tryz.prog 171 1 1 72 4 := ⟨⟨_, _, Tryz.underlying171, rfl, rfl, rfl, by kernel_rfl⟩⟩
instance : Fld Tryz.prog 171 2 5 75 5 := ⟨⟨_, _, Tryz.underlying171, rfl, rfl, rfl, by kernel_rfl⟩⟩
instance : Und Tryz.prog 172 (.slice 178) := ⟨Tryz.underlying172⟩
instance : Inf Tryz.prog 172 (.slice none 0 0) 1 24 := ⟨by kernel_rfl, by kernel_rfl⟩
instance : Agg Tryz.prog 173 := ⟨fun w => run_isAgg Tryz.underlying173 w⟩
instance : Inf Tryz.prog 173 (.agg #[(.int .i64 0), (.int .i64 0), (.int .i64 0), (.int .i64 0), (.slice none 0 0), (.int .i64 0)]) 6 64 := ⟨by kernel_rfl, by kernel_rfl⟩
instance : Str Tryz.prog 173 [(0, 4), (4, 1), (5, 1)] := ⟨⟨_, Tryz.underlying173, by kernel_rfl, by kernel_rfl⟩⟩
instance : Fld Tryz.prog 173 0 0 51 4 := ⟨⟨_, _, Tryz.underlying173, rfl, rfl, rfl, by kernel_rfl⟩⟩
instance : Fld Tryz.prog 173 1 4 172 1 := ⟨⟨_, _, Tryz.underlying173, rfl, rfl, rfl, by kernel_rfl⟩⟩
instance : Fld Tryz.prog 173 2 5 3 1 := ⟨⟨_, _, Tryz.underlying173, rfl, rfl, rfl, by kernel_rfl⟩⟩
instance : Agg Tryz.prog 174 := ⟨fun w => run_isAgg Tryz.underlying174 w⟩
instance : Inf Tryz.prog 174 (.agg #[(.int .i64 0), (.int .i64 0), (.int .i64 0), (.int .i64 0), (.slice none 0 0), (.int .i64 0)]) 6 64 := ⟨by kernel_rfl, by kernel_rfl⟩
instance : Str Tryz.prog 174 [(0, 4), (4, 1), (5, 1)] := ⟨⟨_, Tryz.underlying174, by kernel_rfl, by kernel_rfl⟩⟩
instance : Fld Tryz.prog 174 0 0 51 4 := ⟨⟨_, _, Tryz.underlying174, rfl, rfl, rfl, by kernel_rfl⟩⟩
instance : Fld Tryz.prog 174 1 4 172 1 := ⟨⟨_, _, Tryz.underlying174, rfl, rfl, rfl, by kernel_rfl⟩⟩
instance : Fld Tryz.prog 174 2 5 3 1 := ⟨⟨_, _, Tryz.underlying174, rfl, rfl, rfl, by kernel_rfl⟩⟩
instance : One Tryz.prog 175 := ⟨fun w => run_isAgg Tryz.underlying175 w⟩
instance : Inf Tryz.prog 175 .nilFunc 1 8 := ⟨by kernel_rfl, by kernel_rfl⟩
instance : One Tryz.prog 176 := ⟨fun w => run_isAgg Tryz.underlying176 w⟩
instance : Inf Tryz.prog 176 .nilFunc 1 8 := ⟨by kernel_rfl, by kernel_rfl⟩
instance : Agg Tryz.prog 177 := ⟨fun w => run_isAgg Tryz.underlying177 w⟩
instance : Inf Tryz.prog 177 (.agg #[(.slice none 0 0), (.int .i64 0), (.int .i64 0), (.int .i64 0), (.int .i64 0), (.slice none 0 0), (.int .i64 0)]) 7 88 := ⟨by kernel_rfl, by kernel_rfl⟩
instance : Str Tryz.prog 177 [(0, 1), (1, 4), (5, 1), (6, 1)] := ⟨⟨_, Tryz.underlying177, by kernel_rfl, by kernel_rfl⟩⟩
instance : Fld Tryz.prog 177 0 0 112 1 := ⟨⟨_, _, Tryz.underlying177, rfl, rfl, rfl, by kernel_rfl⟩⟩
instance : Fld Tryz.prog 177 1 1 51 4 := ⟨⟨_, _, Tryz.underlying177, rfl, rfl, rfl, by kernel_rfl⟩⟩
instance : Fld Tryz.prog 177 2 5 40 1 := ⟨⟨_, _, Tryz.underlying177, rfl, rfl, rfl, by kernel_rfl⟩⟩
instance : Fld Tryz.prog 177 3 6 3 1 := ⟨⟨_, _, Tryz.underlying177, rfl, rfl, rfl, by kernel_rfl⟩⟩
instance : Agg Tryz.prog 178 := ⟨fun w => run_isAgg Tryz.underlying178 w⟩
instance : Inf Tryz.prog 178 (.agg #[(.slice none 0 0), (.int .i64 0), (.int .i64 0), (.int .i64 0), (.int .i64 0), (.slice none 0 0), (.int .i64 0)]) 7 88 := ⟨by kernel_rfl, by kernel_rfl⟩
instance : Str Tryz.prog 178 [(0, 1), (1, 4), (5, 1), (6, 1)] := ⟨⟨_, Tryz.underlying178, by kernel_rfl, by kernel_rfl⟩⟩
instance : Fld Tryz.prog 178 0 0 112 1 := ⟨⟨_, _, Tryz.underlying178, rfl, rfl, rfl, by kernel_rfl⟩⟩
instance : Fld Tryz.prog 178 1 1 51 4 := ⟨⟨_, _, Tryz.underlying178, rfl, rfl, rfl, by kernel_rfl⟩⟩
instance : Fld Tryz.prog 178 2 5 40 1 := ⟨⟨_, _, Tryz.underlying178, rfl, rfl, rfl, by kernel_rfl⟩⟩
instance : Fld Tryz.prog 178 3 6 3 1 := ⟨⟨_, _, Tryz.underlying178, rfl, rfl, rfl, by kernel_rfl⟩⟩
instance : One Tryz.prog 179 := ⟨fun w => run_isAgg Tryz.underlying179 w⟩
instance : Inf Tryz.prog 179 .nilFunc 1 8 := ⟨by kernel_rfl, by kernel_rfl⟩
instance : Und Tryz.prog 180 (.slice 53) := ⟨Tryz.underlying180⟩
instance : Inf Tryz.prog 180 (.slice none 0 0) 1 24 := ⟨by kernel_rfl, by kernel_rfl⟩
instance : Agg Tryz.prog 181 := ⟨fun w => run_isAgg Tryz.underlying181 w⟩
instance : Inf Tryz.prog 181 (.agg #[(.slice none 0 0), (.slice none 0 0), (.int .i64 0)]) 3 56 := ⟨by kernel_rfl, by kernel_rfl⟩
instance : Str Tryz.prog 181 [(0, 1), (1, 1), (2, 1)] := ⟨⟨_, Tryz.underlying181, by kernel_rfl, by kernel_rfl⟩⟩
instance : Fld Tryz.prog 181 0 0 180 1 := ⟨⟨_, _, Tryz.underlying181, rfl, rfl, rfl, by kernel_rfl⟩⟩
instance : Fld Tryz.prog 181 1 1 150 1 := ⟨⟨_, _, Tryz.underlying181, rfl, rfl, rfl, by kernel_rfl⟩⟩
instance : Fld Tryz.prog 181 2 2 3 1 := ⟨⟨_, _, Tryz.underlying181, rfl, rfl, rfl, by kernel_rfl⟩⟩
instance : Agg Tryz.prog 182 := ⟨fun w => run_isAgg Tryz.underlying182 w⟩
instance : Inf Tryz.prog 182 (.agg #[(.slice none 0 0), (.slice none 0 0), (.int .i64 0)]) 3 56 := ⟨by kernel_rfl, by kernel_rfl⟩
instance : Str Tryz.prog 182 [(0, 1), (1, 1), (2, 1)] := ⟨⟨_, Tryz.underlying182, by kernel_rfl, by kernel_rfl⟩⟩
instance : Fld Tryz.prog 182 0 0 180 1 := ⟨⟨_, _, Tryz.underlying182, rfl, rfl, rfl, by kernel_rfl⟩⟩
instance : Fld Tryz.prog 182 1 1 150 1 := ⟨⟨_, _, Tryz.underlying182, rfl, rfl, rfl, by kernel_rfl⟩⟩
instance : Fld Tryz.prog 182 2 2 3 1 := ⟨⟨_, _, Tryz.underlying182, rfl, rfl, rfl, by kernel_rfl⟩⟩
instance : Agg Tryz.prog 183 := ⟨fun w => run_isAgg Tryz.underlying183 w⟩
instance : Inf Tryz.prog 183 (.agg #[(.int .i64 0), (.int .i64 0), (.int .i64 0), (.int .i64 0), (.int .i64 0), (.slice none 0 0), (.bool false)]) 7 72 := ⟨by kernel_rfl, by kernel_rfl⟩
instance : Str Tryz.prog 183 [(0, 1), (1, 5), (6, 1)] := ⟨⟨_, Tryz.underlying183, by kernel_rfl, by kernel_rfl⟩⟩
instance : Fld Tryz.prog 183 0 0 3 1 := ⟨⟨_, _, Tryz.underlying183, rfl, rfl, rfl, by kernel_rfl⟩⟩
instance : Fld Tryz.prog 183 1 1 53 5 := ⟨⟨_, _, Tryz.underlying183, rfl, rfl, rfl, by kernel_rfl⟩⟩
instance : Fld Tryz.prog 183 2 6 4 1 := ⟨⟨_, _, Tryz.underlying183, rfl, rfl, rfl, by kernel_rfl⟩⟩
instance : Agg Tryz.prog 184 := ⟨fun w => run_isAgg Tryz.underlying184 w⟩
instance : Inf Tryz.prog 184 (.agg #[(.int .i64 0), (.int .i64 0), (.int .i64 0), (.int .i64 0), (.int .i64 0), (.slice none 0 0), (.bool false)]) 7 72 := ⟨by kernel_rfl, by kernel_rfl⟩
instance : Str Tryz.prog 184 [(0, 1), (1, 5), (6, 1)] := ⟨⟨_, Tryz.underlying184, by kernel_rfl, by kernel_rfl⟩⟩
instance : Fld Tryz.prog 184 0 0 3 1 := ⟨⟨_, _, Tryz.underlying184, rfl, rfl, rfl, by kernel_rfl⟩⟩
instance : Fld Tryz.prog 184 1 1 53 5 := ⟨⟨_, _, Tryz.underlying184, rfl, rfl, rfl, by kernel_rfl⟩⟩
instance : Fld Tryz.prog 184 2 6 4 1 := ⟨⟨_, _, Tryz.underlying184, rfl, rfl, rfl, by kernel_rfl⟩⟩
instance : One Tryz.prog 185 := ⟨fun w => run_isAgg Tryz.underlying185 w⟩
instance : Inf Tryz.prog 185 .nilFunc 1 8 := ⟨by kernel_rfl, by kernel_rfl⟩
instance : One Tryz.prog 186 := ⟨fun w => run_isAgg Tryz.underlying186 w⟩
instance : Inf Tryz.prog 186 .nilFunc 1 8 := ⟨by kernel_rfl, by kernel_rfl⟩
instance : One Tryz.prog 187 := ⟨fun w => run_isAgg Tryz.underlying187 w⟩
instance : Inf Tryz.prog 187 .nilFunc 1 8 := ⟨by kernel_rfl, by kernel_rfl⟩
instance : Und Tryz.prog 188 (.map 3 191) := ⟨Tryz.underlying188⟩
instance : Inf Tryz.prog 188 (.map none) 1 8 := ⟨by kernel_rfl, by kernel_rfl⟩
instance : One Tryz.prog 189 := ⟨fun w => run_isAgg Tryz.underlying189 w⟩
instance : Inf Tryz.prog 189 .nilFunc 1 8 := ⟨by kernel_rfl, by kernel_rfl⟩
instance : Agg Tryz.prog 190 := ⟨fun w => run_isAgg Tryz.underlying190 w⟩
instance : Inf Tryz.prog 190 (.agg #[(.int .i64 0), (.int .i64 0), (.int .i64 0), (.int .i64 0), (.slice none 0 0), (.slice none 0 0)]) 6 80 := ⟨by kernel_rfl, by kernel_rfl⟩
instance : Str Tryz.prog 190 [(0, 5), (5, 1)] := ⟨⟨_, Tryz.underlying190, by kernel_rfl, by kernel_rfl⟩⟩
instance : Fld Tryz.prog 190 0 0 42 5 := ⟨⟨_, _, Tryz.underlying190, rfl, rfl, rfl, by kernel_rfl⟩⟩
instance : Fld Tryz.prog 190 1 5 60 1 := ⟨⟨_, _, Tryz.underlying190, rfl, rfl, rfl, by kernel_rfl⟩⟩
instance : Agg Tryz.prog 191 := ⟨fun w => run_isAgg Tryz.underlying191 w⟩
instance : Inf Tryz.prog 191 (.agg #[(.int .i64 0), (.int .i64 0), (.int .i64 0), (.int .i64 0), (.slice none 0 0), (.slice none 0 0)]) 6 80 := ⟨by kernel_rfl, by kernel_rfl⟩
instance : Str Tryz.prog 191 [(0, 5), (5, 1)] := ⟨⟨_, Tryz.underlying191, by kernel_rfl, by kernel_rfl⟩⟩
instance : Fld Tryz.prog 191 0 0 42 5 := ⟨⟨_, _, Tryz.underlying191, rfl, rfl, rfl, by kernel_rfl⟩⟩
instance : Fld Tryz.prog 191 1 5 60 1 := ⟨⟨_, _, Tryz.underlying191, rfl, rfl, rfl, by kernel_rfl⟩⟩
instance : Agg Tryz.prog 192 := ⟨fun w => run_isAgg Tryz.underlying192 w⟩
instance : Inf Tryz.prog 192 (.agg #[(.pointer none), (.int .i64 0), (.map none)]) 3 24 := ⟨by kernel_rfl, by kernel_rfl⟩
instance : Str Tryz.prog 192 [(0, 1), (1, 1), (2, 1)] := ⟨⟨_, Tryz.underlying192, by kernel_rfl, by kernel_rfl⟩⟩
instance : Fld Tryz.prog 192 0 0 24 1 := ⟨⟨_, _, Tryz.underlying192, rfl, rfl, rfl, by kernel_rfl⟩⟩
instance : Fld Tryz.prog 192 1 1 3 1 := ⟨⟨_, _, Tryz.underlying192, rfl, rfl, rfl, by kernel_rfl⟩⟩
instance : Fld Tryz.prog 192 2 2 188 1 := ⟨⟨_, _, Tryz.underlying192, rfl, rfl, rfl, by kernel_rfl⟩⟩
instance : Agg Tryz.prog 193 := ⟨fun w => run_isAgg Tryz.underlying193 w⟩
instance : Inf Tryz.prog 193 (.agg #[(.pointer none), (.int .i64 0), (.map none)]) 3 24 := ⟨by kernel_rfl, by kernel_rfl⟩
instance : Str Tryz.prog 193 [(0, 1), (1, 1), (2, 1)] := ⟨⟨_, Tryz.underlying193, by kernel_rfl, by kernel_rfl⟩⟩
instance : Fld Tryz.prog 193 0 0 24 1 := ⟨⟨_, _, Tryz.underlying193, rfl, rfl, rfl, by kernel_rfl⟩⟩
instance : Fld Tryz.prog 193 1 1 3 1 := ⟨⟨_, _, Tryz.underlying193, rfl, rfl, rfl, by kernel_rfl⟩⟩
instance : Fld Tryz.prog 193 2 2 188 1 := ⟨⟨_, _, Tryz.underlying193, rfl, rfl, rfl, by kernel_rfl⟩⟩
instance : One Tryz.prog 194 := ⟨fun w => run_isAgg Tryz.underlying194 w⟩
instance : Inf Tryz.prog 194 .nilFunc 1 8 := ⟨by kernel_rfl, by kernel_rfl⟩
instance : Und Tryz.prog 195 (.slice 198) := ⟨Tryz.underlying195⟩
instance : Inf Tryz.prog 195 (.slice none 0 0) 1 24 := ⟨by kernel_rfl, by kernel_rfl⟩
instance : One Tryz.prog 196 := ⟨fun w => run_isAgg Tryz.underlying196 w⟩
instance : Inf Tryz.prog 196 .nilFunc 1 8 := ⟨by kernel_rfl, by kernel_rfl⟩
instance : Agg Tryz.prog 197 := ⟨fun w => run_isAgg Tryz.underlying197 w⟩
instance : Inf Tryz.prog 197 (.agg #[(.int .i64 0), (.slice none 0 0)]) 2 32 := ⟨by kernel_rfl, by kernel_rfl⟩
instance : Str Tryz.prog 197 [(0, 1), (1, 1)] := ⟨⟨_, Tryz.underlying197, by kernel_rfl, by kernel_rfl⟩⟩
instance : Fld Tryz.prog 197 0 0 3 1 := ⟨⟨_, _, Tryz.underlying197, rfl, rfl, rfl, by kernel_rfl⟩⟩
instance : Fld Tryz.prog 197 1 1 40 1 := ⟨⟨_, _, Tryz.underlying197, rfl, rfl, rfl, by kernel_rfl⟩⟩
instance : Agg Tryz.prog 198 := ⟨fun w => run_isAgg Tryz.underlying198 w⟩
instance : Inf Tryz.prog 198 (.agg #[(.int .i64 0), (.slice none 0 0)]) 2 32 := ⟨by kernel_rfl, by kernel_rfl⟩
instance : Str Tryz.prog 198 [(0, 1), (1, 1)] := ⟨⟨_, Tryz.underlying198, by kernel_rfl, by kernel_rfl⟩⟩
instance : Fld Tryz.prog 198 0 0 3 1 := ⟨⟨_, _, Tryz.underlying198, rfl, rfl, rfl, by kernel_rfl⟩⟩
instance : Fld Tryz.prog 198 1 1 40 1 := ⟨⟨_, _, Tryz.underlying198, rfl, rfl, rfl, by kernel_rfl⟩⟩
instance : One Tryz.prog 199 := ⟨fun w => run_isAgg Tryz.underlying199 w⟩
instance : Inf Tryz.prog 199 .nilFunc 1 8 := ⟨by kernel_rfl, by kernel_rfl⟩
instance : One Tryz.prog 200 := ⟨fun w => run_isAgg Tryz.underlying200 w⟩
instance : Inf Tryz.prog 200 .nilFunc 1 8 := ⟨by kernel_rfl, by kernel_rfl⟩
instance : One Tryz.prog 201 := ⟨fun w => run_isAgg Tryz.underlying201 w⟩
instance : Inf Tryz.prog 201 .nilFunc 1 8 := ⟨by kernel_rfl, by kernel_rfl⟩
instance : One Tryz.prog 202 := ⟨fun w => run_isAgg Tryz.underlying202 w⟩
instance : Inf Tryz.prog 202 .nilFunc 1 8 := ⟨by kernel_rfl, by kernel_rfl⟩
instance : One Tryz.prog 203 := ⟨fun w => run_isAgg Tryz.underlying203 w⟩
instance : Inf Tryz.prog 203 .nilFunc 1 8 := ⟨by kernel_rfl, by kernel_rfl⟩
instance : One Tryz.prog 204 := ⟨fun w => run_isAgg Tryz.underlying204 w⟩
instance : Inf Tryz.prog 204 .nilFunc 1 8 := ⟨by kernel_rfl, by kernel_rfl⟩
instance : One Tryz.prog 205 := ⟨fun w => run_isAgg Tryz.underlying205 w⟩
instance : Inf Tryz.prog 205 .nilFunc 1 8 := ⟨by kernel_rfl, by kernel_rfl⟩
instance : One Tryz.prog 206 := ⟨fun w => run_isAgg Tryz.underlying206 w⟩
instance : Inf Tryz.prog 206 .nilFunc 1 8 := ⟨by kernel_rfl, by kernel_rfl⟩
instance : One Tryz.prog 207 := ⟨fun w => run_isAgg Tryz.underlying207 w⟩
instance : Inf Tryz.prog 207 .nilFunc 1 8 := ⟨by kernel_rfl, by kernel_rfl⟩
instance : One Tryz.prog 209 := ⟨fun w => run_isAgg Tryz.underlying209 w⟩
instance : Inf Tryz.prog 209 .nilFunc 1 8 := ⟨by kernel_rfl, by kernel_rfl⟩
instance : One Tryz.prog 210 := ⟨fun w => run_isAgg Tryz.underlying210 w⟩
instance : Inf Tryz.prog 210 .nilFunc 1 8 := ⟨by kernel_rfl, by kernel_rfl⟩
instance : One Tryz.prog 211 := ⟨fun w => run_isAgg Tryz.underlying211 w⟩
instance : Inf Tryz.prog 211 .nilFunc 1 8 := ⟨by kernel_rfl, by kernel_rfl⟩
instance : One Tryz.prog 212 := ⟨fun w => run_isAgg Tryz.underlying212 w⟩
instance : Inf Tryz.prog 212 .nilFunc 1 8 := ⟨by kernel_rfl, by kernel_rfl⟩
instance : One Tryz.prog 213 := ⟨fun w => run_isAgg Tryz.underlying213 w⟩
instance : Inf Tryz.prog 213 .nilFunc 1 8 := ⟨by kernel_rfl, by kernel_rfl⟩
instance : One Tryz.prog 214 := ⟨fun w => run_isAgg Tryz.underlying214 w⟩
instance : Inf Tryz.prog 214 .nilFunc 1 8 := ⟨by kernel_rfl, by kernel_rfl⟩
instance : One Tryz.prog 215 := ⟨fun w => run_isAgg Tryz.underlying215 w⟩
instance : Inf Tryz.prog 215 .nilFunc 1 8 := ⟨by kernel_rfl, by kernel_rfl⟩
instance : Agg Tryz.prog 216 := ⟨fun w => run_isAgg Tryz.underlying216 w⟩
instance : Inf Tryz.prog 216 (.agg #[(.bool false), (.bool false), (.int .i64 0)]) 3 16 := ⟨by kernel_rfl, by kernel_rfl⟩
instance : Str Tryz.prog 216 [(0, 1), (1, 1), (2, 1)] := ⟨⟨_, Tryz.underlying216, by kernel_rfl, by kernel_rfl⟩⟩
instance : Fld Tryz.prog 216 0 0 4 1 := ⟨⟨_, _, Tryz.underlying216, rfl, rfl, rfl, by kernel_rfl⟩⟩
instance : Fld Tryz.prog 216 1 1 4 1 := ⟨⟨_, _, Tryz.underlying216, rfl, rfl, rfl, by kernel_rfl⟩⟩
instance : Fld Tryz.prog 216 2 2 3 1 := ⟨⟨_, _, Tryz.underlying216, rfl, rfl, rfl, by kernel_rfl⟩⟩
instance : Agg Tryz.prog 217 := ⟨fun w => run_isAgg Tryz.underlying217 w⟩
instance : Inf Tryz.prog 217 (.agg #[(.bool false), (.bool false), (.int .i64 0)]) 3 16 := ⟨by kernel_rfl, by kernel_rfl⟩
instance : Str Tryz.prog 217 [(0, 1), (1, 1), (2, 1)] := ⟨⟨_, Tryz.underlying217, by kernel_rfl, by kernel_rfl⟩⟩
instance : Fld Tryz.prog 217 0 0 4 1 := ⟨⟨_, _, Tryz.underlying217, rfl, rfl, rfl, by kernel_rfl⟩⟩
instance : Fld Tryz.prog 217 1 1 4 1 := ⟨⟨_, _, Tryz.underlying217, rfl, rfl, rfl, by kernel_rfl⟩⟩
instance : Fld Tryz.prog 217 2 2 3 1 := ⟨⟨_, _, Tryz.underlying217, rfl, rfl, rfl, by kernel_rfl⟩⟩
instance : Und Tryz.prog 218 (.slice 335) := ⟨Tryz.underlying218⟩
instance : Inf Tryz.prog 218 (.slice none 0 0) 1 24 := ⟨by kernel_rfl, by kernel_rfl⟩
instance : Und Tryz.prog 219 (.slice 337) := ⟨Tryz.underlying219⟩
instance : Inf Tryz.prog 219 (.slice none 0 0) 1 24 := ⟨by kernel_rfl, by kernel_rfl⟩
instance : Agg Tryz.prog 220 := ⟨fun w => run_isAgg Tryz.underlying220 w⟩
instance : Inf Tryz.prog 220 (.agg #[]) 0 0 := ⟨by kernel_rfl, by kernel_rfl⟩
instance : Str Tryz.prog 220 [] := ⟨⟨_, Tryz.underlying220, by kernel_rfl, by kernel_rfl⟩⟩
instance : Agg Tryz.prog 221 := ⟨fun w => run_isAgg Tryz.underlying221 w⟩
instance : Inf Tryz.prog 221 (.agg #[]) 0 0 := ⟨by kernel_rfl, by kernel_rfl⟩
instance : Str Tryz.prog 221 [] := ⟨⟨_, Tryz.underlying221, by kernel_rfl, by kernel_rfl⟩⟩
instance : Agg Tryz.prog 222 := ⟨fun w => run_isAgg Tryz.underlying222 w⟩
instance : Inf Tryz.prog 222 (.agg #[]) 0 0 := ⟨by kernel_rfl, by kernel_rfl⟩
instance : Str Tryz.prog 222 [] := ⟨⟨_, Tryz.underlying222, by kernel_rfl, by kernel_rfl⟩⟩
instance : Agg Tryz.prog 223 := ⟨fun w => run_isAgg Tryz.underlying223 w⟩
instance : Inf Tryz.prog 223 (.agg #[(.int .i64 0)]) 1 8 := ⟨by kernel_rfl, by kernel_rfl⟩
instance : Str Tryz.prog 223 [(0, 0), (0, 0), (0, 1)] := ⟨⟨_, Tryz.underlying223, by kernel_rfl, by kernel_rfl⟩⟩
instance : Fld Tryz.prog 223 2 0 2 1 := ⟨⟨_, _, Tryz.underlying223, rfl, rfl, rfl, by kernel_rfl⟩⟩
instance : Agg Tryz.prog 224 := ⟨fun w => run_isAgg Tryz.underlying224 w⟩
instance : Inf Tryz.prog 224 (.agg #[(.int .i64 0)]) 1 8 := ⟨by kernel_rfl, by kernel_rfl⟩
instance : Str Tryz.prog 224 [(0, 0), (0, 0), (0, 1)] := ⟨⟨_, Tryz.underlying224, by kernel_rfl, by kernel_rfl⟩⟩
instance : Fld Tryz.prog 224 2 0 2 1 := ⟨⟨_, _, Tryz.underlying224, rfl, rfl, rfl, by kernel_rfl⟩⟩
instance : Agg Tryz.prog 225 := ⟨fun w => run_isAgg Tryz.underlying225 w⟩
instance : Inf Tryz.prog 225 (.agg #[(.bool false), (.bool false), (.int .i64 0), (.slice none 0 0), (.slice none 0 0), (.int .i64 0), (.int .i64 0)]) 7 80 := ⟨by kernel_rfl, by kernel_rfl⟩
instance : Str Tryz.prog 225 [(0, 3), (3, 1), (4, 1), (5, 1), (6, 1)] := ⟨⟨_, Tryz.underlying225, by kernel_rfl, by kernel_rfl⟩⟩
instance : Fld Tryz.prog 225 0 0 217 3 := ⟨⟨_, _, Tryz.underlying225, rfl, rfl, rfl, by kernel_rfl⟩⟩
instance : Fld Tryz.prog 225 1 3 218 1 := ⟨⟨_, _, Tryz.underlying225, rfl, rfl, rfl, by kernel_rfl⟩⟩
instance : Fld Tryz.prog 225 2 4 219 1 := ⟨⟨_, _, Tryz.underlying225, rfl, rfl, rfl, by kernel_rfl⟩⟩
instance : Fld Tryz.prog 225 3 5 224 1 := ⟨⟨_, _, Tryz.underlying225, rfl, rfl, rfl, by kernel_rfl⟩⟩
instance : Fld Tryz.prog 225 4 6 224 1 := ⟨⟨_, _, Tryz.underlying225, rfl, rfl, rfl, by kernel_rfl⟩⟩
instance : Agg Tryz.prog 226 := ⟨fun w => run_isAgg Tryz.underlying226 w⟩
instance : Inf Tryz.prog 226 (.agg #[(.bool false), (.bool false), (.int .i64 0), (.slice none 0 0), (.slice none 0 0), (.int .i64 0), (.int .i64 0)]) 7 80 := ⟨by kernel_rfl, by kernel_rfl⟩
instance : Str Tryz.prog 226 [(0, 3), (3, 1), (4, 1), (5, 1), (6, 1)] := ⟨⟨_, Tryz.underlying226, by kernel_rfl, by kernel_rfl⟩⟩
instance : Fld Tryz.prog 226 0 0 217 3 := ⟨⟨_, _, Tryz.underlying226, rfl, rfl, rfl, by kernel_rfl⟩⟩
instance : Fld Tryz.prog 226 1 3 218 1 := ⟨⟨_, _, Tryz.underlying226, rfl, rfl, rfl, by kernel_rfl⟩⟩
instance : Fld Tryz.prog 226 2 4 219 1 := ⟨⟨_, _, Tryz.underlying226, rfl, rfl, rfl, by kernel_rfl⟩⟩
instance : Fld Tryz.prog 226 3 5 224 1 := ⟨⟨_, _, Tryz.underlying226, rfl, rfl, rfl, by kernel_rfl⟩⟩
instance : Fld Tryz.prog 226 4 6 224 1 := ⟨⟨_, _, Tryz.underlying226, rfl, rfl, rfl, by kernel_rfl⟩⟩
instance : One Tryz.prog 227 := ⟨fun w => run_isAgg Tryz.underlying227 w⟩
instance : Inf Tryz.prog 227 .nilFunc 1 8 := ⟨by kernel_rfl, by kernel_rfl⟩
instance : One Tryz.prog 228 := ⟨fun w => run_isAgg Tryz.underlying228 w⟩
instance : Inf Tryz.prog 228 .nilFunc 1 8 := ⟨by kernel_rfl, by kernel_rfl⟩
instance : Agg Tryz.prog 229 := ⟨fun w => run_isAgg Tryz.underlying229 w⟩
instance : Inf Tryz.prog 229 (.agg #[]) 0 0 := ⟨by kernel_rfl, by kernel_rfl⟩
instance : Str Tryz.prog 229 [] := ⟨⟨_, Tryz.underlying229, by kernel_rfl, by kernel_rfl⟩⟩
instance : Und Tryz.prog 230 (.int .u32) := ⟨Tryz.underlying230⟩
instance : Inf Tryz.prog 230 (.int .u32 0) 1 4 := ⟨by kernel_rfl, by kernel_rfl⟩
instance : Agg Tryz.prog 231 := ⟨fun w => run_isAgg Tryz.underlying231 w⟩
instance : Inf Tryz.prog 231 (.agg #[(.int .u32 0)]) 1 4 := ⟨by kernel_rfl, by kernel_rfl⟩
instance : Str Tryz.prog 231 [(0, 0), (0, 1)] := ⟨⟨_, Tryz.underlying231, by kernel_rfl, by kernel_rfl⟩⟩
instance : Fld Tryz.prog 231 1 0 230 1 := ⟨⟨_, _, Tryz.underlying231, rfl, rfl, rfl, by kernel_rfl⟩⟩
instance : Agg Tryz.prog 232 := ⟨fun w => run_isAgg Tryz.underlying232 w⟩
instance : Inf Tryz.prog 232 (.agg #[(.int .u32 0)]) 1 4 := ⟨by kernel_rfl, by kernel_rfl⟩
instance : Str Tryz.prog 232 [(0, 0), (0, 1)] := ⟨⟨_, Tryz.underlying232, by kernel_rfl, by kernel_rfl⟩⟩
instance : Fld Tryz.prog 232 1 0 230 1 := ⟨⟨_, _, Tryz.underlying232, rfl, rfl, rfl, by kernel_rfl⟩⟩
instance : Agg Tryz.prog 233 := ⟨fun w => run_isAgg Tryz.underlying233 w⟩
instance : Inf Tryz.prog 233 (.agg #[(.int .i32 0), (.int .u32 0)]) 2 8 := ⟨by kernel_rfl, by kernel_rfl⟩
instance : Str Tryz.prog 233 [(0, 1), (1, 1)] := ⟨⟨_, Tryz.underlying233, by kernel_rfl, by kernel_rfl⟩⟩
instance : Fld Tryz.prog 233 0 0 21 1 := ⟨⟨_, _, Tryz.underlying233, rfl, rfl, rfl, by kernel_rfl⟩⟩
instance : Fld Tryz.prog 233 1 1 230 1 := ⟨⟨_, _, Tryz.underlying233, rfl, rfl, rfl, by kernel_rfl⟩⟩
instance : Agg Tryz.prog 234 := ⟨fun w => run_isAgg Tryz.underlying234 w⟩
instance : Inf Tryz.prog 234 (.agg #[(.int .i32 0), (.int .u32 0)]) 2 8 := ⟨by kernel_rfl, by kernel_rfl⟩
instance : Str Tryz.prog 234 [(0, 1), (1, 1)] := ⟨⟨_, Tryz.underlying234, by kernel_rfl, by kernel_rfl⟩⟩
instance : Fld Tryz.prog 234 0 0 21 1 := ⟨⟨_, _, Tryz.underlying234, rfl, rfl, rfl, by kernel_rfl⟩⟩
instance : Fld Tryz.prog 234 1 1 230 1 := ⟨⟨_, _, Tryz.underlying234, rfl, rfl, rfl, by kernel_rfl⟩⟩
instance : Agg Tryz.prog 235 := ⟨fun w => run_isAgg Tryz.underlying235 w⟩
instance : Inf Tryz.prog 235 (.agg #[(.int .i32 0), (.int .u32 0)]) 2 8 := ⟨by kernel_rfl, by kernel_rfl⟩
instance : Str Tryz.prog 235 [(0, 0), (0, 2)] := ⟨⟨_, Tryz.underlying235, by kernel_rfl, by kernel_rfl⟩⟩
instance : Fld Tryz.prog 235 1 0 234 2 := ⟨⟨_, _, Tryz.underlying235, rfl, rfl, rfl, by kernel_rfl⟩⟩
instance : Agg Tryz.prog 236 := ⟨fun w => run_isAgg Tryz.underlying236 w⟩
instance : Inf Tryz.prog 236 (.agg #[(.int .i32 0), (.int .u32 0)]) 2 8 := ⟨by kernel_rfl, by kernel_rfl⟩
instance : Str Tryz.prog 236 [(0, 0), (0, 2)] := ⟨⟨_, Tryz.underlying236, by kernel_rfl, by kernel_rfl⟩⟩
instance : Fld Tryz.prog 236 1 0 234 2 := ⟨⟨_, _, Tryz.underlying236, rfl, rfl, rfl, by kernel_rfl⟩⟩
instance : Agg Tryz.prog 237 := ⟨fun w => run_isAgg Tryz.underlying237 w⟩
instance : Inf Tryz.prog 237 (.agg #[(.int .u32 0), (.int .i32 0), (.int .u32 0)]) 3 12 := ⟨by kernel_rfl, by kernel_rfl⟩
instance : Str Tryz.prog 237 [(0, 0), (0, 1), (1, 2)] := ⟨⟨_, Tryz.underlying237, by kernel_rfl, by kernel_rfl⟩⟩
instance : Fld Tryz.prog 237 1 0 232 1 := ⟨⟨_, _, Tryz.underlying237, rfl, rfl, rfl, by kernel_rfl⟩⟩
instance : Fld Tryz.prog 237 2 1 236 2 := ⟨⟨_, _, Tryz.underlying237, rfl, rfl, rfl, by kernel_rfl⟩⟩
instance : Agg Tryz.prog 238 := ⟨fun w => run_isAgg Tryz.underlying238 w⟩
instance : Inf Tryz.prog 238 (.agg #[(.int .u32 0), (.int .i32 0), (.int .u32 0)]) 3 12 := ⟨by kernel_rfl, by kernel_rfl⟩
instance : Str Tryz.prog 238 [(0, 0), (0, 1), (1, 2)] := ⟨⟨_, Tryz.underlying238, by kernel_rfl, by kernel_rfl⟩⟩
instance : Fld Tryz.prog 238 1 0 232 1 := ⟨⟨_, _, Tryz.underlying238, rfl, rfl, rfl, by kernel_rfl⟩⟩
instance : Fld Tryz.prog 238 2 1 236 2 := ⟨⟨_, _, Tryz.underlying238, rfl, rfl, rfl, by kernel_rfl⟩⟩
instance : Agg Tryz.prog 239 := ⟨fun w => run_isAgg Tryz.underlying239 w⟩
instance : Inf Tryz.prog 239 (.agg #[(.pointer none), (.int .u32 0), (.int .i32 0), (.int .u32 0), (.int .i64 0), (.int .i64 0), (.bool false)]) 7 48 := ⟨by kernel_rfl, by kernel_rfl⟩
instance : Str Tryz.prog 239 [(0, 1), (1, 3), (4, 1), (5, 1), (6, 1)] := ⟨⟨_, Tryz.underlying239, by kernel_rfl, by kernel_rfl⟩⟩
instance : Fld Tryz.prog 239 0 0 23 1 := ⟨⟨_, _, Tryz.underlying239, rfl, rfl, rfl, by kernel_rfl⟩⟩
instance : Fld Tryz.prog 239 1 1 238 3 := ⟨⟨_, _, Tryz.underlying239, rfl, rfl, rfl, by kernel_rfl⟩⟩
instance : Fld Tryz.prog 239 2 4 3 1 := ⟨⟨_, _, Tryz.underlying239, rfl, rfl, rfl, by kernel_rfl⟩⟩
instance : Fld Tryz.prog 239 3 5 3 1 := ⟨⟨_, _, Tryz.underlying239, rfl, rfl, rfl, by kernel_rfl⟩⟩
instance : Fld Tryz.prog 239 4 6 4 1 := ⟨⟨_, _, Tryz.underlying239, rfl, rfl, rfl, by kernel_rfl⟩⟩
instance : Agg Tryz.prog 240 := ⟨fun w => run_isAgg Tryz.underlying240 w⟩
instance : Inf Tryz.prog 240 (.agg #[(.pointer none), (.int .u32 0), (.int .i32 0), (.int .u32 0), (.int .i64 0), (.int .i64 0), (.bool false)]) 7 48 := ⟨by kernel_rfl, by kernel_rfl⟩
instance : Str Tryz.prog 240 [(0, 1), (1, 3), (4, 1), (5, 1), (6, 1)] := ⟨⟨_, Tryz.underlying240, by kernel_rfl, by kernel_rfl⟩⟩
instance : Fld Tryz.prog 240 0 0 23 1 := ⟨⟨_, _, Tryz.underlying240, rfl, rfl, rfl, by kernel_rfl⟩⟩
instance : Fld Tryz.prog 240 1 1 238 3 := ⟨⟨_, _, Tryz.underlying240, rfl, rfl, rfl, by kernel_rfl⟩⟩
instance : Fld Tryz.prog 240 2 4 3 1 := ⟨⟨_, _, Tryz.underlying240, rfl, rfl, rfl, by kernel_rfl⟩⟩
instance : Fld Tryz.prog 240 3 5 3 1 := ⟨⟨_, _, Tryz.underlying240, rfl, rfl, rfl, by kernel_rfl⟩⟩
instance : Fld Tryz.prog 240 4 6 4 1 := ⟨⟨_, _, Tryz.underlying240, rfl, rfl, rfl, by kernel_rfl⟩⟩
instance : One Tryz.prog 241 := ⟨fun w => run_isAgg Tryz.underlying241 w⟩
instance : Inf Tryz.prog 241 .nilFunc 1 8 := ⟨by kernel_rfl, by kernel_rfl⟩
instance : Agg Tryz.prog 242 := ⟨fun w => run_isAgg Tryz.underlying242 w⟩
instance : Inf Tryz.prog 242 (.agg #[(.pointer none), (.pointer none)]) 2 16 := ⟨by kernel_rfl, by kernel_rfl⟩
instance : Str Tryz.prog 242 [(0, 1), (1, 1)] := ⟨⟨_, Tryz.underlying242, by kernel_rfl, by kernel_rfl⟩⟩
instance : Fld Tryz.prog 242 0 0 104 1 := ⟨⟨_, _, Tryz.underlying242, rfl, rfl, rfl, by kernel_rfl⟩⟩
instance : Fld Tryz.prog 242 1 1 104 1 := ⟨⟨_, _, Tryz.underlying242, rfl, rfl, rfl, by kernel_rfl⟩⟩
instance : Agg Tryz.prog 243 := ⟨fun w => run_isAgg Tryz.underlying243 w⟩
instance : Inf Tryz.prog 243 (.agg #[(.pointer none), (.pointer none)]) 2 16 := ⟨by kernel_rfl, by kernel_rfl⟩
instance : Str Tryz.prog 243 [(0, 1), (1, 1)] := ⟨⟨_, Tryz.underlying243, by kernel_rfl, by kernel_rfl⟩⟩
instance : Fld Tryz.prog 243 0 0 104 1 := ⟨⟨_, _, Tryz.underlying243, rfl, rfl, rfl, by kernel_rfl⟩⟩
instance : Fld Tryz.prog 243 1 1 104 1 := ⟨⟨_, _, Tryz.underlying243, rfl, rfl, rfl, by kernel_rfl⟩⟩
instance : One Tryz.prog 245 := ⟨fun w => run_isAgg Tryz.underlying245 w⟩
instance : Inf Tryz.prog 245 .nilFunc 1 8 := ⟨by kernel_rfl, by kernel_rfl⟩
instance : One Tryz.prog 247 := ⟨fun w => run_isAgg Tryz.underlying247 w⟩
instance : Inf Tryz.prog 247 .nilFunc 1 8 := ⟨by kernel_rfl, by kernel_rfl⟩
instance : One Tryz.prog 248 := ⟨fun w => run_isAgg Tryz.underlying248 w⟩
instance : Inf Tryz.prog 248 .nilFunc 1 8 := ⟨by kernel_rfl, by kernel_rfl⟩
instance : One Tryz.prog 249 := ⟨fun w => run_isAgg Tryz.underlying249 w⟩
instance : Inf Tryz.prog 249 .nilFunc 1 8 := ⟨by kernel_rfl, by kernel_rfl⟩
instance : Und Tryz.prog 250 (.array 32 5) := ⟨Tryz.underlying250⟩
instance : Inf Tryz.prog 250 (.agg (List.replicate 32 (.int .u8 0)).toArray) 32 32 := ⟨by kernel_rfl, by kernel_rfl⟩
instance : Agg Tryz.prog 251 := ⟨fun w => run_isAgg Tryz.underlying251 w⟩
instance : Inf Tryz.prog 251 (.agg ((.int .i64 0) :: (List.replicate 32 (.int .u8 0) ++ ([(.int .i64 0)]))).toArray) 34 48 := ⟨by kernel_rfl, by kernel_rfl⟩
instance : Str Tryz.prog 251 [(0, 1), (1, 32), (33, 1)] := ⟨⟨_, Tryz.underlying251, by kernel_rfl, by kernel_rfl⟩⟩
instance : Fld Tryz.prog 251 0 0 3 1 := ⟨⟨_, _, Tryz.underlying251, rfl, rfl, rfl, by kernel_rfl⟩⟩
instance : Fld Tryz.prog 251 1 1 250 32 := ⟨⟨_, _, Tryz.underlying251, rfl, rfl, rfl, by kernel_rfl⟩⟩
instance : Fld Tryz.prog 251 2 33 3 1 := ⟨⟨_, _, Tryz.underlying251, rfl, rfl, rfl, by kernel_rfl⟩⟩
instance : Agg Tryz.prog 252 := ⟨fun w => run_isAgg Tryz.underlying252 w⟩
instance : Inf Tryz.prog 252 (.agg ((.int .i64 0) :: (List.replicate 32 (.int .u8 0) ++ ([(.int .i64 0)]))).toArray) 34 48 := ⟨by kernel_rfl, by kernel_rfl⟩
instance : Str Tryz.prog 252 [(0, 1), (1, 32), (33, 1)] := ⟨⟨_, Tryz.underlying252, by kernel_rfl, by kernel_rfl⟩⟩
instance : Fld Tryz.prog 252 0 0 3 1 := ⟨⟨_, _, Tryz.underlying252, rfl, rfl, rfl, by kernel_rfl⟩⟩
instance : Fld Tryz.prog 252 1 1 250 32 := ⟨⟨_, _, Tryz.underlying252, rfl, rfl, rfl, by kernel_rfl⟩⟩
instance : Fld Tryz.prog 252 2 33 3 1 := ⟨⟨_, _, Tryz.underlying252, rfl, rfl, rfl, by kernel_rfl⟩⟩
instance : One Tryz.prog 253 := ⟨fun w => run_isAgg Tryz.underlying253 w⟩
instance : Inf Tryz.prog 253 .nilFunc 1 8 := ⟨by kernel_rfl, by kernel_rfl⟩
instance : Agg Tryz.prog 254 := ⟨fun w => run_isAgg Tryz.underlying254 w⟩
instance : Inf Tryz.prog 254 (.agg ((.int .i64 0) :: (List.replicate 32 (.int .u8 0) ++ ([(.int .i64 0)]))).toArray) 34 48 := ⟨by kernel_rfl, by kernel_rfl⟩
instance : Str Tryz.prog 254 [(0, 1), (1, 32), (33, 1)] := ⟨⟨_, Tryz.underlying254, by kernel_rfl, by kernel_rfl⟩⟩
instance : Fld Tryz.prog 254 0 0 3 1 := ⟨⟨_, _, Tryz.underlying254, rfl, rfl, rfl, by kernel_rfl⟩⟩
instance : Fld Tryz.prog 254 1 1 250 32 := ⟨⟨_, _, Tryz.underlying254, rfl, rfl, rfl, by kernel_rfl⟩⟩
instance : Fld Tryz.prog 254 2 33 3 1 := ⟨⟨_, _, Tryz.underlying254, rfl, rfl, rfl, by kernel_rfl⟩⟩
instance : One Tryz.prog 256 := ⟨fun w => run_isAgg Tryz.underlying256 w⟩
instance : Inf Tryz.prog 256 .nilFunc 1 8 := ⟨by kernel_rfl, by kernel_rfl⟩
instance : One Tryz.prog 257 := ⟨fun w => run_isAgg Tryz.underlying257 w⟩
instance : Inf Tryz.prog 257 .nilFunc 1 8 := ⟨by kernel_rfl, by kernel_rfl⟩
instance : Agg Tryz.prog 258 := ⟨fun w => run_isAgg Tryz.underlying258 w⟩
instance : Inf Tryz.prog 258 (.agg #[(.pointer none), (.int .i64 0)]) 2 16 := ⟨by kernel_rfl, by kernel_rfl⟩
instance : Str Tryz.prog 258 [(0, 1), (1, 1)] := ⟨⟨_, Tryz.underlying258, by kernel_rfl, by kernel_rfl⟩⟩
instance : Fld Tryz.prog 258 0 0 25 1 := ⟨⟨_, _, Tryz.underlying258, rfl, rfl, rfl, by kernel_rfl⟩⟩
instance : Fld Tryz.prog 258 1 1 224 1 := ⟨⟨_, _, Tryz.underlying258, rfl, rfl, rfl, by kernel_rfl⟩⟩
instance : Agg Tryz.prog 259 := ⟨fun w => run_isAgg Tryz.underlying259 w⟩
instance : Inf Tryz.prog 259 (.agg #[(.pointer none), (.int .i64 0)]) 2 16 := ⟨by kernel_rfl, by kernel_rfl⟩
instance : Str Tryz.prog 259 [(0, 1), (1, 1)] := ⟨⟨_, Tryz.underlying259, by kernel_rfl, by kernel_rfl⟩⟩
instance : Fld Tryz.prog 259 0 0 25 1 := ⟨⟨_, _, Tryz.underlying259, rfl, rfl, rfl, by kernel_rfl⟩⟩
instance : Fld Tryz.prog 259 1 1 224 1 := ⟨⟨_, _, Tryz.underlying259, rfl, rfl, rfl, by kernel_rfl⟩⟩
instance : One Tryz.prog 260 := ⟨fun w => run_isAgg Tryz.underlying260 w⟩
instance : Inf Tryz.prog 260 .nilFunc 1 8 := ⟨by kernel_rfl, by kernel_rfl⟩
instance : Und Tryz.prog 261 (.map 3 42) := ⟨Tryz.underlying261⟩
instance : Inf Tryz.prog 261 (.map none) 1 8 := ⟨by kernel_rfl, by kernel_rfl⟩
instance : Und Tryz.prog 262 (.map 3 4) := ⟨Tryz.underlying262⟩
instance : Inf Tryz.prog 262 (.map none) 1 8 := ⟨by kernel_rfl, by kernel_rfl⟩
instance : Agg Tryz.prog 263 := ⟨fun w => run_isAgg Tryz.underlying263 w⟩
instance : Inf Tryz.prog 263 (.agg #[(.pointer none), (.int .i64 0), (.bool false), (.map none), (.map none)]) 5 40 := ⟨by kernel_rfl, by kernel_rfl⟩
instance : Str Tryz.prog 263 [(0, 1), (1, 1), (2, 1), (3, 1), (4, 1)] := ⟨⟨_, Tryz.underlying263, by kernel_rfl, by kernel_rfl⟩⟩
instance : Fld Tryz.prog 263 0 0 98 1 := ⟨⟨_, _, Tryz.underlying263, rfl, rfl, rfl, by kernel_rfl⟩⟩
instance : Fld Tryz.prog 263 1 1 2 1 := ⟨⟨_, _, Tryz.underlying263, rfl, rfl, rfl, by kernel_rfl⟩⟩
instance : Fld Tryz.prog 263 2 2 4 1 := ⟨⟨_, _, Tryz.underlying263, rfl, rfl, rfl, by kernel_rfl⟩⟩
instance : Fld Tryz.prog 263 3 3 261 1 := ⟨⟨_, _, Tryz.underlying263, rfl, rfl, rfl, by kernel_rfl⟩⟩
instance : Fld Tryz.prog 263 4 4 262 1 := ⟨⟨_, _, Tryz.underlying263, rfl, rfl, rfl, by kernel_rfl⟩⟩
instance : Agg Tryz.prog 264 := ⟨fun w => run_isAgg Tryz.underlying264 w⟩
instance : Inf Tryz.prog 264 (.agg #[(.pointer none), (.int .i64 0), (.bool false), (.map none), (.map none)]) 5 40 := ⟨by kernel_rfl, by kernel_rfl⟩
instance : Str Tryz.prog 264 [(0, 1), (1, 1), (2, 1), (3, 1), (4, 1)] := ⟨⟨_, Tryz.underlying264, by kernel_rfl, by kernel_rfl⟩⟩
instance : Fld Tryz.prog 264 0 0 98 1 := ⟨⟨_, _, Tryz.underlying264, rfl, rfl, rfl, by kernel_rfl⟩⟩
instance : Fld Tryz.prog 264 1 1 2 1 := ⟨⟨_, _, Tryz.underlying264, rfl, rfl, rfl, by kernel_rfl⟩⟩
instance : Fld Tryz.prog 264 2 2 4 1 := ⟨⟨_, _, Tryz.underlying264, rfl, rfl, rfl, by kernel_rfl⟩⟩
instance : Fld Tryz.prog 264 3 3 261 1 := ⟨⟨_, _, Tryz.underlying264, rfl, rfl, rfl, by kernel_rfl⟩⟩
instance : Fld Tryz.prog 264 4 4 262 1 := ⟨⟨_, _, Tryz.underlying264, rfl, rfl, rfl, by kernel_rfl⟩⟩
instance : Agg Tryz.prog 265 := ⟨fun w => run_isAgg Tryz.underlying265 w⟩
instance : Inf Tryz.prog 265 (.agg #[(.pointer none), (.string ⟨#[]⟩)]) 2 24 := ⟨by kernel_rfl, by kernel_rfl⟩
instance : Str Tryz.prog 265 [(0, 1), (1, 1)] := ⟨⟨_, Tryz.underlying265, by kernel_rfl, by kernel_rfl⟩⟩
instance : Fld Tryz.prog 265 0 0 102 1 := ⟨⟨_, _, Tryz.underlying265, rfl, rfl, rfl, by kernel_rfl⟩⟩
instance : Fld Tryz.prog 265 1 1 9 1 := ⟨⟨_, _, Tryz.underlying265, rfl, rfl, rfl, by kernel_rfl⟩⟩
instance : Agg Tryz.prog 266 := ⟨fun w => run_isAgg Tryz.underlying266 w⟩
instance : Inf Tryz.prog 266 (.agg #[(.pointer none), (.string ⟨#[]⟩)]) 2 24 := ⟨by kernel_rfl, by kernel_rfl⟩
instance : Str Tryz.prog 266 [(0, 1), (1, 1)] := ⟨⟨_, Tryz.underlying266, by kernel_rfl, by kernel_rfl⟩⟩
instance : Fld Tryz.prog 266 0 0 102 1 := ⟨⟨_, _, Tryz.underlying266, rfl, rfl, rfl, by kernel_rfl⟩⟩
instance : Fld Tryz.prog 266 1 1 9 1 := ⟨⟨_, _, Tryz.underlying266, rfl, rfl, rfl, by kernel_rfl⟩⟩
instance : Agg Tryz.prog 267 := ⟨fun w => run_isAgg Tryz.underlying267 w⟩
instance : Inf Tryz.prog 267 (.agg #[(.int .i64 0), (.int .i64 0), (.slice none 0 0)]) 3 40 := ⟨by kernel_rfl, by kernel_rfl⟩
instance : Str Tryz.prog 267 [(0, 1), (1, 1), (2, 1)] := ⟨⟨_, Tryz.underlying267, by kernel_rfl, by kernel_rfl⟩⟩
instance : Fld Tryz.prog 267 0 0 3 1 := ⟨⟨_, _, Tryz.underlying267, rfl, rfl, rfl, by kernel_rfl⟩⟩
instance : Fld Tryz.prog 267 1 1 3 1 := ⟨⟨_, _, Tryz.underlying267, rfl, rfl, rfl, by kernel_rfl⟩⟩
instance : Fld Tryz.prog 267 2 2 40 1 := ⟨⟨_, _, Tryz.underlying267, rfl, rfl, rfl, by kernel_rfl⟩⟩
instance : Agg Tryz.prog 268 := ⟨fun w => run_isAgg Tryz.underlying268 w⟩
instance : Inf Tryz.prog 268 (.agg #[(.int .i64 0), (.int .i64 0), (.slice none 0 0)]) 3 40 := ⟨by kernel_rfl, by kernel_rfl⟩
instance : Str Tryz.prog 268 [(0, 1), (1, 1), (2, 1)] := ⟨⟨_, Tryz.underlying268, by kernel_rfl, by kernel_rfl⟩⟩
instance : Fld Tryz.prog 268 0 0 3 1 := ⟨⟨_, _, Tryz.underlying268, rfl, rfl, rfl, by kernel_rfl⟩⟩
instance : Fld Tryz.prog 268 1 1 3 1 := ⟨⟨_, _, Tryz.underlying268, rfl, rfl, rfl, by kernel_rfl⟩⟩
instance : Fld Tryz.prog 268 2 2 40 1 := ⟨⟨_, _, Tryz.underlying268, rfl, rfl, rfl, by kernel_rfl⟩⟩
instance : One Tryz.prog 270 := ⟨fun w => run_isAgg Tryz.underlying270 w⟩
instance : Inf Tryz.prog 270 .nilFunc 1 8 := ⟨by kernel_rfl, by kernel_rfl⟩
instance : One Tryz.prog 271 := ⟨fun w => run_isAgg Tryz.underlying271 w⟩
instance : Inf Tryz.prog 271 .nilFunc 1 8 := ⟨by kernel_rfl, by kernel_rfl⟩
instance : One Tryz.prog 272 := ⟨fun w => run_isAgg Tryz.underlying272 w⟩
instance : Inf Tryz.prog 272 .nilFunc 1 8 := ⟨by kernel_rfl, by kernel_rfl⟩
instance : One Tryz.prog 273 := ⟨fun w => run_isAgg Tryz.underlying273 w⟩
instance : Inf Tryz.prog 273 .nilFunc 1 8 := ⟨by kernel_rfl, by kernel_rfl⟩
instance : One Tryz.prog 274 := ⟨fun w => run_isAgg Tryz.underlying274 w⟩
instance : Inf Tryz.prog 274 .nilFunc 1 8 := ⟨by kernel_rfl, by kernel_rfl⟩
instance : One Tryz.prog 275 := ⟨fun w => run_isAgg Tryz.underlying275 w⟩
instance : Inf Tryz.prog 275 .nilFunc 1 8 := ⟨by kernel_rfl, by kernel_rfl⟩
instance : One Tryz.prog 276 := ⟨fun w => run_isAgg Tryz.underlying276 w⟩
instance : Inf Tryz.prog 276 .nilFunc 1 8 := ⟨by kernel_rfl, by kernel_rfl⟩
instance : One Tryz.prog 277 := ⟨fun w => run_isAgg Tryz.underlying277 w⟩
instance : Inf Tryz.prog 277 .nilFunc 1 8 := ⟨by kernel_rfl, by kernel_rfl⟩
instance : One Tryz.prog 278 := ⟨fun w => run_isAgg Tryz.underlying278 w⟩
instance : Inf Tryz.prog 278 .nilFunc 1 8 := ⟨by kernel_rfl, by kernel_rfl⟩
instance : One Tryz.prog 279 := ⟨fun w => run_isAgg Tryz.underlying279 w⟩
instance : Inf Tryz.prog 279 .nilFunc 1 8 := ⟨by kernel_rfl, by kernel_rfl⟩
instance : One Tryz.prog 280 := ⟨fun w => run_isAgg Tryz.underlying280 w⟩
instance : Inf Tryz.prog 280 .nilFunc 1 8 := ⟨by kernel_rfl, by kernel_rfl⟩
instance : One Tryz.prog 282 := ⟨fun w => run_isAgg Tryz.underlying282 w⟩
instance : Inf Tryz.prog 282 .nilFunc 1 8 := ⟨by kernel_rfl, by kernel_rfl⟩
instance : One Tryz.prog 283 := ⟨fun w => run_isAgg Tryz.underlying283 w⟩
instance : Inf Tryz.prog 283 .nilFunc 1 8 := ⟨by kernel_rfl, by kernel_rfl⟩
instance : One Tryz.prog 285 := ⟨fun w => run_isAgg Tryz.underlying285 w⟩
instance : Inf Tryz.prog 285 .nilFunc 1 8 := ⟨by kernel_rfl, by kernel_rfl⟩
instance : One Tryz.prog 286 := ⟨fun w => run_isAgg Tryz.underlying286 w⟩
instance : Inf Tryz.prog 286 .nilFunc 1 8 := ⟨by kernel_rfl, by kernel_rfl⟩
instance : One Tryz.prog 288 := ⟨fun w => run_isAgg Tryz.underlying288 w⟩
instance : Inf Tryz.prog 288 .nilFunc 1 8 := ⟨by kernel_rfl, by kernel_rfl⟩
instance : One Tryz.prog 290 := ⟨fun w => run_isAgg Tryz.underlying290 w⟩
instance : Inf Tryz.prog 290 .nilFunc 1 8 := ⟨by kernel_rfl, by kernel_rfl⟩
instance : One Tryz.prog 291 := ⟨fun w => run_isAgg Tryz.underlying291 w⟩
instance : Inf Tryz.prog 291 .nilFunc 1 8 := ⟨by kernel_rfl, by kernel_rfl⟩
instance : One Tryz.prog 292 := ⟨fun w => run_isAgg Tryz.underlying292 w⟩
instance : Inf Tryz.prog 292 .nilFunc 1 8 := ⟨by kernel_rfl, by kernel_rfl⟩
instance : One Tryz.prog 293 := ⟨fun w => run_isAgg Tryz.underlying293 w⟩
instance : Inf Tryz.prog 293 .nilFunc 1 8 := ⟨by kernel_rfl, by kernel_rfl⟩
instance : One Tryz.prog 294 := ⟨fun w => run_isAgg Tryz.underlying294 w⟩
instance : Inf Tryz.prog 294 .nilFunc 1 8 := ⟨by kernel_rfl, by kernel_rfl⟩
instance : One Tryz.prog 295 := ⟨fun w => run_isAgg Tryz.underlying295 w⟩
instance : Inf Tryz.prog 295 .nilFunc 1 8 := ⟨by kernel_rfl, by kernel_rfl⟩
instance : One Tryz.prog 296 := ⟨fun w => run_isAgg Tryz.underlying296 w⟩
instance : Inf Tryz.prog 296 .nilFunc 1 8 := ⟨by kernel_rfl, by kernel_rfl⟩
instance : One Tryz.prog 297 := ⟨fun w => run_isAgg Tryz.underlying297 w⟩
instance : Inf Tryz.prog 297 .nilFunc 1 8 := ⟨by kernel_rfl, by kernel_rfl⟩
instance : Und Tryz.prog 298 (.pointer 300) := ⟨Tryz.underlying298⟩
instance : Inf Tryz.prog 298 (.pointer none) 1 8 := ⟨by kernel_rfl, by kernel_rfl⟩
instance : Agg Tryz.prog 299 := ⟨fun w => run_isAgg Tryz.underlying299 w⟩
instance : Inf Tryz.prog 299 (.agg #[(.slice none 0 0), (.bool false)]) 2 32 := ⟨by kernel_rfl, by kernel_rfl⟩
instance : Str Tryz.prog 299 [(0, 1), (1, 1)] := ⟨⟨_, Tryz.underlying299, by kernel_rfl, by kernel_rfl⟩⟩
instance : Fld Tryz.prog 299 0 0 40 1 := ⟨⟨_, _, Tryz.underlying299, rfl, rfl, rfl, by kernel_rfl⟩⟩
instance : Fld Tryz.prog 299 1 1 4 1 := ⟨⟨_, _, Tryz.underlying299, rfl, rfl, rfl, by kernel_rfl⟩⟩
instance : Agg Tryz.prog 300 := ⟨fun w => run_isAgg Tryz.underlying300 w⟩
instance : Inf Tryz.prog 300 (.agg #[(.slice none 0 0), (.bool false)]) 2 32 := ⟨by kernel_rfl, by kernel_rfl⟩
instance : Str Tryz.prog 300 [(0, 1), (1, 1)] := ⟨⟨_, Tryz.underlying300, by kernel_rfl, by kernel_rfl⟩⟩
instance : Fld Tryz.prog 300 0 0 40 1 := ⟨⟨_, _, Tryz.underlying300, rfl, rfl, rfl, by kernel_rfl⟩⟩
instance : Fld Tryz.prog 300 1 1 4 1 := ⟨⟨_, _, Tryz.underlying300, rfl, rfl, rfl, by kernel_rfl⟩⟩
instance : One Tryz.prog 301 := ⟨fun w => run_isAgg Tryz.underlying301 w⟩
instance : Inf Tryz.prog 301 .nilFunc 1 8 := ⟨by kernel_rfl, by kernel_rfl⟩
instance : One Tryz.prog 303 := ⟨fun w => run_isAgg Tryz.underlying303 w⟩
instance : Inf Tryz.prog 303 .nilFunc 1 8 := ⟨by kernel_rfl, by kernel_rfl⟩
instance : One Tryz.prog 304 := ⟨fun w => run_isAgg Tryz.underlying304 w⟩
instance : Inf Tryz.prog 304 .nilFunc 1 8 := ⟨by kernel_rfl, by kernel_rfl⟩
instance : One Tryz.prog 305 := ⟨fun w => run_isAgg Tryz.underlying305 w⟩
instance : Inf Tryz.prog 305 .nilFunc 1 8 := ⟨by kernel_rfl, by kernel_rfl⟩
instance : One Tryz.prog 306 := ⟨fun w => run_isAgg Tryz.underlying306 w⟩
instance : Inf Tryz.prog 306 .nilFunc 1 8 := ⟨by kernel_rfl, by kernel_rfl⟩
instance : One Tryz.prog 307 := ⟨fun w => run_isAgg Tryz.underlying307 w⟩
instance : Inf Tryz.prog 307 .nilFunc 1 8 := ⟨by kernel_rfl, by kernel_rfl⟩
instance : One Tryz.prog 308 := ⟨fun w => run_isAgg Tryz.underlying308 w⟩
instance : Inf Tryz.prog 308 .nilFunc 1 8 := ⟨by kernel_rfl, by kernel_rfl⟩
instance : One Tryz.prog 309 := ⟨fun w => run_isAgg Tryz.underlying309 w⟩
instance : Inf Tryz.prog 309 .nilFunc 1 8 := ⟨by kernel_rfl, by kernel_rfl⟩
instance : One Tryz.prog 310 := ⟨fun w => run_isAgg Tryz.underlying310 w⟩
instance : Inf Tryz.prog 310 .nilFunc 1 8 := ⟨by kernel_rfl, by kernel_rfl⟩
instance : One Tryz.prog 311 := ⟨fun w => run_isAgg Tryz.underlying311 w⟩
instance : Inf Tryz.prog 311 .nilFunc 1 8 := ⟨by kernel_rfl, by kernel_rfl⟩
instance : One Tryz.prog 312 := ⟨fun w => run_isAgg Tryz.underlying312 w⟩
instance : Inf Tryz.prog 312 .nilFunc 1 8 := ⟨by kernel_rfl, by kernel_rfl⟩
instance : One Tryz.prog 313 := ⟨fun w => run_isAgg Tryz.underlying313 w⟩
instance : Inf Tryz.prog 313 .nilFunc 1 8 := ⟨by kernel_rfl, by kernel_rfl⟩
instance : One Tryz.prog 314 := ⟨fun w => run_isAgg Tryz.underlying314 w⟩
instance : Inf Tryz.prog 314 .nilFunc 1 8 := ⟨by kernel_rfl, by kernel_rfl⟩
instance : One Tryz.prog 315 := ⟨fun w => run_isAgg Tryz.underlying315 w⟩
instance : Inf Tryz.prog 315 .nilFunc 1 8 := ⟨by kernel_rfl, by kernel_rfl⟩
instance : One Tryz.prog 316 := ⟨fun w => run_isAgg Tryz.underlying316 w⟩
instance : Inf Tryz.prog 316 .nilFunc 1 8 := ⟨by kernel_rfl, by kernel_rfl⟩
instance : One Tryz.prog 317 := ⟨fun w => run_isAgg Tryz.underlying317 w⟩
instance : Inf Tryz.prog 317 .nilFunc 1 8 := ⟨by kernel_rfl, by kernel_rfl⟩
instance : One Tryz.prog 318 := ⟨fun w => run_isAgg Tryz.underlying318 w⟩
instance : Inf Tryz.prog 318 .nilFunc 1 8 := ⟨by kernel_rfl, by kernel_rfl⟩
instance : One Tryz.prog 319 := ⟨fun w => run_isAgg Tryz.underlying319 w⟩
instance : Inf Tryz.prog 319 .nilFunc 1 8 := ⟨by kernel_rfl, by kernel_rfl⟩
instance : One Tryz.prog 320 := ⟨fun w => run_isAgg Tryz.underlying320 w⟩
instance : Inf Tryz.prog 320 .nilFunc 1 8 := ⟨by kernel_rfl, by kernel_rfl⟩
instance : One Tryz.prog 321 := ⟨fun w => run_isAgg Tryz.underlying321 w⟩
instance : Inf Tryz.prog 321 .nilFunc 1 8 := ⟨by kernel_rfl, by kernel_rfl⟩
instance : Und Tryz.prog 322 (.pointer 324) := ⟨Tryz.underlying322⟩
instance : Inf Tryz.prog 322 (.pointer none) 1 8 := ⟨by kernel_rfl, by kernel_rfl⟩
instance : Agg Tryz.prog 323 := ⟨fun w => run_isAgg Tryz.underlying323 w⟩
instance : Inf Tryz.prog 323 (.agg #[(.pointer none), (.int .i64 0)]) 2 16 := ⟨by kernel_rfl, by kernel_rfl⟩
instance : Str Tryz.prog 323 [(0, 1), (1, 1)] := ⟨⟨_, Tryz.underlying323, by kernel_rfl, by kernel_rfl⟩⟩
instance : Fld Tryz.prog 323 0 0 23 1 := ⟨⟨_, _, Tryz.underlying323, rfl, rfl, rfl, by kernel_rfl⟩⟩
instance : Fld Tryz.prog 323 1 1 36 1 := ⟨⟨_, _, Tryz.underlying323, rfl, rfl, rfl, by kernel_rfl⟩⟩
instance : Agg Tryz.prog 324 := ⟨fun w => run_isAgg Tryz.underlying324 w⟩
instance : Inf Tryz.prog 324 (.agg #[(.pointer none), (.int .i64 0)]) 2 16 := ⟨by kernel_rfl, by kernel_rfl⟩
instance : Str Tryz.prog 324 [(0, 1), (1, 1)] := ⟨⟨_, Tryz.underlying324, by kernel_rfl, by kernel_rfl⟩⟩
instance : Fld Tryz.prog 324 0 0 23 1 := ⟨⟨_, _, Tryz.underlying324, rfl, rfl, rfl, by kernel_rfl⟩⟩
instance : Fld Tryz.prog 324 1 1 36 1 := ⟨⟨_, _, Tryz.underlying324, rfl, rfl, rfl, by kernel_rfl⟩⟩
instance : One Tryz.prog 325 := ⟨fun w => run_isAgg Tryz.underlying325 w⟩
instance : Inf Tryz.prog 325 .nilFunc 1 8 := ⟨by kernel_rfl, by kernel_rfl⟩
instance : One Tryz.prog 326 := ⟨fun w => run_isAgg Tryz.underlying326 w⟩
instance : Inf Tryz.prog 326 .nilFunc 1 8 := ⟨by kernel_rfl, by kernel_rfl⟩
instance : One Tryz.prog 327 := ⟨fun w => run_isAgg Tryz.underlying327 w⟩
instance : Inf Tryz.prog 327 .nilFunc 1 8 := ⟨by kernel_rfl, by kernel_rfl⟩
instance : One Tryz.prog 328 := ⟨fun w => run_isAgg Tryz.underlying328 w⟩
instance : Inf Tryz.prog 328 .nilFunc 1 8 := ⟨by kernel_rfl, by kernel_rfl⟩
instance : One Tryz.prog 329 := ⟨fun w => run_isAgg Tryz.underlying329 w⟩
instance : Inf Tryz.prog 329 .nilFunc 1 8 := ⟨by kernel_rfl, by kernel_rfl⟩
instance : One Tryz.prog 331 := ⟨fun w => run_isAgg Tryz.underlying331 w⟩
instance : Inf Tryz.prog 331 .nilFunc 1 8 := ⟨by kernel_rfl, by kernel_rfl⟩
instance : One Tryz.prog 332 := ⟨fun w => run_isAgg Tryz.underlying332 w⟩
instance : Inf Tryz.prog 332 .nilFunc 1 8 := ⟨by kernel_rfl, by kernel_rfl⟩
instance : One Tryz.prog 333 := ⟨fun w => run_isAgg Tryz.underlying333 w⟩
instance : Inf Tryz.prog 333 .nilFunc 1 8 := ⟨by kernel_rfl, by kernel_rfl⟩
instance : Und Tryz.prog 334 (.array 64 5) := ⟨Tryz.underlying334⟩
instance : Inf Tryz.prog 334 (.agg (List.replicate 64 (.int .u8 0)).toArray) 64 64 := ⟨by kernel_rfl, by kernel_rfl⟩
instance : Und Tryz.prog 335 (.array 64 5) := ⟨Tryz.underlying335⟩
instance : Inf Tryz.prog 335 (.agg (List.replicate 64 (.int .u8 0)).toArray) 64 64 := ⟨by kernel_rfl, by kernel_rfl⟩
instance : Agg Tryz.prog 336 := ⟨fun w => run_isAgg Tryz.underlying336 w⟩
instance : Inf Tryz.prog 336 (.agg ((.int .i64 0) :: (List.replicate 64 (.int .u8 0))).toArray) 65 72 := ⟨by kernel_rfl, by kernel_rfl⟩
instance : Str Tryz.prog 336 [(0, 1), (1, 64)] := ⟨⟨_, Tryz.underlying336, by kernel_rfl, by kernel_rfl⟩⟩
instance : Fld Tryz.prog 336 0 0 3 1 := ⟨⟨_, _, Tryz.underlying336, rfl, rfl, rfl, by kernel_rfl⟩⟩
instance : Fld Tryz.prog 336 1 1 335 64 := ⟨⟨_, _, Tryz.underlying336, rfl, rfl, rfl, by kernel_rfl⟩⟩
instance : Agg Tryz.prog 337 := ⟨fun w => run_isAgg Tryz.underlying337 w⟩
instance : Inf Tryz.prog 337 (.agg ((.int .i64 0) :: (List.replicate 64 (.int .u8 0))).toArray) 65 72 := ⟨by kernel_rfl, by kernel_rfl⟩
instance : Str Tryz.prog 337 [(0, 1), (1, 64)] := ⟨⟨_, Tryz.underlying337, by kernel_rfl, by kernel_rfl⟩⟩
instance : Fld Tryz.prog 337 0 0 3 1 := ⟨⟨_, _, Tryz.underlying337, rfl, rfl, rfl, by kernel_rfl⟩⟩
instance : Fld Tryz.prog 337 1 1 335 64 := ⟨⟨_, _, Tryz.underlying337, rfl, rfl, rfl, by kernel_rfl⟩⟩
instance : Und Tryz.prog 338 (.pointer 238) := ⟨Tryz.underlying338⟩
instance : Inf Tryz.prog 338 (.pointer none) 1 8 := ⟨by kernel_rfl, by kernel_rfl⟩
instance : One Tryz.prog 340 := ⟨fun w => run_isAgg Tryz.underlying340 w⟩
instance : Inf Tryz.prog 340 .nilFunc 1 8 := ⟨by kernel_rfl, by kernel_rfl⟩
instance : One Tryz.prog 341 := ⟨fun w => run_isAgg Tryz.underlying341 w⟩
instance : Inf Tryz.prog 341 .nilFunc 1 8 := ⟨by kernel_rfl, by kernel_rfl⟩
instance : One Tryz.prog 342 := ⟨fun w => run_isAgg Tryz.underlying342 w⟩
instance : Inf Tryz.prog 342 .nilFunc 1 8 := ⟨by kernel_rfl, by kernel_rfl⟩
instance : One Tryz.prog 343 := ⟨fun w => run_isAgg Tryz.underlying343 w⟩
instance : Inf Tryz.prog 343 .nilFunc 1 8 := ⟨by kernel_rfl, by kernel_rfl⟩
instance : One Tryz.prog 345 := ⟨fun w => run_isAgg Tryz.underlying345 w⟩
instance : Inf Tryz.prog 345 .nilFunc 1 8 := ⟨by kernel_rfl, by kernel_rfl⟩
instance : Und Tryz.prog 346 (.array 5 9) := ⟨Tryz.underlying346⟩
instance : Inf Tryz.prog 346 (.agg #[(.string ⟨#[]⟩), (.string ⟨#[]⟩), (.string ⟨#[]⟩), (.string ⟨#[]⟩), (.string ⟨#[]⟩)]) 5 80 := ⟨by kernel_rfl, by kernel_rfl⟩
instance : One Tryz.prog 347 := ⟨fun w => run_isAgg Tryz.underlying347 w⟩
instance : Inf Tryz.prog 347 .nilFunc 1 8 := ⟨by kernel_rfl, by kernel_rfl⟩
instance : One Tryz.prog 348 := ⟨fun w => run_isAgg Tryz.underlying348 w⟩
instance : Inf Tryz.prog 348 .nilFunc 1 8 := ⟨by kernel_rfl, by kernel_rfl⟩
instance : One Tryz.prog 349 := ⟨fun w => run_isAgg Tryz.underlying349 w⟩
instance : Inf Tryz.prog 349 .nilFunc 1 8 := ⟨by kernel_rfl, by kernel_rfl⟩
instance : Und Tryz.prog 350 (.pointer 224) := ⟨Tryz.underlying350⟩
instance : Inf Tryz.prog 350 (.pointer none) 1 8 := ⟨by kernel_rfl, by kernel_rfl⟩
instance : One Tryz.prog 351 := ⟨fun w => run_isAgg Tryz.underlying351 w⟩
instance : Inf Tryz.prog 351 .nilFunc 1 8 := ⟨by kernel_rfl, by kernel_rfl⟩
instance : Und Tryz.prog 352 (.pointer 2) := ⟨Tryz.underlying352⟩
instance : Inf Tryz.prog 352 (.pointer none) 1 8 := ⟨by kernel_rfl, by kernel_rfl⟩
instance : One Tryz.prog 353 := ⟨fun w => run_isAgg Tryz.underlying353 w⟩
instance : Inf Tryz.prog 353 .nilFunc 1 8 := ⟨by kernel_rfl, by kernel_rfl⟩
instance : Agg Tryz.prog 354 := ⟨fun w => run_isAgg Tryz.underlying354 w⟩
instance : Inf Tryz.prog 354 (.agg #[(.int .i64 0), (.int .i64 0), (.int .i64 0), (.int .i64 0), (.int .i64 0), (.slice none 0 0)]) 6 64 := ⟨by kernel_rfl, by kernel_rfl⟩
instance : Str Tryz.prog 354 [(0, 1), (1, 5)] := ⟨⟨_, Tryz.underlying354, by kernel_rfl, by kernel_rfl⟩⟩
instance : Fld Tryz.prog 354 0 0 3 1 := ⟨⟨_, _, Tryz.underlying354, rfl, rfl, rfl, by kernel_rfl⟩⟩
instance : Fld Tryz.prog 354 1 1 42 5 := ⟨⟨_, _, Tryz.underlying354, rfl, rfl, rfl, by kernel_rfl⟩⟩
instance : Agg Tryz.prog 355 := ⟨fun w => run_isAgg Tryz.underlying355 w⟩
instance : Inf Tryz.prog 355 (.agg #[(.int .i64 0), (.int .i64 0), (.int .i64 0), (.int .i64 0), (.int .i64 0), (.slice none 0 0)]) 6 64 := ⟨by kernel_rfl, by kernel_rfl⟩
instance : Str Tryz.prog 355 [(0, 1), (1, 5)] := ⟨⟨_, Tryz.underlying355, by kernel_rfl, by kernel_rfl⟩⟩
instance : Fld Tryz.prog 355 0 0 3 1 := ⟨⟨_, _, Tryz.underlying355, rfl, rfl, rfl, by kernel_rfl⟩⟩
instance : Fld Tryz.prog 355 1 1 42 5 := ⟨⟨_, _, Tryz.underlying355, rfl, rfl, rfl, by kernel_rfl⟩⟩
instance : One Tryz.prog 357 := ⟨fun w => run_isAgg Tryz.underlying357 w⟩
instance : Inf Tryz.prog 357 .nilFunc 1 8 := ⟨by kernel_rfl, by kernel_rfl⟩
instance : One Tryz.prog 358 := ⟨fun w => run_isAgg Tryz.underlying358 w⟩
instance : Inf Tryz.prog 358 .nilFunc 1 8 := ⟨by kernel_rfl, by kernel_rfl⟩
instance : One Tryz.prog 360 := ⟨fun w => run_isAgg Tryz.underlying360 w⟩
instance : Inf Tryz.prog 360 .nilFunc 1 8 := ⟨by kernel_rfl, by kernel_rfl⟩
instance : One Tryz.prog 361 := ⟨fun w => run_isAgg Tryz.underlying361 w⟩
instance : Inf Tryz.prog 361 .nilFunc 1 8 := ⟨by kernel_rfl, by kernel_rfl⟩
instance : Und Tryz.prog 362 (.slice 390) := ⟨Tryz.underlying362⟩
instance : Inf Tryz.prog 362 (.slice none 0 0) 1 24 := ⟨by kernel_rfl, by kernel_rfl⟩
instance : One Tryz.prog 364 := ⟨fun w => run_isAgg Tryz.underlying364 w⟩
instance : Inf Tryz.prog 364 .nilFunc 1 8 := ⟨by kernel_rfl, by kernel_rfl⟩
instance : One Tryz.prog 365 := ⟨fun w => run_isAgg Tryz.underlying365 w⟩
instance : Inf Tryz.prog 365 .nilFunc 1 8 := ⟨by kernel_rfl, by kernel_rfl⟩
instance : One Tryz.prog 366 := ⟨fun w => run_isAgg Tryz.underlying366 w⟩
instance : Inf Tryz.prog 366 .nilFunc 1 8 := ⟨by kernel_rfl, by kernel_rfl⟩
instance : One Tryz.prog 367 := ⟨fun w => run_isAgg Tryz.underlying367 w⟩
instance : Inf Tryz.prog 367 .nilFunc 1 8 := ⟨by kernel_rfl, by kernel_rfl⟩
instance : One Tryz.prog 368 := ⟨fun w => run_isAgg Tryz.underlying368 w⟩
instance : Inf Tryz.prog 368 .nilFunc 1 8 := ⟨by kernel_rfl, by kernel_rfl⟩
instance : One Tryz.prog 369 := ⟨fun w => run_isAgg Tryz.underlying369 w⟩
instance : Inf Tryz.prog 369 .nilFunc 1 8 := ⟨by kernel_rfl, by kernel_rfl⟩
instance : One Tryz.prog 370 := ⟨fun w => run_isAgg Tryz.underlying370 w⟩
instance : Inf Tryz.prog 370 .nilFunc 1 8 := ⟨by kernel_rfl, by kernel_rfl⟩
instance : One Tryz.prog 371 := ⟨fun w => run_isAgg Tryz.underlying371 w⟩
instance : Inf Tryz.prog 371 .nilFunc 1 8 := ⟨by kernel_rfl, by kernel_rfl⟩
instance : One Tryz.prog 372 := ⟨fun w => run_isAgg Tryz.underlying372 w⟩
instance : Inf Tryz.prog 372 .nilFunc 1 8 := ⟨by kernel_rfl, by kernel_rfl⟩
instance : One Tryz.prog 374 := ⟨fun w => run_isAgg Tryz.underlying374 w⟩
instance : Inf Tryz.prog 374 .nilFunc 1 8 := ⟨by kernel_rfl, by kernel_rfl⟩
instance : One Tryz.prog 375 := ⟨fun w => run_isAgg Tryz.underlying375 w⟩
instance : Inf Tryz.prog 375 .nilFunc 1 8 := ⟨by kernel_rfl, by kernel_rfl⟩
instance : One Tryz.prog 376 := ⟨fun w => run_isAgg Tryz.underlying376 w⟩
instance : Inf Tryz.prog 376 .nilFunc 1 8 := ⟨by kernel_rfl, by kernel_rfl⟩
instance : One Tryz.prog 377 := ⟨fun w => run_isAgg Tryz.underlying377 w⟩
instance : Inf Tryz.prog 377 .nilFunc 1 8 := ⟨by kernel_rfl, by kernel_rfl⟩
instance : One Tryz.prog 378 := ⟨fun w => run_isAgg Tryz.underlying378 w⟩
instance : Inf Tryz.prog 378 .nilFunc 1 8 := ⟨by kernel_rfl, by kernel_rfl⟩
instance : One Tryz.prog 379 := ⟨fun w => run_isAgg Tryz.underlying379 w⟩
instance : Inf Tryz.prog 379 .nilFunc 1 8 := ⟨by kernel_rfl, by kernel_rfl⟩
instance : One Tryz.prog 380 := ⟨fun w => run_isAgg Tryz.underlying380 w⟩
instance : Inf Tryz.prog 380 .nilFunc 1 8 := ⟨by kernel_rfl, by kernel_rfl⟩
instance : One Tryz.prog 381 := ⟨fun w => run_isAgg Tryz.underlying381 w⟩
instance : Inf Tryz.prog 381 .nilFunc 1 8 := ⟨by kernel_rfl, by kernel_rfl⟩
instance : Und Tryz.prog 382 (.pointer 386) := ⟨Tryz.underlying382⟩
instance : Inf Tryz.prog 382 (.pointer none) 1 8 := ⟨by kernel_rfl, by kernel_rfl⟩
instance : Agg Tryz.prog 383 := ⟨fun w => run_isAgg Tryz.underlying383 w⟩
instance : Inf Tryz.prog 383 (.agg #[(.slice none 0 0), (.int .i64 0)]) 2 32 := ⟨by kernel_rfl, by kernel_rfl⟩
instance : Str Tryz.prog 383 [(0, 1), (1, 1)] := ⟨⟨_, Tryz.underlying383, by kernel_rfl, by kernel_rfl⟩⟩
instance : Fld Tryz.prog 383 0 0 40 1 := ⟨⟨_, _, Tryz.underlying383, rfl, rfl, rfl, by kernel_rfl⟩⟩
instance : Fld Tryz.prog 383 1 1 3 1 := ⟨⟨_, _, Tryz.underlying383, rfl, rfl, rfl, by kernel_rfl⟩⟩
instance : Agg Tryz.prog 384 := ⟨fun w => run_isAgg Tryz.underlying384 w⟩
instance : Inf Tryz.prog 384 (.agg #[(.slice none 0 0), (.int .i64 0)]) 2 32 := ⟨by kernel_rfl, by kernel_rfl⟩
instance : Str Tryz.prog 384 [(0, 1), (1, 1)] := ⟨⟨_, Tryz.underlying384, by kernel_rfl, by kernel_rfl⟩⟩
instance : Fld Tryz.prog 384 0 0 40 1 := ⟨⟨_, _, Tryz.underlying384, rfl, rfl, rfl, by kernel_rfl⟩⟩
instance : Fld Tryz.prog 384 1 1 3 1 := ⟨⟨_, _, Tryz.underlying384, rfl, rfl, rfl, by kernel_rfl⟩⟩
instance : Agg Tryz.prog 385 := ⟨fun w => run_isAgg Tryz.underlying385 w⟩
instance : Inf Tryz.prog 385 (.agg #[(.slice none 0 0), (.int .i64 0), (.int .i64 0)]) 3 40 := ⟨by kernel_rfl, by kernel_rfl⟩
instance : Str Tryz.prog 385 [(0, 2), (2, 1)] := ⟨⟨_, Tryz.underlying385, by kernel_rfl, by kernel_rfl⟩⟩
instance : Fld Tryz.prog 385 0 0 384 2 := ⟨⟨_, _, Tryz.underlying385, rfl, rfl, rfl, by kernel_rfl⟩⟩
instance : Fld Tryz.prog 385 1 2 36 1 := ⟨⟨_, _, Tryz.underlying385, rfl, rfl, rfl, by kernel_rfl⟩⟩
instance : Agg Tryz.prog 386 := ⟨fun w => run_isAgg Tryz.underlying386 w⟩
instance : Inf Tryz.prog 386 (.agg #[(.slice none 0 0), (.int .i64 0), (.int .i64 0)]) 3 40 := ⟨by kernel_rfl, by kernel_rfl⟩
instance : Str Tryz.prog 386 [(0, 2), (2, 1)] := ⟨⟨_, Tryz.underlying386, by kernel_rfl, by kernel_rfl⟩⟩
instance : Fld Tryz.prog 386 0 0 384 2 := ⟨⟨_, _, Tryz.underlying386, rfl, rfl, rfl, by kernel_rfl⟩⟩
instance : Fld Tryz.prog 386 1 2 36 1 := ⟨⟨_, _, Tryz.underlying386, rfl, rfl, rfl, by kernel_rfl⟩⟩
instance : One Tryz.prog 388 := ⟨fun w => run_isAgg Tryz.underlying388 w⟩
instance : Inf Tryz.prog 388 .nilFunc 1 8 := ⟨by kernel_rfl, by kernel_rfl⟩
instance : Agg Tryz.prog 389 := ⟨fun w => run_isAgg Tryz.underlying389 w⟩
instance : Inf Tryz.prog 389 (.agg #[(.string ⟨#[]⟩), (.int .i64 0)]) 2 24 := ⟨by kernel_rfl, by kernel_rfl⟩
instance : Str Tryz.prog 389 [(0, 1), (1, 1)] := ⟨⟨_, Tryz.underlying389, by kernel_rfl, by kernel_rfl⟩⟩
instance : Fld Tryz.prog 389 0 0 9 1 := ⟨⟨_, _, Tryz.underlying389, rfl, rfl, rfl, by kernel_rfl⟩⟩
instance : Fld Tryz.prog 389 1 1 3 1 := ⟨⟨_, _, Tryz.underlying389, rfl, rfl, rfl, by kernel_rfl⟩⟩
instance : Agg Tryz.prog 390 := ⟨fun w => run_isAgg Tryz.underlying390 w⟩
instance : Inf Tryz.prog 390 (.agg #[(.string ⟨#[]⟩), (.int .i64 0)]) 2 24 := ⟨by kernel_rfl, by kernel_rfl⟩
instance : Str Tryz.prog 390 [(0, 1), (1, 1)] := ⟨⟨_, Tryz.underlying390, by kernel_rfl, by kernel_rfl⟩⟩
instance : Fld Tryz.prog 390 0 0 9 1 := ⟨⟨_, _, Tryz.underlying390, rfl, rfl, rfl, by kernel_rfl⟩⟩
instance : Fld Tryz.prog 390 1 1 3 1 := ⟨⟨_, _, Tryz.underlying390, rfl, rfl, rfl, by kernel_rfl⟩⟩
instance : One Tryz.prog 391 := ⟨fun w => run_isAgg Tryz.underlying391 w⟩
instance : Inf Tryz.prog 391 .nilFunc 1 8 := ⟨by kernel_rfl, by kernel_rfl⟩
instance : One Tryz.prog 392 := ⟨fun w => run_isAgg Tryz.underlying392 w⟩
instance : Inf Tryz.prog 392 .nilFunc 1 8 := ⟨by kernel_rfl, by kernel_rfl⟩
instance : One Tryz.prog 393 := ⟨fun w => run_isAgg Tryz.underlying393 w⟩
instance : Inf Tryz.prog 393 .nilFunc 1 8 := ⟨by kernel_rfl, by kernel_rfl⟩
instance : One Tryz.prog 394 := ⟨fun w => run_isAgg Tryz.underlying394 w⟩
instance : Inf Tryz.prog 394 .nilFunc 1 8 := ⟨by kernel_rfl, by kernel_rfl⟩
instance : One Tryz.prog 395 := ⟨fun w => run_isAgg Tryz.underlying395 w⟩
instance : Inf Tryz.prog 395 .nilFunc 1 8 := ⟨by kernel_rfl, by kernel_rfl⟩
instance : One Tryz.prog 396 := ⟨fun w => run_isAgg Tryz.underlying396 w⟩
instance : Inf Tryz.prog 396 .nilFunc 1 8 := ⟨by kernel_rfl, by kernel_rfl⟩
instance : One Tryz.prog 397 := ⟨fun w => run_isAgg Tryz.underlying397 w⟩
instance : Inf Tryz.prog 397 .nilFunc 1 8 := ⟨by kernel_rfl, by kernel_rfl⟩
instance : One Tryz.prog 398 := ⟨fun w => run_isAgg Tryz.underlying398 w⟩
instance : Inf Tryz.prog 398 .nilFunc 1 8 := ⟨by kernel_rfl, by kernel_rfl⟩
instance : Und Tryz.prog 399 (.slice 65) := ⟨Tryz.underlying399⟩
instance : Inf Tryz.prog 399 (.slice none 0 0) 1 24 := ⟨by kernel_rfl, by kernel_rfl⟩
instance : One Tryz.prog 400 := ⟨fun w => run_isAgg Tryz.underlying400 w⟩
instance : Inf Tryz.prog 400 .nilFunc 1 8 := ⟨by kernel_rfl, by kernel_rfl⟩
instance : One Tryz.prog 401 := ⟨fun w => run_isAgg Tryz.underlying401 w⟩
instance : Inf Tryz.prog 401 .nilFunc 1 8 := ⟨by kernel_rfl, by kernel_rfl⟩
instance : One Tryz.prog 402 := ⟨fun w => run_isAgg Tryz.underlying402 w⟩
instance : Inf Tryz.prog 402 .nilFunc 1 8 := ⟨by kernel_rfl, by kernel_rfl⟩
instance : One Tryz.prog 403 := ⟨fun w => run_isAgg Tryz.underlying403 w⟩
instance : Inf Tryz.prog 403 .nilFunc 1 8 := ⟨by kernel_rfl, by kernel_rfl⟩
instance : Und Tryz.prog 404 (.slice 40) := ⟨Tryz.underlying404⟩
instance : Inf Tryz.prog 404 (.slice none 0 0) 1 24 := ⟨by kernel_rfl, by kernel_rfl⟩
instance : One Tryz.prog 405 := ⟨fun w => run_isAgg Tryz.underlying405 w⟩
instance : Inf Tryz.prog 405 .nilFunc 1 8 := ⟨by kernel_rfl, by kernel_rfl⟩
instance : One Tryz.prog 406 := ⟨fun w => run_isAgg Tryz.underlying406 w⟩
instance : Inf Tryz.prog 406 .nilFunc 1 8 := ⟨by kernel_rfl, by kernel_rfl⟩
instance : One Tryz.prog 407 := ⟨fun w => run_isAgg Tryz.underlying407 w⟩
instance : Inf Tryz.prog 407 .nilFunc 1 8 := ⟨by kernel_rfl, by kernel_rfl⟩
instance : One Tryz.prog 408 := ⟨fun w => run_isAgg Tryz.underlying408 w⟩
instance : Inf Tryz.prog 408 .nilFunc 1 8 := ⟨by kernel_rfl, by kernel_rfl⟩
instance : One Tryz.prog 409 := ⟨fun w => run_isAgg Tryz.underlying409 w⟩
instance : Inf Tryz.prog 409 .nilFunc 1 8 := ⟨by kernel_rfl, by kernel_rfl⟩
instance : One Tryz.prog 410 := ⟨fun w => run_isAgg Tryz.underlying410 w⟩
instance : Inf Tryz.prog 410 .nilFunc 1 8 := ⟨by kernel_rfl, by kernel_rfl⟩
instance : One Tryz.prog 411 := ⟨fun w => run_isAgg Tryz.underlying411 w⟩
instance : Inf Tryz.prog 411 .nilFunc 1 8 := ⟨by kernel_rfl, by kernel_rfl⟩
instance : Und Tryz.prog 412 (.pointer 416) := ⟨Tryz.underlying412⟩
instance : Inf Tryz.prog 412 (.pointer none) 1 8 := ⟨by kernel_rfl, by kernel_rfl⟩
instance : Und Tryz.prog 413 (.array 8 230) := ⟨Tryz.underlying413⟩
instance : Inf Tryz.prog 413 (.agg #[(.int .u32 0), (.int .u32 0), (.int .u32 0), (.int .u32 0), (.int .u32 0), (.int .u32 0), (.int .u32 0), (.int .u32 0)]) 8 32 := ⟨by kernel_rfl, by kernel_rfl⟩
instance : Und Tryz.prog 414 (.array 8 230) := ⟨Tryz.underlying414⟩
instance : Inf Tryz.prog 414 (.agg #[(.int .u32 0), (.int .u32 0), (.int .u32 0), (.int .u32 0), (.int .u32 0), (.int .u32 0), (.int .u32 0), (.int .u32 0)]) 8 32 := ⟨by kernel_rfl, by kernel_rfl⟩
instance : Agg Tryz.prog 415 := ⟨fun w => run_isAgg Tryz.underlying415 w⟩
instance : Inf Tryz.prog 415 (.agg ((.int .u32 0) :: (.int .u32 0) :: (.int .u32 0) :: (.int .u32 0) :: (.int .u32 0) :: (.int .u32 0) :: (.int .u32 0) :: (.int .u32 0) :: (List.replicate 64 (.int .u8 0) ++ ([(.int .i64 0)]))).toArray) 73 104 := ⟨by kernel_rfl, by kernel_rfl⟩
instance : Str Tryz.prog 415 [(0, 8), (8, 64), (72, 1)] := ⟨⟨_, Tryz.underlying415, by kernel_rfl, by kernel_rfl⟩⟩
instance : Fld Tryz.prog 415 0 0 414 8 := ⟨⟨_, _, Tryz.underlying415, rfl, rfl, rfl, by kernel_rfl⟩⟩
instance : Fld Tryz.prog 415 1 8 334 64 := ⟨⟨_, _, Tryz.underlying415, rfl, rfl, rfl, by kernel_rfl⟩⟩
instance : Fld Tryz.prog 415 2 72 3 1 := ⟨⟨_, _, Tryz.underlying415, rfl, rfl, rfl, by kernel_rfl⟩⟩
instance : Agg Tryz.prog 416 := ⟨fun w => run_isAgg Tryz.underlying416 w⟩
instance : Inf Tryz.prog 416 (.agg ((.int .u32 0) :: (.int .u32 0) :: (.int .u32 0) :: (.int .u32 0) :: (.int .u32 0) :: (.int .u32 0) :: (.int .u32 0) :: (.int .u32 0) :: (List.replicate 64 (.int .u8 0) ++ ([(.int .i64 0)]))).toArray) 73 104 := ⟨by kernel_rfl, by kernel_rfl⟩
instance : Str Tryz.prog 416 [(0, 8), (8, 64), (72, 1)] := ⟨⟨_, Tryz.underlying416, by kernel_rfl, by kernel_rfl⟩⟩
instance : Fld Tryz.prog 416 0 0 414 8 := ⟨⟨_, _, Tryz.underlying416, rfl, rfl, rfl, by kernel_rfl⟩⟩
instance : Fld Tryz.prog 416 1 8 334 64 := ⟨⟨_, _, Tryz.underlying416, rfl, rfl, rfl, by kernel_rfl⟩⟩
instance : Fld Tryz.prog 416 2 72 3 1 := ⟨⟨_, _, Tryz.underlying416, rfl, rfl, rfl, by kernel_rfl⟩⟩
instance : Und Tryz.prog 417 (.array 4 5) := ⟨Tryz.underlying417⟩
instance : Inf Tryz.prog 417 (.agg #[(.int .u8 0), (.int .u8 0), (.int .u8 0), (.int .u8 0)]) 4 4 := ⟨by kernel_rfl, by kernel_rfl⟩
instance : One Tryz.prog 418 := ⟨fun w => run_isAgg Tryz.underlying418 w⟩
instance : Inf Tryz.prog 418 .nilFunc 1 8 := ⟨by kernel_rfl, by kernel_rfl⟩
instance : One Tryz.prog 419 := ⟨fun w => run_isAgg Tryz.underlying419 w⟩
instance : Inf Tryz.prog 419 .nilFunc 1 8 := ⟨by kernel_rfl, by kernel_rfl⟩
instance : One Tryz.prog 420 := ⟨fun w => run_isAgg Tryz.underlying420 w⟩
instance : Inf Tryz.prog 420 .nilFunc 1 8 := ⟨by kernel_rfl, by kernel_rfl⟩
instance : One Tryz.prog 421 := ⟨fun w => run_isAgg Tryz.underlying421 w⟩
instance : Inf Tryz.prog 421 .nilFunc 1 8 := ⟨by kernel_rfl, by kernel_rfl⟩
instance : One Tryz.prog 422 := ⟨fun w => run_isAgg Tryz.underlying422 w⟩
instance : Inf Tryz.prog 422 .nilFunc 1 8 := ⟨by kernel_rfl, by kernel_rfl⟩
instance : Und Tryz.prog 423 (.int .u64) := ⟨Tryz.underlying423⟩
instance : Inf Tryz.prog 423 (.int .u64 0) 1 8 := ⟨by kernel_rfl, by kernel_rfl⟩
instance : Und Tryz.prog 424 (.pointer 232) := ⟨Tryz.underlying424⟩
instance : Inf Tryz.prog 424 (.pointer none) 1 8 := ⟨by kernel_rfl, by kernel_rfl⟩
instance : One Tryz.prog 425 := ⟨fun w => run_isAgg Tryz.underlying425 w⟩
instance : Inf Tryz.prog 425 .nilFunc 1 8 := ⟨by kernel_rfl, by kernel_rfl⟩
instance : Und Tryz.prog 426 (.pointer 230) := ⟨Tryz.underlying426⟩
instance : Inf Tryz.prog 426 (.pointer none) 1 8 := ⟨by kernel_rfl, by kernel_rfl⟩
instance : One Tryz.prog 427 := ⟨fun w => run_isAgg Tryz.underlying427 w⟩
instance : Inf Tryz.prog 427 .nilFunc 1 8 := ⟨by kernel_rfl, by kernel_rfl⟩
instance : One Tryz.prog 429 := ⟨fun w => run_isAgg Tryz.underlying429 w⟩
instance : Inf Tryz.prog 429 .nilFunc 1 8 := ⟨by kernel_rfl, by kernel_rfl⟩
instance : One Tryz.prog 430 := ⟨fun w => run_isAgg Tryz.underlying430 w⟩
instance : Inf Tryz.prog 430 .nilFunc 1 8 := ⟨by kernel_rfl, by kernel_rfl⟩
instance : One Tryz.prog 431 := ⟨fun w => run_isAgg Tryz.underlying431 w⟩
instance : Inf Tryz.prog 431 .nilFunc 1 8 := ⟨by kernel_rfl, by kernel_rfl⟩
instance : One Tryz.prog 432 := ⟨fun w => run_isAgg Tryz.underlying432 w⟩
instance : Inf Tryz.prog 432 .nilFunc 1 8 := ⟨by kernel_rfl, by kernel_rfl⟩
instance : One Tryz.prog 433 := ⟨fun w => run_isAgg Tryz.underlying433 w⟩
instance : Inf Tryz.prog 433 .nilFunc 1 8 := ⟨by kernel_rfl, by kernel_rfl⟩
instance : One Tryz.prog 434 := ⟨fun w => run_isAgg Tryz.underlying434 w⟩
instance : Inf Tryz.prog 434 .nilFunc 1 8 := ⟨by kernel_rfl, by kernel_rfl⟩
instance : One Tryz.prog 435 := ⟨fun w => run_isAgg Tryz.underlying435 w⟩
instance : Inf Tryz.prog 435 .nilFunc 1 8 := ⟨by kernel_rfl, by kernel_rfl⟩
instance : One Tryz.prog 436 := ⟨fun w => run_isAgg Tryz.underlying436 w⟩
instance : Inf Tryz.prog 436 .nilFunc 1 8 := ⟨by kernel_rfl, by kernel_rfl⟩
instance : One Tryz.prog 437 := ⟨fun w => run_isAgg Tryz.underlying437 w⟩
instance : Inf Tryz.prog 437 .nilFunc 1 8 := ⟨by kernel_rfl, by kernel_rfl⟩
instance : One Tryz.prog 438 := ⟨fun w => run_isAgg Tryz.underlying438 w⟩
instance : Inf Tryz.prog 438 .nilFunc 1 8 := ⟨by kernel_rfl, by kernel_rfl⟩
instance : One Tryz.prog 439 := ⟨fun w => run_isAgg Tryz.underlying439 w⟩
instance : Inf Tryz.prog 439 .nilFunc 1 8 := ⟨by kernel_rfl, by kernel_rfl⟩
instance : One Tryz.prog 440 := ⟨fun w => run_isAgg Tryz.underlying440 w⟩
instance : Inf Tryz.prog 440 .nilFunc 1 8 := ⟨by kernel_rfl, by kernel_rfl⟩
instance : One Tryz.prog 441 := ⟨fun w => run_isAgg Tryz.underlying441 w⟩
instance : Inf Tryz.prog 441 .nilFunc 1 8 := ⟨by kernel_rfl, by kernel_rfl⟩
instance : One Tryz.prog 442 := ⟨fun w => run_isAgg Tryz.underlying442 w⟩
instance : Inf Tryz.prog 442 .nilFunc 1 8 := ⟨by kernel_rfl, by kernel_rfl⟩
instance : One Tryz.prog 443 := ⟨fun w => run_isAgg Tryz.underlying443 w⟩
instance : Inf Tryz.prog 443 .nilFunc 1 8 := ⟨by kernel_rfl, by kernel_rfl⟩
instance : One Tryz.prog 444 := ⟨fun w => run_isAgg Tryz.underlying444 w⟩
instance : Inf Tryz.prog 444 .nilFunc 1 8 := ⟨by kernel_rfl, by kernel_rfl⟩
instance : One Tryz.prog 445 := ⟨fun w => run_isAgg Tryz.underlying445 w⟩
instance : Inf Tryz.prog 445 .nilFunc 1 8 := ⟨by kernel_rfl, by kernel_rfl⟩
instance : One Tryz.prog 446 := ⟨fun w => run_isAgg Tryz.underlying446 w⟩
instance : Inf Tryz.prog 446 .nilFunc 1 8 := ⟨by kernel_rfl, by kernel_rfl⟩
instance : One Tryz.prog 447 := ⟨fun w => run_isAgg Tryz.underlying447 w⟩
instance : Inf Tryz.prog 447 .nilFunc 1 8 := ⟨by kernel_rfl, by kernel_rfl⟩
instance : One Tryz.prog 449 := ⟨fun w => run_isAgg Tryz.underlying449 w⟩
instance : Inf Tryz.prog 449 .nilFunc 1 8 := ⟨by kernel_rfl, by kernel_rfl⟩
instance : One Tryz.prog 450 := ⟨fun w => run_isAgg Tryz.underlying450 w⟩
instance : Inf Tryz.prog 450 .nilFunc 1 8 := ⟨by kernel_rfl, by kernel_rfl⟩
instance : One Tryz.prog 452 := ⟨fun w => run_isAgg Tryz.underlying452 w⟩
instance : Inf Tryz.prog 452 .nilFunc 1 8 := ⟨by kernel_rfl, by kernel_rfl⟩
instance : One Tryz.prog 453 := ⟨fun w => run_isAgg Tryz.underlying453 w⟩
instance : Inf Tryz.prog 453 .nilFunc 1 8 := ⟨by kernel_rfl, by kernel_rfl⟩
instance : One Tryz.prog 454 := ⟨fun w => run_isAgg Tryz.underlying454 w⟩
instance : Inf Tryz.prog 454 .nilFunc 1 8 := ⟨by kernel_rfl, by kernel_rfl⟩
instance : One Tryz.prog 455 := ⟨fun w => run_isAgg Tryz.underlying455 w⟩
instance : Inf Tryz.prog 455 .nilFunc 1 8 := ⟨by kernel_rfl, by kernel_rfl⟩
instance : One Tryz.prog 456 := ⟨fun w => run_isAgg Tryz.underlying456 w⟩
instance : Inf Tryz.prog 456 .nilFunc 1 8 := ⟨by kernel_rfl, by kernel_rfl⟩
instance : One Tryz.prog 457 := ⟨fun w => run_isAgg Tryz.underlying457 w⟩
instance : Inf Tryz.prog 457 .nilFunc 1 8 := ⟨by kernel_rfl, by kernel_rfl⟩
instance : Und Tryz.prog 458 (.int .i64) := ⟨Tryz.underlying458⟩
instance : Inf Tryz.prog 458 (.int .i64 0) 1 8 := ⟨by kernel_rfl, by kernel_rfl⟩
instance : One Tryz.prog 460 := ⟨fun w => run_isAgg Tryz.underlying460 w⟩
instance : Inf Tryz.prog 460 .nilFunc 1 8 := ⟨by kernel_rfl, by kernel_rfl⟩
instance : One Tryz.prog 461 := ⟨fun w => run_isAgg Tryz.underlying461 w⟩
instance : Inf Tryz.prog 461 .nilFunc 1 8 := ⟨by kernel_rfl, by kernel_rfl⟩
instance : One Tryz.prog 462 := ⟨fun w => run_isAgg Tryz.underlying462 w⟩
instance : Inf Tryz.prog 462 .nilFunc 1 8 := ⟨by kernel_rfl, by kernel_rfl⟩
instance : One Tryz.prog 463 := ⟨fun w => run_isAgg Tryz.underlying463 w⟩
instance : Inf Tryz.prog 463 .nilFunc 1 8 := ⟨by kernel_rfl, by kernel_rfl⟩
instance : One Tryz.prog 464 := ⟨fun w => run_isAgg Tryz.underlying464 w⟩
instance : Inf Tryz.prog 464 .nilFunc 1 8 := ⟨by kernel_rfl, by kernel_rfl⟩
instance : One Tryz.prog 465 := ⟨fun w => run_isAgg Tryz.underlying465 w⟩
instance : Inf Tryz.prog 465 .nilFunc 1 8 := ⟨by kernel_rfl, by kernel_rfl⟩
instance : Und Tryz.prog 466 (.pointer 236) := ⟨Tryz.underlying466⟩
instance : Inf Tryz.prog 466 (.pointer none) 1 8 := ⟨by kernel_rfl, by kernel_rfl⟩
instance : One Tryz.prog 467 := ⟨fun w => run_isAgg Tryz.underlying467 w⟩
instance : Inf Tryz.prog 467 .nilFunc 1 8 := ⟨by kernel_rfl, by kernel_rfl⟩
instance : One Tryz.prog 468 := ⟨fun w => run_isAgg Tryz.underlying468 w⟩
instance : Inf Tryz.prog 468 .nilFunc 1 8 := ⟨by kernel_rfl, by kernel_rfl⟩
instance : One Tryz.prog 469 := ⟨fun w => run_isAgg Tryz.underlying469 w⟩
instance : Inf Tryz.prog 469 .nilFunc 1 8 := ⟨by kernel_rfl, by kernel_rfl⟩
instance : One Tryz.prog 470 := ⟨fun w => run_isAgg Tryz.underlying470 w⟩
instance : Inf Tryz.prog 470 .nilFunc 1 8 := ⟨by kernel_rfl, by kernel_rfl⟩
instance : Und Tryz.prog 471 (.pointer 384) := ⟨Tryz.underlying471⟩
instance : Inf Tryz.prog 471 (.pointer none) 1 8 := ⟨by kernel_rfl, by kernel_rfl⟩
instance : One Tryz.prog 472 := ⟨fun w => run_isAgg Tryz.underlying472 w⟩
instance : Inf Tryz.prog 472 .nilFunc 1 8 := ⟨by kernel_rfl, by kernel_rfl⟩
instance : One Tryz.prog 473 := ⟨fun w => run_isAgg Tryz.underlying473 w⟩
instance : Inf Tryz.prog 473 .nilIface 1 16 := ⟨by kernel_rfl, by kernel_rfl⟩
instance : One Tryz.prog 474 := ⟨fun w => run_isAgg Tryz.underlying474 w⟩
instance : Inf Tryz.prog 474 .nilIface 1 16 := ⟨by kernel_rfl, by kernel_rfl⟩
instance : One Tryz.prog 476 := ⟨fun w => run_isAgg Tryz.underlying476 w⟩
instance : Inf Tryz.prog 476 .nilFunc 1 8 := ⟨by kernel_rfl, by kernel_rfl⟩
instance : One Tryz.prog 477 := ⟨fun w => run_isAgg Tryz.underlying477 w⟩
instance : Inf Tryz.prog 477 .nilFunc 1 8 := ⟨by kernel_rfl, by kernel_rfl⟩
instance : One Tryz.prog 478 := ⟨fun w => run_isAgg Tryz.underlying478 w⟩
instance : Inf Tryz.prog 478 .nilFunc 1 8 := ⟨by kernel_rfl, by kernel_rfl⟩
instance : One Tryz.prog 479 := ⟨fun w => run_isAgg Tryz.underlying479 w⟩
instance : Inf Tryz.prog 479 .nilFunc 1 8 := ⟨by kernel_rfl, by kernel_rfl⟩
instance : Und Tryz.prog 480 (.array 2 3) := ⟨Tryz.underlying480⟩
instance : Inf Tryz.prog 480 (.agg #[(.int .i64 0), (.int .i64 0)]) 2 16 := ⟨by kernel_rfl, by kernel_rfl⟩
instance : Und Tryz.prog 481 (.pointer 217) := ⟨Tryz.underlying481⟩
instance : Inf Tryz.prog 481 (.pointer none) 1 8 := ⟨by kernel_rfl, by kernel_rfl⟩
instance : One Tryz.prog 482 := ⟨fun w => run_isAgg Tryz.underlying482 w⟩
instance : Inf Tryz.prog 482 .nilFunc 1 8 := ⟨by kernel_rfl, by kernel_rfl⟩
instance : Und Tryz.prog 483 (.pointer 414) := ⟨Tryz.underlying483⟩
instance : Inf Tryz.prog 483 (.pointer none) 1 8 := ⟨by kernel_rfl, by kernel_rfl⟩
instance : Und Tryz.prog 484 (.int .u64) := ⟨Tryz.underlying484⟩
instance : Inf Tryz.prog 484 (.int .u64 0) 1 8 := ⟨by kernel_rfl, by kernel_rfl⟩
instance : One Tryz.prog 485 := ⟨fun w => run_isAgg Tryz.underlying485 w⟩
instance : Inf Tryz.prog 485 .nilFunc 1 8 := ⟨by kernel_rfl, by kernel_rfl⟩
instance : One Tryz.prog 486 := ⟨fun w => run_isAgg Tryz.underlying486 w⟩
instance : Inf Tryz.prog 486 .nilFunc 1 8 := ⟨by kernel_rfl, by kernel_rfl⟩
instance : One Tryz.prog 487 := ⟨fun w => run_isAgg Tryz.underlying487 w⟩
instance : Inf Tryz.prog 487 .nilFunc 1 8 := ⟨by kernel_rfl, by kernel_rfl⟩
instance : Und Tryz.prog 488 (.pointer 3) := ⟨Tryz.underlying488⟩
instance : Inf Tryz.prog 488 (.pointer none) 1 8 := ⟨by kernel_rfl, by kernel_rfl⟩
instance : One Tryz.prog 489 := ⟨fun w => run_isAgg Tryz.underlying489 w⟩
instance : Inf Tryz.prog 489 .nilFunc 1 8 := ⟨by kernel_rfl, by kernel_rfl⟩
instance : Und Tryz.prog 490 (.pointer 234) := ⟨Tryz.underlying490⟩
instance : Inf Tryz.prog 490 (.pointer none) 1 8 := ⟨by kernel_rfl, by kernel_rfl⟩
instance : One Tryz.prog 491 := ⟨fun w => run_isAgg Tryz.underlying491 w⟩
instance : Inf Tryz.prog 491 .nilFunc 1 8 := ⟨by kernel_rfl, by kernel_rfl⟩
instance : Und Tryz.prog 492 (.pointer 21) := ⟨Tryz.underlying492⟩
instance : Inf Tryz.prog 492 (.pointer none) 1 8 := ⟨by kernel_rfl, by kernel_rfl⟩
instance : One Tryz.prog 493 := ⟨fun w => run_isAgg Tryz.underlying493 w⟩
instance : Inf Tryz.prog 493 .nilFunc 1 8 := ⟨by kernel_rfl, by kernel_rfl⟩
instance : One Tryz.prog 494 := ⟨fun w => run_isAgg Tryz.underlying494 w⟩
instance : Inf Tryz.prog 494 (.pointer none) 1 8 := ⟨by kernel_rfl, by kernel_rfl⟩
instance : One Tryz.prog 495 := ⟨fun w => run_isAgg Tryz.underlying495 w⟩
instance : Inf Tryz.prog 495 .nilFunc 1 8 := ⟨by kernel_rfl, by kernel_rfl⟩
instance : One Tryz.prog 496 := ⟨fun w => run_isAgg Tryz.underlying496 w⟩
instance : Inf Tryz.prog 496 .nilFunc 1 8 := ⟨by kernel_rfl, by kernel_rfl⟩
instance : One Tryz.prog 497 := ⟨fun w => run_isAgg Tryz.underlying497 w⟩
instance : Inf Tryz.prog 497 .nilFunc 1 8 := ⟨by kernel_rfl, by kernel_rfl⟩
instance : Und Tryz.prog 498 (.array 24 5) := ⟨Tryz.underlying498⟩
instance : Inf Tryz.prog 498 (.agg (List.replicate 24 (.int .u8 0)).toArray) 24 24 := ⟨by kernel_rfl, by kernel_rfl⟩
instance : One Tryz.prog 499 := ⟨fun w => run_isAgg Tryz.underlying499 w⟩
instance : Inf Tryz.prog 499 .nilFunc 1 8 := ⟨by kernel_rfl, by kernel_rfl⟩
instance : One Tryz.prog 501 := ⟨fun w => run_isAgg Tryz.underlying501 w⟩
instance : Inf Tryz.prog 501 .nilFunc 1 8 := ⟨by kernel_rfl, by kernel_rfl⟩
instance : One Tryz.prog 502 := ⟨fun w => run_isAgg Tryz.underlying502 w⟩
instance : Inf Tryz.prog 502 .nilFunc 1 8 := ⟨by kernel_rfl, by kernel_rfl⟩
instance : One Tryz.prog 503 := ⟨fun w => run_isAgg Tryz.underlying503 w⟩
instance : Inf Tryz.prog 503 .nilFunc 1 8 := ⟨by kernel_rfl, by kernel_rfl⟩
instance : Und Tryz.prog 504 (.array 64 230) := ⟨Tryz.underlying504⟩
instance : Inf Tryz.prog 504 (.agg (List.replicate 64 (.int .u32 0)).toArray) 64 256 := ⟨by kernel_rfl, by kernel_rfl⟩
instance : One Tryz.prog 505 := ⟨fun w => run_isAgg Tryz.underlying505 w⟩
instance : Inf Tryz.prog 505 .nilFunc 1 8 := ⟨by kernel_rfl, by kernel_rfl⟩
instance : One Tryz.prog 506 := ⟨fun w => run_isAgg Tryz.underlying506 w⟩
instance : Inf Tryz.prog 506 .nilFunc 1 8 := ⟨by kernel_rfl, by kernel_rfl⟩
instance : One Tryz.prog 507 := ⟨fun w => run_isAgg Tryz.underlying507 w⟩
instance : Inf Tryz.prog 507 .nilFunc 1 8 := ⟨by kernel_rfl, by kernel_rfl⟩
instance : Und Tryz.prog 508 (.pointer 484) := ⟨Tryz.underlying508⟩
instance : Inf Tryz.prog 508 (.pointer none) 1 8 := ⟨by kernel_rfl, by kernel_rfl⟩
instance : One Tryz.prog 509 := ⟨fun w => run_isAgg Tryz.underlying509 w⟩
instance : Inf Tryz.prog 509 .nilFunc 1 8 := ⟨by kernel_rfl, by kernel_rfl⟩
instance : One Tryz.prog 510 := ⟨fun w => run_isAgg Tryz.underlying510 w⟩
instance : Inf Tryz.prog 510 .nilFunc 1 8 := ⟨by kernel_rfl, by kernel_rfl⟩
instance : One Tryz.prog 511 := ⟨fun w => run_isAgg Tryz.underlying511 w⟩
instance : Inf Tryz.prog 511 .nilFunc 1 8 := ⟨by kernel_rfl, by kernel_rfl⟩
instance : One Tryz.prog 512 := ⟨fun w => run_isAgg Tryz.underlying512 w⟩
instance : Inf Tryz.prog 512 .nilFunc 1 8 := ⟨by kernel_rfl, by kernel_rfl⟩
instance : Und Tryz.prog 513 (.int .i64) := ⟨Tryz.underlying513⟩
instance : Inf Tryz.prog 513 (.int .i64 0) 1 8 := ⟨by kernel_rfl, by kernel_rfl⟩
instance : One Tryz.prog 515 := ⟨fun w => run_isAgg Tryz.underlying515 w⟩
instance : Inf Tryz.prog 515 .nilFunc 1 8 := ⟨by kernel_rfl, by kernel_rfl⟩
instance : Und Tryz.prog 516 (.pointer 529) := ⟨Tryz.underlying516⟩
instance : Inf Tryz.prog 516 (.pointer none) 1 8 := ⟨by kernel_rfl, by kernel_rfl⟩
instance : One Tryz.prog 517 := ⟨fun w => run_isAgg Tryz.underlying517 w⟩
instance : Inf Tryz.prog 517 .nilFunc 1 8 := ⟨by kernel_rfl, by kernel_rfl⟩
instance : One Tryz.prog 518 := ⟨fun w => run_isAgg Tryz.underlying518 w⟩
instance : Inf Tryz.prog 518 .nilFunc 1 8 := ⟨by kernel_rfl, by kernel_rfl⟩
instance : One Tryz.prog 519 := ⟨fun w => run_isAgg Tryz.underlying519 w⟩
instance : Inf Tryz.prog 519 .nilFunc 1 8 := ⟨by kernel_rfl, by kernel_rfl⟩
instance : Und Tryz.prog 520 (.array 20 65) := ⟨Tryz.underlying520⟩
instance : Inf Tryz.prog 520 (.agg (List.replicate 20 (.int .u64 0)).toArray) 20 160 := ⟨by kernel_rfl, by kernel_rfl⟩
instance : Und Tryz.prog 521 (.array 65 5) := ⟨Tryz.underlying521⟩
instance : Inf Tryz.prog 521 (.agg (List.replicate 65 (.int .u8 0)).toArray) 65 65 := ⟨by kernel_rfl, by kernel_rfl⟩
instance : One Tryz.prog 522 := ⟨fun w => run_isAgg Tryz.underlying522 w⟩
instance : Inf Tryz.prog 522 .nilFunc 1 8 := ⟨by kernel_rfl, by kernel_rfl⟩
instance : One Tryz.prog 524 := ⟨fun w => run_isAgg Tryz.underlying524 w⟩
instance : Inf Tryz.prog 524 .nilFunc 1 8 := ⟨by kernel_rfl, by kernel_rfl⟩
instance : One Tryz.prog 525 := ⟨fun w => run_isAgg Tryz.underlying525 w⟩
instance : Inf Tryz.prog 525 .nilFunc 1 8 := ⟨by kernel_rfl, by kernel_rfl⟩
instance : One Tryz.prog 527 := ⟨fun w => run_isAgg Tryz.underlying527 w⟩
instance : Inf Tryz.prog 527 .nilFunc 1 8 := ⟨by kernel_rfl, by kernel_rfl⟩
instance : Agg Tryz.prog 528 := ⟨fun w => run_isAgg Tryz.underlying528 w⟩
instance : Inf Tryz.prog 528 (.agg #[(.string ⟨#[]⟩), (.string ⟨#[]⟩), .nilIface]) 3 48 := ⟨by kernel_rfl, by kernel_rfl⟩
instance : Str Tryz.prog 528 [(0, 1), (1, 1), (2, 1)] := ⟨⟨_, Tryz.underlying528, by kernel_rfl, by kernel_rfl⟩⟩
instance : Fld Tryz.prog 528 0 0 9 1 := ⟨⟨_, _, Tryz.underlying528, rfl, rfl, rfl, by kernel_rfl⟩⟩
instance : Fld Tryz.prog 528 1 1 9 1 := ⟨⟨_, _, Tryz.underlying528, rfl, rfl, rfl, by kernel_rfl⟩⟩
instance : Fld Tryz.prog 528 2 2 474 1 := ⟨⟨_, _, Tryz.underlying528, rfl, rfl, rfl, by kernel_rfl⟩⟩
instance : Agg Tryz.prog 529 := ⟨fun w => run_isAgg Tryz.underlying529 w⟩
instance : Inf Tryz.prog 529 (.agg #[(.string ⟨#[]⟩), (.string ⟨#[]⟩), .nilIface]) 3 48 := ⟨by kernel_rfl, by kernel_rfl⟩
instance : Str Tryz.prog 529 [(0, 1), (1, 1), (2, 1)] := ⟨⟨_, Tryz.underlying529, by kernel_rfl, by kernel_rfl⟩⟩
instance : Fld Tryz.prog 529 0 0 9 1 := ⟨⟨_, _, Tryz.underlying529, rfl, rfl, rfl, by kernel_rfl⟩⟩
instance : Fld Tryz.prog 529 1 1 9 1 := ⟨⟨_, _, Tryz.underlying529, rfl, rfl, rfl, by kernel_rfl⟩⟩
instance : Fld Tryz.prog 529 2 2 474 1 := ⟨⟨_, _, Tryz.underlying529, rfl, rfl, rfl, by kernel_rfl⟩⟩
instance : One Tryz.prog 530 := ⟨fun w => run_isAgg Tryz.underlying530 w⟩
instance : Inf Tryz.prog 530 .nilFunc 1 8 := ⟨by kernel_rfl, by kernel_rfl⟩
instance : Und Tryz.prog 531 (.pointer 5) := ⟨Tryz.underlying531⟩
instance : Inf Tryz.prog 531 (.pointer none) 1 8 := ⟨by kernel_rfl, by kernel_rfl⟩
instance : Und Tryz.prog 532 (.pointer 534) := ⟨Tryz.underlying532⟩
instance : Inf Tryz.prog 532 (.pointer none) 1 8 := ⟨by kernel_rfl, by kernel_rfl⟩
instance : Agg Tryz.prog 533 := ⟨fun w => run_isAgg Tryz.underlying533 w⟩
instance : Inf Tryz.prog 533 (.agg #[(.string ⟨#[]⟩)]) 1 16 := ⟨by kernel_rfl, by kernel_rfl⟩
instance : Str Tryz.prog 533 [(0, 1)] := ⟨⟨_, Tryz.underlying533, by kernel_rfl, by kernel_rfl⟩⟩
instance : Fld Tryz.prog 533 0 0 9 1 := ⟨⟨_, _, Tryz.underlying533, rfl, rfl, rfl, by kernel_rfl⟩⟩
instance : Agg Tryz.prog 534 := ⟨fun w => run_isAgg Tryz.underlying534 w⟩
instance : Inf Tryz.prog 534 (.agg #[(.string ⟨#[]⟩)]) 1 16 := ⟨by kernel_rfl, by kernel_rfl⟩
instance : Str Tryz.prog 534 [(0, 1)] := ⟨⟨_, Tryz.underlying534, by kernel_rfl, by kernel_rfl⟩⟩
instance : Fld Tryz.prog 534 0 0 9 1 := ⟨⟨_, _, Tryz.underlying534, rfl, rfl, rfl, by kernel_rfl⟩⟩
instance : Und Tryz.prog 535 (.array 256 5) := ⟨Tryz.underlying535⟩
instance : Agg Tryz.prog 536 := ⟨fun w => run_isAgg Tryz.underlying536 w⟩
instance : Inf Tryz.prog 536 (.agg #[(.int .u8 0), (.int .u8 0)]) 2 2 := ⟨by kernel_rfl, by kernel_rfl⟩
instance : Str Tryz.prog 536 [(0, 1), (1, 1)] := ⟨⟨_, Tryz.underlying536, by kernel_rfl, by kernel_rfl⟩⟩
instance : Fld Tryz.prog 536 0 0 5 1 := ⟨⟨_, _, Tryz.underlying536, rfl, rfl, rfl, by kernel_rfl⟩⟩
instance : Fld Tryz.prog 536 1 1 5 1 := ⟨⟨_, _, Tryz.underlying536, rfl, rfl, rfl, by kernel_rfl⟩⟩
instance : Agg Tryz.prog 537 := ⟨fun w => run_isAgg Tryz.underlying537 w⟩
instance : Inf Tryz.prog 537 (.agg #[(.int .u8 0), (.int .u8 0)]) 2 2 := ⟨by kernel_rfl, by kernel_rfl⟩
instance : Str Tryz.prog 537 [(0, 1), (1, 1)] := ⟨⟨_, Tryz.underlying537, by kernel_rfl, by kernel_rfl⟩⟩
instance : Fld Tryz.prog 537 0 0 5 1 := ⟨⟨_, _, Tryz.underlying537, rfl, rfl, rfl, by kernel_rfl⟩⟩
instance : Fld Tryz.prog 537 1 1 5 1 := ⟨⟨_, _, Tryz.underlying537, rfl, rfl, rfl, by kernel_rfl⟩⟩
instance : Und Tryz.prog 538 (.array 16 537) := ⟨Tryz.underlying538⟩
instance : Inf Tryz.prog 538 (.agg (List.replicate 32 (.int .u8 0)).toArray) 32 32 := ⟨by kernel_rfl, by kernel_rfl⟩
instance : One Tryz.prog 540 := ⟨fun w => run_isAgg Tryz.underlying540 w⟩
instance : Inf Tryz.prog 540 .nilFunc 1 8 := ⟨by kernel_rfl, by kernel_rfl⟩
instance : One Tryz.prog 541 := ⟨fun w => run_isAgg Tryz.underlying541 w⟩
instance : Inf Tryz.prog 541 .nilFunc 1 8 := ⟨by kernel_rfl, by kernel_rfl⟩
instance : Agg Tryz.prog 542 := ⟨fun w => run_isAgg Tryz.underlying542 w⟩
instance : Inf Tryz.prog 542 (.agg #[(.pointer none), (.pointer none), (.pointer none), (.string ⟨#[]⟩)]) 4 40 := ⟨by kernel_rfl, by kernel_rfl⟩
instance : Str Tryz.prog 542 [(0, 1), (1, 1), (2, 1), (3, 1)] := ⟨⟨_, Tryz.underlying542, by kernel_rfl, by kernel_rfl⟩⟩
instance : Fld Tryz.prog 542 0 0 17 1 := ⟨⟨_, _, Tryz.underlying542, rfl, rfl, rfl, by kernel_rfl⟩⟩
instance : Fld Tryz.prog 542 1 1 17 1 := ⟨⟨_, _, Tryz.underlying542, rfl, rfl, rfl, by kernel_rfl⟩⟩
instance : Fld Tryz.prog 542 2 2 17 1 := ⟨⟨_, _, Tryz.underlying542, rfl, rfl, rfl, by kernel_rfl⟩⟩
instance : Fld Tryz.prog 542 3 3 9 1 := ⟨⟨_, _, Tryz.underlying542, rfl, rfl, rfl, by kernel_rfl⟩⟩
instance : Agg Tryz.prog 543 := ⟨fun w => run_isAgg Tryz.underlying543 w⟩
instance : Inf Tryz.prog 543 (.agg #[(.pointer none), (.pointer none), (.pointer none), (.string ⟨#[]⟩)]) 4 40 := ⟨by kernel_rfl, by kernel_rfl⟩
instance : Str Tryz.prog 543 [(0, 1), (1, 1), (2, 1), (3, 1)] := ⟨⟨_, Tryz.underlying543, by kernel_rfl, by kernel_rfl⟩⟩
instance : Fld Tryz.prog 543 0 0 17 1 := ⟨⟨_, _, Tryz.underlying543, rfl, rfl, rfl, by kernel_rfl⟩⟩
instance : Fld Tryz.prog 543 1 1 17 1 := ⟨⟨_, _, Tryz.underlying543, rfl, rfl, rfl, by kernel_rfl⟩⟩
instance : Fld Tryz.prog 543 2 2 17 1 := ⟨⟨_, _, Tryz.underlying543, rfl, rfl, rfl, by kernel_rfl⟩⟩
instance : Fld Tryz.prog 543 3 3 9 1 := ⟨⟨_, _, Tryz.underlying543, rfl, rfl, rfl, by kernel_rfl⟩⟩
instance : Und Tryz.prog 544 (.array 0 16) := ⟨Tryz.underlying544⟩
instance : Inf Tryz.prog 544 (.agg #[]) 0 0 := ⟨by kernel_rfl, by kernel_rfl⟩
instance : Agg Tryz.prog 545 := ⟨fun w => run_isAgg Tryz.underlying545 w⟩
instance : Inf Tryz.prog 545 (.agg #[]) 0 0 := ⟨by kernel_rfl, by kernel_rfl⟩
instance : Str Tryz.prog 545 [(0, 0)] := ⟨⟨_, Tryz.underlying545, by kernel_rfl, by kernel_rfl⟩⟩
instance : Agg Tryz.prog 546 := ⟨fun w => run_isAgg Tryz.underlying546 w⟩
instance : Inf Tryz.prog 546 (.agg #[]) 0 0 := ⟨by kernel_rfl, by kernel_rfl⟩
instance : Str Tryz.prog 546 [(0, 0)] := ⟨⟨_, Tryz.underlying546, by kernel_rfl, by kernel_rfl⟩⟩
instance : Und Tryz.prog 547 (.int .u8) := ⟨Tryz.underlying547⟩
instance : Inf Tryz.prog 547 (.int .u8 0) 1 1 := ⟨by kernel_rfl, by kernel_rfl⟩
instance : Und Tryz.prog 548 (.int .u8) := ⟨Tryz.underlying548⟩
instance : Inf Tryz.prog 548 (.int .u8 0) 1 1 := ⟨by kernel_rfl, by kernel_rfl⟩
instance : One Tryz.prog 549 := ⟨fun w => run_isAgg Tryz.underlying549 w⟩
instance : Inf Tryz.prog 549 .nilFunc 1 8 := ⟨by kernel_rfl, by kernel_rfl⟩
instance : Und Tryz.prog 550 (.int .i32) := ⟨Tryz.underlying550⟩
instance : Inf Tryz.prog 550 (.int .i32 0) 1 4 := ⟨by kernel_rfl, by kernel_rfl⟩
instance : Und Tryz.prog 551 (.int .i32) := ⟨Tryz.underlying551⟩
instance : Inf Tryz.prog 551 (.int .i32 0) 1 4 := ⟨by kernel_rfl, by kernel_rfl⟩
instance : Agg Tryz.prog 552 := ⟨fun w => run_isAgg Tryz.underlying552 w⟩
instance : Inf Tryz.prog 552 (.agg #[(.int .u64 0), (.int .u64 0), (.int .u32 0), (.int .u8 0), (.int .u8 0), (.int .u8 0), (.int .u8 0), .nilFunc, (.pointer none), (.int .i32 0), (.int .i32 0)]) 11 48 := ⟨by kernel_rfl, by kernel_rfl⟩
instance : Str Tryz.prog 552 [(0, 1), (1, 1), (2, 1), (3, 1), (4, 1), (5, 1), (6, 1), (7, 1), (8, 1), (9, 1), (10, 1)] := ⟨⟨_, Tryz.underlying552, by kernel_rfl, by kernel_rfl⟩⟩
instance : Fld Tryz.prog 552 0 0 12 1 := ⟨⟨_, _, Tryz.underlying552, rfl, rfl, rfl, by kernel_rfl⟩⟩
instance : Fld Tryz.prog 552 1 1 12 1 := ⟨⟨_, _, Tryz.underlying552, rfl, rfl, rfl, by kernel_rfl⟩⟩
instance : Fld Tryz.prog 552 2 2 230 1 := ⟨⟨_, _, Tryz.underlying552, rfl, rfl, rfl, by kernel_rfl⟩⟩
instance : Fld Tryz.prog 552 3 3 547 1 := ⟨⟨_, _, Tryz.underlying552, rfl, rfl, rfl, by kernel_rfl⟩⟩
instance : Fld Tryz.prog 552 4 4 5 1 := ⟨⟨_, _, Tryz.underlying552, rfl, rfl, rfl, by kernel_rfl⟩⟩
instance : Fld Tryz.prog 552 5 5 5 1 := ⟨⟨_, _, Tryz.underlying552, rfl, rfl, rfl, by kernel_rfl⟩⟩
instance : Fld Tryz.prog 552 6 6 548 1 := ⟨⟨_, _, Tryz.underlying552, rfl, rfl, rfl, by kernel_rfl⟩⟩
instance : Fld Tryz.prog 552 7 7 549 1 := ⟨⟨_, _, Tryz.underlying552, rfl, rfl, rfl, by kernel_rfl⟩⟩
instance : Fld Tryz.prog 552 8 8 531 1 := ⟨⟨_, _, Tryz.underlying552, rfl, rfl, rfl, by kernel_rfl⟩⟩
instance : Fld Tryz.prog 552 9 9 550 1 := ⟨⟨_, _, Tryz.underlying552, rfl, rfl, rfl, by kernel_rfl⟩⟩
instance : Fld Tryz.prog 552 10 10 551 1 := ⟨⟨_, _, Tryz.underlying552, rfl, rfl, rfl, by kernel_rfl⟩⟩
instance : Agg Tryz.prog 553 := ⟨fun w => run_isAgg Tryz.underlying553 w⟩
instance : Inf Tryz.prog 553 (.agg #[(.int .u64 0), (.int .u64 0), (.int .u32 0), (.int .u8 0), (.int .u8 0), (.int .u8 0), (.int .u8 0), .nilFunc, (.pointer none), (.int .i32 0), (.int .i32 0)]) 11 48 := ⟨by kernel_rfl, by kernel_rfl⟩
instance : Str Tryz.prog 553 [(0, 1), (1, 1), (2, 1), (3, 1), (4, 1), (5, 1), (6, 1), (7, 1), (8, 1), (9, 1), (10, 1)] := ⟨⟨_, Tryz.underlying553, by kernel_rfl, by kernel_rfl⟩⟩
instance : Fld Tryz.prog 553 0 0 12 1 := ⟨⟨_, _, Tryz.underlying553, rfl, rfl, rfl, by kernel_rfl⟩⟩
instance : Fld Tryz.prog 553 1 1 12 1 := ⟨⟨_, _, Tryz.underlying553, rfl, rfl, rfl, by kernel_rfl⟩⟩
instance : Fld Tryz.prog 553 2 2 230 1 := ⟨⟨_, _, Tryz.underlying553, rfl, rfl, rfl, by kernel_rfl⟩⟩
instance : Fld Tryz.prog 553 3 3 547 1 := ⟨⟨_, _, Tryz.underlying553, rfl, rfl, rfl, by kernel_rfl⟩⟩
instance : Fld Tryz.prog 553 4 4 5 1 := ⟨⟨_, _, Tryz.underlying553, rfl, rfl, rfl, by kernel_rfl⟩⟩
instance : Fld Tryz.prog 553 5 5 5 1 := ⟨⟨_, _, Tryz.underlying553, rfl, rfl, rfl, by kernel_rfl⟩⟩
instance : Fld Tryz.prog 553 6 6 548 1 := ⟨⟨_, _, Tryz.underlying553, rfl, rfl, rfl, by kernel_rfl⟩⟩
instance : Fld Tryz.prog 553 7 7 549 1 := ⟨⟨_, _, Tryz.underlying553, rfl, rfl, rfl, by kernel_rfl⟩⟩
instance : Fld Tryz.prog 553 8 8 531 1 := ⟨⟨_, _, Tryz.underlying553, rfl, rfl, rfl, by kernel_rfl⟩⟩
instance : Fld Tryz.prog 553 9 9 550 1 := ⟨⟨_, _, Tryz.underlying553, rfl, rfl, rfl, by kernel_rfl⟩⟩
instance : Fld Tryz.prog 553 10 10 551 1 := ⟨⟨_, _, Tryz.underlying553, rfl, rfl, rfl, by kernel_rfl⟩⟩
instance : Fun Tryz.prog 3 := Fun.mk' Tryz.func3 (by kernel_rfl) (by kernel_rfl)
instance : Fun Tryz.prog 4 := Fun.mk' Tryz.func4 (by kernel_rfl) (by kernel_rfl)
instance : Fun Tryz.prog 5 := Fun.mk' Tryz.func5 (by kernel_rfl) (by kernel_rfl)
instance : Fun Tryz.prog 6 := Fun.mk' Tryz.func6 (by kernel_rfl) (by kernel_rfl)
instance : Fun Tryz.prog 7 := Fun.mk' Tryz.func7 (by kernel_rfl) (by kernel_rfl)
instance : Fun Tryz.prog 8 := Fun.mk' Tryz.func8 (by kernel_rfl) (by kernel_rfl)
instance : Fun Tryz.prog 9 := Fun.mk' Tryz.func9 (by kernel_rfl) (by kernel_rfl)
instance : Fun Tryz.prog 10 := Fun.mk' Tryz.func10 (by kernel_rfl) (by kernel_rfl)
instance : Fun Tryz.prog 11 := Fun.mk' Tryz.func11 (by kernel_rfl) (by kernel_rfl)
instance : Fun Tryz.prog 12 := Fun.mk' Tryz.func12 (by kernel_rfl) (by kernel_rfl)
instance : Fun Tryz.prog 13 := Fun.mk' Tryz.func13 (by kernel_rfl) (by kernel_rfl)
instance : Fun Tryz.prog 14 := Fun.mk' Tryz.func14 (by kernel_rfl) (by kernel_rfl)
instance : Fun Tryz.prog 15 := Fun.mk' Tryz.func15 (by kernel_rfl) (by kernel_rfl)
instance : Fun Tryz.prog 16 := Fun.mk' Tryz.func16 (by kernel_rfl) (by kernel_rfl)
instance : Fun Tryz.prog 17 := Fun.mk' Tryz.func17 (by kernel_rfl) (by kernel_rfl)
instance : Fun Tryz.prog 18 := Fun.mk' Tryz.func18 (by kernel_rfl) (by kernel_rfl)
instance : Fun Tryz.prog 19 := Fun.mk' Tryz.func19 (by kernel_rfl) (by kernel_rfl)
instance : Fun Tryz.prog 20 := Fun.mk' Tryz.func20 (by kernel_rfl) (by kernel_rfl)
instance : Fun Tryz.prog 21 := Fun.mk' Tryz.func21 (by kernel_rfl) (by kernel_rfl)
instance : Fun Tryz.prog 22 := Fun.mk' Tryz.func22 (by kernel_rfl) (by kernel_rfl)
instance : Fun Tryz.prog 23 := Fun.mk' Tryz.func23 (by kernel_rfl) (by kernel_rfl)
instance : Fun Tryz.prog 24 := Fun.mk' Tryz.func24 (by kernel_rfl) (by kernel_rfl)
instance : Fun Tryz.prog 25 := Fun.mk' Tryz.func25 (by kernel_rfl) (by kernel_rfl)
instance : Fun Tryz.prog 26 := Fun.mk' Tryz.func26 (by kernel_rfl) (by kernel_rfl)
instance : Fun Tryz.prog 27 := Fun.mk' Tryz.func27 (by kernel_rfl) (by kernel_rfl)
instance : Fun Tryz.prog 28 := Fun.mk' Tryz.func28 (by kernel_rfl) (by kernel_rfl)
instance : Fun Tryz.prog 29 := Fun.mk' Tryz.func29 (by kernel_rfl) (by kernel_rfl)
instance : Fun Tryz.prog 30 := Fun.mk' Tryz.func30 (by kernel_rfl) (by kernel_rfl)
instance : Fun Tryz.prog 31 := Fun.mk' Tryz.func31 (by kernel_rfl) (by kernel_rfl)
instance : Fun Tryz.prog 32 := Fun.mk' Tryz.func32 (by kernel_rfl) (by kernel_rfl)
instance : Fun Tryz.prog 33 := Fun.mk' Tryz.func33 (by kernel_rfl) (by kernel_rfl)
instance : Fun Tryz.prog 34 := Fun.mk' Tryz.func34 (by kernel_rfl) (by kernel_rfl)
instance : Fun Tryz.prog 35 := Fun.mk' Tryz.func35 (by kernel_rfl) (by kernel_rfl)
instance : Fun Tryz.prog 36 := Fun.mk' Tryz.func36 (by kernel_rfl) (by kernel_rfl)
instance : Fun Tryz.prog 37 := Fun.mk' Tryz.func37 (by kernel_rfl) (by kernel_rfl)
instance : Fun Tryz.prog 38 := Fun.mk' Tryz.func38 (by kernel_rfl) (by kernel_rfl)
instance : Fun Tryz.prog 39 := Fun.mk' Tryz.func39 (by kernel_rfl) (by kernel_rfl)
instance : Fun Tryz.prog 40 := Fun.mk' Tryz.func40 (by kernel_rfl) (by kernel_rfl)
instance : Fun Tryz.prog 41 := Fun.mk' Tryz.func41 (by kernel_rfl) (by kernel_rfl)
instance : Fun Tryz.prog 42 := Fun.mk' Tryz.func42 (by kernel_rfl) (by kernel_rfl)
instance : Fun Tryz.prog 43 := Fun.mk' Tryz.func43 (by kernel_rfl) (by kernel_rfl)
instance : Fun Tryz.prog 44 := Fun.mk' Tryz.func44 (by kernel_rfl) (by kernel_rfl)
instance : Fun Tryz.prog 45 := Fun.mk' Tryz.func45 (by kernel_rfl) (by kernel_rfl)
instance : Fun Tryz.prog 46 := Fun.mk' Tryz.func46 (by kernel_rfl) (by kernel_rfl)
instance : Fun Tryz.prog 47 := Fun.mk' Tryz.func47 (by kernel_rfl) (by kernel_rfl)
instance : Fun Tryz.prog 48 := Fun.mk' Tryz.func48 (by kernel_rfl) (by kernel_rfl)
instance : Fun Tryz.prog 49 := Fun.mk' Tryz.func49 (by kernel_rfl) (by kernel_rfl)
instance : Fun Tryz.prog 50 := Fun.mk' Tryz.func50 (by kernel_rfl) (by kernel_rfl)
instance : Fun Tryz.prog 51 := Fun.mk' Tryz.func51 (by kernel_rfl) (by kernel_rfl)
instance : Fun Tryz.prog 52 := Fun.mk' Tryz.func52 (by kernel_rfl) (by kernel_rfl)
instance : Fun Tryz.prog 53 := Fun.mk' Tryz.func53 (by kernel_rfl) (by kernel_rfl)
instance : Fun Tryz.prog 54 := Fun.mk' Tryz.func54 (by kernel_rfl) (by kernel_rfl)
instance : Fun Tryz.prog 55 := Fun.mk' Tryz.func55 (by kernel_rfl) (by kernel_rfl)
instance : Fun Tryz.prog 56 := Fun.mk' Tryz.func56 (by kernel_rfl) (by kernel_rfl)
instance : Fun Tryz.prog 57 := Fun.mk' Tryz.func57 (by kernel_rfl) (by kernel_rfl)
instance : Fun Tryz.prog 58 := Fun.mk' Tryz.func58 (by kernel_rfl) (by kernel_rfl)
instance : Fun Tryz.prog 59 := Fun.mk' Tryz.func59 (by kernel_rfl) (by kernel_rfl)
instance : Fun Tryz.prog 60 := Fun.mk' Tryz.func60 (by kernel_rfl) (by kernel_rfl)
instance : Fun Tryz.prog 61 := Fun.mk' Tryz.func61 (by kernel_rfl) (by kernel_rfl)
instance : Fun Tryz.prog 62 := Fun.mk' Tryz.func62 (by kernel_rfl) (by kernel_rfl)
instance : Fun Tryz.prog 63 := Fun.mk' Tryz.func63 (by kernel_rfl) (by kernel_rfl)
instance : Fun Tryz.prog 64 := Fun.mk' Tryz.func64 (by kernel_rfl) (by kernel_rfl)
instance : Fun Tryz.prog 65 := Fun.mk' Tryz.func65 (by kernel_rfl) (by kernel_rfl)
instance : Fun Tryz.prog 66 := Fun.mk' Tryz.func66 (by kernel_rfl) (by kernel_rfl)
instance : Fun Tryz.prog 67 := Fun.mk' Tryz.func67 (by kernel_rfl) (by kernel_rfl)
instance : Fun Tryz.prog 68 := Fun.mk' Tryz.func68 (by kernel_rfl) (by kernel_rfl)
instance : Fun Tryz.prog 69 := Fun.mk' Tryz.func69 (by kernel_rfl) (by kernel_rfl)
instance : Fun Tryz.prog 70 := Fun.mk' Tryz.func70 (by kernel_rfl) (by kernel_rfl)
instance : Fun Tryz.prog 71 := Fun.mk' Tryz.func71 (by kernel_rfl) (by kernel_rfl)
instance : Fun Tryz.prog 72 := Fun.mk' Tryz.func72 (by kernel_rfl) (by kernel_rfl)
instance : Fun Tryz.prog 73 := Fun.mk' Tryz.func73 (by kernel_rfl) (by kernel_rfl)
instance : Fun Tryz.prog 74 := Fun.mk' Tryz.func74 (by kernel_rfl) (by kernel_rfl)
instance : Fun Tryz.prog 75 := Fun.mk' Tryz.func75 (by kernel_rfl) (by kernel_rfl)
instance : Fun Tryz.prog 76 := Fun.mk' Tryz.func76 (by kernel_rfl) (by kernel_rfl)
instance : Fun Tryz.prog 77 := Fun.mk' Tryz.func77 (by kernel_rfl) (by kernel_rfl)
instance : Fun Tryz.prog 78 := Fun.mk' Tryz.func78 (by kernel_rfl) (by kernel_rfl)
instance : Fun Tryz.prog 79 := Fun.mk' Tryz.func79 (by kernel_rfl) (by kernel_rfl)
instance : Fun Tryz.prog 80 := Fun.mk' Tryz.func80 (by kernel_rfl) (by kernel_rfl)
instance : Fun Tryz.prog 81 := Fun.mk' Tryz.func81 (by kernel_rfl) (by kernel_rfl)
instance : Fun Tryz.prog 82 := Fun.mk' Tryz.func82 (by kernel_rfl) (by kernel_rfl)
instance : Fun Tryz.prog 83 := Fun.mk' Tryz.func83 (by kernel_rfl) (by kernel_rfl)
instance : Fun Tryz.prog 84 := Fun.mk' Tryz.func84 (by kernel_rfl) (by kernel_rfl)
instance : Fun Tryz.prog 85 := Fun.mk' Tryz.func85 (by kernel_rfl) (by kernel_rfl)
instance : Fun Tryz.prog 86 := Fun.mk' Tryz.func86 (by kernel_rfl) (by kernel_rfl)
instance : Fun Tryz.prog 87 := Fun.mk' Tryz.func87 (by kernel_rfl) (by kernel_rfl)
instance : Fun Tryz.prog 88 := Fun.mk' Tryz.func88 (by kernel_rfl) (by kernel_rfl)
instance : Fun Tryz.prog 89 := Fun.mk' Tryz.func89 (by kernel_rfl) (by kernel_rfl)
instance : Fun Tryz.prog 90 := Fun.mk' Tryz.func90 (by kernel_rfl) (by kernel_rfl)
instance : Fun Tryz.prog 91 := Fun.mk' Tryz.func91 (by kernel_rfl) (by kernel_rfl)
instance : Fun Tryz.prog 92 := Fun.mk' Tryz.func92 (by kernel_rfl) (by kernel_rfl)
instance : Fun Tryz.prog 93 := Fun.mk' Tryz.func93 (by kernel_rfl) (by kernel_rfl)
instance : Fun Tryz.prog 94 := Fun.mk' Tryz.func94 (by kernel_rfl) (by kernel_rfl)
instance : Fun Tryz.prog 95 := Fun.mk' Tryz.func95 (by kernel_rfl) (by kernel_rfl)
instance : Fun Tryz.prog 96 := Fun.mk' Tryz.func96 (by kernel_rfl) (by kernel_rfl)
instance : Fun Tryz.prog 97 := Fun.mk' Tryz.func97 (by kernel_rfl) (by kernel_rfl)
instance : Fun Tryz.prog 98 := Fun.mk' Tryz.func98 (by kernel_rfl) (by kernel_rfl)
instance : Fun Tryz.prog 99 := Fun.mk' Tryz.func99 (by kernel_rfl) (by kernel_rfl)
instance : Fun Tryz.prog 100 := Fun.mk' Tryz.func100 (by kernel_rfl) (by kernel_rfl)
instance : Fun Tryz.prog 101 := Fun.mk' Tryz.func101 (by kernel_rfl) (by kernel_rfl)
instance : Fun Tryz.prog 102 := Fun.mk' Tryz.func102 (by kernel_rfl) (by kernel_rfl)
instance : Fun Tryz.prog 103 := Fun.mk' Tryz.func103 (by kernel_rfl) (by kernel_rfl)
instance : Fun Tryz.prog 104 := Fun.mk' Tryz.func104 (by kernel_rfl) (by kernel_rfl)
instance : Fun Tryz.prog 105 := Fun.mk' Tryz.func105 (by kernel_rfl) (by kernel_rfl)
instance : Fun Tryz.prog 106 := Fun.mk' Tryz.func106 (by kernel_rfl) (by kernel_rfl)
instance : Fun Tryz.prog 107 := Fun.mk' Tryz.func107 (by kernel_rfl) (by kernel_rfl)
instance : Fun Tryz.prog 108 := Fun.mk' Tryz.func108 (by kernel_rfl) (by kernel_rfl)
instance : Fun Tryz.prog 109 := Fun.mk' Tryz.func109 (by kernel_rfl) (by kernel_rfl)
instance : Fun Tryz.prog 110 := Fun.mk' Tryz.func110 (by kernel_rfl) (by kernel_rfl)
instance : Fun Tryz.prog 111 := Fun.mk' Tryz.func111 (by kernel_rfl) (by kernel_rfl)
instance : Fun Tryz.prog 112 := Fun.mk' Tryz.func112 (by kernel_rfl) (by kernel_rfl)
instance : Fun Tryz.prog 113 := Fun.mk' Tryz.func113 (by kernel_rfl) (by kernel_rfl)
instance : Fun Tryz.prog 114 := Fun.mk' Tryz.func114 (by kernel_rfl) (by kernel_rfl)
instance : Fun Tryz.prog 115 := Fun.mk' Tryz.func115 (by kernel_rfl) (by kernel_rfl)
instance : Fun Tryz.prog 116 := Fun.mk' Tryz.func116 (by kernel_rfl) (by kernel_rfl)
instance : Fun Tryz.prog 117 := Fun.mk' Tryz.func117 (by kernel_rfl) (by kernel_rfl)
instance : Fun Tryz.prog 118 := Fun.mk' Tryz.func118 (by kernel_rfl) (by kernel_rfl)
instance : Fun Tryz.prog 119 := Fun.mk' Tryz.func119 (by kernel_rfl) (by kernel_rfl)
instance : Fun Tryz.prog 120 := Fun.mk' Tryz.func120 (by kernel_rfl) (by kernel_rfl)
instance : Fun Tryz.prog 121 := Fun.mk' Tryz.func121 (by kernel_rfl) (by kernel_rfl)
instance : Fun Tryz.prog 122 := Fun.mk' Tryz.func122 (by kernel_rfl) (by kernel_rfl)
instance : Fun Tryz.prog 123 := Fun.mk' Tryz.func123 (by kernel_rfl) (by kernel_rfl)
instance : Fun Tryz.prog 124 := Fun.mk' Tryz.func124 (by kernel_rfl) (by kernel_rfl)
instance : Fun Tryz.prog 125 := Fun.mk' Tryz.func125 (by kernel_rfl) (by kernel_rfl)
instance : Fun Tryz.prog 126 := Fun.mk' Tryz.func126 (by kernel_rfl) (by kernel_rfl)
instance : Fun Tryz.prog 127 := Fun.mk' Tryz.func127 (by kernel_rfl) (by kernel_rfl)
instance : Fun Tryz.prog 128 := Fun.mk' Tryz.func128 (by kernel_rfl) (by kernel_rfl)
instance : Fun Tryz.prog 129 := Fun.mk' Tryz.func129 (by kernel_rfl) (by kernel_rfl)
instance : Fun Tryz.prog 130 := Fun.mk' Tryz.func130 (by kernel_rfl) (by kernel_rfl)
instance : Fun Tryz.prog 131 := Fun.mk' Tryz.func131 (by kernel_rfl) (by kernel_rfl)
instance : Fun Tryz.prog 132 := Fun.mk' Tryz.func132 (by kernel_rfl) (by kernel_rfl)
instance : Fun Tryz.prog 133 := Fun.mk' Tryz.func133 (by kernel_rfl) (by kernel_rfl)
instance : Fun Tryz.prog 134 := Fun.mk' Tryz.func134 (by kernel_rfl) (by kernel_rfl)
instance : Fun Tryz.prog 135 := Fun.mk' Tryz.func135 (by kernel_rfl) (by kernel_rfl)
instance : Fun Tryz.prog 136 := Fun.mk' Tryz.func136 (by kernel_rfl) (by kernel_rfl)
instance : Fun Tryz.prog 137 := Fun.mk' Tryz.func137 (by kernel_rfl) (by kernel_rfl)
instance : Fun Tryz.prog 138 := Fun.mk' Tryz.func138 (by kernel_rfl) (by kernel_rfl)
instance : Fun Tryz.prog 139 := Fun.mk' Tryz.func139 (by kernel_rfl) (by kernel_rfl)
instance : Fun Tryz.prog 140 := Fun.mk' Tryz.func140 (by kernel_rfl) (by kernel_rfl)
instance : Fun Tryz.prog 141 := Fun.mk' Tryz.func141 (by kernel_rfl) (by kernel_rfl)
instance : Fun Tryz.prog 142 := Fun.mk' Tryz.func142 (by kernel_rfl) (by kernel_rfl)
instance : Fun Tryz.prog 143 := Fun.mk' Tryz.func143 (by kernel_rfl) (by kernel_rfl)
instance : Fun Tryz.prog 144 := Fun.mk' Tryz.func144 (by kernel_rfl) (by kernel_rfl)
instance : Fun Tryz.prog 145 := Fun.mk' Tryz.func145 (by kernel_rfl) (by kernel_rfl)
instance : Fun Tryz.prog 146 := Fun.mk' Tryz.func146 (by kernel_rfl) (by kernel_rfl)
instance : Fun Tryz.prog 147 := Fun.mk' Tryz.func147 (by kernel_rfl) (by kernel_rfl)
instance : Fun Tryz.prog 148 := Fun.mk' Tryz.func148 (by kernel_rfl) (by kernel_rfl)
instance : Fun Tryz.prog 149 := Fun.mk' Tryz.func149 (by kernel_rfl) (by kernel_rfl)
instance : Fun Tryz.prog 150 := Fun.mk' Tryz.func150 (by kernel_rfl) (by kernel_rfl)
instance : Fun Tryz.prog 151 := Fun.mk' Tryz.func151 (by kernel_rfl) (by kernel_rfl)
instance : Fun Tryz.prog 152 := Fun.mk' Tryz.func152 (by kernel_rfl) (by kernel_rfl)
instance : Fun Tryz.prog 153 := Fun.mk' Tryz.func153 (by kernel_rfl) (by kernel_rfl)
instance : Fun Tryz.prog 154 := Fun.mk' Tryz.func154 (by kernel_rfl) (by kernel_rfl)
instance : Fun Tryz.prog 155 := Fun.mk' Tryz.func155 (by kernel_rfl) (by kernel_rfl)
instance : Fun Tryz.prog 156 := Fun.mk' Tryz.func156 (by kernel_rfl) (by kernel_rfl)
instance : Fun Tryz.prog 157 := Fun.mk' Tryz.func157 (by kernel_rfl) (by kernel_rfl)
instance : Fun Tryz.prog 158 := Fun.mk' Tryz.func158 (by kernel_rfl) (by kernel_rfl)
instance : Fun Tryz.prog 159 := Fun.mk' Tryz.func159 (by kernel_rfl) (by kernel_rfl)
instance : Fun Tryz.prog 160 := Fun.mk' Tryz.func160 (by kernel_rfl) (by kernel_rfl)
instance : Fun Tryz.prog 161 := Fun.mk' Tryz.func161 (by kernel_rfl) (by kernel_rfl)
instance : Fun Tryz.prog 162 := Fun.mk' Tryz.func162 (by kernel_rfl) (by kernel_rfl)
instance : Fun Tryz.prog 163 := Fun.mk' Tryz.func163 (by kernel_rfl) (by kernel_rfl)
instance : Fun Tryz.prog 164 := Fun.mk' Tryz.func164 (by kernel_rfl) (by kernel_rfl)
instance : Fun Tryz.prog 165 := Fun.mk' Tryz.func165 (by kernel_rfl) (by kernel_rfl)
instance : Fun Tryz.prog 166 := Fun.mk' Tryz.func166 (by kernel_rfl) (by kernel_rfl)
instance : Fun Tryz.prog 167 := Fun.mk' Tryz.func167 (by kernel_rfl) (by kernel_rfl)
instance : Fun Tryz.prog 169 := Fun.mk' Tryz.func169 (by kernel_rfl) (by kernel_rfl)
instance : Fun Tryz.prog 170 := Fun.mk' Tryz.func170 (by kernel_rfl) (by kernel_rfl)
instance : Fun Tryz.prog 171 := Fun.mk' Tryz.func171 (by kernel_rfl) (by kernel_rfl)
instance : Fun Tryz.prog 172 := Fun.mk' Tryz.func172 (by kernel_rfl) (by kernel_rfl)
instance : Fun Tryz.prog 173 := Fun.mk' Tryz.func173 (by kernel_rfl) (by kernel_rfl)
instance : Fun Tryz.prog 174 := Fun.mk' Tryz.func174 (by kernel_rfl) (by kernel_rfl)
instance : Fun Tryz.prog 175 := Fun.mk' Tryz.func175 (by kernel_rfl) (by kernel_rfl)
instance : Fun Tryz.prog 176 := Fun.mk' Tryz.func176 (by kernel_rfl) (by kernel_rfl)
instance : Fun Tryz.prog 177 := Fun.mk' Tryz.func177 (by kernel_rfl) (by kernel_rfl)
instance : Fun Tryz.prog 178 := Fun.mk' Tryz.func178 (by kernel_rfl) (by kernel_rfl)
instance : Fun Tryz.prog 179 := Fun.mk' Tryz.func179 (by kernel_rfl) (by kernel_rfl)
instance : Fun Tryz.prog 180 := Fun.mk' Tryz.func180 (by kernel_rfl) (by kernel_rfl)
instance : Fun Tryz.prog 181 := Fun.mk' Tryz.func181 (by kernel_rfl) (by kernel_rfl)
instance : Fun Tryz.prog 182 := Fun.mk' Tryz.func182 (by kernel_rfl) (by kernel_rfl)
instance : Fun Tryz.prog 183 := Fun.mk' Tryz.func183 (by kernel_rfl) (by kernel_rfl)
instance : Fun Tryz.prog 184 := Fun.mk' Tryz.func184 (by kernel_rfl) (by kernel_rfl)
instance : Fun Tryz.prog 185 := Fun.mk' Tryz.func185 (by kernel_rfl) (by kernel_rfl)
instance : Fun Tryz.prog 186 := Fun.mk' Tryz.func186 (by kernel_rfl) (by kernel_rfl)
instance : Fun Tryz.prog 187 := Fun.mk' Tryz.func187 (by kernel_rfl) (by kernel_rfl)
instance : Fun Tryz.prog 188 := Fun.mk' Tryz.func188 (by kernel_rfl) (by kernel_rfl)
instance : Fun Tryz.prog 189 := Fun.mk' Tryz.func189 (by kernel_rfl) (by kernel_rfl)
instance : Fun Tryz.prog 190 := Fun.mk' Tryz.func190 (by kernel_rfl) (by kernel_rfl)
instance : Fun Tryz.prog 191 := Fun.mk' Tryz.func191 (by kernel_rfl) (by kernel_rfl)
instance : Fun Tryz.prog 192 := Fun.mk' Tryz.func192 (by kernel_rfl) (by kernel_rfl)
instance : Fun Tryz.prog 193 := Fun.mk' Tryz.func193 (by kernel_rfl) (by kernel_rfl)
instance : Fun Tryz.prog 194 := Fun.mk' Tryz.func194 (by kernel_rfl) (by kernel_rfl)
instance : Fun Tryz.prog 195 := Fun.mk' Tryz.func195 (by kernel_rfl) (by kernel_rfl)
instance : Fun Tryz.prog 196 := Fun.mk' Tryz.func196 (by kernel_rfl) (by kernel_rfl)
instance : Fun Tryz.prog 197 := Fun.mk' Tryz.func197 (by kernel_rfl) (by kernel_rfl)
instance : Fun Tryz.prog 198 := Fun.mk' Tryz.func198 (by kernel_rfl) (by kernel_rfl)
instance : Fun Tryz.prog 199 := Fun.mk' Tryz.func199 (by kernel_rfl) (by kernel_rfl)
instance : Fun Tryz.prog 200 := Fun.mk' Tryz.func200 (by kernel_rfl) (by kernel_rfl)
instance : ELoad Tryz.prog 201 .i64 := ⟨fun hc => run_call_load Tryz.func201 (by kernel_rfl) (by kernel_rfl) (by kernel_rfl) .i64 (by kernel_rfl) hc⟩
instance : Fun Tryz.prog 202 := Fun.mk' Tryz.func202 (by kernel_rfl) (by kernel_rfl)
instance : Fun Tryz.prog 203 := Fun.mk' Tryz.func203 (by kernel_rfl) (by kernel_rfl)
instance : Fun Tryz.prog 204 := Fun.mk' Tryz.func204 (by kernel_rfl) (by kernel_rfl)
instance : Fun Tryz.prog 205 := Fun.mk' Tryz.func205 (by kernel_rfl) (by kernel_rfl)
instance : Fun Tryz.prog 206 := Fun.mk' Tryz.func206 (by kernel_rfl) (by kernel_rfl)
instance : Fun Tryz.prog 207 := Fun.mk' Tryz.func207 (by kernel_rfl) (by kernel_rfl)
instance : Fun Tryz.prog 208 := Fun.mk' Tryz.func208 (by kernel_rfl) (by kernel_rfl)
instance : Fun Tryz.prog 209 := Fun.mk' Tryz.func209 (by kernel_rfl) (by kernel_rfl)
instance : Fun Tryz.prog 210 := Fun.mk' Tryz.func210 (by kernel_rfl) (by kernel_rfl)
instance : Fun Tryz.prog 211 := Fun.mk' Tryz.func211 (by kernel_rfl) (by kernel_rfl)
instance : Fun Tryz.prog 212 := Fun.mk' Tryz.func212 (by kernel_rfl) (by kernel_rfl)
instance : Fun Tryz.prog 213 := Fun.mk' Tryz.func213 (by kernel_rfl) (by kernel_rfl)
instance : Fun Tryz.prog 214 := Fun.mk' Tryz.func214 (by kernel_rfl) (by kernel_rfl)
instance : Fun Tryz.prog 215 := Fun.mk' Tryz.func215 (by kernel_rfl) (by kernel_rfl)
instance : Fun Tryz.prog 216 := Fun.mk' Tryz.func216 (by kernel_rfl) (by kernel_rfl)
instance : Fun Tryz.prog 217 := Fun.mk' Tryz.func217 (by kernel_rfl) (by kernel_rfl)
instance : Fun Tryz.prog 218 := Fun.mk' Tryz.func218 (by kernel_rfl) (by kernel_rfl)
instance : Fun Tryz.prog 219 := Fun.mk' Tryz.func219 (by kernel_rfl) (by kernel_rfl)
instance : Fun Tryz.prog 220 := Fun.mk' Tryz.func220 (by kernel_rfl) (by kernel_rfl)
instance : Fun Tryz.prog 221 := Fun.mk' Tryz.func221 (by kernel_rfl) (by kernel_rfl)
instance : Fun Tryz.prog 222 := Fun.mk' Tryz.func222 (by kernel_rfl) (by kernel_rfl)
instance : Fun Tryz.prog 223 := Fun.mk' Tryz.func223 (by kernel_rfl) (by kernel_rfl)
instance : Fun Tryz.prog 224 := Fun.mk' Tryz.func224 (by kernel_rfl) (by kernel_rfl)
instance : Fun Tryz.prog 225 := Fun.mk' Tryz.func225 (by kernel_rfl) (by kernel_rfl)
instance : Fun Tryz.prog 226 := Fun.mk' Tryz.func226 (by kernel_rfl) (by kernel_rfl)
instance : Fun Tryz.prog 227 := Fun.mk' Tryz.func227 (by kernel_rfl) (by kernel_rfl)
instance : Fun Tryz.prog 228 := Fun.mk' Tryz.func228 (by kernel_rfl) (by kernel_rfl)
instance : EAdd Tryz.prog 229 .i64 := ⟨fun hc hz hs => run_call_add Tryz.func229 (by kernel_rfl) (by kernel_rfl) (by kernel_rfl) .i64 (by kernel_rfl) hc hz hs⟩
instance : Fun Tryz.prog 230 := Fun.mk' Tryz.func230 (by kernel_rfl) (by kernel_rfl)
instance : Fun Tryz.prog 231 := Fun.mk' Tryz.func231 (by kernel_rfl) (by kernel_rfl)
instance : Fun Tryz.prog 232 := Fun.mk' Tryz.func232 (by kernel_rfl) (by kernel_rfl)
instance : Fun Tryz.prog 233 := Fun.mk' Tryz.func233 (by kernel_rfl) (by kernel_rfl)
instance : Fun Tryz.prog 234 := Fun.mk' Tryz.func234 (by kernel_rfl) (by kernel_rfl)
instance : Fun Tryz.prog 235 := Fun.mk' Tryz.func235 (by kernel_rfl) (by kernel_rfl)
instance : Fun Tryz.prog 236 := Fun.mk' Tryz.func236 (by kernel_rfl) (by kernel_rfl)
instance : Fun Tryz.prog 237 := Fun.mk' Tryz.func237 (by kernel_rfl) (by kernel_rfl)
instance : Fun Tryz.prog 238 := Fun.mk' Tryz.func238 (by kernel_rfl) (by kernel_rfl)
instance : Fun Tryz.prog 239 := Fun.mk' Tryz.func239 (by kernel_rfl) (by kernel_rfl)
instance : Fun Tryz.prog 240 := Fun.mk' Tryz.func240 (by kernel_rfl) (by kernel_rfl)
instance : Fun Tryz.prog 241 := Fun.mk' Tryz.func241 (by kernel_rfl) (by kernel_rfl)
instance : Fun Tryz.prog 242 := Fun.mk' Tryz.func242 (by kernel_rfl) (by kernel_rfl)
instance : Fun Tryz.prog 243 := Fun.mk' Tryz.func243 (by kernel_rfl) (by kernel_rfl)
instance : Fun Tryz.prog 244 := Fun.mk' Tryz.func244 (by kernel_rfl) (by kernel_rfl)
instance : Fun Tryz.prog 245 := Fun.mk' Tryz.func245 (by kernel_rfl) (by kernel_rfl)
instance : Fun Tryz.prog 246 := Fun.mk' Tryz.func246 (by kernel_rfl) (by kernel_rfl)
instance : Fun Tryz.prog 247 := Fun.mk' Tryz.func247 (by kernel_rfl) (by kernel_rfl)
instance : Fun Tryz.prog 248 := Fun.mk' Tryz.func248 (by kernel_rfl) (by kernel_rfl)
instance : Fun Tryz.prog 249 := Fun.mk' Tryz.func249 (by kernel_rfl) (by kernel_rfl)
instance : Fun Tryz.prog 250 := Fun.mk' Tryz.func250 (by kernel_rfl) (by kernel_rfl)
instance : Fun Tryz.prog 251 := Fun.mk' Tryz.func251 (by kernel_rfl) (by kernel_rfl)
instance : Fun Tryz.prog 252 := Fun.mk' Tryz.func252 (by kernel_rfl) (by kernel_rfl)
instance : Fun Tryz.prog 253 := Fun.mk' Tryz.func253 (by kernel_rfl) (by kernel_rfl)
instance : Fun Tryz.prog 254 := Fun.mk' Tryz.func254 (by kernel_rfl) (by kernel_rfl)
instance : Fun Tryz.prog 255 := Fun.mk' Tryz.func255 (by kernel_rfl) (by kernel_rfl)
instance : Fun Tryz.prog 256 := Fun.mk' Tryz.func256 (by kernel_rfl) (by kernel_rfl)
instance : Fun Tryz.prog 257 := Fun.mk' Tryz.func257 (by kernel_rfl) (by kernel_rfl)
instance : Fun Tryz.prog 258 := Fun.mk' Tryz.func258 (by kernel_rfl) (by kernel_rfl)
instance : Fun Tryz.prog 259 := Fun.mk' Tryz.func259 (by kernel_rfl) (by kernel_rfl)
instance : Fun Tryz.prog 260 := Fun.mk' Tryz.func260 (by kernel_rfl) (by kernel_rfl)
instance : Fun Tryz.prog 261 := Fun.mk' Tryz.func261 (by kernel_rfl) (by kernel_rfl)
instance : ELoad Tryz.prog 262 .u32 := ⟨fun hc => run_call_load Tryz.func262 (by kernel_rfl) (by kernel_rfl) (by kernel_rfl) .u32 (by kernel_rfl) hc⟩
instance : Fun Tryz.prog 263 := Fun.mk' Tryz.func263 (by kernel_rfl) (by kernel_rfl)
instance : Fun Tryz.prog 264 := Fun.mk' Tryz.func264 (by kernel_rfl) (by kernel_rfl)
instance : Fun Tryz.prog 265 := Fun.mk' Tryz.func265 (by kernel_rfl) (by kernel_rfl)
instance : Fun Tryz.prog 266 := Fun.mk' Tryz.func266 (by kernel_rfl) (by kernel_rfl)
instance : Fun Tryz.prog 267 := Fun.mk' Tryz.func267 (by kernel_rfl) (by kernel_rfl)
instance : Fun Tryz.prog 268 := Fun.mk' Tryz.func268 (by kernel_rfl) (by kernel_rfl)
instance : Fun Tryz.prog 269 := Fun.mk' Tryz.func269 (by kernel_rfl) (by kernel_rfl)
instance : Fun Tryz.prog 270 := Fun.mk' Tryz.func270 (by kernel_rfl) (by kernel_rfl)
instance : Fun Tryz.prog 271 := Fun.mk' Tryz.func271 (by kernel_rfl) (by kernel_rfl)
instance : Fun Tryz.prog 272 := Fun.mk' Tryz.func272 (by kernel_rfl) (by kernel_rfl)
instance : Fun Tryz.prog 273 := Fun.mk' Tryz.func273 (by kernel_rfl) (by kernel_rfl)
instance : Fun Tryz.prog 274 := Fun.mk' Tryz.func274 (by kernel_rfl) (by kernel_rfl)
instance : Fun Tryz.prog 275 := Fun.mk' Tryz.func275 (by kernel_rfl) (by kernel_rfl)
instance : Fun Tryz.prog 276 := Fun.mk' Tryz.func276 (by kernel_rfl) (by kernel_rfl)
instance : Fun Tryz.prog 277 := Fun.mk' Tryz.func277 (by kernel_rfl) (by kernel_rfl)
instance : Fun Tryz.prog 278 := Fun.mk' Tryz.func278 (by kernel_rfl) (by kernel_rfl)
instance : Fun Tryz.prog 279 := Fun.mk' Tryz.func279 (by kernel_rfl) (by kernel_rfl)
instance : Fun Tryz.prog 280 := Fun.mk' Tryz.func280 (by kernel_rfl) (by kernel_rfl)
instance : Fun Tryz.prog 281 := Fun.mk' Tryz.func281 (by kernel_rfl) (by kernel_rfl)
instance : Fun Tryz.prog 282 := Fun.mk' Tryz.func282 (by kernel_rfl) (by kernel_rfl)
instance : Fun Tryz.prog 283 := Fun.mk' Tryz.func283 (by kernel_rfl) (by kernel_rfl)
instance : Fun Tryz.prog 284 := Fun.mk' Tryz.func284 (by kernel_rfl) (by kernel_rfl)
instance : Fun Tryz.prog 285 := Fun.mk' Tryz.func285 (by kernel_rfl) (by kernel_rfl)
instance : Fun Tryz.prog 286 := Fun.mk' Tryz.func286 (by kernel_rfl) (by kernel_rfl)
instance : Fun Tryz.prog 287 := Fun.mk' Tryz.func287 (by kernel_rfl) (by kernel_rfl)
instance : Fun Tryz.prog 288 := Fun.mk' Tryz.func288 (by kernel_rfl) (by kernel_rfl)
instance : Fun Tryz.prog 289 := Fun.mk' Tryz.func289 (by kernel_rfl) (by kernel_rfl)
instance : Fun Tryz.prog 290 := Fun.mk' Tryz.func290 (by kernel_rfl) (by kernel_rfl)
instance : Fun Tryz.prog 291 := Fun.mk' Tryz.func291 (by kernel_rfl) (by kernel_rfl)
instance : Fun Tryz.prog 292 := Fun.mk' Tryz.func292 (by kernel_rfl) (by kernel_rfl)
instance : Fun Tryz.prog 293 := Fun.mk' Tryz.func293 (by kernel_rfl) (by kernel_rfl)
instance : Fun Tryz.prog 294 := Fun.mk' Tryz.func294 (by kernel_rfl) (by kernel_rfl)
instance : Fun Tryz.prog 295 := Fun.mk' Tryz.func295 (by kernel_rfl) (by kernel_rfl)
instance : Fun Tryz.prog 296 := Fun.mk' Tryz.func296 (by kernel_rfl) (by kernel_rfl)
instance : Fun Tryz.prog 297 := Fun.mk' Tryz.func297 (by kernel_rfl) (by kernel_rfl)
instance : Fun Tryz.prog 298 := Fun.mk' Tryz.func298 (by kernel_rfl) (by kernel_rfl)
instance : Fun Tryz.prog 299 := Fun.mk' Tryz.func299 (by kernel_rfl) (by kernel_rfl)
instance : Fun Tryz.prog 300 := Fun.mk' Tryz.func300 (by kernel_rfl) (by kernel_rfl)
instance : Fun Tryz.prog 301 := Fun.mk' Tryz.func301 (by kernel_rfl) (by kernel_rfl)
instance : Fun Tryz.prog 302 := Fun.mk' Tryz.func302 (by kernel_rfl) (by kernel_rfl)
instance : Fun Tryz.prog 303 := Fun.mk' Tryz.func303 (by kernel_rfl) (by kernel_rfl)
instance : Fun Tryz.prog 304 := Fun.mk' Tryz.func304 (by kernel_rfl) (by kernel_rfl)
instance : Fun Tryz.prog 305 := Fun.mk' Tryz.func305 (by kernel_rfl) (by kernel_rfl)
instance : Fun Tryz.prog 306 := Fun.mk' Tryz.func306 (by kernel_rfl) (by kernel_rfl)
instance : Fun Tryz.prog 307 := Fun.mk' Tryz.func307 (by kernel_rfl) (by kernel_rfl)
instance : Fun Tryz.prog 308 := Fun.mk' Tryz.func308 (by kernel_rfl) (by kernel_rfl)
instance : Fun Tryz.prog 309 := Fun.mk' Tryz.func309 (by kernel_rfl) (by kernel_rfl)
instance : Fun Tryz.prog 310 := Fun.mk' Tryz.func310 (by kernel_rfl) (by kernel_rfl)
instance : Fun Tryz.prog 311 := Fun.mk' Tryz.func311 (by kernel_rfl) (by kernel_rfl)
instance : Fun Tryz.prog 312 := Fun.mk' Tryz.func312 (by kernel_rfl) (by kernel_rfl)
instance : Fun Tryz.prog 313 := Fun.mk' Tryz.func313 (by kernel_rfl) (by kernel_rfl)
instance : Fun Tryz.prog 314 := Fun.mk' Tryz.func314 (by kernel_rfl) (by kernel_rfl)
instance : Fun Tryz.prog 315 := Fun.mk' Tryz.func315 (by kernel_rfl) (by kernel_rfl)
instance : Fun Tryz.prog 316 := Fun.mk' Tryz.func316 (by kernel_rfl) (by kernel_rfl)
instance : EStore Tryz.prog 317 := ⟨fun hc hz => run_call_store Tryz.func317 (by kernel_rfl) (by kernel_rfl) (by kernel_rfl) (by kernel_rfl) hc hz⟩
instance : Fun Tryz.prog 318 := Fun.mk' Tryz.func318 (by kernel_rfl) (by kernel_rfl)
instance : Fun Tryz.prog 319 := Fun.mk' Tryz.func319 (by kernel_rfl) (by kernel_rfl)
instance : Fun Tryz.prog 321 := Fun.mk' Tryz.func321 (by kernel_rfl) (by kernel_rfl)
instance : Fun Tryz.prog 322 := Fun.mk' Tryz.func322 (by kernel_rfl) (by kernel_rfl)
instance : Fun Tryz.prog 323 := Fun.mk' Tryz.func323 (by kernel_rfl) (by kernel_rfl)
instance : Fun Tryz.prog 324 := Fun.mk' Tryz.func324 (by kernel_rfl) (by kernel_rfl)
instance : Fun Tryz.prog 325 := Fun.mk' Tryz.func325 (by kernel_rfl) (by kernel_rfl)
instance : Fun Tryz.prog 326 := Fun.mk' Tryz.func326 (by kernel_rfl) (by kernel_rfl)
instance : Fun Tryz.prog 327 := Fun.mk' Tryz.func327 (by kernel_rfl) (by kernel_rfl)
instance : Fun Tryz.prog 329 := Fun.mk' Tryz.func329 (by kernel_rfl) (by kernel_rfl)
instance : Fun Tryz.prog 330 := Fun.mk' Tryz.func330 (by kernel_rfl) (by kernel_rfl)
instance : Fun Tryz.prog 331 := Fun.mk' Tryz.func331 (by kernel_rfl) (by kernel_rfl)
instance : Fun Tryz.prog 332 := Fun.mk' Tryz.func332 (by kernel_rfl) (by kernel_rfl)
instance : Fun Tryz.prog 333 := Fun.mk' Tryz.func333 (by kernel_rfl) (by kernel_rfl)
instance : Fun Tryz.prog 334 := Fun.mk' Tryz.func334 (by kernel_rfl) (by kernel_rfl)
instance : Fun Tryz.prog 335 := Fun.mk' Tryz.func335 (by kernel_rfl) (by kernel_rfl)
instance : EMark0 Tryz.prog 336 := ⟨fun w => run_call_mark0 Tryz.func336 (by kernel_rfl) (by kernel_rfl) (by kernel_rfl) .disable (by kernel_rfl) w⟩
instance : ECas Tryz.prog 337 .i32 := ⟨fun hc hz => run_call_cas_hit Tryz.func337 (by kernel_rfl) (by kernel_rfl) (by kernel_rfl) .i32 (by kernel_rfl) hc hz⟩
instance : EMark0 Tryz.prog 338 := ⟨fun w => run_call_mark0 Tryz.func338 (by kernel_rfl) (by kernel_rfl) (by kernel_rfl) .enable (by kernel_rfl) w⟩
instance : EMark Tryz.prog 339 := ⟨fun a w => run_call_marked Tryz.func339 (by kernel_rfl) (by kernel_rfl) (by kernel_rfl) .acquire (by kernel_rfl) a w⟩
instance : Fun Tryz.prog 340 := Fun.mk' Tryz.func340 (by kernel_rfl) (by kernel_rfl)
instance : EMark Tryz.prog 341 := ⟨fun a w => run_call_marked Tryz.func341 (by kernel_rfl) (by kernel_rfl) (by kernel_rfl) .releaseMerge (by kernel_rfl) a w⟩
instance : EAdd Tryz.prog 342 .i32 := ⟨fun hc hz hs => run_call_add Tryz.func342 (by kernel_rfl) (by kernel_rfl) (by kernel_rfl) .i32 (by kernel_rfl) hc hz hs⟩
instance : Fun Tryz.prog 343 := Fun.mk' Tryz.func343 (by kernel_rfl) (by kernel_rfl)
instance : Fun Tryz.prog 345 := Fun.mk' Tryz.func345 (by kernel_rfl) (by kernel_rfl)
instance : Fun Tryz.prog 346 := Fun.mk' Tryz.func346 (by kernel_rfl) (by kernel_rfl)
instance : Fun Tryz.prog 347 := Fun.mk' Tryz.func347 (by kernel_rfl) (by kernel_rfl)
instance : Fun Tryz.prog 348 := Fun.mk' Tryz.func348 (by kernel_rfl) (by kernel_rfl)
instance : Fun Tryz.prog 349 := Fun.mk' Tryz.func349 (by kernel_rfl) (by kernel_rfl)
instance : Fun Tryz.prog 350 := Fun.mk' Tryz.func350 (by kernel_rfl) (by kernel_rfl)
instance : Fun Tryz.prog 351 := Fun.mk' Tryz.func351 (by kernel_rfl) (by kernel_rfl)
instance : Fun Tryz.prog 352 := Fun.mk' Tryz.func352 (by kernel_rfl) (by kernel_rfl)
instance : Fun Tryz.prog 353 := Fun.mk' Tryz.func353 (by kernel_rfl) (by kernel_rfl)
instance : Fun Tryz.prog 354 := Fun.mk' Tryz.func354 (by kernel_rfl) (by kernel_rfl)
instance : Fun Tryz.prog 355 := Fun.mk' Tryz.func355 (by kernel_rfl) (by kernel_rfl)
instance : Fun Tryz.prog 356 := Fun.mk' Tryz.func356 (by kernel_rfl) (by kernel_rfl)
instance : Fun Tryz.prog 357 := Fun.mk' Tryz.func357 (by kernel_rfl) (by kernel_rfl)
instance : Fun Tryz.prog 358 := Fun.mk' Tryz.func358 (by kernel_rfl) (by kernel_rfl)
instance : Fun Tryz.prog 359 := Fun.mk' Tryz.func359 (by kernel_rfl) (by kernel_rfl)
instance : Fun Tryz.prog 367 := Fun.mk' Tryz.func367 (by kernel_rfl) (by kernel_rfl)
instance : Fun Tryz.prog 368 := Fun.mk' Tryz.func368 (by kernel_rfl) (by kernel_rfl)
instance : Fun Tryz.prog 369 := Fun.mk' Tryz.func369 (by kernel_rfl) (by kernel_rfl)
instance : Fun Tryz.prog 370 := Fun.mk' Tryz.func370 (by kernel_rfl) (by kernel_rfl)
instance : Fun Tryz.prog 371 := Fun.mk' Tryz.func371 (by kernel_rfl) (by kernel_rfl)
instance : Fun Tryz.prog 372 := Fun.mk' Tryz.func372 (by kernel_rfl) (by kernel_rfl)
instance : Fun Tryz.prog 373 := Fun.mk' Tryz.func373 (by kernel_rfl) (by kernel_rfl)
instance : Fun Tryz.prog 374 := Fun.mk' Tryz.func374 (by kernel_rfl) (by kernel_rfl)
instance : Fun Tryz.prog 375 := Fun.mk' Tryz.func375 (by kernel_rfl) (by kernel_rfl)
instance : Fun Tryz.prog 376 := Fun.mk' Tryz.func376 (by kernel_rfl) (by kernel_rfl)
instance : Fun Tryz.prog 377 := Fun.mk' Tryz.func377 (by kernel_rfl) (by kernel_rfl)
instance : Fun Tryz.prog 378 := Fun.mk' Tryz.func378 (by kernel_rfl) (by kernel_rfl)
instance : Fun Tryz.prog 380 := Fun.mk' Tryz.func380 (by kernel_rfl) (by kernel_rfl)
instance : Fun Tryz.prog 381 := Fun.mk' Tryz.func381 (by kernel_rfl) (by kernel_rfl)
instance : Fun Tryz.prog 382 := Fun.mk' Tryz.func382 (by kernel_rfl) (by kernel_rfl)
instance : Fun Tryz.prog 383 := Fun.mk' Tryz.func383 (by kernel_rfl) (by kernel_rfl)
instance : Fun Tryz.prog 384 := Fun.mk' Tryz.func384 (by kernel_rfl) (by kernel_rfl)
instance : Fun Tryz.prog 385 := Fun.mk' Tryz.func385 (by kernel_rfl) (by kernel_rfl)
instance : Fun Tryz.prog 386 := Fun.mk' Tryz.func386 (by kernel_rfl) (by kernel_rfl)
instance : Fun Tryz.prog 387 := Fun.mk' Tryz.func387 (by kernel_rfl) (by kernel_rfl)
instance : Fun Tryz.prog 389 := Fun.mk' Tryz.func389 (by kernel_rfl) (by kernel_rfl)
instance : Fun Tryz.prog 390 := Fun.mk' Tryz.func390 (by kernel_rfl) (by kernel_rfl)
instance : Fun Tryz.prog 391 := Fun.mk' Tryz.func391 (by kernel_rfl) (by kernel_rfl)
instance : Fun Tryz.prog 392 := Fun.mk' Tryz.func392 (by kernel_rfl) (by kernel_rfl)
instance : Fun Tryz.prog 394 := Fun.mk' Tryz.func394 (by kernel_rfl) (by kernel_rfl)
theorem mixed : Tryz.prog.follows .mixedOrders = true := by kernel_rfl
end Cr
