/- FACTS ON THE TYPES AND FUNCTIONS OF THIS SEAT's TRANSLATION, written by a program off the dump's rows; each is proved by the kernel. -/
import Derived.Test.YtobnnhlgdoddgaaDoorExt
import Derived.Test.YtobnnhlgdoddgaaDoorRows
namespace Cr
open Go Go.Proofs
instance : One Tryd.prog 1 := ⟨fun w => run_isAgg Tryd.underlying1 w⟩
instance : Inf Tryd.prog 1 .nilFunc 1 8 := ⟨by kernel_rfl, by kernel_rfl⟩
instance : Und Tryd.prog 2 (.int .i64) := ⟨Tryd.underlying2⟩
instance : Inf Tryd.prog 2 (.int .i64 0) 1 8 := ⟨by kernel_rfl, by kernel_rfl⟩
instance : Und Tryd.prog 3 (.int .i64) := ⟨Tryd.underlying3⟩
instance : Inf Tryd.prog 3 (.int .i64 0) 1 8 := ⟨by kernel_rfl, by kernel_rfl⟩
instance : Und Tryd.prog 4 (.bool) := ⟨Tryd.underlying4⟩
instance : Inf Tryd.prog 4 (.bool false) 1 1 := ⟨by kernel_rfl, by kernel_rfl⟩
instance : Und Tryd.prog 5 (.int .u8) := ⟨Tryd.underlying5⟩
instance : Inf Tryd.prog 5 (.int .u8 0) 1 1 := ⟨by kernel_rfl, by kernel_rfl⟩
instance : Und Tryd.prog 6 (.int .u8) := ⟨Tryd.underlying6⟩
instance : Inf Tryd.prog 6 (.int .u8 0) 1 1 := ⟨by kernel_rfl, by kernel_rfl⟩
instance : Agg Tryd.prog 7 := ⟨fun w => run_isAgg Tryd.underlying7 w⟩
instance : Inf Tryd.prog 7 (.agg #[(.int .i64 0), (.int .i64 0), (.bool false), (.int .u8 0)]) 4 24 := ⟨by kernel_rfl, by kernel_rfl⟩
instance : Str Tryd.prog 7 [(0, 1), (1, 1), (2, 1), (3, 1)] := ⟨⟨_, Tryd.underlying7, by kernel_rfl, by kernel_rfl⟩⟩
instance : Fld Tryd.prog 7 0 0 2 1 := ⟨⟨_, _, Tryd.underlying7, rfl, rfl, rfl, by kernel_rfl⟩⟩
instance : Fld Tryd.prog 7 1 1 3 1 := ⟨⟨_, _, Tryd.underlying7, rfl, rfl, rfl, by kernel_rfl⟩⟩
instance : Fld Tryd.prog 7 2 2 4 1 := ⟨⟨_, _, Tryd.underlying7, rfl, rfl, rfl, by kernel_rfl⟩⟩
instance : Fld Tryd.prog 7 3 3 6 1 := ⟨⟨_, _, Tryd.underlying7, rfl, rfl, rfl, by kernel_rfl⟩⟩
instance : Agg Tryd.prog 8 := ⟨fun w => run_isAgg Tryd.underlying8 w⟩
instance : Inf Tryd.prog 8 (.agg #[(.int .i64 0), (.int .i64 0), (.bool false), (.int .u8 0)]) 4 24 := ⟨by kernel_rfl, by kernel_rfl⟩
instance : Str Tryd.prog 8 [(0, 1), (1, 1), (2, 1), (3, 1)] := ⟨⟨_, Tryd.underlying8, by kernel_rfl, by kernel_rfl⟩⟩
instance : Fld Tryd.prog 8 0 0 2 1 := ⟨⟨_, _, Tryd.underlying8, rfl, rfl, rfl, by kernel_rfl⟩⟩
instance : Fld Tryd.prog 8 1 1 3 1 := ⟨⟨_, _, Tryd.underlying8, rfl, rfl, rfl, by kernel_rfl⟩⟩
instance : Fld Tryd.prog 8 2 2 4 1 := ⟨⟨_, _, Tryd.underlying8, rfl, rfl, rfl, by kernel_rfl⟩⟩
instance : Fld Tryd.prog 8 3 3 6 1 := ⟨⟨_, _, Tryd.underlying8, rfl, rfl, rfl, by kernel_rfl⟩⟩
instance : Und Tryd.prog 9 (.string) := ⟨Tryd.underlying9⟩
instance : Inf Tryd.prog 9 (.string ⟨#[]⟩) 1 16 := ⟨by kernel_rfl, by kernel_rfl⟩
instance : Und Tryd.prog 10 (.string) := ⟨Tryd.underlying10⟩
instance : Inf Tryd.prog 10 (.string ⟨#[]⟩) 1 16 := ⟨by kernel_rfl, by kernel_rfl⟩
instance : Und Tryd.prog 11 (.string) := ⟨Tryd.underlying11⟩
instance : Inf Tryd.prog 11 (.string ⟨#[]⟩) 1 16 := ⟨by kernel_rfl, by kernel_rfl⟩
instance : Und Tryd.prog 12 (.int .u64) := ⟨Tryd.underlying12⟩
instance : Inf Tryd.prog 12 (.int .u64 0) 1 8 := ⟨by kernel_rfl, by kernel_rfl⟩
instance : Agg Tryd.prog 13 := ⟨fun w => run_isAgg Tryd.underlying13 w⟩
instance : Inf Tryd.prog 13 (.agg #[(.string ⟨#[]⟩), (.int .u64 0)]) 2 24 := ⟨by kernel_rfl, by kernel_rfl⟩
instance : Str Tryd.prog 13 [(0, 1), (1, 1)] := ⟨⟨_, Tryd.underlying13, by kernel_rfl, by kernel_rfl⟩⟩
instance : Fld Tryd.prog 13 0 0 9 1 := ⟨⟨_, _, Tryd.underlying13, rfl, rfl, rfl, by kernel_rfl⟩⟩
instance : Fld Tryd.prog 13 1 1 12 1 := ⟨⟨_, _, Tryd.underlying13, rfl, rfl, rfl, by kernel_rfl⟩⟩
instance : Agg Tryd.prog 14 := ⟨fun w => run_isAgg Tryd.underlying14 w⟩
instance : Inf Tryd.prog 14 (.agg #[(.string ⟨#[]⟩), (.int .u64 0)]) 2 24 := ⟨by kernel_rfl, by kernel_rfl⟩
instance : Str Tryd.prog 14 [(0, 1), (1, 1)] := ⟨⟨_, Tryd.underlying14, by kernel_rfl, by kernel_rfl⟩⟩
instance : Fld Tryd.prog 14 0 0 9 1 := ⟨⟨_, _, Tryd.underlying14, rfl, rfl, rfl, by kernel_rfl⟩⟩
instance : Fld Tryd.prog 14 1 1 12 1 := ⟨⟨_, _, Tryd.underlying14, rfl, rfl, rfl, by kernel_rfl⟩⟩
instance : Und Tryd.prog 15 (.pointer 150) := ⟨Tryd.underlying15⟩
instance : Inf Tryd.prog 15 (.pointer none) 1 8 := ⟨by kernel_rfl, by kernel_rfl⟩
instance : Und Tryd.prog 16 (.pointer 153) := ⟨Tryd.underlying16⟩
instance : Inf Tryd.prog 16 (.pointer none) 1 8 := ⟨by kernel_rfl, by kernel_rfl⟩
instance : Und Tryd.prog 17 (.pointer 161) := ⟨Tryd.underlying17⟩
instance : Inf Tryd.prog 17 (.pointer none) 1 8 := ⟨by kernel_rfl, by kernel_rfl⟩
instance : Agg Tryd.prog 18 := ⟨fun w => run_isAgg Tryd.underlying18 w⟩
instance : Inf Tryd.prog 18 (.agg #[(.pointer none)]) 1 8 := ⟨by kernel_rfl, by kernel_rfl⟩
instance : Str Tryd.prog 18 [(0, 1)] := ⟨⟨_, Tryd.underlying18, by kernel_rfl, by kernel_rfl⟩⟩
instance : Fld Tryd.prog 18 0 0 17 1 := ⟨⟨_, _, Tryd.underlying18, rfl, rfl, rfl, by kernel_rfl⟩⟩
instance : Agg Tryd.prog 19 := ⟨fun w => run_isAgg Tryd.underlying19 w⟩
instance : Inf Tryd.prog 19 (.agg #[(.pointer none)]) 1 8 := ⟨by kernel_rfl, by kernel_rfl⟩
instance : Str Tryd.prog 19 [(0, 1)] := ⟨⟨_, Tryd.underlying19, by kernel_rfl, by kernel_rfl⟩⟩
instance : Fld Tryd.prog 19 0 0 17 1 := ⟨⟨_, _, Tryd.underlying19, rfl, rfl, rfl, by kernel_rfl⟩⟩
instance : One Tryd.prog 20 := ⟨fun w => run_isAgg Tryd.underlying20 w⟩
instance : Inf Tryd.prog 20 .nilIface 1 16 := ⟨by kernel_rfl, by kernel_rfl⟩
instance : Und Tryd.prog 21 (.int .i32) := ⟨Tryd.underlying21⟩
instance : Inf Tryd.prog 21 (.int .i32 0) 1 4 := ⟨by kernel_rfl, by kernel_rfl⟩
instance : Und Tryd.prog 22 (.slice 38) := ⟨Tryd.underlying22⟩
instance : Inf Tryd.prog 22 (.slice none 0 0) 1 24 := ⟨by kernel_rfl, by kernel_rfl⟩
instance : Und Tryd.prog 23 (.slice 48) := ⟨Tryd.underlying23⟩
instance : Inf Tryd.prog 23 (.slice none 0 0) 1 24 := ⟨by kernel_rfl, by kernel_rfl⟩
instance : One Tryd.prog 25 := ⟨fun w => run_isAgg Tryd.underlying25 w⟩
instance : Inf Tryd.prog 25 .nilFunc 1 8 := ⟨by kernel_rfl, by kernel_rfl⟩
instance : Und Tryd.prog 26 (.pointer 71) := ⟨Tryd.underlying26⟩
instance : Inf Tryd.prog 26 (.pointer none) 1 8 := ⟨by kernel_rfl, by kernel_rfl⟩
instance : Und Tryd.prog 27 (.array 2 26) := ⟨Tryd.underlying27⟩
instance : Inf Tryd.prog 27 (.agg #[(.pointer none), (.pointer none)]) 2 16 := ⟨by kernel_rfl, by kernel_rfl⟩
instance : Und Tryd.prog 28 (.pointer 59) := ⟨Tryd.underlying28⟩
instance : Inf Tryd.prog 28 (.pointer none) 1 8 := ⟨by kernel_rfl, by kernel_rfl⟩
instance : Und Tryd.prog 29 (.int .i64) := ⟨Tryd.underlying29⟩
instance : Inf Tryd.prog 29 (.int .i64 0) 1 8 := ⟨by kernel_rfl, by kernel_rfl⟩
instance : One Tryd.prog 31 := ⟨fun w => run_isAgg Tryd.underlying31 w⟩
instance : Inf Tryd.prog 31 .nilFunc 1 8 := ⟨by kernel_rfl, by kernel_rfl⟩
instance : One Tryd.prog 33 := ⟨fun w => run_isAgg Tryd.underlying33 w⟩
instance : Inf Tryd.prog 33 .nilFunc 1 8 := ⟨by kernel_rfl, by kernel_rfl⟩
instance : One Tryd.prog 34 := ⟨fun w => run_isAgg Tryd.underlying34 w⟩
instance : Inf Tryd.prog 34 .nilFunc 1 8 := ⟨by kernel_rfl, by kernel_rfl⟩
instance : One Tryd.prog 35 := ⟨fun w => run_isAgg Tryd.underlying35 w⟩
instance : Inf Tryd.prog 35 .nilFunc 1 8 := ⟨by kernel_rfl, by kernel_rfl⟩
instance : Und Tryd.prog 36 (.slice 5) := ⟨Tryd.underlying36⟩
instance : Inf Tryd.prog 36 (.slice none 0 0) 1 24 := ⟨by kernel_rfl, by kernel_rfl⟩
instance : Agg Tryd.prog 37 := ⟨fun w => run_isAgg Tryd.underlying37 w⟩
instance : Inf Tryd.prog 37 (.agg #[(.int .i64 0), (.slice none 0 0)]) 2 32 := ⟨by kernel_rfl, by kernel_rfl⟩
instance : Str Tryd.prog 37 [(0, 1), (1, 1)] := ⟨⟨_, Tryd.underlying37, by kernel_rfl, by kernel_rfl⟩⟩
instance : Fld Tryd.prog 37 0 0 3 1 := ⟨⟨_, _, Tryd.underlying37, rfl, rfl, rfl, by kernel_rfl⟩⟩
instance : Fld Tryd.prog 37 1 1 36 1 := ⟨⟨_, _, Tryd.underlying37, rfl, rfl, rfl, by kernel_rfl⟩⟩
instance : Agg Tryd.prog 38 := ⟨fun w => run_isAgg Tryd.underlying38 w⟩
instance : Inf Tryd.prog 38 (.agg #[(.int .i64 0), (.slice none 0 0)]) 2 32 := ⟨by kernel_rfl, by kernel_rfl⟩
instance : Str Tryd.prog 38 [(0, 1), (1, 1)] := ⟨⟨_, Tryd.underlying38, by kernel_rfl, by kernel_rfl⟩⟩
instance : Fld Tryd.prog 38 0 0 3 1 := ⟨⟨_, _, Tryd.underlying38, rfl, rfl, rfl, by kernel_rfl⟩⟩
instance : Fld Tryd.prog 38 1 1 36 1 := ⟨⟨_, _, Tryd.underlying38, rfl, rfl, rfl, by kernel_rfl⟩⟩
instance : One Tryd.prog 39 := ⟨fun w => run_isAgg Tryd.underlying39 w⟩
instance : Inf Tryd.prog 39 .nilFunc 1 8 := ⟨by kernel_rfl, by kernel_rfl⟩
instance : One Tryd.prog 41 := ⟨fun w => run_isAgg Tryd.underlying41 w⟩
instance : Inf Tryd.prog 41 .nilFunc 1 8 := ⟨by kernel_rfl, by kernel_rfl⟩
instance : One Tryd.prog 42 := ⟨fun w => run_isAgg Tryd.underlying42 w⟩
instance : Inf Tryd.prog 42 .nilFunc 1 8 := ⟨by kernel_rfl, by kernel_rfl⟩
instance : One Tryd.prog 43 := ⟨fun w => run_isAgg Tryd.underlying43 w⟩
instance : Inf Tryd.prog 43 .nilFunc 1 8 := ⟨by kernel_rfl, by kernel_rfl⟩
instance : One Tryd.prog 44 := ⟨fun w => run_isAgg Tryd.underlying44 w⟩
instance : Inf Tryd.prog 44 .nilFunc 1 8 := ⟨by kernel_rfl, by kernel_rfl⟩
instance : One Tryd.prog 45 := ⟨fun w => run_isAgg Tryd.underlying45 w⟩
instance : Inf Tryd.prog 45 .nilFunc 1 8 := ⟨by kernel_rfl, by kernel_rfl⟩
instance : One Tryd.prog 46 := ⟨fun w => run_isAgg Tryd.underlying46 w⟩
instance : Inf Tryd.prog 46 .nilFunc 1 8 := ⟨by kernel_rfl, by kernel_rfl⟩
instance : One Tryd.prog 47 := ⟨fun w => run_isAgg Tryd.underlying47 w⟩
instance : Inf Tryd.prog 47 .nilFunc 1 8 := ⟨by kernel_rfl, by kernel_rfl⟩
instance : Agg Tryd.prog 48 := ⟨fun w => run_isAgg Tryd.underlying48 w⟩
instance : Inf Tryd.prog 48 (.agg #[(.int .i64 0), (.slice none 0 0)]) 2 32 := ⟨by kernel_rfl, by kernel_rfl⟩
instance : Str Tryd.prog 48 [(0, 1), (1, 1)] := ⟨⟨_, Tryd.underlying48, by kernel_rfl, by kernel_rfl⟩⟩
instance : Fld Tryd.prog 48 0 0 3 1 := ⟨⟨_, _, Tryd.underlying48, rfl, rfl, rfl, by kernel_rfl⟩⟩
instance : Fld Tryd.prog 48 1 1 36 1 := ⟨⟨_, _, Tryd.underlying48, rfl, rfl, rfl, by kernel_rfl⟩⟩
instance : Und Tryd.prog 49 (.slice 99) := ⟨Tryd.underlying49⟩
instance : Inf Tryd.prog 49 (.slice none 0 0) 1 24 := ⟨by kernel_rfl, by kernel_rfl⟩
instance : Agg Tryd.prog 50 := ⟨fun w => run_isAgg Tryd.underlying50 w⟩
instance : Inf Tryd.prog 50 (.agg #[(.bool false), (.bool false), (.int .i64 0)]) 3 16 := ⟨by kernel_rfl, by kernel_rfl⟩
instance : Str Tryd.prog 50 [(0, 1), (1, 1), (2, 1)] := ⟨⟨_, Tryd.underlying50, by kernel_rfl, by kernel_rfl⟩⟩
instance : Fld Tryd.prog 50 0 0 4 1 := ⟨⟨_, _, Tryd.underlying50, rfl, rfl, rfl, by kernel_rfl⟩⟩
instance : Fld Tryd.prog 50 1 1 4 1 := ⟨⟨_, _, Tryd.underlying50, rfl, rfl, rfl, by kernel_rfl⟩⟩
instance : Fld Tryd.prog 50 2 2 3 1 := ⟨⟨_, _, Tryd.underlying50, rfl, rfl, rfl, by kernel_rfl⟩⟩
instance : Agg Tryd.prog 51 := ⟨fun w => run_isAgg Tryd.underlying51 w⟩
instance : Inf Tryd.prog 51 (.agg #[(.bool false), (.bool false), (.int .i64 0)]) 3 16 := ⟨by kernel_rfl, by kernel_rfl⟩
instance : Str Tryd.prog 51 [(0, 1), (1, 1), (2, 1)] := ⟨⟨_, Tryd.underlying51, by kernel_rfl, by kernel_rfl⟩⟩
instance : Fld Tryd.prog 51 0 0 4 1 := ⟨⟨_, _, Tryd.underlying51, rfl, rfl, rfl, by kernel_rfl⟩⟩
instance : Fld Tryd.prog 51 1 1 4 1 := ⟨⟨_, _, Tryd.underlying51, rfl, rfl, rfl, by kernel_rfl⟩⟩
instance : Fld Tryd.prog 51 2 2 3 1 := ⟨⟨_, _, Tryd.underlying51, rfl, rfl, rfl, by kernel_rfl⟩⟩
instance : Und Tryd.prog 52 (.slice 101) := ⟨Tryd.underlying52⟩
instance : Inf Tryd.prog 52 (.slice none 0 0) 1 24 := ⟨by kernel_rfl, by kernel_rfl⟩
instance : Agg Tryd.prog 53 := ⟨fun w => run_isAgg Tryd.underlying53 w⟩
instance : Inf Tryd.prog 53 (.agg #[]) 0 0 := ⟨by kernel_rfl, by kernel_rfl⟩
instance : Str Tryd.prog 53 [] := ⟨⟨_, Tryd.underlying53, by kernel_rfl, by kernel_rfl⟩⟩
instance : Agg Tryd.prog 54 := ⟨fun w => run_isAgg Tryd.underlying54 w⟩
instance : Inf Tryd.prog 54 (.agg #[]) 0 0 := ⟨by kernel_rfl, by kernel_rfl⟩
instance : Str Tryd.prog 54 [] := ⟨⟨_, Tryd.underlying54, by kernel_rfl, by kernel_rfl⟩⟩
instance : Agg Tryd.prog 55 := ⟨fun w => run_isAgg Tryd.underlying55 w⟩
instance : Inf Tryd.prog 55 (.agg #[]) 0 0 := ⟨by kernel_rfl, by kernel_rfl⟩
instance : Str Tryd.prog 55 [] := ⟨⟨_, Tryd.underlying55, by kernel_rfl, by kernel_rfl⟩⟩
instance : Agg Tryd.prog 56 := ⟨fun w => run_isAgg Tryd.underlying56 w⟩
instance : Inf Tryd.prog 56 (.agg #[(.int .i64 0)]) 1 8 := ⟨by kernel_rfl, by kernel_rfl⟩
instance : Str Tryd.prog 56 [(0, 0), (0, 0), (0, 1)] := ⟨⟨_, Tryd.underlying56, by kernel_rfl, by kernel_rfl⟩⟩
instance : Fld Tryd.prog 56 2 0 2 1 := ⟨⟨_, _, Tryd.underlying56, rfl, rfl, rfl, by kernel_rfl⟩⟩
instance : Agg Tryd.prog 57 := ⟨fun w => run_isAgg Tryd.underlying57 w⟩
instance : Inf Tryd.prog 57 (.agg #[(.int .i64 0)]) 1 8 := ⟨by kernel_rfl, by kernel_rfl⟩
instance : Str Tryd.prog 57 [(0, 0), (0, 0), (0, 1)] := ⟨⟨_, Tryd.underlying57, by kernel_rfl, by kernel_rfl⟩⟩
instance : Fld Tryd.prog 57 2 0 2 1 := ⟨⟨_, _, Tryd.underlying57, rfl, rfl, rfl, by kernel_rfl⟩⟩
instance : Agg Tryd.prog 58 := ⟨fun w => run_isAgg Tryd.underlying58 w⟩
instance : Inf Tryd.prog 58 (.agg #[(.bool false), (.bool false), (.int .i64 0), (.slice none 0 0), (.slice none 0 0), (.int .i64 0), (.int .i64 0)]) 7 80 := ⟨by kernel_rfl, by kernel_rfl⟩
instance : Str Tryd.prog 58 [(0, 3), (3, 1), (4, 1), (5, 1), (6, 1)] := ⟨⟨_, Tryd.underlying58, by kernel_rfl, by kernel_rfl⟩⟩
instance : Fld Tryd.prog 58 0 0 51 3 := ⟨⟨_, _, Tryd.underlying58, rfl, rfl, rfl, by kernel_rfl⟩⟩
instance : Fld Tryd.prog 58 1 3 49 1 := ⟨⟨_, _, Tryd.underlying58, rfl, rfl, rfl, by kernel_rfl⟩⟩
instance : Fld Tryd.prog 58 2 4 52 1 := ⟨⟨_, _, Tryd.underlying58, rfl, rfl, rfl, by kernel_rfl⟩⟩
instance : Fld Tryd.prog 58 3 5 57 1 := ⟨⟨_, _, Tryd.underlying58, rfl, rfl, rfl, by kernel_rfl⟩⟩
instance : Fld Tryd.prog 58 4 6 57 1 := ⟨⟨_, _, Tryd.underlying58, rfl, rfl, rfl, by kernel_rfl⟩⟩
instance : Agg Tryd.prog 59 := ⟨fun w => run_isAgg Tryd.underlying59 w⟩
instance : Inf Tryd.prog 59 (.agg #[(.bool false), (.bool false), (.int .i64 0), (.slice none 0 0), (.slice none 0 0), (.int .i64 0), (.int .i64 0)]) 7 80 := ⟨by kernel_rfl, by kernel_rfl⟩
instance : Str Tryd.prog 59 [(0, 3), (3, 1), (4, 1), (5, 1), (6, 1)] := ⟨⟨_, Tryd.underlying59, by kernel_rfl, by kernel_rfl⟩⟩
instance : Fld Tryd.prog 59 0 0 51 3 := ⟨⟨_, _, Tryd.underlying59, rfl, rfl, rfl, by kernel_rfl⟩⟩
instance : Fld Tryd.prog 59 1 3 49 1 := ⟨⟨_, _, Tryd.underlying59, rfl, rfl, rfl, by kernel_rfl⟩⟩
instance : Fld Tryd.prog 59 2 4 52 1 := ⟨⟨_, _, Tryd.underlying59, rfl, rfl, rfl, by kernel_rfl⟩⟩
instance : Fld Tryd.prog 59 3 5 57 1 := ⟨⟨_, _, Tryd.underlying59, rfl, rfl, rfl, by kernel_rfl⟩⟩
instance : Fld Tryd.prog 59 4 6 57 1 := ⟨⟨_, _, Tryd.underlying59, rfl, rfl, rfl, by kernel_rfl⟩⟩
instance : Agg Tryd.prog 60 := ⟨fun w => run_isAgg Tryd.underlying60 w⟩
instance : Inf Tryd.prog 60 (.agg #[]) 0 0 := ⟨by kernel_rfl, by kernel_rfl⟩
instance : Str Tryd.prog 60 [] := ⟨⟨_, Tryd.underlying60, by kernel_rfl, by kernel_rfl⟩⟩
instance : Und Tryd.prog 61 (.int .u32) := ⟨Tryd.underlying61⟩
instance : Inf Tryd.prog 61 (.int .u32 0) 1 4 := ⟨by kernel_rfl, by kernel_rfl⟩
instance : Agg Tryd.prog 62 := ⟨fun w => run_isAgg Tryd.underlying62 w⟩
instance : Inf Tryd.prog 62 (.agg #[(.int .u32 0)]) 1 4 := ⟨by kernel_rfl, by kernel_rfl⟩
instance : Str Tryd.prog 62 [(0, 0), (0, 1)] := ⟨⟨_, Tryd.underlying62, by kernel_rfl, by kernel_rfl⟩⟩
instance : Fld Tryd.prog 62 1 0 61 1 := ⟨⟨_, _, Tryd.underlying62, rfl, rfl, rfl, by kernel_rfl⟩⟩
instance : Agg Tryd.prog 63 := ⟨fun w => run_isAgg Tryd.underlying63 w⟩
instance : Inf Tryd.prog 63 (.agg #[(.int .u32 0)]) 1 4 := ⟨by kernel_rfl, by kernel_rfl⟩
instance : Str Tryd.prog 63 [(0, 0), (0, 1)] := ⟨⟨_, Tryd.underlying63, by kernel_rfl, by kernel_rfl⟩⟩
instance : Fld Tryd.prog 63 1 0 61 1 := ⟨⟨_, _, Tryd.underlying63, rfl, rfl, rfl, by kernel_rfl⟩⟩
instance : Agg Tryd.prog 64 := ⟨fun w => run_isAgg Tryd.underlying64 w⟩
instance : Inf Tryd.prog 64 (.agg #[(.int .i32 0), (.int .u32 0)]) 2 8 := ⟨by kernel_rfl, by kernel_rfl⟩
instance : Str Tryd.prog 64 [(0, 1), (1, 1)] := ⟨⟨_, Tryd.underlying64, by kernel_rfl, by kernel_rfl⟩⟩
instance : Fld Tryd.prog 64 0 0 21 1 := ⟨⟨_, _, Tryd.underlying64, rfl, rfl, rfl, by kernel_rfl⟩⟩
instance : Fld Tryd.prog 64 1 1 61 1 := ⟨⟨_, _, Tryd.underlying64, rfl, rfl, rfl, by kernel_rfl⟩⟩
instance : Agg Tryd.prog 65 := ⟨fun w => run_isAgg Tryd.underlying65 w⟩
instance : Inf Tryd.prog 65 (.agg #[(.int .i32 0), (.int .u32 0)]) 2 8 := ⟨by kernel_rfl, by kernel_rfl⟩
instance : Str Tryd.prog 65 [(0, 1), (1, 1)] := ⟨⟨_, Tryd.underlying65, by kernel_rfl, by kernel_rfl⟩⟩
instance : Fld Tryd.prog 65 0 0 21 1 := ⟨⟨_, _, Tryd.underlying65, rfl, rfl, rfl, by kernel_rfl⟩⟩
instance : Fld Tryd.prog 65 1 1 61 1 := ⟨⟨_, _, Tryd.underlying65, rfl, rfl, rfl, by kernel_rfl⟩⟩
instance : Agg Tryd.prog 66 := ⟨fun w => run_isAgg Tryd.underlying66 w⟩
instance : Inf Tryd.prog 66 (.agg #[(.int .i32 0), (.int .u32 0)]) 2 8 := ⟨by kernel_rfl, by kernel_rfl⟩
instance : Str Tryd.prog 66 [(0, 0), (0, 2)] := ⟨⟨_, Tryd.underlying66, by kernel_rfl, by kernel_rfl⟩⟩
instance : Fld Tryd.prog 66 1 0 65 2 := ⟨⟨_, _, Tryd.underlying66, rfl, rfl, rfl, by kernel_rfl⟩⟩
instance : Agg Tryd.prog 67 := ⟨fun w => run_isAgg Tryd.underlying67 w⟩
instance : Inf Tryd.prog 67 (.agg #[(.int .i32 0), (.int .u32 0)]) 2 8 := ⟨by kernel_rfl, by kernel_rfl⟩
instance : Str Tryd.prog 67 [(0, 0), (0, 2)] := ⟨⟨_, Tryd.underlying67, by kernel_rfl, by kernel_rfl⟩⟩
instance : Fld Tryd.prog 67 1 0 65 2 := ⟨⟨_, _, Tryd.underlying67, rfl, rfl, rfl, by kernel_rfl⟩⟩
instance : Agg Tryd.prog 68 := ⟨fun w => run_isAgg Tryd.underlying68 w⟩
instance : Inf Tryd.prog 68 (.agg #[(.int .u32 0), (.int .i32 0), (.int .u32 0)]) 3 12 := ⟨by kernel_rfl, by kernel_rfl⟩
instance : Str Tryd.prog 68 [(0, 0), (0, 1), (1, 2)] := ⟨⟨_, Tryd.underlying68, by kernel_rfl, by kernel_rfl⟩⟩
instance : Fld Tryd.prog 68 1 0 63 1 := ⟨⟨_, _, Tryd.underlying68, rfl, rfl, rfl, by kernel_rfl⟩⟩
instance : Fld Tryd.prog 68 2 1 67 2 := ⟨⟨_, _, Tryd.underlying68, rfl, rfl, rfl, by kernel_rfl⟩⟩
instance : Agg Tryd.prog 69 := ⟨fun w => run_isAgg Tryd.underlying69 w⟩
instance : Inf Tryd.prog 69 (.agg #[(.int .u32 0), (.int .i32 0), (.int .u32 0)]) 3 12 := ⟨by kernel_rfl, by kernel_rfl⟩
instance : Str Tryd.prog 69 [(0, 0), (0, 1), (1, 2)] := ⟨⟨_, Tryd.underlying69, by kernel_rfl, by kernel_rfl⟩⟩
instance : Fld Tryd.prog 69 1 0 63 1 := ⟨⟨_, _, Tryd.underlying69, rfl, rfl, rfl, by kernel_rfl⟩⟩
instance : Fld Tryd.prog 69 2 1 67 2 := ⟨⟨_, _, Tryd.underlying69, rfl, rfl, rfl, by kernel_rfl⟩⟩
instance : Agg Tryd.prog 70 := ⟨fun w => run_isAgg Tryd.underlying70 w⟩
instance : Inf Tryd.prog 70 (.agg #[(.pointer none), (.int .u32 0), (.int .i32 0), (.int .u32 0), (.int .i64 0), (.int .i64 0), (.bool false)]) 7 48 := ⟨by kernel_rfl, by kernel_rfl⟩
instance : Str Tryd.prog 70 [(0, 1), (1, 3), (4, 1), (5, 1), (6, 1)] := ⟨⟨_, Tryd.underlying70, by kernel_rfl, by kernel_rfl⟩⟩
instance : Fld Tryd.prog 70 0 0 28 1 := ⟨⟨_, _, Tryd.underlying70, rfl, rfl, rfl, by kernel_rfl⟩⟩
instance : Fld Tryd.prog 70 1 1 69 3 := ⟨⟨_, _, Tryd.underlying70, rfl, rfl, rfl, by kernel_rfl⟩⟩
instance : Fld Tryd.prog 70 2 4 3 1 := ⟨⟨_, _, Tryd.underlying70, rfl, rfl, rfl, by kernel_rfl⟩⟩
instance : Fld Tryd.prog 70 3 5 3 1 := ⟨⟨_, _, Tryd.underlying70, rfl, rfl, rfl, by kernel_rfl⟩⟩
instance : Fld Tryd.prog 70 4 6 4 1 := ⟨⟨_, _, Tryd.underlying70, rfl, rfl, rfl, by kernel_rfl⟩⟩
instance : Agg Tryd.prog 71 := ⟨fun w => run_isAgg Tryd.underlying71 w⟩
instance : Inf Tryd.prog 71 (.agg #[(.pointer none), (.int .u32 0), (.int .i32 0), (.int .u32 0), (.int .i64 0), (.int .i64 0), (.bool false)]) 7 48 := ⟨by kernel_rfl, by kernel_rfl⟩
instance : Str Tryd.prog 71 [(0, 1), (1, 3), (4, 1), (5, 1), (6, 1)] := ⟨⟨_, Tryd.underlying71, by kernel_rfl, by kernel_rfl⟩⟩
instance : Fld Tryd.prog 71 0 0 28 1 := ⟨⟨_, _, Tryd.underlying71, rfl, rfl, rfl, by kernel_rfl⟩⟩
instance : Fld Tryd.prog 71 1 1 69 3 := ⟨⟨_, _, Tryd.underlying71, rfl, rfl, rfl, by kernel_rfl⟩⟩
instance : Fld Tryd.prog 71 2 4 3 1 := ⟨⟨_, _, Tryd.underlying71, rfl, rfl, rfl, by kernel_rfl⟩⟩
instance : Fld Tryd.prog 71 3 5 3 1 := ⟨⟨_, _, Tryd.underlying71, rfl, rfl, rfl, by kernel_rfl⟩⟩
instance : Fld Tryd.prog 71 4 6 4 1 := ⟨⟨_, _, Tryd.underlying71, rfl, rfl, rfl, by kernel_rfl⟩⟩
instance : One Tryd.prog 72 := ⟨fun w => run_isAgg Tryd.underlying72 w⟩
instance : Inf Tryd.prog 72 .nilFunc 1 8 := ⟨by kernel_rfl, by kernel_rfl⟩
instance : One Tryd.prog 73 := ⟨fun w => run_isAgg Tryd.underlying73 w⟩
instance : Inf Tryd.prog 73 .nilFunc 1 8 := ⟨by kernel_rfl, by kernel_rfl⟩
instance : One Tryd.prog 74 := ⟨fun w => run_isAgg Tryd.underlying74 w⟩
instance : Inf Tryd.prog 74 .nilFunc 1 8 := ⟨by kernel_rfl, by kernel_rfl⟩
instance : Und Tryd.prog 75 (.pointer 77) := ⟨Tryd.underlying75⟩
instance : Inf Tryd.prog 75 (.pointer none) 1 8 := ⟨by kernel_rfl, by kernel_rfl⟩
instance : Agg Tryd.prog 76 := ⟨fun w => run_isAgg Tryd.underlying76 w⟩
instance : Inf Tryd.prog 76 (.agg #[(.pointer none), (.int .i64 0)]) 2 16 := ⟨by kernel_rfl, by kernel_rfl⟩
instance : Str Tryd.prog 76 [(0, 1), (1, 1)] := ⟨⟨_, Tryd.underlying76, by kernel_rfl, by kernel_rfl⟩⟩
instance : Fld Tryd.prog 76 0 0 28 1 := ⟨⟨_, _, Tryd.underlying76, rfl, rfl, rfl, by kernel_rfl⟩⟩
instance : Fld Tryd.prog 76 1 1 29 1 := ⟨⟨_, _, Tryd.underlying76, rfl, rfl, rfl, by kernel_rfl⟩⟩
instance : Agg Tryd.prog 77 := ⟨fun w => run_isAgg Tryd.underlying77 w⟩
instance : Inf Tryd.prog 77 (.agg #[(.pointer none), (.int .i64 0)]) 2 16 := ⟨by kernel_rfl, by kernel_rfl⟩
instance : Str Tryd.prog 77 [(0, 1), (1, 1)] := ⟨⟨_, Tryd.underlying77, by kernel_rfl, by kernel_rfl⟩⟩
instance : Fld Tryd.prog 77 0 0 28 1 := ⟨⟨_, _, Tryd.underlying77, rfl, rfl, rfl, by kernel_rfl⟩⟩
instance : Fld Tryd.prog 77 1 1 29 1 := ⟨⟨_, _, Tryd.underlying77, rfl, rfl, rfl, by kernel_rfl⟩⟩
instance : Und Tryd.prog 78 (.array 32 5) := ⟨Tryd.underlying78⟩
instance : Inf Tryd.prog 78 (.agg (List.replicate 32 (.int .u8 0)).toArray) 32 32 := ⟨by kernel_rfl, by kernel_rfl⟩
instance : One Tryd.prog 79 := ⟨fun w => run_isAgg Tryd.underlying79 w⟩
instance : Inf Tryd.prog 79 .nilFunc 1 8 := ⟨by kernel_rfl, by kernel_rfl⟩
instance : One Tryd.prog 80 := ⟨fun w => run_isAgg Tryd.underlying80 w⟩
instance : Inf Tryd.prog 80 .nilFunc 1 8 := ⟨by kernel_rfl, by kernel_rfl⟩
instance : One Tryd.prog 81 := ⟨fun w => run_isAgg Tryd.underlying81 w⟩
instance : Inf Tryd.prog 81 .nilFunc 1 8 := ⟨by kernel_rfl, by kernel_rfl⟩
instance : One Tryd.prog 82 := ⟨fun w => run_isAgg Tryd.underlying82 w⟩
instance : Inf Tryd.prog 82 .nilFunc 1 8 := ⟨by kernel_rfl, by kernel_rfl⟩
instance : Und Tryd.prog 83 (.pointer 69) := ⟨Tryd.underlying83⟩
instance : Inf Tryd.prog 83 (.pointer none) 1 8 := ⟨by kernel_rfl, by kernel_rfl⟩
instance : One Tryd.prog 85 := ⟨fun w => run_isAgg Tryd.underlying85 w⟩
instance : Inf Tryd.prog 85 .nilFunc 1 8 := ⟨by kernel_rfl, by kernel_rfl⟩
instance : One Tryd.prog 86 := ⟨fun w => run_isAgg Tryd.underlying86 w⟩
instance : Inf Tryd.prog 86 .nilFunc 1 8 := ⟨by kernel_rfl, by kernel_rfl⟩
instance : One Tryd.prog 87 := ⟨fun w => run_isAgg Tryd.underlying87 w⟩
instance : Inf Tryd.prog 87 .nilFunc 1 8 := ⟨by kernel_rfl, by kernel_rfl⟩
instance : Und Tryd.prog 88 (.map 3 4) := ⟨Tryd.underlying88⟩
instance : Inf Tryd.prog 88 (.map none) 1 8 := ⟨by kernel_rfl, by kernel_rfl⟩
instance : One Tryd.prog 89 := ⟨fun w => run_isAgg Tryd.underlying89 w⟩
instance : Inf Tryd.prog 89 .nilFunc 1 8 := ⟨by kernel_rfl, by kernel_rfl⟩
instance : Und Tryd.prog 90 (.slice 36) := ⟨Tryd.underlying90⟩
instance : Inf Tryd.prog 90 (.slice none 0 0) 1 24 := ⟨by kernel_rfl, by kernel_rfl⟩
instance : One Tryd.prog 91 := ⟨fun w => run_isAgg Tryd.underlying91 w⟩
instance : Inf Tryd.prog 91 .nilFunc 1 8 := ⟨by kernel_rfl, by kernel_rfl⟩
instance : One Tryd.prog 92 := ⟨fun w => run_isAgg Tryd.underlying92 w⟩
instance : Inf Tryd.prog 92 .nilFunc 1 8 := ⟨by kernel_rfl, by kernel_rfl⟩
instance : One Tryd.prog 93 := ⟨fun w => run_isAgg Tryd.underlying93 w⟩
instance : Inf Tryd.prog 93 .nilFunc 1 8 := ⟨by kernel_rfl, by kernel_rfl⟩
instance : One Tryd.prog 94 := ⟨fun w => run_isAgg Tryd.underlying94 w⟩
instance : Inf Tryd.prog 94 .nilFunc 1 8 := ⟨by kernel_rfl, by kernel_rfl⟩
instance : One Tryd.prog 95 := ⟨fun w => run_isAgg Tryd.underlying95 w⟩
instance : Inf Tryd.prog 95 .nilFunc 1 8 := ⟨by kernel_rfl, by kernel_rfl⟩
instance : One Tryd.prog 96 := ⟨fun w => run_isAgg Tryd.underlying96 w⟩
instance : Inf Tryd.prog 96 .nilFunc 1 8 := ⟨by kernel_rfl, by kernel_rfl⟩
instance : One Tryd.prog 97 := ⟨fun w => run_isAgg Tryd.underlying97 w⟩
instance : Inf Tryd.prog 97 .nilFunc 1 8 := ⟨by kernel_rfl, by kernel_rfl⟩
instance : Und Tryd.prog 98 (.array 64 5) := ⟨Tryd.underlying98⟩
instance : Inf Tryd.prog 98 (.agg (List.replicate 64 (.int .u8 0)).toArray) 64 64 := ⟨by kernel_rfl, by kernel_rfl⟩
instance : Und Tryd.prog 99 (.array 64 5) := ⟨Tryd.underlying99⟩
instance : Inf Tryd.prog 99 (.agg (List.replicate 64 (.int .u8 0)).toArray) 64 64 := ⟨by kernel_rfl, by kernel_rfl⟩
instance : Agg Tryd.prog 100 := ⟨fun w => run_isAgg Tryd.underlying100 w⟩
instance : Inf Tryd.prog 100 (.agg ((.int .i64 0) :: (List.replicate 64 (.int .u8 0))).toArray) 65 72 := ⟨by kernel_rfl, by kernel_rfl⟩
instance : Str Tryd.prog 100 [(0, 1), (1, 64)] := ⟨⟨_, Tryd.underlying100, by kernel_rfl, by kernel_rfl⟩⟩
instance : Fld Tryd.prog 100 0 0 3 1 := ⟨⟨_, _, Tryd.underlying100, rfl, rfl, rfl, by kernel_rfl⟩⟩
instance : Fld Tryd.prog 100 1 1 99 64 := ⟨⟨_, _, Tryd.underlying100, rfl, rfl, rfl, by kernel_rfl⟩⟩
instance : Agg Tryd.prog 101 := ⟨fun w => run_isAgg Tryd.underlying101 w⟩
instance : Inf Tryd.prog 101 (.agg ((.int .i64 0) :: (List.replicate 64 (.int .u8 0))).toArray) 65 72 := ⟨by kernel_rfl, by kernel_rfl⟩
instance : Str Tryd.prog 101 [(0, 1), (1, 64)] := ⟨⟨_, Tryd.underlying101, by kernel_rfl, by kernel_rfl⟩⟩
instance : Fld Tryd.prog 101 0 0 3 1 := ⟨⟨_, _, Tryd.underlying101, rfl, rfl, rfl, by kernel_rfl⟩⟩
instance : Fld Tryd.prog 101 1 1 99 64 := ⟨⟨_, _, Tryd.underlying101, rfl, rfl, rfl, by kernel_rfl⟩⟩
instance : Und Tryd.prog 102 (.pointer 63) := ⟨Tryd.underlying102⟩
instance : Inf Tryd.prog 102 (.pointer none) 1 8 := ⟨by kernel_rfl, by kernel_rfl⟩
instance : One Tryd.prog 103 := ⟨fun w => run_isAgg Tryd.underlying103 w⟩
instance : Inf Tryd.prog 103 .nilFunc 1 8 := ⟨by kernel_rfl, by kernel_rfl⟩
instance : Und Tryd.prog 104 (.pointer 61) := ⟨Tryd.underlying104⟩
instance : Inf Tryd.prog 104 (.pointer none) 1 8 := ⟨by kernel_rfl, by kernel_rfl⟩
instance : One Tryd.prog 105 := ⟨fun w => run_isAgg Tryd.underlying105 w⟩
instance : Inf Tryd.prog 105 .nilFunc 1 8 := ⟨by kernel_rfl, by kernel_rfl⟩
instance : One Tryd.prog 106 := ⟨fun w => run_isAgg Tryd.underlying106 w⟩
instance : Inf Tryd.prog 106 .nilFunc 1 8 := ⟨by kernel_rfl, by kernel_rfl⟩
instance : One Tryd.prog 108 := ⟨fun w => run_isAgg Tryd.underlying108 w⟩
instance : Inf Tryd.prog 108 .nilFunc 1 8 := ⟨by kernel_rfl, by kernel_rfl⟩
instance : Und Tryd.prog 109 (.int .u64) := ⟨Tryd.underlying109⟩
instance : Inf Tryd.prog 109 (.int .u64 0) 1 8 := ⟨by kernel_rfl, by kernel_rfl⟩
instance : Und Tryd.prog 110 (.pointer 114) := ⟨Tryd.underlying110⟩
instance : Inf Tryd.prog 110 (.pointer none) 1 8 := ⟨by kernel_rfl, by kernel_rfl⟩
instance : Und Tryd.prog 111 (.array 8 61) := ⟨Tryd.underlying111⟩
instance : Inf Tryd.prog 111 (.agg #[(.int .u32 0), (.int .u32 0), (.int .u32 0), (.int .u32 0), (.int .u32 0), (.int .u32 0), (.int .u32 0), (.int .u32 0)]) 8 32 := ⟨by kernel_rfl, by kernel_rfl⟩
instance : Und Tryd.prog 112 (.array 8 61) := ⟨Tryd.underlying112⟩
instance : Inf Tryd.prog 112 (.agg #[(.int .u32 0), (.int .u32 0), (.int .u32 0), (.int .u32 0), (.int .u32 0), (.int .u32 0), (.int .u32 0), (.int .u32 0)]) 8 32 := ⟨by kernel_rfl, by kernel_rfl⟩
instance : Agg Tryd.prog 113 := ⟨fun w => run_isAgg Tryd.underlying113 w⟩
instance : Inf Tryd.prog 113 (.agg ((.int .u32 0) :: (.int .u32 0) :: (.int .u32 0) :: (.int .u32 0) :: (.int .u32 0) :: (.int .u32 0) :: (.int .u32 0) :: (.int .u32 0) :: (List.replicate 64 (.int .u8 0) ++ ([(.int .i64 0)]))).toArray) 73 104 := ⟨by kernel_rfl, by kernel_rfl⟩
instance : Str Tryd.prog 113 [(0, 8), (8, 64), (72, 1)] := ⟨⟨_, Tryd.underlying113, by kernel_rfl, by kernel_rfl⟩⟩
instance : Fld Tryd.prog 113 0 0 112 8 := ⟨⟨_, _, Tryd.underlying113, rfl, rfl, rfl, by kernel_rfl⟩⟩
instance : Fld Tryd.prog 113 1 8 98 64 := ⟨⟨_, _, Tryd.underlying113, rfl, rfl, rfl, by kernel_rfl⟩⟩
instance : Fld Tryd.prog 113 2 72 3 1 := ⟨⟨_, _, Tryd.underlying113, rfl, rfl, rfl, by kernel_rfl⟩⟩
instance : Agg Tryd.prog 114 := ⟨fun w => run_isAgg Tryd.underlying114 w⟩
instance : Inf Tryd.prog 114 (.agg ((.int .u32 0) :: (.int .u32 0) :: (.int .u32 0) :: (.int .u32 0) :: (.int .u32 0) :: (.int .u32 0) :: (.int .u32 0) :: (.int .u32 0) :: (List.replicate 64 (.int .u8 0) ++ ([(.int .i64 0)]))).toArray) 73 104 := ⟨by kernel_rfl, by kernel_rfl⟩
instance : Str Tryd.prog 114 [(0, 8), (8, 64), (72, 1)] := ⟨⟨_, Tryd.underlying114, by kernel_rfl, by kernel_rfl⟩⟩
instance : Fld Tryd.prog 114 0 0 112 8 := ⟨⟨_, _, Tryd.underlying114, rfl, rfl, rfl, by kernel_rfl⟩⟩
instance : Fld Tryd.prog 114 1 8 98 64 := ⟨⟨_, _, Tryd.underlying114, rfl, rfl, rfl, by kernel_rfl⟩⟩
instance : Fld Tryd.prog 114 2 72 3 1 := ⟨⟨_, _, Tryd.underlying114, rfl, rfl, rfl, by kernel_rfl⟩⟩
instance : Und Tryd.prog 115 (.array 4 5) := ⟨Tryd.underlying115⟩
instance : Inf Tryd.prog 115 (.agg #[(.int .u8 0), (.int .u8 0), (.int .u8 0), (.int .u8 0)]) 4 4 := ⟨by kernel_rfl, by kernel_rfl⟩
instance : One Tryd.prog 116 := ⟨fun w => run_isAgg Tryd.underlying116 w⟩
instance : Inf Tryd.prog 116 .nilFunc 1 8 := ⟨by kernel_rfl, by kernel_rfl⟩
instance : One Tryd.prog 117 := ⟨fun w => run_isAgg Tryd.underlying117 w⟩
instance : Inf Tryd.prog 117 .nilFunc 1 8 := ⟨by kernel_rfl, by kernel_rfl⟩
instance : One Tryd.prog 118 := ⟨fun w => run_isAgg Tryd.underlying118 w⟩
instance : Inf Tryd.prog 118 .nilFunc 1 8 := ⟨by kernel_rfl, by kernel_rfl⟩
instance : One Tryd.prog 119 := ⟨fun w => run_isAgg Tryd.underlying119 w⟩
instance : Inf Tryd.prog 119 .nilFunc 1 8 := ⟨by kernel_rfl, by kernel_rfl⟩
instance : One Tryd.prog 120 := ⟨fun w => run_isAgg Tryd.underlying120 w⟩
instance : Inf Tryd.prog 120 .nilFunc 1 8 := ⟨by kernel_rfl, by kernel_rfl⟩
instance : One Tryd.prog 121 := ⟨fun w => run_isAgg Tryd.underlying121 w⟩
instance : Inf Tryd.prog 121 .nilFunc 1 8 := ⟨by kernel_rfl, by kernel_rfl⟩
instance : Und Tryd.prog 122 (.pointer 67) := ⟨Tryd.underlying122⟩
instance : Inf Tryd.prog 122 (.pointer none) 1 8 := ⟨by kernel_rfl, by kernel_rfl⟩
instance : One Tryd.prog 123 := ⟨fun w => run_isAgg Tryd.underlying123 w⟩
instance : Inf Tryd.prog 123 .nilFunc 1 8 := ⟨by kernel_rfl, by kernel_rfl⟩
instance : One Tryd.prog 124 := ⟨fun w => run_isAgg Tryd.underlying124 w⟩
instance : Inf Tryd.prog 124 .nilFunc 1 8 := ⟨by kernel_rfl, by kernel_rfl⟩
instance : Und Tryd.prog 125 (.int .u64) := ⟨Tryd.underlying125⟩
instance : Inf Tryd.prog 125 (.int .u64 0) 1 8 := ⟨by kernel_rfl, by kernel_rfl⟩
instance : One Tryd.prog 126 := ⟨fun w => run_isAgg Tryd.underlying126 w⟩
instance : Inf Tryd.prog 126 .nilFunc 1 8 := ⟨by kernel_rfl, by kernel_rfl⟩
instance : One Tryd.prog 127 := ⟨fun w => run_isAgg Tryd.underlying127 w⟩
instance : Inf Tryd.prog 127 .nilFunc 1 8 := ⟨by kernel_rfl, by kernel_rfl⟩
instance : Und Tryd.prog 128 (.pointer 51) := ⟨Tryd.underlying128⟩
instance : Inf Tryd.prog 128 (.pointer none) 1 8 := ⟨by kernel_rfl, by kernel_rfl⟩
instance : Und Tryd.prog 129 (.pointer 57) := ⟨Tryd.underlying129⟩
instance : Inf Tryd.prog 129 (.pointer none) 1 8 := ⟨by kernel_rfl, by kernel_rfl⟩
instance : One Tryd.prog 130 := ⟨fun w => run_isAgg Tryd.underlying130 w⟩
instance : Inf Tryd.prog 130 .nilFunc 1 8 := ⟨by kernel_rfl, by kernel_rfl⟩
instance : Und Tryd.prog 131 (.pointer 2) := ⟨Tryd.underlying131⟩
instance : Inf Tryd.prog 131 (.pointer none) 1 8 := ⟨by kernel_rfl, by kernel_rfl⟩
instance : Und Tryd.prog 132 (.pointer 65) := ⟨Tryd.underlying132⟩
instance : Inf Tryd.prog 132 (.pointer none) 1 8 := ⟨by kernel_rfl, by kernel_rfl⟩
instance : One Tryd.prog 133 := ⟨fun w => run_isAgg Tryd.underlying133 w⟩
instance : Inf Tryd.prog 133 .nilFunc 1 8 := ⟨by kernel_rfl, by kernel_rfl⟩
instance : Und Tryd.prog 134 (.pointer 21) := ⟨Tryd.underlying134⟩
instance : Inf Tryd.prog 134 (.pointer none) 1 8 := ⟨by kernel_rfl, by kernel_rfl⟩
instance : One Tryd.prog 135 := ⟨fun w => run_isAgg Tryd.underlying135 w⟩
instance : Inf Tryd.prog 135 .nilFunc 1 8 := ⟨by kernel_rfl, by kernel_rfl⟩
instance : One Tryd.prog 136 := ⟨fun w => run_isAgg Tryd.underlying136 w⟩
instance : Inf Tryd.prog 136 (.pointer none) 1 8 := ⟨by kernel_rfl, by kernel_rfl⟩
instance : One Tryd.prog 137 := ⟨fun w => run_isAgg Tryd.underlying137 w⟩
instance : Inf Tryd.prog 137 .nilFunc 1 8 := ⟨by kernel_rfl, by kernel_rfl⟩
instance : One Tryd.prog 138 := ⟨fun w => run_isAgg Tryd.underlying138 w⟩
instance : Inf Tryd.prog 138 .nilFunc 1 8 := ⟨by kernel_rfl, by kernel_rfl⟩
instance : One Tryd.prog 139 := ⟨fun w => run_isAgg Tryd.underlying139 w⟩
instance : Inf Tryd.prog 139 .nilFunc 1 8 := ⟨by kernel_rfl, by kernel_rfl⟩
instance : Und Tryd.prog 140 (.pointer 112) := ⟨Tryd.underlying140⟩
instance : Inf Tryd.prog 140 (.pointer none) 1 8 := ⟨by kernel_rfl, by kernel_rfl⟩
instance : One Tryd.prog 141 := ⟨fun w => run_isAgg Tryd.underlying141 w⟩
instance : Inf Tryd.prog 141 .nilFunc 1 8 := ⟨by kernel_rfl, by kernel_rfl⟩
instance : One Tryd.prog 142 := ⟨fun w => run_isAgg Tryd.underlying142 w⟩
instance : Inf Tryd.prog 142 .nilFunc 1 8 := ⟨by kernel_rfl, by kernel_rfl⟩
instance : One Tryd.prog 143 := ⟨fun w => run_isAgg Tryd.underlying143 w⟩
instance : Inf Tryd.prog 143 .nilFunc 1 8 := ⟨by kernel_rfl, by kernel_rfl⟩
instance : Und Tryd.prog 144 (.array 64 61) := ⟨Tryd.underlying144⟩
instance : Inf Tryd.prog 144 (.agg (List.replicate 64 (.int .u32 0)).toArray) 64 256 := ⟨by kernel_rfl, by kernel_rfl⟩
instance : One Tryd.prog 145 := ⟨fun w => run_isAgg Tryd.underlying145 w⟩
instance : Inf Tryd.prog 145 .nilFunc 1 8 := ⟨by kernel_rfl, by kernel_rfl⟩
instance : One Tryd.prog 146 := ⟨fun w => run_isAgg Tryd.underlying146 w⟩
instance : Inf Tryd.prog 146 .nilFunc 1 8 := ⟨by kernel_rfl, by kernel_rfl⟩
instance : One Tryd.prog 147 := ⟨fun w => run_isAgg Tryd.underlying147 w⟩
instance : Inf Tryd.prog 147 .nilFunc 1 8 := ⟨by kernel_rfl, by kernel_rfl⟩
instance : One Tryd.prog 148 := ⟨fun w => run_isAgg Tryd.underlying148 w⟩
instance : Inf Tryd.prog 148 .nilFunc 1 8 := ⟨by kernel_rfl, by kernel_rfl⟩
instance : Agg Tryd.prog 149 := ⟨fun w => run_isAgg Tryd.underlying149 w⟩
instance : Inf Tryd.prog 149 (.agg #[(.pointer none), (.pointer none), (.pointer none), (.string ⟨#[]⟩)]) 4 40 := ⟨by kernel_rfl, by kernel_rfl⟩
instance : Str Tryd.prog 149 [(0, 1), (1, 1), (2, 1), (3, 1)] := ⟨⟨_, Tryd.underlying149, by kernel_rfl, by kernel_rfl⟩⟩
instance : Fld Tryd.prog 149 0 0 17 1 := ⟨⟨_, _, Tryd.underlying149, rfl, rfl, rfl, by kernel_rfl⟩⟩
instance : Fld Tryd.prog 149 1 1 17 1 := ⟨⟨_, _, Tryd.underlying149, rfl, rfl, rfl, by kernel_rfl⟩⟩
instance : Fld Tryd.prog 149 2 2 17 1 := ⟨⟨_, _, Tryd.underlying149, rfl, rfl, rfl, by kernel_rfl⟩⟩
instance : Fld Tryd.prog 149 3 3 9 1 := ⟨⟨_, _, Tryd.underlying149, rfl, rfl, rfl, by kernel_rfl⟩⟩
instance : Agg Tryd.prog 150 := ⟨fun w => run_isAgg Tryd.underlying150 w⟩
instance : Inf Tryd.prog 150 (.agg #[(.pointer none), (.pointer none), (.pointer none), (.string ⟨#[]⟩)]) 4 40 := ⟨by kernel_rfl, by kernel_rfl⟩
instance : Str Tryd.prog 150 [(0, 1), (1, 1), (2, 1), (3, 1)] := ⟨⟨_, Tryd.underlying150, by kernel_rfl, by kernel_rfl⟩⟩
instance : Fld Tryd.prog 150 0 0 17 1 := ⟨⟨_, _, Tryd.underlying150, rfl, rfl, rfl, by kernel_rfl⟩⟩
instance : Fld Tryd.prog 150 1 1 17 1 := ⟨⟨_, _, Tryd.underlying150, rfl, rfl, rfl, by kernel_rfl⟩⟩
instance : Fld Tryd.prog 150 2 2 17 1 := ⟨⟨_, _, Tryd.underlying150, rfl, rfl, rfl, by kernel_rfl⟩⟩
instance : Fld Tryd.prog 150 3 3 9 1 := ⟨⟨_, _, Tryd.underlying150, rfl, rfl, rfl, by kernel_rfl⟩⟩
instance : Und Tryd.prog 151 (.array 0 16) := ⟨Tryd.underlying151⟩
instance : Inf Tryd.prog 151 (.agg #[]) 0 0 := ⟨by kernel_rfl, by kernel_rfl⟩
instance : Agg Tryd.prog 152 := ⟨fun w => run_isAgg Tryd.underlying152 w⟩
instance : Inf Tryd.prog 152 (.agg #[]) 0 0 := ⟨by kernel_rfl, by kernel_rfl⟩
instance : Str Tryd.prog 152 [(0, 0)] := ⟨⟨_, Tryd.underlying152, by kernel_rfl, by kernel_rfl⟩⟩
instance : Agg Tryd.prog 153 := ⟨fun w => run_isAgg Tryd.underlying153 w⟩
instance : Inf Tryd.prog 153 (.agg #[]) 0 0 := ⟨by kernel_rfl, by kernel_rfl⟩
instance : Str Tryd.prog 153 [(0, 0)] := ⟨⟨_, Tryd.underlying153, by kernel_rfl, by kernel_rfl⟩⟩
instance : Und Tryd.prog 154 (.int .u8) := ⟨Tryd.underlying154⟩
instance : Inf Tryd.prog 154 (.int .u8 0) 1 1 := ⟨by kernel_rfl, by kernel_rfl⟩
instance : Und Tryd.prog 155 (.int .u8) := ⟨Tryd.underlying155⟩
instance : Inf Tryd.prog 155 (.int .u8 0) 1 1 := ⟨by kernel_rfl, by kernel_rfl⟩
instance : One Tryd.prog 156 := ⟨fun w => run_isAgg Tryd.underlying156 w⟩
instance : Inf Tryd.prog 156 .nilFunc 1 8 := ⟨by kernel_rfl, by kernel_rfl⟩
instance : Und Tryd.prog 157 (.pointer 5) := ⟨Tryd.underlying157⟩
instance : Inf Tryd.prog 157 (.pointer none) 1 8 := ⟨by kernel_rfl, by kernel_rfl⟩
instance : Und Tryd.prog 158 (.int .i32) := ⟨Tryd.underlying158⟩
instance : Inf Tryd.prog 158 (.int .i32 0) 1 4 := ⟨by kernel_rfl, by kernel_rfl⟩
instance : Und Tryd.prog 159 (.int .i32) := ⟨Tryd.underlying159⟩
instance : Inf Tryd.prog 159 (.int .i32 0) 1 4 := ⟨by kernel_rfl, by kernel_rfl⟩
instance : Agg Tryd.prog 160 := ⟨fun w => run_isAgg Tryd.underlying160 w⟩
instance : Inf Tryd.prog 160 (.agg #[(.int .u64 0), (.int .u64 0), (.int .u32 0), (.int .u8 0), (.int .u8 0), (.int .u8 0), (.int .u8 0), .nilFunc, (.pointer none), (.int .i32 0), (.int .i32 0)]) 11 48 := ⟨by kernel_rfl, by kernel_rfl⟩
instance : Str Tryd.prog 160 [(0, 1), (1, 1), (2, 1), (3, 1), (4, 1), (5, 1), (6, 1), (7, 1), (8, 1), (9, 1), (10, 1)] := ⟨⟨_, Tryd.underlying160, by kernel_rfl, by kernel_rfl⟩⟩
instance : Fld Tryd.prog 160 0 0 12 1 := ⟨⟨_, _, Tryd.underlying160, rfl, rfl, rfl, by kernel_rfl⟩⟩
instance : Fld Tryd.prog 160 1 1 12 1 := ⟨⟨_, _, Tryd.underlying160, rfl, rfl, rfl, by kernel_rfl⟩⟩
instance : Fld Tryd.prog 160 2 2 61 1 := ⟨⟨_, _, Tryd.underlying160, rfl, rfl, rfl, by kernel_rfl⟩⟩
instance : Fld Tryd.prog 160 3 3 154 1 := ⟨⟨_, _, Tryd.underlying160, rfl, rfl, rfl, by kernel_rfl⟩⟩
instance : Fld Tryd.prog 160 4 4 5 1 := ⟨⟨_, _, Tryd.underlying160, rfl, rfl, rfl, by kernel_rfl⟩⟩
instance : Fld Tryd.prog 160 5 5 5 1 := ⟨⟨_, _, Tryd.underlying160, rfl, rfl, rfl, by kernel_rfl⟩⟩
instance : Fld Tryd.prog 160 6 6 155 1 := ⟨⟨_, _, Tryd.underlying160, rfl, rfl, rfl, by kernel_rfl⟩⟩
instance : Fld Tryd.prog 160 7 7 156 1 := ⟨⟨_, _, Tryd.underlying160, rfl, rfl, rfl, by kernel_rfl⟩⟩
instance : Fld Tryd.prog 160 8 8 157 1 := ⟨⟨_, _, Tryd.underlying160, rfl, rfl, rfl, by kernel_rfl⟩⟩
instance : Fld Tryd.prog 160 9 9 158 1 := ⟨⟨_, _, Tryd.underlying160, rfl, rfl, rfl, by kernel_rfl⟩⟩
instance : Fld Tryd.prog 160 10 10 159 1 := ⟨⟨_, _, Tryd.underlying160, rfl, rfl, rfl, by kernel_rfl⟩⟩
instance : Agg Tryd.prog 161 := ⟨fun w => run_isAgg Tryd.underlying161 w⟩
instance : Inf Tryd.prog 161 (.agg #[(.int .u64 0), (.int .u64 0), (.int .u32 0), (.int .u8 0), (.int .u8 0), (.int .u8 0), (.int .u8 0), .nilFunc, (.pointer none), (.int .i32 0), (.int .i32 0)]) 11 48 := ⟨by kernel_rfl, by kernel_rfl⟩
instance : Str Tryd.prog 161 [(0, 1), (1, 1), (2, 1), (3, 1), (4, 1), (5, 1), (6, 1), (7, 1), (8, 1), (9, 1), (10, 1)] := ⟨⟨_, Tryd.underlying161, by kernel_rfl, by kernel_rfl⟩⟩
instance : Fld Tryd.prog 161 0 0 12 1 := ⟨⟨_, _, Tryd.underlying161, rfl, rfl, rfl, by kernel_rfl⟩⟩
instance : Fld Tryd.prog 161 1 1 12 1 := ⟨⟨_, _, Tryd.underlying161, rfl, rfl, rfl, by kernel_rfl⟩⟩
instance : Fld Tryd.prog 161 2 2 61 1 := ⟨⟨_, _, Tryd.underlying161, rfl, rfl, rfl, by kernel_rfl⟩⟩
instance : Fld Tryd.prog 161 3 3 154 1 := ⟨⟨_, _, Tryd.underlying161, rfl, rfl, rfl, by kernel_rfl⟩⟩
instance : Fld Tryd.prog 161 4 4 5 1 := ⟨⟨_, _, Tryd.underlying161, rfl, rfl, rfl, by kernel_rfl⟩⟩
instance : Fld Tryd.prog 161 5 5 5 1 := ⟨⟨_, _, Tryd.underlying161, rfl, rfl, rfl, by kernel_rfl⟩⟩
instance : Fld Tryd.prog 161 6 6 155 1 := ⟨⟨_, _, Tryd.underlying161, rfl, rfl, rfl, by kernel_rfl⟩⟩
instance : Fld Tryd.prog 161 7 7 156 1 := ⟨⟨_, _, Tryd.underlying161, rfl, rfl, rfl, by kernel_rfl⟩⟩
instance : Fld Tryd.prog 161 8 8 157 1 := ⟨⟨_, _, Tryd.underlying161, rfl, rfl, rfl, by kernel_rfl⟩⟩
instance : Fld Tryd.prog 161 9 9 158 1 := ⟨⟨_, _, Tryd.underlying161, rfl, rfl, rfl, by kernel_rfl⟩⟩
instance : Fld Tryd.prog 161 10 10 159 1 := ⟨⟨_, _, Tryd.underlying161, rfl, rfl, rfl, by kernel_rfl⟩⟩
instance : Fun Tryd.prog 3 := Fun.mk' Tryd.func3 (by kernel_rfl) (by kernel_rfl)
instance : Fun Tryd.prog 4 := Fun.mk' Tryd.func4 (by kernel_rfl) (by kernel_rfl)
instance : Fun Tryd.prog 5 := Fun.mk' Tryd.func5 (by kernel_rfl) (by kernel_rfl)
instance : Fun Tryd.prog 6 := Fun.mk' Tryd.func6 (by kernel_rfl) (by kernel_rfl)
instance : Fun Tryd.prog 7 := Fun.mk' Tryd.func7 (by kernel_rfl) (by kernel_rfl)
instance : Fun Tryd.prog 8 := Fun.mk' Tryd.func8 (by kernel_rfl) (by kernel_rfl)
instance : Fun Tryd.prog 9 := Fun.mk' Tryd.func9 (by kernel_rfl) (by kernel_rfl)
instance : Fun Tryd.prog 10 := Fun.mk' Tryd.func10 (by kernel_rfl) (by kernel_rfl)
instance : Fun Tryd.prog 11 := Fun.mk' Tryd.func11 (by kernel_rfl) (by kernel_rfl)
instance : Fun Tryd.prog 12 := Fun.mk' Tryd.func12 (by kernel_rfl) (by kernel_rfl)
instance : Fun Tryd.prog 13 := Fun.mk' Tryd.func13 (by kernel_rfl) (by kernel_rfl)
instance : Fun Tryd.prog 14 := Fun.mk' Tryd.func14 (by kernel_rfl) (by kernel_rfl)
instance : Fun Tryd.prog 15 := Fun.mk' Tryd.func15 (by kernel_rfl) (by kernel_rfl)
instance : Fun Tryd.prog 16 := Fun.mk' Tryd.func16 (by kernel_rfl) (by kernel_rfl)
instance : Fun Tryd.prog 17 := Fun.mk' Tryd.func17 (by kernel_rfl) (by kernel_rfl)
instance : Fun Tryd.prog 18 := Fun.mk' Tryd.func18 (by kernel_rfl) (by kernel_rfl)
instance : Fun Tryd.prog 19 := Fun.mk' Tryd.func19 (by kernel_rfl) (by kernel_rfl)
instance : Fun Tryd.prog 20 := Fun.mk' Tryd.func20 (by kernel_rfl) (by kernel_rfl)
instance : Fun Tryd.prog 21 := Fun.mk' Tryd.func21 (by kernel_rfl) (by kernel_rfl)
instance : Fun Tryd.prog 22 := Fun.mk' Tryd.func22 (by kernel_rfl) (by kernel_rfl)
instance : Fun Tryd.prog 23 := Fun.mk' Tryd.func23 (by kernel_rfl) (by kernel_rfl)
instance : Fun Tryd.prog 24 := Fun.mk' Tryd.func24 (by kernel_rfl) (by kernel_rfl)
instance : Fun Tryd.prog 25 := Fun.mk' Tryd.func25 (by kernel_rfl) (by kernel_rfl)
instance : Fun Tryd.prog 26 := Fun.mk' Tryd.func26 (by kernel_rfl) (by kernel_rfl)
instance : Fun Tryd.prog 27 := Fun.mk' Tryd.func27 (by kernel_rfl) (by kernel_rfl)
instance : Fun Tryd.prog 28 := Fun.mk' Tryd.func28 (by kernel_rfl) (by kernel_rfl)
instance : Fun Tryd.prog 29 := Fun.mk' Tryd.func29 (by kernel_rfl) (by kernel_rfl)
instance : Fun Tryd.prog 30 := Fun.mk' Tryd.func30 (by kernel_rfl) (by kernel_rfl)
instance : Fun Tryd.prog 31 := Fun.mk' Tryd.func31 (by kernel_rfl) (by kernel_rfl)
instance : Fun Tryd.prog 32 := Fun.mk' Tryd.func32 (by kernel_rfl) (by kernel_rfl)
instance : Fun Tryd.prog 33 := Fun.mk' Tryd.func33 (by kernel_rfl) (by kernel_rfl)
instance : Fun Tryd.prog 34 := Fun.mk' Tryd.func34 (by kernel_rfl) (by kernel_rfl)
instance : Fun Tryd.prog 35 := Fun.mk' Tryd.func35 (by kernel_rfl) (by kernel_rfl)
instance : Fun Tryd.prog 36 := Fun.mk' Tryd.func36 (by kernel_rfl) (by kernel_rfl)
instance : Fun Tryd.prog 37 := Fun.mk' Tryd.func37 (by kernel_rfl) (by kernel_rfl)
instance : Fun Tryd.prog 38 := Fun.mk' Tryd.func38 (by kernel_rfl) (by kernel_rfl)
instance : Fun Tryd.prog 39 := Fun.mk' Tryd.func39 (by kernel_rfl) (by kernel_rfl)
instance : Fun Tryd.prog 40 := Fun.mk' Tryd.func40 (by kernel_rfl) (by kernel_rfl)
instance : Fun Tryd.prog 41 := Fun.mk' Tryd.func41 (by kernel_rfl) (by kernel_rfl)
instance : Fun Tryd.prog 42 := Fun.mk' Tryd.func42 (by kernel_rfl) (by kernel_rfl)
instance : Fun Tryd.prog 43 := Fun.mk' Tryd.func43 (by kernel_rfl) (by kernel_rfl)
instance : Fun Tryd.prog 44 := Fun.mk' Tryd.func44 (by kernel_rfl) (by kernel_rfl)
instance : Fun Tryd.prog 45 := Fun.mk' Tryd.func45 (by kernel_rfl) (by kernel_rfl)
instance : ELoad Tryd.prog 46 .u32 := ⟨fun hc => run_call_load Tryd.func46 (by kernel_rfl) (by kernel_rfl) (by kernel_rfl) .u32 (by kernel_rfl) hc⟩
instance : Fun Tryd.prog 47 := Fun.mk' Tryd.func47 (by kernel_rfl) (by kernel_rfl)
instance : Fun Tryd.prog 48 := Fun.mk' Tryd.func48 (by kernel_rfl) (by kernel_rfl)
instance : Fun Tryd.prog 49 := Fun.mk' Tryd.func49 (by kernel_rfl) (by kernel_rfl)
instance : Fun Tryd.prog 50 := Fun.mk' Tryd.func50 (by kernel_rfl) (by kernel_rfl)
instance : Fun Tryd.prog 51 := Fun.mk' Tryd.func51 (by kernel_rfl) (by kernel_rfl)
instance : Fun Tryd.prog 52 := Fun.mk' Tryd.func52 (by kernel_rfl) (by kernel_rfl)
instance : Fun Tryd.prog 53 := Fun.mk' Tryd.func53 (by kernel_rfl) (by kernel_rfl)
instance : Fun Tryd.prog 54 := Fun.mk' Tryd.func54 (by kernel_rfl) (by kernel_rfl)
instance : Fun Tryd.prog 55 := Fun.mk' Tryd.func55 (by kernel_rfl) (by kernel_rfl)
instance : Fun Tryd.prog 56 := Fun.mk' Tryd.func56 (by kernel_rfl) (by kernel_rfl)
instance : Fun Tryd.prog 57 := Fun.mk' Tryd.func57 (by kernel_rfl) (by kernel_rfl)
instance : Fun Tryd.prog 58 := Fun.mk' Tryd.func58 (by kernel_rfl) (by kernel_rfl)
instance : Fun Tryd.prog 59 := Fun.mk' Tryd.func59 (by kernel_rfl) (by kernel_rfl)
instance : Fun Tryd.prog 60 := Fun.mk' Tryd.func60 (by kernel_rfl) (by kernel_rfl)
instance : Fun Tryd.prog 61 := Fun.mk' Tryd.func61 (by kernel_rfl) (by kernel_rfl)
instance : Fun Tryd.prog 62 := Fun.mk' Tryd.func62 (by kernel_rfl) (by kernel_rfl)
instance : EStore Tryd.prog 63 := ⟨fun hc hz => run_call_store Tryd.func63 (by kernel_rfl) (by kernel_rfl) (by kernel_rfl) (by kernel_rfl) hc hz⟩
instance : Fun Tryd.prog 64 := Fun.mk' Tryd.func64 (by kernel_rfl) (by kernel_rfl)
instance : Fun Tryd.prog 65 := Fun.mk' Tryd.func65 (by kernel_rfl) (by kernel_rfl)
instance : Fun Tryd.prog 66 := Fun.mk' Tryd.func66 (by kernel_rfl) (by kernel_rfl)
instance : Fun Tryd.prog 67 := Fun.mk' Tryd.func67 (by kernel_rfl) (by kernel_rfl)
instance : EAdd Tryd.prog 68 .i64 := ⟨fun hc hz hs => run_call_add Tryd.func68 (by kernel_rfl) (by kernel_rfl) (by kernel_rfl) .i64 (by kernel_rfl) hc hz hs⟩
instance : EMark0 Tryd.prog 70 := ⟨fun w => run_call_mark0 Tryd.func70 (by kernel_rfl) (by kernel_rfl) (by kernel_rfl) .disable (by kernel_rfl) w⟩
instance : ECas Tryd.prog 71 .i32 := ⟨fun hc hz => run_call_cas_hit Tryd.func71 (by kernel_rfl) (by kernel_rfl) (by kernel_rfl) .i32 (by kernel_rfl) hc hz⟩
instance : EMark0 Tryd.prog 72 := ⟨fun w => run_call_mark0 Tryd.func72 (by kernel_rfl) (by kernel_rfl) (by kernel_rfl) .enable (by kernel_rfl) w⟩
instance : EMark Tryd.prog 73 := ⟨fun a w => run_call_marked Tryd.func73 (by kernel_rfl) (by kernel_rfl) (by kernel_rfl) .acquire (by kernel_rfl) a w⟩
instance : Fun Tryd.prog 74 := Fun.mk' Tryd.func74 (by kernel_rfl) (by kernel_rfl)
instance : EMark Tryd.prog 75 := ⟨fun a w => run_call_marked Tryd.func75 (by kernel_rfl) (by kernel_rfl) (by kernel_rfl) .releaseMerge (by kernel_rfl) a w⟩
instance : EAdd Tryd.prog 76 .i32 := ⟨fun hc hz hs => run_call_add Tryd.func76 (by kernel_rfl) (by kernel_rfl) (by kernel_rfl) .i32 (by kernel_rfl) hc hz hs⟩
instance : Fun Tryd.prog 77 := Fun.mk' Tryd.func77 (by kernel_rfl) (by kernel_rfl)
instance : Fun Tryd.prog 78 := Fun.mk' Tryd.func78 (by kernel_rfl) (by kernel_rfl)
instance : Fun Tryd.prog 86 := Fun.mk' Tryd.func86 (by kernel_rfl) (by kernel_rfl)
instance : Fun Tryd.prog 87 := Fun.mk' Tryd.func87 (by kernel_rfl) (by kernel_rfl)
instance : Fun Tryd.prog 88 := Fun.mk' Tryd.func88 (by kernel_rfl) (by kernel_rfl)
theorem mixed : Tryd.prog.follows .mixedOrders = true := by kernel_rfl
end Cr
