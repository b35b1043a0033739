/-
  FACTS ON THE TYPES AND FUNCTIONS OF THIS SEAT's TRANSLATION, written by a program off the dump's rows; each is proved by the kernel.
-/
import Derived.Test.YtflbhldcnjmkkaaGreatDoorAnl2
import Derived.Test.YtflbhldcnjmkkaaGreatDoorRows
namespace Cr
open Go Go.Proofs
instance : One Tryz.prog 1 := ⟨fun w => run_isAgg Tryz.underlying1 w⟩
instance : Inf Tryz.prog 1 .nilFunc 1 8 := ⟨by kernel_rfl, by kernel_rfl⟩
instance : Und Tryz.prog 2 (.int .i64) := ⟨Tryz.underlying2⟩
instance : Inf Tryz.prog 2 (.int .i64 0) 1 8 := ⟨by kernel_rfl, by kernel_rfl⟩
instance : Und Tryz.prog 3 (.int .i64) := ⟨Tryz.underlying3⟩
instance : Inf Tryz.prog 3 (.int .i64 0) 1 8 := ⟨by kernel_rfl, by kernel_rfl⟩
instance : Und Tryz.prog 4 (.bool) := ⟨Tryz.underlying4⟩
instance : Inf Tryz.prog 4 (.bool false) 1 1 := ⟨by kernel_rfl, by kernel_rfl⟩
instance : Und Tryz.prog 5 (.int .u8) := ⟨Tryz.underlying5⟩
instance : Inf Tryz.prog 5 (.int .u8 0) 1 1 := ⟨by kernel_rfl, by kernel_rfl⟩
instance : Und Tryz.prog 6 (.int .u8) := ⟨Tryz.underlying6⟩
instance : Inf Tryz.prog 6 (.int .u8 0) 1 1 := ⟨by kernel_rfl, by kernel_rfl⟩
instance : Agg Tryz.prog 7 := ⟨fun w => run_isAgg Tryz.underlying7 w⟩
instance : Inf Tryz.prog 7 (.agg #[(.int .i64 0), (.int .i64 0), (.bool false), (.int .u8 0)]) 4 24 := ⟨by kernel_rfl, by kernel_rfl⟩
instance : Str Tryz.prog 7 [(0, 1), (1, 1), (2, 1), (3, 1)] := ⟨⟨_, Tryz.underlying7, by kernel_rfl, by kernel_rfl⟩⟩
instance : Fld Tryz.prog 7 0 0 2 1 := ⟨⟨_, _, Tryz.underlying7, rfl, rfl, rfl, by kernel_rfl⟩⟩
instance : Fld Tryz.prog 7 1 1 3 1 := ⟨⟨_, _, Tryz.underlying7, rfl, rfl, rfl, by kernel_rfl⟩⟩
instance : Fld Tryz.prog 7 2 2 4 1 := ⟨⟨_, _, Tryz.underlying7, rfl, rfl, rfl, by kernel_rfl⟩⟩
instance : Fld Tryz.prog 7 3 3 6 1 := ⟨⟨_, _, Tryz.underlying7, rfl, rfl, rfl, by kernel_rfl⟩⟩
instance : Agg Tryz.prog 8 := ⟨fun w => run_isAgg Tryz.underlying8 w⟩
instance : Inf Tryz.prog 8 (.agg #[(.int .i64 0), (.int .i64 0), (.bool false), (.int .u8 0)]) 4 24 := ⟨by kernel_rfl, by kernel_rfl⟩
instance : Str Tryz.prog 8 [(0, 1), (1, 1), (2, 1), (3, 1)] := ⟨⟨_, Tryz.underlying8, by kernel_rfl, by kernel_rfl⟩⟩
instance : Fld Tryz.prog 8 0 0 2 1 := ⟨⟨_, _, Tryz.underlying8, rfl, rfl, rfl, by kernel_rfl⟩⟩
instance : Fld Tryz.prog 8 1 1 3 1 := ⟨⟨_, _, Tryz.underlying8, rfl, rfl, rfl, by kernel_rfl⟩⟩
instance : Fld Tryz.prog 8 2 2 4 1 := ⟨⟨_, _, Tryz.underlying8, rfl, rfl, rfl, by kernel_rfl⟩⟩
instance : Fld Tryz.prog 8 3 3 6 1 := ⟨⟨_, _, Tryz.underlying8, rfl, rfl, rfl, by kernel_rfl⟩⟩
instance : Und Tryz.prog 9 (.string) := ⟨Tryz.underlying9⟩
instance : Inf Tryz.prog 9 (.string ⟨#[]⟩) 1 16 := ⟨by kernel_rfl, by kernel_rfl⟩
instance : Und Tryz.prog 10 (.string) := ⟨Tryz.underlying10⟩
instance : Inf Tryz.prog 10 (.string ⟨#[]⟩) 1 16 := ⟨by kernel_rfl, by kernel_rfl⟩
instance : Und Tryz.prog 11 (.string) := ⟨Tryz.underlying11⟩
instance : Inf Tryz.prog 11 (.string ⟨#[]⟩) 1 16 := ⟨by kernel_rfl, by kernel_rfl⟩
instance : Und Tryz.prog 12 (.int .u64) := ⟨Tryz.underlying12⟩
instance : Inf Tryz.prog 12 (.int .u64 0) 1 8 := ⟨by kernel_rfl, by kernel_rfl⟩
instance : Agg Tryz.prog 13 := ⟨fun w => run_isAgg Tryz.underlying13 w⟩
instance : Inf Tryz.prog 13 (.agg #[(.string ⟨#[]⟩), (.int .u64 0)]) 2 24 := ⟨by kernel_rfl, by kernel_rfl⟩
instance : Str Tryz.prog 13 [(0, 1), (1, 1)] := ⟨⟨_, Tryz.underlying13, by kernel_rfl, by kernel_rfl⟩⟩
instance : Fld Tryz.prog 13 0 0 9 1 := ⟨⟨_, _, Tryz.underlying13, rfl, rfl, rfl, by kernel_rfl⟩⟩
instance : Fld Tryz.prog 13 1 1 12 1 := ⟨⟨_, _, Tryz.underlying13, rfl, rfl, rfl, by kernel_rfl⟩⟩
instance : Agg Tryz.prog 14 := ⟨fun w => run_isAgg Tryz.underlying14 w⟩
instance : Inf Tryz.prog 14 (.agg #[(.string ⟨#[]⟩), (.int .u64 0)]) 2 24 := ⟨by kernel_rfl, by kernel_rfl⟩
instance : Str Tryz.prog 14 [(0, 1), (1, 1)] := ⟨⟨_, Tryz.underlying14, by kernel_rfl, by kernel_rfl⟩⟩
instance : Fld Tryz.prog 14 0 0 9 1 := ⟨⟨_, _, Tryz.underlying14, rfl, rfl, rfl, by kernel_rfl⟩⟩
instance : Fld Tryz.prog 14 1 1 12 1 := ⟨⟨_, _, Tryz.underlying14, rfl, rfl, rfl, by kernel_rfl⟩⟩
instance : Und Tryz.prog 15 (.pointer 502) := ⟨Tryz.underlying15⟩
instance : Inf Tryz.prog 15 (.pointer none) 1 8 := ⟨by kernel_rfl, by kernel_rfl⟩
instance : Und Tryz.prog 16 (.pointer 505) := ⟨Tryz.underlying16⟩
instance : Inf Tryz.prog 16 (.pointer none) 1 8 := ⟨by kernel_rfl, by kernel_rfl⟩
instance : Und Tryz.prog 17 (.pointer 512) := ⟨Tryz.underlying17⟩
instance : Inf Tryz.prog 17 (.pointer none) 1 8 := ⟨by kernel_rfl, by kernel_rfl⟩
instance : Agg Tryz.prog 18 := ⟨fun w => run_isAgg Tryz.underlying18 w⟩
instance : Inf Tryz.prog 18 (.agg #[(.pointer none)]) 1 8 := ⟨by kernel_rfl, by kernel_rfl⟩
instance : Str Tryz.prog 18 [(0, 1)] := ⟨⟨_, Tryz.underlying18, by kernel_rfl, by kernel_rfl⟩⟩
instance : Fld Tryz.prog 18 0 0 17 1 := ⟨⟨_, _, Tryz.underlying18, rfl, rfl, rfl, by kernel_rfl⟩⟩
instance : Agg Tryz.prog 19 := ⟨fun w => run_isAgg Tryz.underlying19 w⟩
instance : Inf Tryz.prog 19 (.agg #[(.pointer none)]) 1 8 := ⟨by kernel_rfl, by kernel_rfl⟩
instance : Str Tryz.prog 19 [(0, 1)] := ⟨⟨_, Tryz.underlying19, by kernel_rfl, by kernel_rfl⟩⟩
instance : Fld Tryz.prog 19 0 0 17 1 := ⟨⟨_, _, Tryz.underlying19, rfl, rfl, rfl, by kernel_rfl⟩⟩
instance : One Tryz.prog 20 := ⟨fun w => run_isAgg Tryz.underlying20 w⟩
instance : Inf Tryz.prog 20 .nilIface 1 16 := ⟨by kernel_rfl, by kernel_rfl⟩
instance : Und Tryz.prog 21 (.int .i32) := ⟨Tryz.underlying21⟩
instance : Inf Tryz.prog 21 (.int .i32 0) 1 4 := ⟨by kernel_rfl, by kernel_rfl⟩
instance : Und Tryz.prog 22 (.slice 30) := ⟨Tryz.underlying22⟩
instance : Inf Tryz.prog 22 (.slice none 0 0) 1 24 := ⟨by kernel_rfl, by kernel_rfl⟩
instance : Und Tryz.prog 23 (.pointer 199) := ⟨Tryz.underlying23⟩
instance : Inf Tryz.prog 23 (.pointer none) 1 8 := ⟨by kernel_rfl, by kernel_rfl⟩
instance : Und Tryz.prog 24 (.pointer 211) := ⟨Tryz.underlying24⟩
instance : Inf Tryz.prog 24 (.pointer none) 1 8 := ⟨by kernel_rfl, by kernel_rfl⟩
instance : Und Tryz.prog 25 (.pointer 118) := ⟨Tryz.underlying25⟩
instance : Inf Tryz.prog 25 (.pointer none) 1 8 := ⟨by kernel_rfl, by kernel_rfl⟩
instance : Und Tryz.prog 26 (.pointer 103) := ⟨Tryz.underlying26⟩
instance : Inf Tryz.prog 26 (.pointer none) 1 8 := ⟨by kernel_rfl, by kernel_rfl⟩
instance : One Tryz.prog 28 := ⟨fun w => run_isAgg Tryz.underlying28 w⟩
instance : Inf Tryz.prog 28 .nilFunc 1 8 := ⟨by kernel_rfl, by kernel_rfl⟩
instance : Und Tryz.prog 29 (.slice 44) := ⟨Tryz.underlying29⟩
instance : Inf Tryz.prog 29 (.slice none 0 0) 1 24 := ⟨by kernel_rfl, by kernel_rfl⟩
instance : Und Tryz.prog 30 (.slice 109) := ⟨Tryz.underlying30⟩
instance : Inf Tryz.prog 30 (.slice none 0 0) 1 24 := ⟨by kernel_rfl, by kernel_rfl⟩
instance : One Tryz.prog 32 := ⟨fun w => run_isAgg Tryz.underlying32 w⟩
instance : Inf Tryz.prog 32 .nilFunc 1 8 := ⟨by kernel_rfl, by kernel_rfl⟩
instance : One Tryz.prog 33 := ⟨fun w => run_isAgg Tryz.underlying33 w⟩
instance : Inf Tryz.prog 33 .nilFunc 1 8 := ⟨by kernel_rfl, by kernel_rfl⟩
instance : One Tryz.prog 35 := ⟨fun w => run_isAgg Tryz.underlying35 w⟩
instance : Inf Tryz.prog 35 .nilFunc 1 8 := ⟨by kernel_rfl, by kernel_rfl⟩
instance : Und Tryz.prog 36 (.int .i64) := ⟨Tryz.underlying36⟩
instance : Inf Tryz.prog 36 (.int .i64 0) 1 8 := ⟨by kernel_rfl, by kernel_rfl⟩
instance : One Tryz.prog 37 := ⟨fun w => run_isAgg Tryz.underlying37 w⟩
instance : Inf Tryz.prog 37 .nilFunc 1 8 := ⟨by kernel_rfl, by kernel_rfl⟩
instance : Agg Tryz.prog 38 := ⟨fun w => run_isAgg Tryz.underlying38 w⟩
instance : Inf Tryz.prog 38 (.agg #[(.int .i64 0), (.int .i64 0), (.int .i64 0), (.int .i64 0)]) 4 32 := ⟨by kernel_rfl, by kernel_rfl⟩
instance : Str Tryz.prog 38 [(0, 1), (1, 1), (2, 1), (3, 1)] := ⟨⟨_, Tryz.underlying38, by kernel_rfl, by kernel_rfl⟩⟩
instance : Fld Tryz.prog 38 0 0 3 1 := ⟨⟨_, _, Tryz.underlying38, rfl, rfl, rfl, by kernel_rfl⟩⟩
instance : Fld Tryz.prog 38 1 1 3 1 := ⟨⟨_, _, Tryz.underlying38, rfl, rfl, rfl, by kernel_rfl⟩⟩
instance : Fld Tryz.prog 38 2 2 3 1 := ⟨⟨_, _, Tryz.underlying38, rfl, rfl, rfl, by kernel_rfl⟩⟩
instance : Fld Tryz.prog 38 3 3 3 1 := ⟨⟨_, _, Tryz.underlying38, rfl, rfl, rfl, by kernel_rfl⟩⟩
instance : Agg Tryz.prog 39 := ⟨fun w => run_isAgg Tryz.underlying39 w⟩
instance : Inf Tryz.prog 39 (.agg #[(.int .i64 0), (.int .i64 0), (.int .i64 0), (.int .i64 0)]) 4 32 := ⟨by kernel_rfl, by kernel_rfl⟩
instance : Str Tryz.prog 39 [(0, 1), (1, 1), (2, 1), (3, 1)] := ⟨⟨_, Tryz.underlying39, by kernel_rfl, by kernel_rfl⟩⟩
instance : Fld Tryz.prog 39 0 0 3 1 := ⟨⟨_, _, Tryz.underlying39, rfl, rfl, rfl, by kernel_rfl⟩⟩
instance : Fld Tryz.prog 39 1 1 3 1 := ⟨⟨_, _, Tryz.underlying39, rfl, rfl, rfl, by kernel_rfl⟩⟩
instance : Fld Tryz.prog 39 2 2 3 1 := ⟨⟨_, _, Tryz.underlying39, rfl, rfl, rfl, by kernel_rfl⟩⟩
instance : Fld Tryz.prog 39 3 3 3 1 := ⟨⟨_, _, Tryz.underlying39, rfl, rfl, rfl, by kernel_rfl⟩⟩
instance : Und Tryz.prog 40 (.slice 5) := ⟨Tryz.underlying40⟩
instance : Inf Tryz.prog 40 (.slice none 0 0) 1 24 := ⟨by kernel_rfl, by kernel_rfl⟩
instance : Agg Tryz.prog 41 := ⟨fun w => run_isAgg Tryz.underlying41 w⟩
instance : Inf Tryz.prog 41 (.agg #[(.int .i64 0), (.int .i64 0), (.int .i64 0), (.int .i64 0), (.slice none 0 0)]) 5 56 := ⟨by kernel_rfl, by kernel_rfl⟩
instance : Str Tryz.prog 41 [(0, 4), (4, 1)] := ⟨⟨_, Tryz.underlying41, by kernel_rfl, by kernel_rfl⟩⟩
instance : Fld Tryz.prog 41 0 0 39 4 := ⟨⟨_, _, Tryz.underlying41, rfl, rfl, rfl, by kernel_rfl⟩⟩
instance : Fld Tryz.prog 41 1 4 40 1 := ⟨⟨_, _, Tryz.underlying41, rfl, rfl, rfl, by kernel_rfl⟩⟩
instance : Agg Tryz.prog 42 := ⟨fun w => run_isAgg Tryz.underlying42 w⟩
instance : Inf Tryz.prog 42 (.agg #[(.int .i64 0), (.int .i64 0), (.int .i64 0), (.int .i64 0), (.slice none 0 0)]) 5 56 := ⟨by kernel_rfl, by kernel_rfl⟩
instance : Str Tryz.prog 42 [(0, 4), (4, 1)] := ⟨⟨_, Tryz.underlying42, by kernel_rfl, by kernel_rfl⟩⟩
instance : Fld Tryz.prog 42 0 0 39 4 := ⟨⟨_, _, Tryz.underlying42, rfl, rfl, rfl, by kernel_rfl⟩⟩
instance : Fld Tryz.prog 42 1 4 40 1 := ⟨⟨_, _, Tryz.underlying42, rfl, rfl, rfl, by kernel_rfl⟩⟩
instance : Agg Tryz.prog 43 := ⟨fun w => run_isAgg Tryz.underlying43 w⟩
instance : Inf Tryz.prog 43 (.agg #[(.int .i64 0), (.int .i64 0), (.int .i64 0), (.int .i64 0), (.int .i64 0), (.slice none 0 0), (.bool false)]) 7 72 := ⟨by kernel_rfl, by kernel_rfl⟩
instance : Str Tryz.prog 43 [(0, 1), (1, 5), (6, 1)] := ⟨⟨_, Tryz.underlying43, by kernel_rfl, by kernel_rfl⟩⟩
instance : Fld Tryz.prog 43 0 0 3 1 := ⟨⟨_, _, Tryz.underlying43, rfl, rfl, rfl, by kernel_rfl⟩⟩
instance : Fld Tryz.prog 43 1 1 42 5 := ⟨⟨_, _, Tryz.underlying43, rfl, rfl, rfl, by kernel_rfl⟩⟩
instance : Fld Tryz.prog 43 2 6 4 1 := ⟨⟨_, _, Tryz.underlying43, rfl, rfl, rfl, by kernel_rfl⟩⟩
instance : Agg Tryz.prog 44 := ⟨fun w => run_isAgg Tryz.underlying44 w⟩
instance : Inf Tryz.prog 44 (.agg #[(.int .i64 0), (.int .i64 0), (.int .i64 0), (.int .i64 0), (.int .i64 0), (.slice none 0 0), (.bool false)]) 7 72 := ⟨by kernel_rfl, by kernel_rfl⟩
instance : Str Tryz.prog 44 [(0, 1), (1, 5), (6, 1)] := ⟨⟨_, Tryz.underlying44, by kernel_rfl, by kernel_rfl⟩⟩
instance : Fld Tryz.prog 44 0 0 3 1 := ⟨⟨_, _, Tryz.underlying44, rfl, rfl, rfl, by kernel_rfl⟩⟩
instance : Fld Tryz.prog 44 1 1 42 5 := ⟨⟨_, _, Tryz.underlying44, rfl, rfl, rfl, by kernel_rfl⟩⟩
instance : Fld Tryz.prog 44 2 6 4 1 := ⟨⟨_, _, Tryz.underlying44, rfl, rfl, rfl, by kernel_rfl⟩⟩
instance : One Tryz.prog 45 := ⟨fun w => run_isAgg Tryz.underlying45 w⟩
instance : Inf Tryz.prog 45 .nilFunc 1 8 := ⟨by kernel_rfl, by kernel_rfl⟩
instance : One Tryz.prog 47 := ⟨fun w => run_isAgg Tryz.underlying47 w⟩
instance : Inf Tryz.prog 47 .nilFunc 1 8 := ⟨by kernel_rfl, by kernel_rfl⟩
instance : One Tryz.prog 48 := ⟨fun w => run_isAgg Tryz.underlying48 w⟩
instance : Inf Tryz.prog 48 .nilFunc 1 8 := ⟨by kernel_rfl, by kernel_rfl⟩
instance : One Tryz.prog 49 := ⟨fun w => run_isAgg Tryz.underlying49 w⟩
instance : Inf Tryz.prog 49 .nilFunc 1 8 := ⟨by kernel_rfl, by kernel_rfl⟩
instance : One Tryz.prog 50 := ⟨fun w => run_isAgg Tryz.underlying50 w⟩
instance : Inf Tryz.prog 50 .nilFunc 1 8 := ⟨by kernel_rfl, by kernel_rfl⟩
instance : Und Tryz.prog 51 (.slice 168) := ⟨Tryz.underlying51⟩
instance : Inf Tryz.prog 51 (.slice none 0 0) 1 24 := ⟨by kernel_rfl, by kernel_rfl⟩
instance : Agg Tryz.prog 52 := ⟨fun w => run_isAgg Tryz.underlying52 w⟩
instance : Inf Tryz.prog 52 (.agg #[(.string ⟨#[]⟩), (.string ⟨#[]⟩), (.int .i64 0), (.slice none 0 0)]) 4 64 := ⟨by kernel_rfl, by kernel_rfl⟩
instance : Str Tryz.prog 52 [(0, 1), (1, 1), (2, 1), (3, 1)] := ⟨⟨_, Tryz.underlying52, by kernel_rfl, by kernel_rfl⟩⟩
instance : Fld Tryz.prog 52 0 0 9 1 := ⟨⟨_, _, Tryz.underlying52, rfl, rfl, rfl, by kernel_rfl⟩⟩
instance : Fld Tryz.prog 52 1 1 9 1 := ⟨⟨_, _, Tryz.underlying52, rfl, rfl, rfl, by kernel_rfl⟩⟩
instance : Fld Tryz.prog 52 2 2 3 1 := ⟨⟨_, _, Tryz.underlying52, rfl, rfl, rfl, by kernel_rfl⟩⟩
instance : Fld Tryz.prog 52 3 3 51 1 := ⟨⟨_, _, Tryz.underlying52, rfl, rfl, rfl, by kernel_rfl⟩⟩
instance : Agg Tryz.prog 53 := ⟨fun w => run_isAgg Tryz.underlying53 w⟩
instance : Inf Tryz.prog 53 (.agg #[(.string ⟨#[]⟩), (.string ⟨#[]⟩), (.int .i64 0), (.slice none 0 0)]) 4 64 := ⟨by kernel_rfl, by kernel_rfl⟩
instance : Str Tryz.prog 53 [(0, 1), (1, 1), (2, 1), (3, 1)] := ⟨⟨_, Tryz.underlying53, by kernel_rfl, by kernel_rfl⟩⟩
instance : Fld Tryz.prog 53 0 0 9 1 := ⟨⟨_, _, Tryz.underlying53, rfl, rfl, rfl, by kernel_rfl⟩⟩
instance : Fld Tryz.prog 53 1 1 9 1 := ⟨⟨_, _, Tryz.underlying53, rfl, rfl, rfl, by kernel_rfl⟩⟩
instance : Fld Tryz.prog 53 2 2 3 1 := ⟨⟨_, _, Tryz.underlying53, rfl, rfl, rfl, by kernel_rfl⟩⟩
instance : Fld Tryz.prog 53 3 3 51 1 := ⟨⟨_, _, Tryz.underlying53, rfl, rfl, rfl, by kernel_rfl⟩⟩
instance : Und Tryz.prog 54 (.array 2 9) := ⟨Tryz.underlying54⟩
instance : Inf Tryz.prog 54 (.agg #[(.string ⟨#[]⟩), (.string ⟨#[]⟩)]) 2 32 := ⟨by kernel_rfl, by kernel_rfl⟩
instance : Agg Tryz.prog 55 := ⟨fun w => run_isAgg Tryz.underlying55 w⟩
instance : Inf Tryz.prog 55 (.agg #[(.string ⟨#[]⟩), (.string ⟨#[]⟩), (.string ⟨#[]⟩), (.string ⟨#[]⟩), (.string ⟨#[]⟩)]) 5 80 := ⟨by kernel_rfl, by kernel_rfl⟩
instance : Str Tryz.prog 55 [(0, 2), (2, 2), (4, 1)] := ⟨⟨_, Tryz.underlying55, by kernel_rfl, by kernel_rfl⟩⟩
instance : Fld Tryz.prog 55 0 0 54 2 := ⟨⟨_, _, Tryz.underlying55, rfl, rfl, rfl, by kernel_rfl⟩⟩
instance : Fld Tryz.prog 55 1 2 54 2 := ⟨⟨_, _, Tryz.underlying55, rfl, rfl, rfl, by kernel_rfl⟩⟩
instance : Fld Tryz.prog 55 2 4 9 1 := ⟨⟨_, _, Tryz.underlying55, rfl, rfl, rfl, by kernel_rfl⟩⟩
instance : Agg Tryz.prog 56 := ⟨fun w => run_isAgg Tryz.underlying56 w⟩
instance : Inf Tryz.prog 56 (.agg #[(.string ⟨#[]⟩), (.string ⟨#[]⟩), (.string ⟨#[]⟩), (.string ⟨#[]⟩), (.string ⟨#[]⟩)]) 5 80 := ⟨by kernel_rfl, by kernel_rfl⟩
instance : Str Tryz.prog 56 [(0, 2), (2, 2), (4, 1)] := ⟨⟨_, Tryz.underlying56, by kernel_rfl, by kernel_rfl⟩⟩
instance : Fld Tryz.prog 56 0 0 54 2 := ⟨⟨_, _, Tryz.underlying56, rfl, rfl, rfl, by kernel_rfl⟩⟩
instance : Fld Tryz.prog 56 1 2 54 2 := ⟨⟨_, _, Tryz.underlying56, rfl, rfl, rfl, by kernel_rfl⟩⟩
instance : Fld Tryz.prog 56 2 4 9 1 := ⟨⟨_, _, Tryz.underlying56, rfl, rfl, rfl, by kernel_rfl⟩⟩
instance : Und Tryz.prog 57 (.pointer 146) := ⟨Tryz.underlying57⟩
instance : Inf Tryz.prog 57 (.pointer none) 1 8 := ⟨by kernel_rfl, by kernel_rfl⟩
instance : One Tryz.prog 59 := ⟨fun w => run_isAgg Tryz.underlying59 w⟩
instance : Inf Tryz.prog 59 .nilFunc 1 8 := ⟨by kernel_rfl, by kernel_rfl⟩
instance : Und Tryz.prog 60 (.slice 164) := ⟨Tryz.underlying60⟩
instance : Inf Tryz.prog 60 (.slice none 0 0) 1 24 := ⟨by kernel_rfl, by kernel_rfl⟩
instance : Agg Tryz.prog 61 := ⟨fun w => run_isAgg Tryz.underlying61 w⟩
instance : Inf Tryz.prog 61 (.agg #[(.string ⟨#[]⟩), (.string ⟨#[]⟩), (.int .i64 0), (.slice none 0 0)]) 4 64 := ⟨by kernel_rfl, by kernel_rfl⟩
instance : Str Tryz.prog 61 [(0, 1), (1, 1), (2, 1), (3, 1)] := ⟨⟨_, Tryz.underlying61, by kernel_rfl, by kernel_rfl⟩⟩
instance : Fld Tryz.prog 61 0 0 9 1 := ⟨⟨_, _, Tryz.underlying61, rfl, rfl, rfl, by kernel_rfl⟩⟩
instance : Fld Tryz.prog 61 1 1 9 1 := ⟨⟨_, _, Tryz.underlying61, rfl, rfl, rfl, by kernel_rfl⟩⟩
instance : Fld Tryz.prog 61 2 2 3 1 := ⟨⟨_, _, Tryz.underlying61, rfl, rfl, rfl, by kernel_rfl⟩⟩
instance : Fld Tryz.prog 61 3 3 60 1 := ⟨⟨_, _, Tryz.underlying61, rfl, rfl, rfl, by kernel_rfl⟩⟩
instance : Agg Tryz.prog 62 := ⟨fun w => run_isAgg Tryz.underlying62 w⟩
instance : Inf Tryz.prog 62 (.agg #[(.string ⟨#[]⟩), (.string ⟨#[]⟩), (.int .i64 0), (.slice none 0 0)]) 4 64 := ⟨by kernel_rfl, by kernel_rfl⟩
instance : Str Tryz.prog 62 [(0, 1), (1, 1), (2, 1), (3, 1)] := ⟨⟨_, Tryz.underlying62, by kernel_rfl, by kernel_rfl⟩⟩
instance : Fld Tryz.prog 62 0 0 9 1 := ⟨⟨_, _, Tryz.underlying62, rfl, rfl, rfl, by kernel_rfl⟩⟩
instance : Fld Tryz.prog 62 1 1 9 1 := ⟨⟨_, _, Tryz.underlying62, rfl, rfl, rfl, by kernel_rfl⟩⟩
instance : Fld Tryz.prog 62 2 2 3 1 := ⟨⟨_, _, Tryz.underlying62, rfl, rfl, rfl, by kernel_rfl⟩⟩
instance : Fld Tryz.prog 62 3 3 60 1 := ⟨⟨_, _, Tryz.underlying62, rfl, rfl, rfl, by kernel_rfl⟩⟩
instance : One Tryz.prog 64 := ⟨fun w => run_isAgg Tryz.underlying64 w⟩
instance : Inf Tryz.prog 64 .nilFunc 1 8 := ⟨by kernel_rfl, by kernel_rfl⟩
instance : One Tryz.prog 66 := ⟨fun w => run_isAgg Tryz.underlying66 w⟩
instance : Inf Tryz.prog 66 .nilFunc 1 8 := ⟨by kernel_rfl, by kernel_rfl⟩
instance : Und Tryz.prog 67 (.slice 62) := ⟨Tryz.underlying67⟩
instance : Inf Tryz.prog 67 (.slice none 0 0) 1 24 := ⟨by kernel_rfl, by kernel_rfl⟩
instance : One Tryz.prog 69 := ⟨fun w => run_isAgg Tryz.underlying69 w⟩
instance : Inf Tryz.prog 69 .nilFunc 1 8 := ⟨by kernel_rfl, by kernel_rfl⟩
instance : Und Tryz.prog 70 (.slice 76) := ⟨Tryz.underlying70⟩
instance : Inf Tryz.prog 70 (.slice none 0 0) 1 24 := ⟨by kernel_rfl, by kernel_rfl⟩
instance : One Tryz.prog 72 := ⟨fun w => run_isAgg Tryz.underlying72 w⟩
instance : Inf Tryz.prog 72 .nilFunc 1 8 := ⟨by kernel_rfl, by kernel_rfl⟩
instance : One Tryz.prog 73 := ⟨fun w => run_isAgg Tryz.underlying73 w⟩
instance : Inf Tryz.prog 73 .nilFunc 1 8 := ⟨by kernel_rfl, by kernel_rfl⟩
instance : One Tryz.prog 74 := ⟨fun w => run_isAgg Tryz.underlying74 w⟩
instance : Inf Tryz.prog 74 .nilFunc 1 8 := ⟨by kernel_rfl, by kernel_rfl⟩
instance : One Tryz.prog 75 := ⟨fun w => run_isAgg Tryz.underlying75 w⟩
instance : Inf Tryz.prog 75 .nilFunc 1 8 := ⟨by kernel_rfl, by kernel_rfl⟩
instance : Agg Tryz.prog 76 := ⟨fun w => run_isAgg Tryz.underlying76 w⟩
instance : Inf Tryz.prog 76 (.agg #[(.string ⟨#[]⟩), (.string ⟨#[]⟩), (.string ⟨#[]⟩), (.string ⟨#[]⟩), (.string ⟨#[]⟩)]) 5 80 := ⟨by kernel_rfl, by kernel_rfl⟩
instance : Str Tryz.prog 76 [(0, 2), (2, 2), (4, 1)] := ⟨⟨_, Tryz.underlying76, by kernel_rfl, by kernel_rfl⟩⟩
instance : Fld Tryz.prog 76 0 0 54 2 := ⟨⟨_, _, Tryz.underlying76, rfl, rfl, rfl, by kernel_rfl⟩⟩
instance : Fld Tryz.prog 76 1 2 54 2 := ⟨⟨_, _, Tryz.underlying76, rfl, rfl, rfl, by kernel_rfl⟩⟩
instance : Fld Tryz.prog 76 2 4 9 1 := ⟨⟨_, _, Tryz.underlying76, rfl, rfl, rfl, by kernel_rfl⟩⟩
instance : One Tryz.prog 77 := ⟨fun w => run_isAgg Tryz.underlying77 w⟩
instance : Inf Tryz.prog 77 .nilFunc 1 8 := ⟨by kernel_rfl, by kernel_rfl⟩
instance : One Tryz.prog 78 := ⟨fun w => run_isAgg Tryz.underlying78 w⟩
instance : Inf Tryz.prog 78 .nilFunc 1 8 := ⟨by kernel_rfl, by kernel_rfl⟩
instance : Agg Tryz.prog 79 := ⟨fun w => run_isAgg Tryz.underlying79 w⟩
instance : Inf Tryz.prog 79 (.agg #[(.string ⟨#[]⟩), (.string ⟨#[]⟩), (.string ⟨#[]⟩), (.int .i64 0), (.int .i64 0)]) 5 64 := ⟨by kernel_rfl, by kernel_rfl⟩
instance : Str Tryz.prog 79 [(0, 1), (1, 1), (2, 1), (3, 1), (4, 1)] := ⟨⟨_, Tryz.underlying79, by kernel_rfl, by kernel_rfl⟩⟩
instance : Fld Tryz.prog 79 0 0 9 1 := ⟨⟨_, _, Tryz.underlying79, rfl, rfl, rfl, by kernel_rfl⟩⟩
instance : Fld Tryz.prog 79 1 1 9 1 := ⟨⟨_, _, Tryz.underlying79, rfl, rfl, rfl, by kernel_rfl⟩⟩
instance : Fld Tryz.prog 79 2 2 9 1 := ⟨⟨_, _, Tryz.underlying79, rfl, rfl, rfl, by kernel_rfl⟩⟩
instance : Fld Tryz.prog 79 3 3 3 1 := ⟨⟨_, _, Tryz.underlying79, rfl, rfl, rfl, by kernel_rfl⟩⟩
instance : Fld Tryz.prog 79 4 4 3 1 := ⟨⟨_, _, Tryz.underlying79, rfl, rfl, rfl, by kernel_rfl⟩⟩
instance : Agg Tryz.prog 80 := ⟨fun w => run_isAgg Tryz.underlying80 w⟩
instance : Inf Tryz.prog 80 (.agg #[(.string ⟨#[]⟩), (.string ⟨#[]⟩), (.string ⟨#[]⟩), (.int .i64 0), (.int .i64 0)]) 5 64 := ⟨by kernel_rfl, by kernel_rfl⟩
instance : Str Tryz.prog 80 [(0, 1), (1, 1), (2, 1), (3, 1), (4, 1)] := ⟨⟨_, Tryz.underlying80, by kernel_rfl, by kernel_rfl⟩⟩
instance : Fld Tryz.prog 80 0 0 9 1 := ⟨⟨_, _, Tryz.underlying80, rfl, rfl, rfl, by kernel_rfl⟩⟩
instance : Fld Tryz.prog 80 1 1 9 1 := ⟨⟨_, _, Tryz.underlying80, rfl, rfl, rfl, by kernel_rfl⟩⟩
instance : Fld Tryz.prog 80 2 2 9 1 := ⟨⟨_, _, Tryz.underlying80, rfl, rfl, rfl, by kernel_rfl⟩⟩
instance : Fld Tryz.prog 80 3 3 3 1 := ⟨⟨_, _, Tryz.underlying80, rfl, rfl, rfl, by kernel_rfl⟩⟩
instance : Fld Tryz.prog 80 4 4 3 1 := ⟨⟨_, _, Tryz.underlying80, rfl, rfl, rfl, by kernel_rfl⟩⟩
instance : Und Tryz.prog 81 (.pointer 181) := ⟨Tryz.underlying81⟩
instance : Inf Tryz.prog 81 (.pointer none) 1 8 := ⟨by kernel_rfl, by kernel_rfl⟩
instance : One Tryz.prog 83 := ⟨fun w => run_isAgg Tryz.underlying83 w⟩
instance : Inf Tryz.prog 83 .nilFunc 1 8 := ⟨by kernel_rfl, by kernel_rfl⟩
instance : One Tryz.prog 84 := ⟨fun w => run_isAgg Tryz.underlying84 w⟩
instance : Inf Tryz.prog 84 .nilFunc 1 8 := ⟨by kernel_rfl, by kernel_rfl⟩
instance : Agg Tryz.prog 85 := ⟨fun w => run_isAgg Tryz.underlying85 w⟩
instance : Inf Tryz.prog 85 (.agg #[(.string ⟨#[]⟩), (.string ⟨#[]⟩), (.string ⟨#[]⟩), (.int .i64 0), (.int .i64 0)]) 5 64 := ⟨by kernel_rfl, by kernel_rfl⟩
instance : Str Tryz.prog 85 [(0, 1), (1, 1), (2, 1), (3, 1), (4, 1)] := ⟨⟨_, Tryz.underlying85, by kernel_rfl, by kernel_rfl⟩⟩
instance : Fld Tryz.prog 85 0 0 9 1 := ⟨⟨_, _, Tryz.underlying85, rfl, rfl, rfl, by kernel_rfl⟩⟩
instance : Fld Tryz.prog 85 1 1 9 1 := ⟨⟨_, _, Tryz.underlying85, rfl, rfl, rfl, by kernel_rfl⟩⟩
instance : Fld Tryz.prog 85 2 2 9 1 := ⟨⟨_, _, Tryz.underlying85, rfl, rfl, rfl, by kernel_rfl⟩⟩
instance : Fld Tryz.prog 85 3 3 3 1 := ⟨⟨_, _, Tryz.underlying85, rfl, rfl, rfl, by kernel_rfl⟩⟩
instance : Fld Tryz.prog 85 4 4 3 1 := ⟨⟨_, _, Tryz.underlying85, rfl, rfl, rfl, by kernel_rfl⟩⟩
instance : One Tryz.prog 86 := ⟨fun w => run_isAgg Tryz.underlying86 w⟩
instance : Inf Tryz.prog 86 .nilFunc 1 8 := ⟨by kernel_rfl, by kernel_rfl⟩
instance : One Tryz.prog 87 := ⟨fun w => run_isAgg Tryz.underlying87 w⟩
instance : Inf Tryz.prog 87 .nilFunc 1 8 := ⟨by kernel_rfl, by kernel_rfl⟩
instance : Und Tryz.prog 88 (.slice 85) := ⟨Tryz.underlying88⟩
instance : Inf Tryz.prog 88 (.slice none 0 0) 1 24 := ⟨by kernel_rfl, by kernel_rfl⟩
instance : One Tryz.prog 89 := ⟨fun w => run_isAgg Tryz.underlying89 w⟩
instance : Inf Tryz.prog 89 .nilFunc 1 8 := ⟨by kernel_rfl, by kernel_rfl⟩
instance : Und Tryz.prog 90 (.slice 3) := ⟨Tryz.underlying90⟩
instance : Inf Tryz.prog 90 (.slice none 0 0) 1 24 := ⟨by kernel_rfl, by kernel_rfl⟩
instance : One Tryz.prog 91 := ⟨fun w => run_isAgg Tryz.underlying91 w⟩
instance : Inf Tryz.prog 91 .nilFunc 1 8 := ⟨by kernel_rfl, by kernel_rfl⟩
instance : One Tryz.prog 92 := ⟨fun w => run_isAgg Tryz.underlying92 w⟩
instance : Inf Tryz.prog 92 .nilFunc 1 8 := ⟨by kernel_rfl, by kernel_rfl⟩
instance : Und Tryz.prog 93 (.array 32 5) := ⟨Tryz.underlying93⟩
instance : Inf Tryz.prog 93 (.agg (List.replicate 32 (.int .u8 0)).toArray) 32 32 := ⟨by kernel_rfl, by kernel_rfl⟩
instance : One Tryz.prog 94 := ⟨fun w => run_isAgg Tryz.underlying94 w⟩
instance : Inf Tryz.prog 94 .nilFunc 1 8 := ⟨by kernel_rfl, by kernel_rfl⟩
instance : One Tryz.prog 95 := ⟨fun w => run_isAgg Tryz.underlying95 w⟩
instance : Inf Tryz.prog 95 .nilFunc 1 8 := ⟨by kernel_rfl, by kernel_rfl⟩
instance : One Tryz.prog 97 := ⟨fun w => run_isAgg Tryz.underlying97 w⟩
instance : Inf Tryz.prog 97 .nilFunc 1 8 := ⟨by kernel_rfl, by kernel_rfl⟩
instance : One Tryz.prog 99 := ⟨fun w => run_isAgg Tryz.underlying99 w⟩
instance : Inf Tryz.prog 99 .nilFunc 1 8 := ⟨by kernel_rfl, by kernel_rfl⟩
instance : Und Tryz.prog 100 (.slice 107) := ⟨Tryz.underlying100⟩
instance : Inf Tryz.prog 100 (.slice none 0 0) 1 24 := ⟨by kernel_rfl, by kernel_rfl⟩
instance : Und Tryz.prog 101 (.slice 4) := ⟨Tryz.underlying101⟩
instance : Inf Tryz.prog 101 (.slice none 0 0) 1 24 := ⟨by kernel_rfl, by kernel_rfl⟩
instance : Agg Tryz.prog 102 := ⟨fun w => run_isAgg Tryz.underlying102 w⟩
instance : Inf Tryz.prog 102 (.agg #[(.slice none 0 0), (.slice none 0 0), (.int .i64 0)]) 3 56 := ⟨by kernel_rfl, by kernel_rfl⟩
instance : Str Tryz.prog 102 [(0, 1), (1, 1), (2, 1)] := ⟨⟨_, Tryz.underlying102, by kernel_rfl, by kernel_rfl⟩⟩
instance : Fld Tryz.prog 102 0 0 100 1 := ⟨⟨_, _, Tryz.underlying102, rfl, rfl, rfl, by kernel_rfl⟩⟩
instance : Fld Tryz.prog 102 1 1 101 1 := ⟨⟨_, _, Tryz.underlying102, rfl, rfl, rfl, by kernel_rfl⟩⟩
instance : Fld Tryz.prog 102 2 2 3 1 := ⟨⟨_, _, Tryz.underlying102, rfl, rfl, rfl, by kernel_rfl⟩⟩
instance : Agg Tryz.prog 103 := ⟨fun w => run_isAgg Tryz.underlying103 w⟩
instance : Inf Tryz.prog 103 (.agg #[(.slice none 0 0), (.slice none 0 0), (.int .i64 0)]) 3 56 := ⟨by kernel_rfl, by kernel_rfl⟩
instance : Str Tryz.prog 103 [(0, 1), (1, 1), (2, 1)] := ⟨⟨_, Tryz.underlying103, by kernel_rfl, by kernel_rfl⟩⟩
instance : Fld Tryz.prog 103 0 0 100 1 := ⟨⟨_, _, Tryz.underlying103, rfl, rfl, rfl, by kernel_rfl⟩⟩
instance : Fld Tryz.prog 103 1 1 101 1 := ⟨⟨_, _, Tryz.underlying103, rfl, rfl, rfl, by kernel_rfl⟩⟩
instance : Fld Tryz.prog 103 2 2 3 1 := ⟨⟨_, _, Tryz.underlying103, rfl, rfl, rfl, by kernel_rfl⟩⟩
instance : One Tryz.prog 104 := ⟨fun w => run_isAgg Tryz.underlying104 w⟩
instance : Inf Tryz.prog 104 .nilFunc 1 8 := ⟨by kernel_rfl, by kernel_rfl⟩
instance : Agg Tryz.prog 105 := ⟨fun w => run_isAgg Tryz.underlying105 w⟩
instance : Inf Tryz.prog 105 (.agg #[(.int .i64 0), (.int .i64 0), (.int .i64 0), (.int .i64 0)]) 4 32 := ⟨by kernel_rfl, by kernel_rfl⟩
instance : Str Tryz.prog 105 [(0, 1), (1, 1), (2, 1), (3, 1)] := ⟨⟨_, Tryz.underlying105, by kernel_rfl, by kernel_rfl⟩⟩
instance : Fld Tryz.prog 105 0 0 3 1 := ⟨⟨_, _, Tryz.underlying105, rfl, rfl, rfl, by kernel_rfl⟩⟩
instance : Fld Tryz.prog 105 1 1 3 1 := ⟨⟨_, _, Tryz.underlying105, rfl, rfl, rfl, by kernel_rfl⟩⟩
instance : Fld Tryz.prog 105 2 2 3 1 := ⟨⟨_, _, Tryz.underlying105, rfl, rfl, rfl, by kernel_rfl⟩⟩
instance : Fld Tryz.prog 105 3 3 3 1 := ⟨⟨_, _, Tryz.underlying105, rfl, rfl, rfl, by kernel_rfl⟩⟩
instance : Agg Tryz.prog 106 := ⟨fun w => run_isAgg Tryz.underlying106 w⟩
instance : Inf Tryz.prog 106 (.agg #[(.int .i64 0), (.int .i64 0), (.int .i64 0), (.int .i64 0), (.slice none 0 0)]) 5 56 := ⟨by kernel_rfl, by kernel_rfl⟩
instance : Str Tryz.prog 106 [(0, 4), (4, 1)] := ⟨⟨_, Tryz.underlying106, by kernel_rfl, by kernel_rfl⟩⟩
instance : Fld Tryz.prog 106 0 0 105 4 := ⟨⟨_, _, Tryz.underlying106, rfl, rfl, rfl, by kernel_rfl⟩⟩
instance : Fld Tryz.prog 106 1 4 40 1 := ⟨⟨_, _, Tryz.underlying106, rfl, rfl, rfl, by kernel_rfl⟩⟩
instance : Agg Tryz.prog 107 := ⟨fun w => run_isAgg Tryz.underlying107 w⟩
instance : Inf Tryz.prog 107 (.agg #[(.int .i64 0), (.int .i64 0), (.int .i64 0), (.int .i64 0), (.slice none 0 0)]) 5 56 := ⟨by kernel_rfl, by kernel_rfl⟩
instance : Str Tryz.prog 107 [(0, 4), (4, 1)] := ⟨⟨_, Tryz.underlying107, by kernel_rfl, by kernel_rfl⟩⟩
instance : Fld Tryz.prog 107 0 0 105 4 := ⟨⟨_, _, Tryz.underlying107, rfl, rfl, rfl, by kernel_rfl⟩⟩
instance : Fld Tryz.prog 107 1 4 40 1 := ⟨⟨_, _, Tryz.underlying107, rfl, rfl, rfl, by kernel_rfl⟩⟩
instance : Agg Tryz.prog 108 := ⟨fun w => run_isAgg Tryz.underlying108 w⟩
instance : Inf Tryz.prog 108 (.agg #[(.int .i64 0), (.int .i64 0), (.int .i64 0), (.int .i64 0), (.int .i64 0), (.slice none 0 0), (.bool false)]) 7 72 := ⟨by kernel_rfl, by kernel_rfl⟩
instance : Str Tryz.prog 108 [(0, 1), (1, 5), (6, 1)] := ⟨⟨_, Tryz.underlying108, by kernel_rfl, by kernel_rfl⟩⟩
instance : Fld Tryz.prog 108 0 0 3 1 := ⟨⟨_, _, Tryz.underlying108, rfl, rfl, rfl, by kernel_rfl⟩⟩
instance : Fld Tryz.prog 108 1 1 107 5 := ⟨⟨_, _, Tryz.underlying108, rfl, rfl, rfl, by kernel_rfl⟩⟩
instance : Fld Tryz.prog 108 2 6 4 1 := ⟨⟨_, _, Tryz.underlying108, rfl, rfl, rfl, by kernel_rfl⟩⟩
instance : Agg Tryz.prog 109 := ⟨fun w => run_isAgg Tryz.underlying109 w⟩
instance : Inf Tryz.prog 109 (.agg #[(.int .i64 0), (.int .i64 0), (.int .i64 0), (.int .i64 0), (.int .i64 0), (.slice none 0 0), (.bool false)]) 7 72 := ⟨by kernel_rfl, by kernel_rfl⟩
instance : Str Tryz.prog 109 [(0, 1), (1, 5), (6, 1)] := ⟨⟨_, Tryz.underlying109, by kernel_rfl, by kernel_rfl⟩⟩
instance : Fld Tryz.prog 109 0 0 3 1 := ⟨⟨_, _, Tryz.underlying109, rfl, rfl, rfl, by kernel_rfl⟩⟩
instance : Fld Tryz.prog 109 1 1 107 5 := ⟨⟨_, _, Tryz.underlying109, rfl, rfl, rfl, by kernel_rfl⟩⟩
instance : Fld Tryz.prog 109 2 6 4 1 := ⟨⟨_, _, Tryz.underlying109, rfl, rfl, rfl, by kernel_rfl⟩⟩
instance : One Tryz.prog 110 := ⟨fun w => run_isAgg Tryz.underlying110 w⟩
instance : Inf Tryz.prog 110 .nilFunc 1 8 := ⟨by kernel_rfl, by kernel_rfl⟩
instance : One Tryz.prog 111 := ⟨fun w => run_isAgg Tryz.underlying111 w⟩
instance : Inf Tryz.prog 111 .nilFunc 1 8 := ⟨by kernel_rfl, by kernel_rfl⟩
instance : One Tryz.prog 112 := ⟨fun w => run_isAgg Tryz.underlying112 w⟩
instance : Inf Tryz.prog 112 .nilFunc 1 8 := ⟨by kernel_rfl, by kernel_rfl⟩
instance : Und Tryz.prog 113 (.map 3 116) := ⟨Tryz.underlying113⟩
instance : Inf Tryz.prog 113 (.map none) 1 8 := ⟨by kernel_rfl, by kernel_rfl⟩
instance : One Tryz.prog 114 := ⟨fun w => run_isAgg Tryz.underlying114 w⟩
instance : Inf Tryz.prog 114 .nilFunc 1 8 := ⟨by kernel_rfl, by kernel_rfl⟩
instance : Agg Tryz.prog 115 := ⟨fun w => run_isAgg Tryz.underlying115 w⟩
instance : Inf Tryz.prog 115 (.agg #[(.int .i64 0), (.int .i64 0), (.int .i64 0), (.int .i64 0), (.slice none 0 0), (.slice none 0 0)]) 6 80 := ⟨by kernel_rfl, by kernel_rfl⟩
instance : Str Tryz.prog 115 [(0, 5), (5, 1)] := ⟨⟨_, Tryz.underlying115, by kernel_rfl, by kernel_rfl⟩⟩
instance : Fld Tryz.prog 115 0 0 42 5 := ⟨⟨_, _, Tryz.underlying115, rfl, rfl, rfl, by kernel_rfl⟩⟩
instance : Fld Tryz.prog 115 1 5 90 1 := ⟨⟨_, _, Tryz.underlying115, rfl, rfl, rfl, by kernel_rfl⟩⟩
instance : Agg Tryz.prog 116 := ⟨fun w => run_isAgg Tryz.underlying116 w⟩
instance : Inf Tryz.prog 116 (.agg #[(.int .i64 0), (.int .i64 0), (.int .i64 0), (.int .i64 0), (.slice none 0 0), (.slice none 0 0)]) 6 80 := ⟨by kernel_rfl, by kernel_rfl⟩
instance : Str Tryz.prog 116 [(0, 5), (5, 1)] := ⟨⟨_, Tryz.underlying116, by kernel_rfl, by kernel_rfl⟩⟩
instance : Fld Tryz.prog 116 0 0 42 5 := ⟨⟨_, _, Tryz.underlying116, rfl, rfl, rfl, by kernel_rfl⟩⟩
instance : Fld Tryz.prog 116 1 5 90 1 := ⟨⟨_, _, Tryz.underlying116, rfl, rfl, rfl, by kernel_rfl⟩⟩
instance : Agg Tryz.prog 117 := ⟨fun w => run_isAgg Tryz.underlying117 w⟩
instance : Inf Tryz.prog 117 (.agg #[(.pointer none), (.int .i64 0), (.map none)]) 3 24 := ⟨by kernel_rfl, by kernel_rfl⟩
instance : Str Tryz.prog 117 [(0, 1), (1, 1), (2, 1)] := ⟨⟨_, Tryz.underlying117, by kernel_rfl, by kernel_rfl⟩⟩
instance : Fld Tryz.prog 117 0 0 24 1 := ⟨⟨_, _, Tryz.underlying117, rfl, rfl, rfl, by kernel_rfl⟩⟩
instance : Fld Tryz.prog 117 1 1 3 1 := ⟨⟨_, _, Tryz.underlying117, rfl, rfl, rfl, by kernel_rfl⟩⟩
instance : Fld Tryz.prog 117 2 2 113 1 := ⟨⟨_, _, Tryz.underlying117, rfl, rfl, rfl, by kernel_rfl⟩⟩
instance : Agg Tryz.prog 118 := ⟨fun w => run_isAgg Tryz.underlying118 w⟩
instance : Inf Tryz.prog 118 (.agg #[(.pointer none), (.int .i64 0), (.map none)]) 3 24 := ⟨by kernel_rfl, by kernel_rfl⟩
instance : Str Tryz.prog 118 [(0, 1), (1, 1), (2, 1)] := ⟨⟨_, Tryz.underlying118, by kernel_rfl, by kernel_rfl⟩⟩
instance : Fld Tryz.prog 118 0 0 24 1 := ⟨⟨_, _, Tryz.underlying118, rfl, rfl, rfl, by kernel_rfl⟩⟩
instance : Fld Tryz.prog 118 1 1 3 1 := ⟨⟨_, _, Tryz.underlying118, rfl, rfl, rfl, by kernel_rfl⟩⟩
instance : Fld Tryz.prog 118 2 2 113 1 := ⟨⟨_, _, Tryz.underlying118, rfl, rfl, rfl, by kernel_rfl⟩⟩
instance : One Tryz.prog 119 := ⟨fun w => run_isAgg Tryz.underlying119 w⟩
instance : Inf Tryz.prog 119 .nilFunc 1 8 := ⟨by kernel_rfl, by kernel_rfl⟩
instance : Und Tryz.prog 120 (.slice 123) := ⟨Tryz.underlying120⟩
instance : Inf Tryz.prog 120 (.slice none 0 0) 1 24 := ⟨by kernel_rfl, by kernel_rfl⟩
instance : One Tryz.prog 121 := ⟨fun w => run_isAgg Tryz.underlying121 w⟩
instance : Inf Tryz.prog 121 .nilFunc 1 8 := ⟨by kernel_rfl, by kernel_rfl⟩
instance : Agg Tryz.prog 122 := ⟨fun w => run_isAgg Tryz.underlying122 w⟩
instance : Inf Tryz.prog 122 (.agg #[(.int .i64 0), (.slice none 0 0)]) 2 32 := ⟨by kernel_rfl, by kernel_rfl⟩
instance : Str Tryz.prog 122 [(0, 1), (1, 1)] := ⟨⟨_, Tryz.underlying122, by kernel_rfl, by kernel_rfl⟩⟩
instance : Fld Tryz.prog 122 0 0 3 1 := ⟨⟨_, _, Tryz.underlying122, rfl, rfl, rfl, by kernel_rfl⟩⟩
instance : Fld Tryz.prog 122 1 1 40 1 := ⟨⟨_, _, Tryz.underlying122, rfl, rfl, rfl, by kernel_rfl⟩⟩
instance : Agg Tryz.prog 123 := ⟨fun w => run_isAgg Tryz.underlying123 w⟩
instance : Inf Tryz.prog 123 (.agg #[(.int .i64 0), (.slice none 0 0)]) 2 32 := ⟨by kernel_rfl, by kernel_rfl⟩
instance : Str Tryz.prog 123 [(0, 1), (1, 1)] := ⟨⟨_, Tryz.underlying123, by kernel_rfl, by kernel_rfl⟩⟩
instance : Fld Tryz.prog 123 0 0 3 1 := ⟨⟨_, _, Tryz.underlying123, rfl, rfl, rfl, by kernel_rfl⟩⟩
instance : Fld Tryz.prog 123 1 1 40 1 := ⟨⟨_, _, Tryz.underlying123, rfl, rfl, rfl, by kernel_rfl⟩⟩
instance : One Tryz.prog 124 := ⟨fun w => run_isAgg Tryz.underlying124 w⟩
instance : Inf Tryz.prog 124 .nilFunc 1 8 := ⟨by kernel_rfl, by kernel_rfl⟩
instance : One Tryz.prog 125 := ⟨fun w => run_isAgg Tryz.underlying125 w⟩
instance : Inf Tryz.prog 125 .nilFunc 1 8 := ⟨by kernel_rfl, by kernel_rfl⟩
instance : One Tryz.prog 126 := ⟨fun w => run_isAgg Tryz.underlying126 w⟩
instance : Inf Tryz.prog 126 .nilFunc 1 8 := ⟨by kernel_rfl, by kernel_rfl⟩
instance : One Tryz.prog 127 := ⟨fun w => run_isAgg Tryz.underlying127 w⟩
instance : Inf Tryz.prog 127 .nilFunc 1 8 := ⟨by kernel_rfl, by kernel_rfl⟩
instance : One Tryz.prog 129 := ⟨fun w => run_isAgg Tryz.underlying129 w⟩
instance : Inf Tryz.prog 129 .nilFunc 1 8 := ⟨by kernel_rfl, by kernel_rfl⟩
instance : One Tryz.prog 130 := ⟨fun w => run_isAgg Tryz.underlying130 w⟩
instance : Inf Tryz.prog 130 .nilFunc 1 8 := ⟨by kernel_rfl, by kernel_rfl⟩
instance : One Tryz.prog 131 := ⟨fun w => run_isAgg Tryz.underlying131 w⟩
instance : Inf Tryz.prog 131 .nilFunc 1 8 := ⟨by kernel_rfl, by kernel_rfl⟩
instance : One Tryz.prog 132 := ⟨fun w => run_isAgg Tryz.underlying132 w⟩
instance : Inf Tryz.prog 132 .nilFunc 1 8 := ⟨by kernel_rfl, by kernel_rfl⟩
instance : One Tryz.prog 134 := ⟨fun w => run_isAgg Tryz.underlying134 w⟩
instance : Inf Tryz.prog 134 .nilFunc 1 8 := ⟨by kernel_rfl, by kernel_rfl⟩
instance : One Tryz.prog 135 := ⟨fun w => run_isAgg Tryz.underlying135 w⟩
instance : Inf Tryz.prog 135 .nilFunc 1 8 := ⟨by kernel_rfl, by kernel_rfl⟩
instance : One Tryz.prog 136 := ⟨fun w => run_isAgg Tryz.underlying136 w⟩
instance : Inf Tryz.prog 136 .nilFunc 1 8 := ⟨by kernel_rfl, by kernel_rfl⟩
instance : One Tryz.prog 137 := ⟨fun w => run_isAgg Tryz.underlying137 w⟩
instance : Inf Tryz.prog 137 .nilFunc 1 8 := ⟨by kernel_rfl, by kernel_rfl⟩
instance : One Tryz.prog 138 := ⟨fun w => run_isAgg Tryz.underlying138 w⟩
instance : Inf Tryz.prog 138 .nilFunc 1 8 := ⟨by kernel_rfl, by kernel_rfl⟩
instance : One Tryz.prog 140 := ⟨fun w => run_isAgg Tryz.underlying140 w⟩
instance : Inf Tryz.prog 140 .nilFunc 1 8 := ⟨by kernel_rfl, by kernel_rfl⟩
instance : Und Tryz.prog 141 (.pointer 382) := ⟨Tryz.underlying141⟩
instance : Inf Tryz.prog 141 (.pointer none) 1 8 := ⟨by kernel_rfl, by kernel_rfl⟩
instance : Und Tryz.prog 142 (.pointer 240) := ⟨Tryz.underlying142⟩
instance : Inf Tryz.prog 142 (.pointer none) 1 8 := ⟨by kernel_rfl, by kernel_rfl⟩
instance : One Tryz.prog 144 := ⟨fun w => run_isAgg Tryz.underlying144 w⟩
instance : Inf Tryz.prog 144 .nilFunc 1 8 := ⟨by kernel_rfl, by kernel_rfl⟩
instance : Agg Tryz.prog 145 := ⟨fun w => run_isAgg Tryz.underlying145 w⟩
instance : Inf Tryz.prog 145 (.agg #[(.pointer none), (.pointer none)]) 2 16 := ⟨by kernel_rfl, by kernel_rfl⟩
instance : Str Tryz.prog 145 [(0, 1), (1, 1)] := ⟨⟨_, Tryz.underlying145, by kernel_rfl, by kernel_rfl⟩⟩
instance : Fld Tryz.prog 145 0 0 142 1 := ⟨⟨_, _, Tryz.underlying145, rfl, rfl, rfl, by kernel_rfl⟩⟩
instance : Fld Tryz.prog 145 1 1 142 1 := ⟨⟨_, _, Tryz.underlying145, rfl, rfl, rfl, by kernel_rfl⟩⟩
instance : Agg Tryz.prog 146 := ⟨fun w => run_isAgg Tryz.underlying146 w⟩
instance : Inf Tryz.prog 146 (.agg #[(.pointer none), (.pointer none)]) 2 16 := ⟨by kernel_rfl, by kernel_rfl⟩
instance : Str Tryz.prog 146 [(0, 1), (1, 1)] := ⟨⟨_, Tryz.underlying146, by kernel_rfl, by kernel_rfl⟩⟩
instance : Fld Tryz.prog 146 0 0 142 1 := ⟨⟨_, _, Tryz.underlying146, rfl, rfl, rfl, by kernel_rfl⟩⟩
instance : Fld Tryz.prog 146 1 1 142 1 := ⟨⟨_, _, Tryz.underlying146, rfl, rfl, rfl, by kernel_rfl⟩⟩
instance : Und Tryz.prog 147 (.slice 149) := ⟨Tryz.underlying147⟩
instance : Inf Tryz.prog 147 (.slice none 0 0) 1 24 := ⟨by kernel_rfl, by kernel_rfl⟩
instance : Agg Tryz.prog 148 := ⟨fun w => run_isAgg Tryz.underlying148 w⟩
instance : Inf Tryz.prog 148 (.agg #[(.int .i64 0), (.int .i64 0), (.slice none 0 0), (.slice none 0 0)]) 4 64 := ⟨by kernel_rfl, by kernel_rfl⟩
instance : Str Tryz.prog 148 [(0, 1), (1, 1), (2, 1), (3, 1)] := ⟨⟨_, Tryz.underlying148, by kernel_rfl, by kernel_rfl⟩⟩
instance : Fld Tryz.prog 148 0 0 3 1 := ⟨⟨_, _, Tryz.underlying148, rfl, rfl, rfl, by kernel_rfl⟩⟩
instance : Fld Tryz.prog 148 1 1 3 1 := ⟨⟨_, _, Tryz.underlying148, rfl, rfl, rfl, by kernel_rfl⟩⟩
instance : Fld Tryz.prog 148 2 2 40 1 := ⟨⟨_, _, Tryz.underlying148, rfl, rfl, rfl, by kernel_rfl⟩⟩
instance : Fld Tryz.prog 148 3 3 147 1 := ⟨⟨_, _, Tryz.underlying148, rfl, rfl, rfl, by kernel_rfl⟩⟩
instance : Agg Tryz.prog 149 := ⟨fun w => run_isAgg Tryz.underlying149 w⟩
instance : Inf Tryz.prog 149 (.agg #[(.int .i64 0), (.int .i64 0), (.slice none 0 0), (.slice none 0 0)]) 4 64 := ⟨by kernel_rfl, by kernel_rfl⟩
instance : Str Tryz.prog 149 [(0, 1), (1, 1), (2, 1), (3, 1)] := ⟨⟨_, Tryz.underlying149, by kernel_rfl, by kernel_rfl⟩⟩
instance : Fld Tryz.prog 149 0 0 3 1 := ⟨⟨_, _, Tryz.underlying149, rfl, rfl, rfl, by kernel_rfl⟩⟩
instance : Fld Tryz.prog 149 1 1 3 1 := ⟨⟨_, _, Tryz.underlying149, rfl, rfl, rfl, by kernel_rfl⟩⟩
instance : Fld Tryz.prog 149 2 2 40 1 := ⟨⟨_, _, Tryz.underlying149, rfl, rfl, rfl, by kernel_rfl⟩⟩
instance : Fld Tryz.prog 149 3 3 147 1 := ⟨⟨_, _, Tryz.underlying149, rfl, rfl, rfl, by kernel_rfl⟩⟩
instance : One Tryz.prog 151 := ⟨fun w => run_isAgg Tryz.underlying151 w⟩
instance : Inf Tryz.prog 151 .nilFunc 1 8 := ⟨by kernel_rfl, by kernel_rfl⟩
instance : One Tryz.prog 153 := ⟨fun w => run_isAgg Tryz.underlying153 w⟩
instance : Inf Tryz.prog 153 .nilFunc 1 8 := ⟨by kernel_rfl, by kernel_rfl⟩
instance : Und Tryz.prog 154 (.slice 9) := ⟨Tryz.underlying154⟩
instance : Inf Tryz.prog 154 (.slice none 0 0) 1 24 := ⟨by kernel_rfl, by kernel_rfl⟩
instance : One Tryz.prog 156 := ⟨fun w => run_isAgg Tryz.underlying156 w⟩
instance : Inf Tryz.prog 156 .nilFunc 1 8 := ⟨by kernel_rfl, by kernel_rfl⟩
instance : One Tryz.prog 157 := ⟨fun w => run_isAgg Tryz.underlying157 w⟩
instance : Inf Tryz.prog 157 .nilFunc 1 8 := ⟨by kernel_rfl, by kernel_rfl⟩
instance : One Tryz.prog 159 := ⟨fun w => run_isAgg Tryz.underlying159 w⟩
instance : Inf Tryz.prog 159 .nilFunc 1 8 := ⟨by kernel_rfl, by kernel_rfl⟩
instance : One Tryz.prog 160 := ⟨fun w => run_isAgg Tryz.underlying160 w⟩
instance : Inf Tryz.prog 160 .nilFunc 1 8 := ⟨by kernel_rfl, by kernel_rfl⟩
instance : One Tryz.prog 161 := ⟨fun w => run_isAgg Tryz.underlying161 w⟩
instance : Inf Tryz.prog 161 .nilFunc 1 8 := ⟨by kernel_rfl, by kernel_rfl⟩
instance : One Tryz.prog 162 := ⟨fun w => run_isAgg Tryz.underlying162 w⟩
instance : Inf Tryz.prog 162 .nilFunc 1 8 := ⟨by kernel_rfl, by kernel_rfl⟩
instance : Agg Tryz.prog 163 := ⟨fun w => run_isAgg Tryz.underlying163 w⟩
instance : Inf Tryz.prog 163 (.agg ((.int .i64 0) :: (List.replicate 32 (.int .u8 0) ++ ([(.int .i64 0)]))).toArray) 34 48 := ⟨by kernel_rfl, by kernel_rfl⟩
instance : Str Tryz.prog 163 [(0, 1), (1, 32), (33, 1)] := ⟨⟨_, Tryz.underlying163, by kernel_rfl, by kernel_rfl⟩⟩
instance : Fld Tryz.prog 163 0 0 3 1 := ⟨⟨_, _, Tryz.underlying163, rfl, rfl, rfl, by kernel_rfl⟩⟩
instance : Fld Tryz.prog 163 1 1 93 32 := ⟨⟨_, _, Tryz.underlying163, rfl, rfl, rfl, by kernel_rfl⟩⟩
instance : Fld Tryz.prog 163 2 33 3 1 := ⟨⟨_, _, Tryz.underlying163, rfl, rfl, rfl, by kernel_rfl⟩⟩
instance : Agg Tryz.prog 164 := ⟨fun w => run_isAgg Tryz.underlying164 w⟩
instance : Inf Tryz.prog 164 (.agg ((.int .i64 0) :: (List.replicate 32 (.int .u8 0) ++ ([(.int .i64 0)]))).toArray) 34 48 := ⟨by kernel_rfl, by kernel_rfl⟩
instance : Str Tryz.prog 164 [(0, 1), (1, 32), (33, 1)] := ⟨⟨_, Tryz.underlying164, by kernel_rfl, by kernel_rfl⟩⟩
instance : Fld Tryz.prog 164 0 0 3 1 := ⟨⟨_, _, Tryz.underlying164, rfl, rfl, rfl, by kernel_rfl⟩⟩
instance : Fld Tryz.prog 164 1 1 93 32 := ⟨⟨_, _, Tryz.underlying164, rfl, rfl, rfl, by kernel_rfl⟩⟩
instance : Fld Tryz.prog 164 2 33 3 1 := ⟨⟨_, _, Tryz.underlying164, rfl, rfl, rfl, by kernel_rfl⟩⟩
instance : One Tryz.prog 165 := ⟨fun w => run_isAgg Tryz.underlying165 w⟩
instance : Inf Tryz.prog 165 .nilFunc 1 8 := ⟨by kernel_rfl, by kernel_rfl⟩
instance : One Tryz.prog 166 := ⟨fun w => run_isAgg Tryz.underlying166 w⟩
instance : Inf Tryz.prog 166 .nilFunc 1 8 := ⟨by kernel_rfl, by kernel_rfl⟩
instance : One Tryz.prog 167 := ⟨fun w => run_isAgg Tryz.underlying167 w⟩
instance : Inf Tryz.prog 167 .nilFunc 1 8 := ⟨by kernel_rfl, by kernel_rfl⟩
instance : Agg Tryz.prog 168 := ⟨fun w => run_isAgg Tryz.underlying168 w⟩
instance : Inf Tryz.prog 168 (.agg ((.int .i64 0) :: (List.replicate 32 (.int .u8 0) ++ ([(.int .i64 0)]))).toArray) 34 48 := ⟨by kernel_rfl, by kernel_rfl⟩
instance : Str Tryz.prog 168 [(0, 1), (1, 32), (33, 1)] := ⟨⟨_, Tryz.underlying168, by kernel_rfl, by kernel_rfl⟩⟩
instance : Fld Tryz.prog 168 0 0 3 1 := ⟨⟨_, _, Tryz.underlying168, rfl, rfl, rfl, by kernel_rfl⟩⟩
instance : Fld Tryz.prog 168 1 1 93 32 := ⟨⟨_, _, Tryz.underlying168, rfl, rfl, rfl, by kernel_rfl⟩⟩
instance : Fld Tryz.prog 168 2 33 3 1 := ⟨⟨_, _, Tryz.underlying168, rfl, rfl, rfl, by kernel_rfl⟩⟩
instance : One Tryz.prog 170 := ⟨fun w => run_isAgg Tryz.underlying170 w⟩
instance : Inf Tryz.prog 170 .nilFunc 1 8 := ⟨by kernel_rfl, by kernel_rfl⟩
instance : One Tryz.prog 171 := ⟨fun w => run_isAgg Tryz.underlying171 w⟩
instance : Inf Tryz.prog 171 .nilFunc 1 8 := ⟨by kernel_rfl, by kernel_rfl⟩
instance : One Tryz.prog 172 := ⟨fun w => run_isAgg Tryz.underlying172 w⟩
instance : Inf Tryz.prog 172 .nilFunc 1 8 := ⟨by kernel_rfl, by kernel_rfl⟩
instance : Und Tryz.prog 173 (.pointer 272) := ⟨Tryz.underlying173⟩
instance : Inf Tryz.prog 173 (.pointer none) 1 8 := ⟨by kernel_rfl, by kernel_rfl⟩
instance : One Tryz.prog 175 := ⟨fun w => run_isAgg Tryz.underlying175 w⟩
instance : Inf Tryz.prog 175 .nilFunc 1 8 := ⟨by kernel_rfl, by kernel_rfl⟩
instance : One Tryz.prog 177 := ⟨fun w => run_isAgg Tryz.underlying177 w⟩
instance : Inf Tryz.prog 177 .nilFunc 1 8 := ⟨by kernel_rfl, by kernel_rfl⟩
instance : Und Tryz.prog 178 (.slice 40) := ⟨Tryz.underlying178⟩
instance : Inf Tryz.prog 178 (.slice none 0 0) 1 24 := ⟨by kernel_rfl, by kernel_rfl⟩
instance : One Tryz.prog 179 := ⟨fun w => run_isAgg Tryz.underlying179 w⟩
instance : Inf Tryz.prog 179 .nilFunc 1 8 := ⟨by kernel_rfl, by kernel_rfl⟩
instance : Agg Tryz.prog 180 := ⟨fun w => run_isAgg Tryz.underlying180 w⟩
instance : Inf Tryz.prog 180 (.agg #[(.pointer none), (.slice none 0 0)]) 2 32 := ⟨by kernel_rfl, by kernel_rfl⟩
instance : Str Tryz.prog 180 [(0, 1), (1, 1)] := ⟨⟨_, Tryz.underlying180, by kernel_rfl, by kernel_rfl⟩⟩
instance : Fld Tryz.prog 180 0 0 173 1 := ⟨⟨_, _, Tryz.underlying180, rfl, rfl, rfl, by kernel_rfl⟩⟩
instance : Fld Tryz.prog 180 1 1 88 1 := ⟨⟨_, _, Tryz.underlying180, rfl, rfl, rfl, by kernel_rfl⟩⟩
instance : Agg Tryz.prog 181 := ⟨fun w => run_isAgg Tryz.underlying181 w⟩
instance : Inf Tryz.prog 181 (.agg #[(.pointer none), (.slice none 0 0)]) 2 32 := ⟨by kernel_rfl, by kernel_rfl⟩
instance : Str Tryz.prog 181 [(0, 1), (1, 1)] := ⟨⟨_, Tryz.underlying181, by kernel_rfl, by kernel_rfl⟩⟩
instance : Fld Tryz.prog 181 0 0 173 1 := ⟨⟨_, _, Tryz.underlying181, rfl, rfl, rfl, by kernel_rfl⟩⟩
instance : Fld Tryz.prog 181 1 1 88 1 := ⟨⟨_, _, Tryz.underlying181, rfl, rfl, rfl, by kernel_rfl⟩⟩
instance : One Tryz.prog 182 := ⟨fun w => run_isAgg Tryz.underlying182 w⟩
instance : Inf Tryz.prog 182 .nilFunc 1 8 := ⟨by kernel_rfl, by kernel_rfl⟩
instance : One Tryz.prog 183 := ⟨fun w => run_isAgg Tryz.underlying183 w⟩
instance : Inf Tryz.prog 183 .nilFunc 1 8 := ⟨by kernel_rfl, by kernel_rfl⟩
instance : One Tryz.prog 185 := ⟨fun w => run_isAgg Tryz.underlying185 w⟩
instance : Inf Tryz.prog 185 .nilFunc 1 8 := ⟨by kernel_rfl, by kernel_rfl⟩
instance : One Tryz.prog 186 := ⟨fun w => run_isAgg Tryz.underlying186 w⟩
instance : Inf Tryz.prog 186 .nilFunc 1 8 := ⟨by kernel_rfl, by kernel_rfl⟩
instance : One Tryz.prog 187 := ⟨fun w => run_isAgg Tryz.underlying187 w⟩
instance : Inf Tryz.prog 187 .nilFunc 1 8 := ⟨by kernel_rfl, by kernel_rfl⟩
instance : One Tryz.prog 188 := ⟨fun w => run_isAgg Tryz.underlying188 w⟩
instance : Inf Tryz.prog 188 .nilFunc 1 8 := ⟨by kernel_rfl, by kernel_rfl⟩
instance : Und Tryz.prog 189 (.slice 299) := ⟨Tryz.underlying189⟩
instance : Inf Tryz.prog 189 (.slice none 0 0) 1 24 := ⟨by kernel_rfl, by kernel_rfl⟩
instance : Agg Tryz.prog 190 := ⟨fun w => run_isAgg Tryz.underlying190 w⟩
instance : Inf Tryz.prog 190 (.agg #[(.bool false), (.bool false), (.int .i64 0)]) 3 16 := ⟨by kernel_rfl, by kernel_rfl⟩
instance : Str Tryz.prog 190 [(0, 1), (1, 1), (2, 1)] := ⟨⟨_, Tryz.underlying190, by kernel_rfl, by kernel_rfl⟩⟩
instance : Fld Tryz.prog 190 0 0 4 1 := ⟨⟨_, _, Tryz.underlying190, rfl, rfl, rfl, by kernel_rfl⟩⟩
instance : Fld Tryz.prog 190 1 1 4 1 := ⟨⟨_, _, Tryz.underlying190, rfl, rfl, rfl, by kernel_rfl⟩⟩
instance : Fld Tryz.prog 190 2 2 3 1 := ⟨⟨_, _, Tryz.underlying190, rfl, rfl, rfl, by kernel_rfl⟩⟩
instance : Agg Tryz.prog 191 := ⟨fun w => run_isAgg Tryz.underlying191 w⟩
instance : Inf Tryz.prog 191 (.agg #[(.bool false), (.bool false), (.int .i64 0)]) 3 16 := ⟨by kernel_rfl, by kernel_rfl⟩
instance : Str Tryz.prog 191 [(0, 1), (1, 1), (2, 1)] := ⟨⟨_, Tryz.underlying191, by kernel_rfl, by kernel_rfl⟩⟩
instance : Fld Tryz.prog 191 0 0 4 1 := ⟨⟨_, _, Tryz.underlying191, rfl, rfl, rfl, by kernel_rfl⟩⟩
instance : Fld Tryz.prog 191 1 1 4 1 := ⟨⟨_, _, Tryz.underlying191, rfl, rfl, rfl, by kernel_rfl⟩⟩
instance : Fld Tryz.prog 191 2 2 3 1 := ⟨⟨_, _, Tryz.underlying191, rfl, rfl, rfl, by kernel_rfl⟩⟩
instance : Und Tryz.prog 192 (.slice 301) := ⟨Tryz.underlying192⟩
instance : Inf Tryz.prog 192 (.slice none 0 0) 1 24 := ⟨by kernel_rfl, by kernel_rfl⟩
instance : Agg Tryz.prog 193 := ⟨fun w => run_isAgg Tryz.underlying193 w⟩
instance : Inf Tryz.prog 193 (.agg #[]) 0 0 := ⟨by kernel_rfl, by kernel_rfl⟩
instance : Str Tryz.prog 193 [] := ⟨⟨_, Tryz.underlying193, by kernel_rfl, by kernel_rfl⟩⟩
instance : Agg Tryz.prog 194 := ⟨fun w => run_isAgg Tryz.underlying194 w⟩
instance : Inf Tryz.prog 194 (.agg #[]) 0 0 := ⟨by kernel_rfl, by kernel_rfl⟩
instance : Str Tryz.prog 194 [] := ⟨⟨_, Tryz.underlying194, by kernel_rfl, by kernel_rfl⟩⟩
instance : Agg Tryz.prog 195 := ⟨fun w => run_isAgg Tryz.underlying195 w⟩
instance : Inf Tryz.prog 195 (.agg #[]) 0 0 := ⟨by kernel_rfl, by kernel_rfl⟩
instance : Str Tryz.prog 195 [] := ⟨⟨_, Tryz.underlying195, by kernel_rfl, by kernel_rfl⟩⟩
instance : Agg Tryz.prog 196 := ⟨fun w => run_isAgg Tryz.underlying196 w⟩
instance : Inf Tryz.prog 196 (.agg #[(.int .i64 0)]) 1 8 := ⟨by kernel_rfl, by kernel_rfl⟩
instance : Str Tryz.prog 196 [(0, 0), (0, 0), (0, 1)] := ⟨⟨_, Tryz.underlying196, by kernel_rfl, by kernel_rfl⟩⟩
instance : Fld Tryz.prog 196 2 0 2 1 := ⟨⟨_, _, Tryz.underlying196, rfl, rfl, rfl, by kernel_rfl⟩⟩
instance : Agg Tryz.prog 197 := ⟨fun w => run_isAgg Tryz.underlying197 w⟩
instance : Inf Tryz.prog 197 (.agg #[(.int .i64 0)]) 1 8 := ⟨by kernel_rfl, by kernel_rfl⟩
instance : Str Tryz.prog 197 [(0, 0), (0, 0), (0, 1)] := ⟨⟨_, Tryz.underlying197, by kernel_rfl, by kernel_rfl⟩⟩
instance : Fld Tryz.prog 197 2 0 2 1 := ⟨⟨_, _, Tryz.underlying197, rfl, rfl, rfl, by kernel_rfl⟩⟩
instance : Agg Tryz.prog 198 := ⟨fun w => run_isAgg Tryz.underlying198 w⟩
instance : Inf Tryz.prog 198 (.agg #[(.bool false), (.bool false), (.int .i64 0), (.slice none 0 0), (.slice none 0 0), (.int .i64 0), (.int .i64 0)]) 7 80 := ⟨by kernel_rfl, by kernel_rfl⟩
instance : Str Tryz.prog 198 [(0, 3), (3, 1), (4, 1), (5, 1), (6, 1)] := ⟨⟨_, Tryz.underlying198, by kernel_rfl, by kernel_rfl⟩⟩
instance : Fld Tryz.prog 198 0 0 191 3 := ⟨⟨_, _, Tryz.underlying198, rfl, rfl, rfl, by kernel_rfl⟩⟩
instance : Fld Tryz.prog 198 1 3 189 1 := ⟨⟨_, _, Tryz.underlying198, rfl, rfl, rfl, by kernel_rfl⟩⟩
instance : Fld Tryz.prog 198 2 4 192 1 := ⟨⟨_, _, Tryz.underlying198, rfl, rfl, rfl, by kernel_rfl⟩⟩
instance : Fld Tryz.prog 198 3 5 197 1 := ⟨⟨_, _, Tryz.underlying198, rfl, rfl, rfl, by kernel_rfl⟩⟩
instance : Fld Tryz.prog 198 4 6 197 1 := ⟨⟨_, _, Tryz.underlying198, rfl, rfl, rfl, by kernel_rfl⟩⟩
instance : Agg Tryz.prog 199 := ⟨fun w => run_isAgg Tryz.underlying199 w⟩
instance : Inf Tryz.prog 199 (.agg #[(.bool false), (.bool false), (.int .i64 0), (.slice none 0 0), (.slice none 0 0), (.int .i64 0), (.int .i64 0)]) 7 80 := ⟨by kernel_rfl, by kernel_rfl⟩
instance : Str Tryz.prog 199 [(0, 3), (3, 1), (4, 1), (5, 1), (6, 1)] := ⟨⟨_, Tryz.underlying199, by kernel_rfl, by kernel_rfl⟩⟩
instance : Fld Tryz.prog 199 0 0 191 3 := ⟨⟨_, _, Tryz.underlying199, rfl, rfl, rfl, by kernel_rfl⟩⟩
instance : Fld Tryz.prog 199 1 3 189 1 := ⟨⟨_, _, Tryz.underlying199, rfl, rfl, rfl, by kernel_rfl⟩⟩
instance : Fld Tryz.prog 199 2 4 192 1 := ⟨⟨_, _, Tryz.underlying199, rfl, rfl, rfl, by kernel_rfl⟩⟩
instance : Fld Tryz.prog 199 3 5 197 1 := ⟨⟨_, _, Tryz.underlying199, rfl, rfl, rfl, by kernel_rfl⟩⟩
instance : Fld Tryz.prog 199 4 6 197 1 := ⟨⟨_, _, Tryz.underlying199, rfl, rfl, rfl, by kernel_rfl⟩⟩
instance : Agg Tryz.prog 200 := ⟨fun w => run_isAgg Tryz.underlying200 w⟩
instance : Inf Tryz.prog 200 (.agg #[]) 0 0 := ⟨by kernel_rfl, by kernel_rfl⟩
instance : Str Tryz.prog 200 [] := ⟨⟨_, Tryz.underlying200, by kernel_rfl, by kernel_rfl⟩⟩
instance : Und Tryz.prog 201 (.int .u32) := ⟨Tryz.underlying201⟩
instance : Inf Tryz.prog 201 (.int .u32 0) 1 4 := ⟨by kernel_rfl, by kernel_rfl⟩
instance : Agg Tryz.prog 202 := ⟨fun w => run_isAgg Tryz.underlying202 w⟩
instance : Inf Tryz.prog 202 (.agg #[(.int .u32 0)]) 1 4 := ⟨by kernel_rfl, by kernel_rfl⟩
instance : Str Tryz.prog 202 [(0, 0), (0, 1)] := ⟨⟨_, Tryz.underlying202, by kernel_rfl, by kernel_rfl⟩⟩
instance : Fld Tryz.prog 202 1 0 201 1 := ⟨⟨_, _, Tryz.underlying202, rfl, rfl, rfl, by kernel_rfl⟩⟩
instance : Agg Tryz.prog 203 := ⟨fun w => run_isAgg Tryz.underlying203 w⟩
instance : Inf Tryz.prog 203 (.agg #[(.int .u32 0)]) 1 4 := ⟨by kernel_rfl, by kernel_rfl⟩
instance : Str Tryz.prog 203 [(0, 0), (0, 1)] := ⟨⟨_, Tryz.underlying203, by kernel_rfl, by kernel_rfl⟩⟩
instance : Fld Tryz.prog 203 1 0 201 1 := ⟨⟨_, _, Tryz.underlying203, rfl, rfl, rfl, by kernel_rfl⟩⟩
instance : Agg Tryz.prog 204 := ⟨fun w => run_isAgg Tryz.underlying204 w⟩
instance : Inf Tryz.prog 204 (.agg #[(.int .i32 0), (.int .u32 0)]) 2 8 := ⟨by kernel_rfl, by kernel_rfl⟩
instance : Str Tryz.prog 204 [(0, 1), (1, 1)] := ⟨⟨_, Tryz.underlying204, by kernel_rfl, by kernel_rfl⟩⟩
instance : Fld Tryz.prog 204 0 0 21 1 := ⟨⟨_, _, Tryz.underlying204, rfl, rfl, rfl, by kernel_rfl⟩⟩
instance : Fld Tryz.prog 204 1 1 201 1 := ⟨⟨_, _, Tryz.underlying204, rfl, rfl, rfl, by kernel_rfl⟩⟩
instance : Agg Tryz.prog 205 := ⟨fun w => run_isAgg Tryz.underlying205 w⟩
instance : Inf Tryz.prog 205 (.agg #[(.int .i32 0), (.int .u32 0)]) 2 8 := ⟨by kernel_rfl, by kernel_rfl⟩
instance : Str Tryz.prog 205 [(0, 1), (1, 1)] := ⟨⟨_, Tryz.underlying205, by kernel_rfl, by kernel_rfl⟩⟩
instance : Fld Tryz.prog 205 0 0 21 1 := ⟨⟨_, _, Tryz.underlying205, rfl, rfl, rfl, by kernel_rfl⟩⟩
instance : Fld Tryz.prog 205 1 1 201 1 := ⟨⟨_, _, Tryz.underlying205, rfl, rfl, rfl, by kernel_rfl⟩⟩
instance : Agg Tryz.prog 206 := ⟨fun w => run_isAgg Tryz.underlying206 w⟩
instance : Inf Tryz.prog 206 (.agg #[(.int .i32 0), (.int .u32 0)]) 2 8 := ⟨by kernel_rfl, by kernel_rfl⟩
instance : Str Tryz.prog 206 [(0, 0), (0, 2)] := ⟨⟨_, Tryz.underlying206, by kernel_rfl, by kernel_rfl⟩⟩
instance : Fld Tryz.prog 206 1 0 205 2 := ⟨⟨_, _, Tryz.underlying206, rfl, rfl, rfl, by kernel_rfl⟩⟩
instance : Agg Tryz.prog 207 := ⟨fun w => run_isAgg Tryz.underlying207 w⟩
instance : Inf Tryz.prog 207 (.agg #[(.int .i32 0), (.int .u32 0)]) 2 8 := ⟨by kernel_rfl, by kernel_rfl⟩
instance : Str Tryz.prog 207 [(0, 0), (0, 2)] := ⟨⟨_, Tryz.underlying207, by kernel_rfl, by kernel_rfl⟩⟩
instance : Fld Tryz.prog 207 1 0 205 2 := ⟨⟨_, _, Tryz.underlying207, rfl, rfl, rfl, by kernel_rfl⟩⟩
instance : Agg Tryz.prog 208 := ⟨fun w => run_isAgg Tryz.underlying208 w⟩
instance : Inf Tryz.prog 208 (.agg #[(.int .u32 0), (.int .i32 0), (.int .u32 0)]) 3 12 := ⟨by kernel_rfl, by kernel_rfl⟩
instance : Str Tryz.prog 208 [(0, 0), (0, 1), (1, 2)] := ⟨⟨_, Tryz.underlying208, by kernel_rfl, by kernel_rfl⟩⟩
instance : Fld Tryz.prog 208 1 0 203 1 := ⟨⟨_, _, Tryz.underlying208, rfl, rfl, rfl, by kernel_rfl⟩⟩
instance : Fld Tryz.prog 208 2 1 207 2 := ⟨⟨_, _, Tryz.underlying208, rfl, rfl, rfl, by kernel_rfl⟩⟩
instance : Agg Tryz.prog 209 := ⟨fun w => run_isAgg Tryz.underlying209 w⟩
instance : Inf Tryz.prog 209 (.agg #[(.int .u32 0), (.int .i32 0), (.int .u32 0)]) 3 12 := ⟨by kernel_rfl, by kernel_rfl⟩
instance : Str Tryz.prog 209 [(0, 0), (0, 1), (1, 2)] := ⟨⟨_, Tryz.underlying209, by kernel_rfl, by kernel_rfl⟩⟩
instance : Fld Tryz.prog 209 1 0 203 1 := ⟨⟨_, _, Tryz.underlying209, rfl, rfl, rfl, by kernel_rfl⟩⟩
instance : Fld Tryz.prog 209 2 1 207 2 := ⟨⟨_, _, Tryz.underlying209, rfl, rfl, rfl, by kernel_rfl⟩⟩
instance : Agg Tryz.prog 210 := ⟨fun w => run_isAgg Tryz.underlying210 w⟩
instance : Inf Tryz.prog 210 (.agg #[(.pointer none), (.int .u32 0), (.int .i32 0), (.int .u32 0), (.int .i64 0), (.int .i64 0), (.bool false)]) 7 48 := ⟨by kernel_rfl, by kernel_rfl⟩
instance : Str Tryz.prog 210 [(0, 1), (1, 3), (4, 1), (5, 1), (6, 1)] := ⟨⟨_, Tryz.underlying210, by kernel_rfl, by kernel_rfl⟩⟩
instance : Fld Tryz.prog 210 0 0 23 1 := ⟨⟨_, _, Tryz.underlying210, rfl, rfl, rfl, by kernel_rfl⟩⟩
instance : Fld Tryz.prog 210 1 1 209 3 := ⟨⟨_, _, Tryz.underlying210, rfl, rfl, rfl, by kernel_rfl⟩⟩
instance : Fld Tryz.prog 210 2 4 3 1 := ⟨⟨_, _, Tryz.underlying210, rfl, rfl, rfl, by kernel_rfl⟩⟩
instance : Fld Tryz.prog 210 3 5 3 1 := ⟨⟨_, _, Tryz.underlying210, rfl, rfl, rfl, by kernel_rfl⟩⟩
instance : Fld Tryz.prog 210 4 6 4 1 := ⟨⟨_, _, Tryz.underlying210, rfl, rfl, rfl, by kernel_rfl⟩⟩
instance : Agg Tryz.prog 211 := ⟨fun w => run_isAgg Tryz.underlying211 w⟩
instance : Inf Tryz.prog 211 (.agg #[(.pointer none), (.int .u32 0), (.int .i32 0), (.int .u32 0), (.int .i64 0), (.int .i64 0), (.bool false)]) 7 48 := ⟨by kernel_rfl, by kernel_rfl⟩
instance : Str Tryz.prog 211 [(0, 1), (1, 3), (4, 1), (5, 1), (6, 1)] := ⟨⟨_, Tryz.underlying211, by kernel_rfl, by kernel_rfl⟩⟩
instance : Fld Tryz.prog 211 0 0 23 1 := ⟨⟨_, _, Tryz.underlying211, rfl, rfl, rfl, by kernel_rfl⟩⟩
instance : Fld Tryz.prog 211 1 1 209 3 := ⟨⟨_, _, Tryz.underlying211, rfl, rfl, rfl, by kernel_rfl⟩⟩
instance : Fld Tryz.prog 211 2 4 3 1 := ⟨⟨_, _, Tryz.underlying211, rfl, rfl, rfl, by kernel_rfl⟩⟩
instance : Fld Tryz.prog 211 3 5 3 1 := ⟨⟨_, _, Tryz.underlying211, rfl, rfl, rfl, by kernel_rfl⟩⟩
instance : Fld Tryz.prog 211 4 6 4 1 := ⟨⟨_, _, Tryz.underlying211, rfl, rfl, rfl, by kernel_rfl⟩⟩
instance : One Tryz.prog 212 := ⟨fun w => run_isAgg Tryz.underlying212 w⟩
instance : Inf Tryz.prog 212 .nilFunc 1 8 := ⟨by kernel_rfl, by kernel_rfl⟩
instance : One Tryz.prog 213 := ⟨fun w => run_isAgg Tryz.underlying213 w⟩
instance : Inf Tryz.prog 213 .nilFunc 1 8 := ⟨by kernel_rfl, by kernel_rfl⟩
instance : One Tryz.prog 214 := ⟨fun w => run_isAgg Tryz.underlying214 w⟩
instance : Inf Tryz.prog 214 .nilFunc 1 8 := ⟨by kernel_rfl, by kernel_rfl⟩
instance : One Tryz.prog 215 := ⟨fun w => run_isAgg Tryz.underlying215 w⟩
instance : Inf Tryz.prog 215 .nilFunc 1 8 := ⟨by kernel_rfl, by kernel_rfl⟩
instance : One Tryz.prog 216 := ⟨fun w => run_isAgg Tryz.underlying216 w⟩
instance : Inf Tryz.prog 216 .nilFunc 1 8 := ⟨by kernel_rfl, by kernel_rfl⟩
instance : One Tryz.prog 217 := ⟨fun w => run_isAgg Tryz.underlying217 w⟩
instance : Inf Tryz.prog 217 .nilFunc 1 8 := ⟨by kernel_rfl, by kernel_rfl⟩
instance : One Tryz.prog 218 := ⟨fun w => run_isAgg Tryz.underlying218 w⟩
instance : Inf Tryz.prog 218 .nilFunc 1 8 := ⟨by kernel_rfl, by kernel_rfl⟩
instance : Und Tryz.prog 219 (.map 3 4) := ⟨Tryz.underlying219⟩
instance : Inf Tryz.prog 219 (.map none) 1 8 := ⟨by kernel_rfl, by kernel_rfl⟩
instance : One Tryz.prog 220 := ⟨fun w => run_isAgg Tryz.underlying220 w⟩
instance : Inf Tryz.prog 220 .nilFunc 1 8 := ⟨by kernel_rfl, by kernel_rfl⟩
instance : One Tryz.prog 221 := ⟨fun w => run_isAgg Tryz.underlying221 w⟩
instance : Inf Tryz.prog 221 .nilFunc 1 8 := ⟨by kernel_rfl, by kernel_rfl⟩
instance : One Tryz.prog 222 := ⟨fun w => run_isAgg Tryz.underlying222 w⟩
instance : Inf Tryz.prog 222 .nilFunc 1 8 := ⟨by kernel_rfl, by kernel_rfl⟩
instance : One Tryz.prog 223 := ⟨fun w => run_isAgg Tryz.underlying223 w⟩
instance : Inf Tryz.prog 223 .nilFunc 1 8 := ⟨by kernel_rfl, by kernel_rfl⟩
instance : Und Tryz.prog 224 (.pointer 226) := ⟨Tryz.underlying224⟩
instance : Inf Tryz.prog 224 (.pointer none) 1 8 := ⟨by kernel_rfl, by kernel_rfl⟩
instance : Agg Tryz.prog 225 := ⟨fun w => run_isAgg Tryz.underlying225 w⟩
instance : Inf Tryz.prog 225 (.agg #[(.pointer none), (.int .i64 0)]) 2 16 := ⟨by kernel_rfl, by kernel_rfl⟩
instance : Str Tryz.prog 225 [(0, 1), (1, 1)] := ⟨⟨_, Tryz.underlying225, by kernel_rfl, by kernel_rfl⟩⟩
instance : Fld Tryz.prog 225 0 0 23 1 := ⟨⟨_, _, Tryz.underlying225, rfl, rfl, rfl, by kernel_rfl⟩⟩
instance : Fld Tryz.prog 225 1 1 36 1 := ⟨⟨_, _, Tryz.underlying225, rfl, rfl, rfl, by kernel_rfl⟩⟩
instance : Agg Tryz.prog 226 := ⟨fun w => run_isAgg Tryz.underlying226 w⟩
instance : Inf Tryz.prog 226 (.agg #[(.pointer none), (.int .i64 0)]) 2 16 := ⟨by kernel_rfl, by kernel_rfl⟩
instance : Str Tryz.prog 226 [(0, 1), (1, 1)] := ⟨⟨_, Tryz.underlying226, by kernel_rfl, by kernel_rfl⟩⟩
instance : Fld Tryz.prog 226 0 0 23 1 := ⟨⟨_, _, Tryz.underlying226, rfl, rfl, rfl, by kernel_rfl⟩⟩
instance : Fld Tryz.prog 226 1 1 36 1 := ⟨⟨_, _, Tryz.underlying226, rfl, rfl, rfl, by kernel_rfl⟩⟩
instance : One Tryz.prog 227 := ⟨fun w => run_isAgg Tryz.underlying227 w⟩
instance : Inf Tryz.prog 227 .nilFunc 1 8 := ⟨by kernel_rfl, by kernel_rfl⟩
instance : One Tryz.prog 228 := ⟨fun w => run_isAgg Tryz.underlying228 w⟩
instance : Inf Tryz.prog 228 .nilFunc 1 8 := ⟨by kernel_rfl, by kernel_rfl⟩
instance : One Tryz.prog 229 := ⟨fun w => run_isAgg Tryz.underlying229 w⟩
instance : Inf Tryz.prog 229 .nilFunc 1 8 := ⟨by kernel_rfl, by kernel_rfl⟩
instance : One Tryz.prog 230 := ⟨fun w => run_isAgg Tryz.underlying230 w⟩
instance : Inf Tryz.prog 230 .nilFunc 1 8 := ⟨by kernel_rfl, by kernel_rfl⟩
instance : One Tryz.prog 231 := ⟨fun w => run_isAgg Tryz.underlying231 w⟩
instance : Inf Tryz.prog 231 .nilFunc 1 8 := ⟨by kernel_rfl, by kernel_rfl⟩
instance : One Tryz.prog 232 := ⟨fun w => run_isAgg Tryz.underlying232 w⟩
instance : Inf Tryz.prog 232 .nilFunc 1 8 := ⟨by kernel_rfl, by kernel_rfl⟩
instance : One Tryz.prog 233 := ⟨fun w => run_isAgg Tryz.underlying233 w⟩
instance : Inf Tryz.prog 233 .nilFunc 1 8 := ⟨by kernel_rfl, by kernel_rfl⟩
instance : One Tryz.prog 234 := ⟨fun w => run_isAgg Tryz.underlying234 w⟩
instance : Inf Tryz.prog 234 .nilFunc 1 8 := ⟨by kernel_rfl, by kernel_rfl⟩
instance : One Tryz.prog 235 := ⟨fun w => run_isAgg Tryz.underlying235 w⟩
instance : Inf Tryz.prog 235 .nilFunc 1 8 := ⟨by kernel_rfl, by kernel_rfl⟩
instance : One Tryz.prog 237 := ⟨fun w => run_isAgg Tryz.underlying237 w⟩
instance : Inf Tryz.prog 237 .nilFunc 1 8 := ⟨by kernel_rfl, by kernel_rfl⟩
instance : One Tryz.prog 238 := ⟨fun w => run_isAgg Tryz.underlying238 w⟩
instance : Inf Tryz.prog 238 .nilFunc 1 8 := ⟨by kernel_rfl, by kernel_rfl⟩
instance : Agg Tryz.prog 239 := ⟨fun w => run_isAgg Tryz.underlying239 w⟩
instance : Inf Tryz.prog 239 (.agg #[(.pointer none), (.string ⟨#[]⟩)]) 2 24 := ⟨by kernel_rfl, by kernel_rfl⟩
instance : Str Tryz.prog 239 [(0, 1), (1, 1)] := ⟨⟨_, Tryz.underlying239, by kernel_rfl, by kernel_rfl⟩⟩
instance : Fld Tryz.prog 239 0 0 141 1 := ⟨⟨_, _, Tryz.underlying239, rfl, rfl, rfl, by kernel_rfl⟩⟩
instance : Fld Tryz.prog 239 1 1 9 1 := ⟨⟨_, _, Tryz.underlying239, rfl, rfl, rfl, by kernel_rfl⟩⟩
instance : Agg Tryz.prog 240 := ⟨fun w => run_isAgg Tryz.underlying240 w⟩
instance : Inf Tryz.prog 240 (.agg #[(.pointer none), (.string ⟨#[]⟩)]) 2 24 := ⟨by kernel_rfl, by kernel_rfl⟩
instance : Str Tryz.prog 240 [(0, 1), (1, 1)] := ⟨⟨_, Tryz.underlying240, by kernel_rfl, by kernel_rfl⟩⟩
instance : Fld Tryz.prog 240 0 0 141 1 := ⟨⟨_, _, Tryz.underlying240, rfl, rfl, rfl, by kernel_rfl⟩⟩
instance : Fld Tryz.prog 240 1 1 9 1 := ⟨⟨_, _, Tryz.underlying240, rfl, rfl, rfl, by kernel_rfl⟩⟩
instance : One Tryz.prog 241 := ⟨fun w => run_isAgg Tryz.underlying241 w⟩
instance : Inf Tryz.prog 241 .nilFunc 1 8 := ⟨by kernel_rfl, by kernel_rfl⟩
instance : One Tryz.prog 242 := ⟨fun w => run_isAgg Tryz.underlying242 w⟩
instance : Inf Tryz.prog 242 .nilFunc 1 8 := ⟨by kernel_rfl, by kernel_rfl⟩
instance : One Tryz.prog 243 := ⟨fun w => run_isAgg Tryz.underlying243 w⟩
instance : Inf Tryz.prog 243 .nilFunc 1 8 := ⟨by kernel_rfl, by kernel_rfl⟩
instance : One Tryz.prog 245 := ⟨fun w => run_isAgg Tryz.underlying245 w⟩
instance : Inf Tryz.prog 245 .nilFunc 1 8 := ⟨by kernel_rfl, by kernel_rfl⟩
instance : One Tryz.prog 246 := ⟨fun w => run_isAgg Tryz.underlying246 w⟩
instance : Inf Tryz.prog 246 .nilFunc 1 8 := ⟨by kernel_rfl, by kernel_rfl⟩
instance : One Tryz.prog 247 := ⟨fun w => run_isAgg Tryz.underlying247 w⟩
instance : Inf Tryz.prog 247 .nilFunc 1 8 := ⟨by kernel_rfl, by kernel_rfl⟩
instance : One Tryz.prog 248 := ⟨fun w => run_isAgg Tryz.underlying248 w⟩
instance : Inf Tryz.prog 248 .nilFunc 1 8 := ⟨by kernel_rfl, by kernel_rfl⟩
instance : One Tryz.prog 249 := ⟨fun w => run_isAgg Tryz.underlying249 w⟩
instance : Inf Tryz.prog 249 .nilFunc 1 8 := ⟨by kernel_rfl, by kernel_rfl⟩
instance : Und Tryz.prog 250 (.array 5 9) := ⟨Tryz.underlying250⟩
instance : Inf Tryz.prog 250 (.agg #[(.string ⟨#[]⟩), (.string ⟨#[]⟩), (.string ⟨#[]⟩), (.string ⟨#[]⟩), (.string ⟨#[]⟩)]) 5 80 := ⟨by kernel_rfl, by kernel_rfl⟩
instance : One Tryz.prog 251 := ⟨fun w => run_isAgg Tryz.underlying251 w⟩
instance : Inf Tryz.prog 251 .nilFunc 1 8 := ⟨by kernel_rfl, by kernel_rfl⟩
instance : One Tryz.prog 252 := ⟨fun w => run_isAgg Tryz.underlying252 w⟩
instance : Inf Tryz.prog 252 .nilFunc 1 8 := ⟨by kernel_rfl, by kernel_rfl⟩
instance : One Tryz.prog 253 := ⟨fun w => run_isAgg Tryz.underlying253 w⟩
instance : Inf Tryz.prog 253 .nilFunc 1 8 := ⟨by kernel_rfl, by kernel_rfl⟩
instance : One Tryz.prog 254 := ⟨fun w => run_isAgg Tryz.underlying254 w⟩
instance : Inf Tryz.prog 254 .nilFunc 1 8 := ⟨by kernel_rfl, by kernel_rfl⟩
instance : One Tryz.prog 255 := ⟨fun w => run_isAgg Tryz.underlying255 w⟩
instance : Inf Tryz.prog 255 .nilFunc 1 8 := ⟨by kernel_rfl, by kernel_rfl⟩
instance : Und Tryz.prog 256 (.slice 154) := ⟨Tryz.underlying256⟩
instance : Inf Tryz.prog 256 (.slice none 0 0) 1 24 := ⟨by kernel_rfl, by kernel_rfl⟩
instance : One Tryz.prog 258 := ⟨fun w => run_isAgg Tryz.underlying258 w⟩
instance : Inf Tryz.prog 258 .nilFunc 1 8 := ⟨by kernel_rfl, by kernel_rfl⟩
instance : One Tryz.prog 259 := ⟨fun w => run_isAgg Tryz.underlying259 w⟩
instance : Inf Tryz.prog 259 .nilFunc 1 8 := ⟨by kernel_rfl, by kernel_rfl⟩
instance : One Tryz.prog 260 := ⟨fun w => run_isAgg Tryz.underlying260 w⟩
instance : Inf Tryz.prog 260 .nilFunc 1 8 := ⟨by kernel_rfl, by kernel_rfl⟩
instance : One Tryz.prog 261 := ⟨fun w => run_isAgg Tryz.underlying261 w⟩
instance : Inf Tryz.prog 261 .nilFunc 1 8 := ⟨by kernel_rfl, by kernel_rfl⟩
instance : One Tryz.prog 262 := ⟨fun w => run_isAgg Tryz.underlying262 w⟩
instance : Inf Tryz.prog 262 .nilFunc 1 8 := ⟨by kernel_rfl, by kernel_rfl⟩
instance : One Tryz.prog 263 := ⟨fun w => run_isAgg Tryz.underlying263 w⟩
instance : Inf Tryz.prog 263 .nilFunc 1 8 := ⟨by kernel_rfl, by kernel_rfl⟩
instance : One Tryz.prog 264 := ⟨fun w => run_isAgg Tryz.underlying264 w⟩
instance : Inf Tryz.prog 264 .nilFunc 1 8 := ⟨by kernel_rfl, by kernel_rfl⟩
instance : One Tryz.prog 266 := ⟨fun w => run_isAgg Tryz.underlying266 w⟩
instance : Inf Tryz.prog 266 .nilFunc 1 8 := ⟨by kernel_rfl, by kernel_rfl⟩
instance : One Tryz.prog 268 := ⟨fun w => run_isAgg Tryz.underlying268 w⟩
instance : Inf Tryz.prog 268 .nilFunc 1 8 := ⟨by kernel_rfl, by kernel_rfl⟩
instance : Agg Tryz.prog 269 := ⟨fun w => run_isAgg Tryz.underlying269 w⟩
instance : Inf Tryz.prog 269 (.agg ((.int .i64 0) :: (List.replicate 32 (.int .u8 0))).toArray) 33 40 := ⟨by kernel_rfl, by kernel_rfl⟩
instance : Str Tryz.prog 269 [(0, 1), (1, 32)] := ⟨⟨_, Tryz.underlying269, by kernel_rfl, by kernel_rfl⟩⟩
instance : Fld Tryz.prog 269 0 0 3 1 := ⟨⟨_, _, Tryz.underlying269, rfl, rfl, rfl, by kernel_rfl⟩⟩
instance : Fld Tryz.prog 269 1 1 93 32 := ⟨⟨_, _, Tryz.underlying269, rfl, rfl, rfl, by kernel_rfl⟩⟩
instance : Agg Tryz.prog 270 := ⟨fun w => run_isAgg Tryz.underlying270 w⟩
instance : Inf Tryz.prog 270 (.agg ((.int .i64 0) :: (List.replicate 32 (.int .u8 0))).toArray) 33 40 := ⟨by kernel_rfl, by kernel_rfl⟩
instance : Str Tryz.prog 270 [(0, 1), (1, 32)] := ⟨⟨_, Tryz.underlying270, by kernel_rfl, by kernel_rfl⟩⟩
instance : Fld Tryz.prog 270 0 0 3 1 := ⟨⟨_, _, Tryz.underlying270, rfl, rfl, rfl, by kernel_rfl⟩⟩
instance : Fld Tryz.prog 270 1 1 93 32 := ⟨⟨_, _, Tryz.underlying270, rfl, rfl, rfl, by kernel_rfl⟩⟩
instance : Agg Tryz.prog 271 := ⟨fun w => run_isAgg Tryz.underlying271 w⟩
instance : Inf Tryz.prog 271 (.agg ((.int .i64 0) :: (List.replicate 32 (.int .u8 0) ++ ((.pointer none) :: ([(.slice none 0 0)])))).toArray) 35 72 := ⟨by kernel_rfl, by kernel_rfl⟩
instance : Str Tryz.prog 271 [(0, 33), (33, 1), (34, 1)] := ⟨⟨_, Tryz.underlying271, by kernel_rfl, by kernel_rfl⟩⟩
instance : Fld Tryz.prog 271 0 0 270 33 := ⟨⟨_, _, Tryz.underlying271, rfl, rfl, rfl, by kernel_rfl⟩⟩
instance : Fld Tryz.prog 271 1 33 142 1 := ⟨⟨_, _, Tryz.underlying271, rfl, rfl, rfl, by kernel_rfl⟩⟩
instance : Fld Tryz.prog 271 2 34 178 1 := ⟨⟨_, _, Tryz.underlying271, rfl, rfl, rfl, by kernel_rfl⟩⟩
instance : Agg Tryz.prog 272 := ⟨fun w => run_isAgg Tryz.underlying272 w⟩
instance : Inf Tryz.prog 272 (.agg ((.int .i64 0) :: (List.replicate 32 (.int .u8 0) ++ ((.pointer none) :: ([(.slice none 0 0)])))).toArray) 35 72 := ⟨by kernel_rfl, by kernel_rfl⟩
instance : Str Tryz.prog 272 [(0, 33), (33, 1), (34, 1)] := ⟨⟨_, Tryz.underlying272, by kernel_rfl, by kernel_rfl⟩⟩
instance : Fld Tryz.prog 272 0 0 270 33 := ⟨⟨_, _, Tryz.underlying272, rfl, rfl, rfl, by kernel_rfl⟩⟩
instance : Fld Tryz.prog 272 1 33 142 1 := ⟨⟨_, _, Tryz.underlying272, rfl, rfl, rfl, by kernel_rfl⟩⟩
instance : Fld Tryz.prog 272 2 34 178 1 := ⟨⟨_, _, Tryz.underlying272, rfl, rfl, rfl, by kernel_rfl⟩⟩
instance : One Tryz.prog 273 := ⟨fun w => run_isAgg Tryz.underlying273 w⟩
instance : Inf Tryz.prog 273 .nilFunc 1 8 := ⟨by kernel_rfl, by kernel_rfl⟩
instance : One Tryz.prog 274 := ⟨fun w => run_isAgg Tryz.underlying274 w⟩
instance : Inf Tryz.prog 274 .nilFunc 1 8 := ⟨by kernel_rfl, by kernel_rfl⟩
instance : One Tryz.prog 275 := ⟨fun w => run_isAgg Tryz.underlying275 w⟩
instance : Inf Tryz.prog 275 .nilFunc 1 8 := ⟨by kernel_rfl, by kernel_rfl⟩
instance : One Tryz.prog 276 := ⟨fun w => run_isAgg Tryz.underlying276 w⟩
instance : Inf Tryz.prog 276 .nilFunc 1 8 := ⟨by kernel_rfl, by kernel_rfl⟩
instance : One Tryz.prog 277 := ⟨fun w => run_isAgg Tryz.underlying277 w⟩
instance : Inf Tryz.prog 277 .nilFunc 1 8 := ⟨by kernel_rfl, by kernel_rfl⟩
instance : Und Tryz.prog 278 (.pointer 283) := ⟨Tryz.underlying278⟩
instance : Inf Tryz.prog 278 (.pointer none) 1 8 := ⟨by kernel_rfl, by kernel_rfl⟩
instance : Und Tryz.prog 279 (.array 8 201) := ⟨Tryz.underlying279⟩
instance : Inf Tryz.prog 279 (.agg #[(.int .u32 0), (.int .u32 0), (.int .u32 0), (.int .u32 0), (.int .u32 0), (.int .u32 0), (.int .u32 0), (.int .u32 0)]) 8 32 := ⟨by kernel_rfl, by kernel_rfl⟩
instance : Und Tryz.prog 280 (.array 8 201) := ⟨Tryz.underlying280⟩
instance : Inf Tryz.prog 280 (.agg #[(.int .u32 0), (.int .u32 0), (.int .u32 0), (.int .u32 0), (.int .u32 0), (.int .u32 0), (.int .u32 0), (.int .u32 0)]) 8 32 := ⟨by kernel_rfl, by kernel_rfl⟩
instance : Und Tryz.prog 281 (.array 64 5) := ⟨Tryz.underlying281⟩
instance : Inf Tryz.prog 281 (.agg (List.replicate 64 (.int .u8 0)).toArray) 64 64 := ⟨by kernel_rfl, by kernel_rfl⟩
instance : Agg Tryz.prog 282 := ⟨fun w => run_isAgg Tryz.underlying282 w⟩
instance : Inf Tryz.prog 282 (.agg ((.int .u32 0) :: (.int .u32 0) :: (.int .u32 0) :: (.int .u32 0) :: (.int .u32 0) :: (.int .u32 0) :: (.int .u32 0) :: (.int .u32 0) :: (List.replicate 64 (.int .u8 0) ++ ([(.int .i64 0)]))).toArray) 73 104 := ⟨by kernel_rfl, by kernel_rfl⟩
instance : Str Tryz.prog 282 [(0, 8), (8, 64), (72, 1)] := ⟨⟨_, Tryz.underlying282, by kernel_rfl, by kernel_rfl⟩⟩
instance : Fld Tryz.prog 282 0 0 280 8 := ⟨⟨_, _, Tryz.underlying282, rfl, rfl, rfl, by kernel_rfl⟩⟩
instance : Fld Tryz.prog 282 1 8 281 64 := ⟨⟨_, _, Tryz.underlying282, rfl, rfl, rfl, by kernel_rfl⟩⟩
instance : Fld Tryz.prog 282 2 72 3 1 := ⟨⟨_, _, Tryz.underlying282, rfl, rfl, rfl, by kernel_rfl⟩⟩
instance : Agg Tryz.prog 283 := ⟨fun w => run_isAgg Tryz.underlying283 w⟩
instance : Inf Tryz.prog 283 (.agg ((.int .u32 0) :: (.int .u32 0) :: (.int .u32 0) :: (.int .u32 0) :: (.int .u32 0) :: (.int .u32 0) :: (.int .u32 0) :: (.int .u32 0) :: (List.replicate 64 (.int .u8 0) ++ ([(.int .i64 0)]))).toArray) 73 104 := ⟨by kernel_rfl, by kernel_rfl⟩
instance : Str Tryz.prog 283 [(0, 8), (8, 64), (72, 1)] := ⟨⟨_, Tryz.underlying283, by kernel_rfl, by kernel_rfl⟩⟩
instance : Fld Tryz.prog 283 0 0 280 8 := ⟨⟨_, _, Tryz.underlying283, rfl, rfl, rfl, by kernel_rfl⟩⟩
instance : Fld Tryz.prog 283 1 8 281 64 := ⟨⟨_, _, Tryz.underlying283, rfl, rfl, rfl, by kernel_rfl⟩⟩
instance : Fld Tryz.prog 283 2 72 3 1 := ⟨⟨_, _, Tryz.underlying283, rfl, rfl, rfl, by kernel_rfl⟩⟩
instance : One Tryz.prog 284 := ⟨fun w => run_isAgg Tryz.underlying284 w⟩
instance : Inf Tryz.prog 284 .nilFunc 1 8 := ⟨by kernel_rfl, by kernel_rfl⟩
instance : Und Tryz.prog 285 (.pointer 209) := ⟨Tryz.underlying285⟩
instance : Inf Tryz.prog 285 (.pointer none) 1 8 := ⟨by kernel_rfl, by kernel_rfl⟩
instance : One Tryz.prog 286 := ⟨fun w => run_isAgg Tryz.underlying286 w⟩
instance : Inf Tryz.prog 286 .nilFunc 1 8 := ⟨by kernel_rfl, by kernel_rfl⟩
instance : One Tryz.prog 287 := ⟨fun w => run_isAgg Tryz.underlying287 w⟩
instance : Inf Tryz.prog 287 .nilFunc 1 8 := ⟨by kernel_rfl, by kernel_rfl⟩
instance : One Tryz.prog 288 := ⟨fun w => run_isAgg Tryz.underlying288 w⟩
instance : Inf Tryz.prog 288 .nilFunc 1 8 := ⟨by kernel_rfl, by kernel_rfl⟩
instance : One Tryz.prog 289 := ⟨fun w => run_isAgg Tryz.underlying289 w⟩
instance : Inf Tryz.prog 289 .nilFunc 1 8 := ⟨by kernel_rfl, by kernel_rfl⟩
instance : One Tryz.prog 290 := ⟨fun w => run_isAgg Tryz.underlying290 w⟩
instance : Inf Tryz.prog 290 .nilFunc 1 8 := ⟨by kernel_rfl, by kernel_rfl⟩
instance : One Tryz.prog 291 := ⟨fun w => run_isAgg Tryz.underlying291 w⟩
instance : Inf Tryz.prog 291 .nilFunc 1 8 := ⟨by kernel_rfl, by kernel_rfl⟩
instance : Und Tryz.prog 292 (.int .u64) := ⟨Tryz.underlying292⟩
instance : Inf Tryz.prog 292 (.int .u64 0) 1 8 := ⟨by kernel_rfl, by kernel_rfl⟩
instance : One Tryz.prog 293 := ⟨fun w => run_isAgg Tryz.underlying293 w⟩
instance : Inf Tryz.prog 293 .nilFunc 1 8 := ⟨by kernel_rfl, by kernel_rfl⟩
instance : One Tryz.prog 294 := ⟨fun w => run_isAgg Tryz.underlying294 w⟩
instance : Inf Tryz.prog 294 .nilFunc 1 8 := ⟨by kernel_rfl, by kernel_rfl⟩
instance : One Tryz.prog 295 := ⟨fun w => run_isAgg Tryz.underlying295 w⟩
instance : Inf Tryz.prog 295 .nilFunc 1 8 := ⟨by kernel_rfl, by kernel_rfl⟩
instance : One Tryz.prog 296 := ⟨fun w => run_isAgg Tryz.underlying296 w⟩
instance : Inf Tryz.prog 296 .nilFunc 1 8 := ⟨by kernel_rfl, by kernel_rfl⟩
instance : One Tryz.prog 297 := ⟨fun w => run_isAgg Tryz.underlying297 w⟩
instance : Inf Tryz.prog 297 .nilFunc 1 8 := ⟨by kernel_rfl, by kernel_rfl⟩
instance : One Tryz.prog 298 := ⟨fun w => run_isAgg Tryz.underlying298 w⟩
instance : Inf Tryz.prog 298 .nilFunc 1 8 := ⟨by kernel_rfl, by kernel_rfl⟩
instance : Und Tryz.prog 299 (.array 64 5) := ⟨Tryz.underlying299⟩
instance : Inf Tryz.prog 299 (.agg (List.replicate 64 (.int .u8 0)).toArray) 64 64 := ⟨by kernel_rfl, by kernel_rfl⟩
instance : Agg Tryz.prog 300 := ⟨fun w => run_isAgg Tryz.underlying300 w⟩
instance : Inf Tryz.prog 300 (.agg ((.int .i64 0) :: (List.replicate 64 (.int .u8 0))).toArray) 65 72 := ⟨by kernel_rfl, by kernel_rfl⟩
instance : Str Tryz.prog 300 [(0, 1), (1, 64)] := ⟨⟨_, Tryz.underlying300, by kernel_rfl, by kernel_rfl⟩⟩
instance : Fld Tryz.prog 300 0 0 3 1 := ⟨⟨_, _, Tryz.underlying300, rfl, rfl, rfl, by kernel_rfl⟩⟩
instance : Fld Tryz.prog 300 1 1 299 64 := ⟨⟨_, _, Tryz.underlying300, rfl, rfl, rfl, by kernel_rfl⟩⟩
instance : Agg Tryz.prog 301 := ⟨fun w => run_isAgg Tryz.underlying301 w⟩
instance : Inf Tryz.prog 301 (.agg ((.int .i64 0) :: (List.replicate 64 (.int .u8 0))).toArray) 65 72 := ⟨by kernel_rfl, by kernel_rfl⟩
instance : Str Tryz.prog 301 [(0, 1), (1, 64)] := ⟨⟨_, Tryz.underlying301, by kernel_rfl, by kernel_rfl⟩⟩
instance : Fld Tryz.prog 301 0 0 3 1 := ⟨⟨_, _, Tryz.underlying301, rfl, rfl, rfl, by kernel_rfl⟩⟩
instance : Fld Tryz.prog 301 1 1 299 64 := ⟨⟨_, _, Tryz.underlying301, rfl, rfl, rfl, by kernel_rfl⟩⟩
instance : Und Tryz.prog 302 (.array 4 5) := ⟨Tryz.underlying302⟩
instance : Inf Tryz.prog 302 (.agg #[(.int .u8 0), (.int .u8 0), (.int .u8 0), (.int .u8 0)]) 4 4 := ⟨by kernel_rfl, by kernel_rfl⟩
instance : One Tryz.prog 303 := ⟨fun w => run_isAgg Tryz.underlying303 w⟩
instance : Inf Tryz.prog 303 .nilFunc 1 8 := ⟨by kernel_rfl, by kernel_rfl⟩
instance : Agg Tryz.prog 304 := ⟨fun w => run_isAgg Tryz.underlying304 w⟩
instance : Inf Tryz.prog 304 (.agg #[(.int .i64 0), (.int .i64 0), (.int .i64 0), (.int .i64 0), (.int .i64 0), (.slice none 0 0)]) 6 64 := ⟨by kernel_rfl, by kernel_rfl⟩
instance : Str Tryz.prog 304 [(0, 1), (1, 5)] := ⟨⟨_, Tryz.underlying304, by kernel_rfl, by kernel_rfl⟩⟩
instance : Fld Tryz.prog 304 0 0 3 1 := ⟨⟨_, _, Tryz.underlying304, rfl, rfl, rfl, by kernel_rfl⟩⟩
instance : Fld Tryz.prog 304 1 1 42 5 := ⟨⟨_, _, Tryz.underlying304, rfl, rfl, rfl, by kernel_rfl⟩⟩
instance : Agg Tryz.prog 305 := ⟨fun w => run_isAgg Tryz.underlying305 w⟩
instance : Inf Tryz.prog 305 (.agg #[(.int .i64 0), (.int .i64 0), (.int .i64 0), (.int .i64 0), (.int .i64 0), (.slice none 0 0)]) 6 64 := ⟨by kernel_rfl, by kernel_rfl⟩
instance : Str Tryz.prog 305 [(0, 1), (1, 5)] := ⟨⟨_, Tryz.underlying305, by kernel_rfl, by kernel_rfl⟩⟩
instance : Fld Tryz.prog 305 0 0 3 1 := ⟨⟨_, _, Tryz.underlying305, rfl, rfl, rfl, by kernel_rfl⟩⟩
instance : Fld Tryz.prog 305 1 1 42 5 := ⟨⟨_, _, Tryz.underlying305, rfl, rfl, rfl, by kernel_rfl⟩⟩
instance : One Tryz.prog 307 := ⟨fun w => run_isAgg Tryz.underlying307 w⟩
instance : Inf Tryz.prog 307 .nilFunc 1 8 := ⟨by kernel_rfl, by kernel_rfl⟩
instance : One Tryz.prog 308 := ⟨fun w => run_isAgg Tryz.underlying308 w⟩
instance : Inf Tryz.prog 308 .nilFunc 1 8 := ⟨by kernel_rfl, by kernel_rfl⟩
instance : One Tryz.prog 310 := ⟨fun w => run_isAgg Tryz.underlying310 w⟩
instance : Inf Tryz.prog 310 .nilFunc 1 8 := ⟨by kernel_rfl, by kernel_rfl⟩
instance : One Tryz.prog 311 := ⟨fun w => run_isAgg Tryz.underlying311 w⟩
instance : Inf Tryz.prog 311 .nilFunc 1 8 := ⟨by kernel_rfl, by kernel_rfl⟩
instance : One Tryz.prog 312 := ⟨fun w => run_isAgg Tryz.underlying312 w⟩
instance : Inf Tryz.prog 312 .nilFunc 1 8 := ⟨by kernel_rfl, by kernel_rfl⟩
instance : One Tryz.prog 313 := ⟨fun w => run_isAgg Tryz.underlying313 w⟩
instance : Inf Tryz.prog 313 .nilFunc 1 8 := ⟨by kernel_rfl, by kernel_rfl⟩
instance : Und Tryz.prog 314 (.slice 374) := ⟨Tryz.underlying314⟩
instance : Inf Tryz.prog 314 (.slice none 0 0) 1 24 := ⟨by kernel_rfl, by kernel_rfl⟩
instance : One Tryz.prog 316 := ⟨fun w => run_isAgg Tryz.underlying316 w⟩
instance : Inf Tryz.prog 316 .nilFunc 1 8 := ⟨by kernel_rfl, by kernel_rfl⟩
instance : One Tryz.prog 317 := ⟨fun w => run_isAgg Tryz.underlying317 w⟩
instance : Inf Tryz.prog 317 .nilFunc 1 8 := ⟨by kernel_rfl, by kernel_rfl⟩
instance : One Tryz.prog 319 := ⟨fun w => run_isAgg Tryz.underlying319 w⟩
instance : Inf Tryz.prog 319 .nilFunc 1 8 := ⟨by kernel_rfl, by kernel_rfl⟩
instance : One Tryz.prog 320 := ⟨fun w => run_isAgg Tryz.underlying320 w⟩
instance : Inf Tryz.prog 320 .nilFunc 1 8 := ⟨by kernel_rfl, by kernel_rfl⟩
instance : One Tryz.prog 321 := ⟨fun w => run_isAgg Tryz.underlying321 w⟩
instance : Inf Tryz.prog 321 .nilFunc 1 8 := ⟨by kernel_rfl, by kernel_rfl⟩
instance : One Tryz.prog 322 := ⟨fun w => run_isAgg Tryz.underlying322 w⟩
instance : Inf Tryz.prog 322 .nilFunc 1 8 := ⟨by kernel_rfl, by kernel_rfl⟩
instance : One Tryz.prog 323 := ⟨fun w => run_isAgg Tryz.underlying323 w⟩
instance : Inf Tryz.prog 323 .nilFunc 1 8 := ⟨by kernel_rfl, by kernel_rfl⟩
instance : One Tryz.prog 324 := ⟨fun w => run_isAgg Tryz.underlying324 w⟩
instance : Inf Tryz.prog 324 .nilFunc 1 8 := ⟨by kernel_rfl, by kernel_rfl⟩
instance : One Tryz.prog 325 := ⟨fun w => run_isAgg Tryz.underlying325 w⟩
instance : Inf Tryz.prog 325 .nilFunc 1 8 := ⟨by kernel_rfl, by kernel_rfl⟩
instance : Und Tryz.prog 326 (.int .u64) := ⟨Tryz.underlying326⟩
instance : Inf Tryz.prog 326 (.int .u64 0) 1 8 := ⟨by kernel_rfl, by kernel_rfl⟩
instance : One Tryz.prog 327 := ⟨fun w => run_isAgg Tryz.underlying327 w⟩
instance : Inf Tryz.prog 327 .nilFunc 1 8 := ⟨by kernel_rfl, by kernel_rfl⟩
instance : Und Tryz.prog 328 (.pointer 330) := ⟨Tryz.underlying328⟩
instance : Inf Tryz.prog 328 (.pointer none) 1 8 := ⟨by kernel_rfl, by kernel_rfl⟩
instance : Agg Tryz.prog 329 := ⟨fun w => run_isAgg Tryz.underlying329 w⟩
instance : Inf Tryz.prog 329 (.agg #[(.slice none 0 0), (.bool false)]) 2 32 := ⟨by kernel_rfl, by kernel_rfl⟩
instance : Str Tryz.prog 329 [(0, 1), (1, 1)] := ⟨⟨_, Tryz.underlying329, by kernel_rfl, by kernel_rfl⟩⟩
instance : Fld Tryz.prog 329 0 0 40 1 := ⟨⟨_, _, Tryz.underlying329, rfl, rfl, rfl, by kernel_rfl⟩⟩
instance : Fld Tryz.prog 329 1 1 4 1 := ⟨⟨_, _, Tryz.underlying329, rfl, rfl, rfl, by kernel_rfl⟩⟩
instance : Agg Tryz.prog 330 := ⟨fun w => run_isAgg Tryz.underlying330 w⟩
instance : Inf Tryz.prog 330 (.agg #[(.slice none 0 0), (.bool false)]) 2 32 := ⟨by kernel_rfl, by kernel_rfl⟩
instance : Str Tryz.prog 330 [(0, 1), (1, 1)] := ⟨⟨_, Tryz.underlying330, by kernel_rfl, by kernel_rfl⟩⟩
instance : Fld Tryz.prog 330 0 0 40 1 := ⟨⟨_, _, Tryz.underlying330, rfl, rfl, rfl, by kernel_rfl⟩⟩
instance : Fld Tryz.prog 330 1 1 4 1 := ⟨⟨_, _, Tryz.underlying330, rfl, rfl, rfl, by kernel_rfl⟩⟩
instance : One Tryz.prog 331 := ⟨fun w => run_isAgg Tryz.underlying331 w⟩
instance : Inf Tryz.prog 331 .nilFunc 1 8 := ⟨by kernel_rfl, by kernel_rfl⟩
instance : One Tryz.prog 332 := ⟨fun w => run_isAgg Tryz.underlying332 w⟩
instance : Inf Tryz.prog 332 .nilFunc 1 8 := ⟨by kernel_rfl, by kernel_rfl⟩
instance : One Tryz.prog 334 := ⟨fun w => run_isAgg Tryz.underlying334 w⟩
instance : Inf Tryz.prog 334 .nilFunc 1 8 := ⟨by kernel_rfl, by kernel_rfl⟩
instance : One Tryz.prog 335 := ⟨fun w => run_isAgg Tryz.underlying335 w⟩
instance : Inf Tryz.prog 335 .nilFunc 1 8 := ⟨by kernel_rfl, by kernel_rfl⟩
instance : One Tryz.prog 336 := ⟨fun w => run_isAgg Tryz.underlying336 w⟩
instance : Inf Tryz.prog 336 .nilFunc 1 8 := ⟨by kernel_rfl, by kernel_rfl⟩
instance : One Tryz.prog 337 := ⟨fun w => run_isAgg Tryz.underlying337 w⟩
instance : Inf Tryz.prog 337 .nilFunc 1 8 := ⟨by kernel_rfl, by kernel_rfl⟩
instance : One Tryz.prog 338 := ⟨fun w => run_isAgg Tryz.underlying338 w⟩
instance : Inf Tryz.prog 338 .nilFunc 1 8 := ⟨by kernel_rfl, by kernel_rfl⟩
instance : One Tryz.prog 339 := ⟨fun w => run_isAgg Tryz.underlying339 w⟩
instance : Inf Tryz.prog 339 .nilFunc 1 8 := ⟨by kernel_rfl, by kernel_rfl⟩
instance : One Tryz.prog 340 := ⟨fun w => run_isAgg Tryz.underlying340 w⟩
instance : Inf Tryz.prog 340 .nilFunc 1 8 := ⟨by kernel_rfl, by kernel_rfl⟩
instance : One Tryz.prog 341 := ⟨fun w => run_isAgg Tryz.underlying341 w⟩
instance : Inf Tryz.prog 341 .nilFunc 1 8 := ⟨by kernel_rfl, by kernel_rfl⟩
instance : One Tryz.prog 342 := ⟨fun w => run_isAgg Tryz.underlying342 w⟩
instance : Inf Tryz.prog 342 .nilFunc 1 8 := ⟨by kernel_rfl, by kernel_rfl⟩
instance : One Tryz.prog 343 := ⟨fun w => run_isAgg Tryz.underlying343 w⟩
instance : Inf Tryz.prog 343 .nilFunc 1 8 := ⟨by kernel_rfl, by kernel_rfl⟩
instance : One Tryz.prog 345 := ⟨fun w => run_isAgg Tryz.underlying345 w⟩
instance : Inf Tryz.prog 345 .nilFunc 1 8 := ⟨by kernel_rfl, by kernel_rfl⟩
instance : One Tryz.prog 346 := ⟨fun w => run_isAgg Tryz.underlying346 w⟩
instance : Inf Tryz.prog 346 .nilFunc 1 8 := ⟨by kernel_rfl, by kernel_rfl⟩
instance : One Tryz.prog 347 := ⟨fun w => run_isAgg Tryz.underlying347 w⟩
instance : Inf Tryz.prog 347 .nilFunc 1 8 := ⟨by kernel_rfl, by kernel_rfl⟩
instance : Und Tryz.prog 348 (.pointer 270) := ⟨Tryz.underlying348⟩
instance : Inf Tryz.prog 348 (.pointer none) 1 8 := ⟨by kernel_rfl, by kernel_rfl⟩
instance : One Tryz.prog 349 := ⟨fun w => run_isAgg Tryz.underlying349 w⟩
instance : Inf Tryz.prog 349 .nilFunc 1 8 := ⟨by kernel_rfl, by kernel_rfl⟩
instance : One Tryz.prog 350 := ⟨fun w => run_isAgg Tryz.underlying350 w⟩
instance : Inf Tryz.prog 350 .nilFunc 1 8 := ⟨by kernel_rfl, by kernel_rfl⟩
instance : Und Tryz.prog 351 (.pointer 203) := ⟨Tryz.underlying351⟩
instance : Inf Tryz.prog 351 (.pointer none) 1 8 := ⟨by kernel_rfl, by kernel_rfl⟩
instance : One Tryz.prog 352 := ⟨fun w => run_isAgg Tryz.underlying352 w⟩
instance : Inf Tryz.prog 352 .nilFunc 1 8 := ⟨by kernel_rfl, by kernel_rfl⟩
instance : Und Tryz.prog 353 (.pointer 201) := ⟨Tryz.underlying353⟩
instance : Inf Tryz.prog 353 (.pointer none) 1 8 := ⟨by kernel_rfl, by kernel_rfl⟩
instance : One Tryz.prog 354 := ⟨fun w => run_isAgg Tryz.underlying354 w⟩
instance : Inf Tryz.prog 354 .nilFunc 1 8 := ⟨by kernel_rfl, by kernel_rfl⟩
instance : One Tryz.prog 356 := ⟨fun w => run_isAgg Tryz.underlying356 w⟩
instance : Inf Tryz.prog 356 .nilFunc 1 8 := ⟨by kernel_rfl, by kernel_rfl⟩
instance : One Tryz.prog 357 := ⟨fun w => run_isAgg Tryz.underlying357 w⟩
instance : Inf Tryz.prog 357 .nilFunc 1 8 := ⟨by kernel_rfl, by kernel_rfl⟩
instance : One Tryz.prog 358 := ⟨fun w => run_isAgg Tryz.underlying358 w⟩
instance : Inf Tryz.prog 358 .nilFunc 1 8 := ⟨by kernel_rfl, by kernel_rfl⟩
instance : One Tryz.prog 359 := ⟨fun w => run_isAgg Tryz.underlying359 w⟩
instance : Inf Tryz.prog 359 .nilFunc 1 8 := ⟨by kernel_rfl, by kernel_rfl⟩
instance : One Tryz.prog 360 := ⟨fun w => run_isAgg Tryz.underlying360 w⟩
instance : Inf Tryz.prog 360 .nilFunc 1 8 := ⟨by kernel_rfl, by kernel_rfl⟩
instance : One Tryz.prog 361 := ⟨fun w => run_isAgg Tryz.underlying361 w⟩
instance : Inf Tryz.prog 361 .nilFunc 1 8 := ⟨by kernel_rfl, by kernel_rfl⟩
instance : One Tryz.prog 362 := ⟨fun w => run_isAgg Tryz.underlying362 w⟩
instance : Inf Tryz.prog 362 .nilFunc 1 8 := ⟨by kernel_rfl, by kernel_rfl⟩
instance : One Tryz.prog 363 := ⟨fun w => run_isAgg Tryz.underlying363 w⟩
instance : Inf Tryz.prog 363 .nilFunc 1 8 := ⟨by kernel_rfl, by kernel_rfl⟩
instance : One Tryz.prog 364 := ⟨fun w => run_isAgg Tryz.underlying364 w⟩
instance : Inf Tryz.prog 364 .nilFunc 1 8 := ⟨by kernel_rfl, by kernel_rfl⟩
instance : One Tryz.prog 365 := ⟨fun w => run_isAgg Tryz.underlying365 w⟩
instance : Inf Tryz.prog 365 .nilFunc 1 8 := ⟨by kernel_rfl, by kernel_rfl⟩
instance : Und Tryz.prog 366 (.pointer 370) := ⟨Tryz.underlying366⟩
instance : Inf Tryz.prog 366 (.pointer none) 1 8 := ⟨by kernel_rfl, by kernel_rfl⟩
instance : Agg Tryz.prog 367 := ⟨fun w => run_isAgg Tryz.underlying367 w⟩
instance : Inf Tryz.prog 367 (.agg #[(.slice none 0 0), (.int .i64 0)]) 2 32 := ⟨by kernel_rfl, by kernel_rfl⟩
instance : Str Tryz.prog 367 [(0, 1), (1, 1)] := ⟨⟨_, Tryz.underlying367, by kernel_rfl, by kernel_rfl⟩⟩
instance : Fld Tryz.prog 367 0 0 40 1 := ⟨⟨_, _, Tryz.underlying367, rfl, rfl, rfl, by kernel_rfl⟩⟩
instance : Fld Tryz.prog 367 1 1 3 1 := ⟨⟨_, _, Tryz.underlying367, rfl, rfl, rfl, by kernel_rfl⟩⟩
instance : Agg Tryz.prog 368 := ⟨fun w => run_isAgg Tryz.underlying368 w⟩
instance : Inf Tryz.prog 368 (.agg #[(.slice none 0 0), (.int .i64 0)]) 2 32 := ⟨by kernel_rfl, by kernel_rfl⟩
instance : Str Tryz.prog 368 [(0, 1), (1, 1)] := ⟨⟨_, Tryz.underlying368, by kernel_rfl, by kernel_rfl⟩⟩
instance : Fld Tryz.prog 368 0 0 40 1 := ⟨⟨_, _, Tryz.underlying368, rfl, rfl, rfl, by kernel_rfl⟩⟩
instance : Fld Tryz.prog 368 1 1 3 1 := ⟨⟨_, _, Tryz.underlying368, rfl, rfl, rfl, by kernel_rfl⟩⟩
instance : Agg Tryz.prog 369 := ⟨fun w => run_isAgg Tryz.underlying369 w⟩
instance : Inf Tryz.prog 369 (.agg #[(.slice none 0 0), (.int .i64 0), (.int .i64 0)]) 3 40 := ⟨by kernel_rfl, by kernel_rfl⟩
instance : Str Tryz.prog 369 [(0, 2), (2, 1)] := ⟨⟨_, Tryz.underlying369, by kernel_rfl, by kernel_rfl⟩⟩
instance : Fld Tryz.prog 369 0 0 368 2 := ⟨⟨_, _, Tryz.underlying369, rfl, rfl, rfl, by kernel_rfl⟩⟩
instance : Fld Tryz.prog 369 1 2 36 1 := ⟨⟨_, _, Tryz.underlying369, rfl, rfl, rfl, by kernel_rfl⟩⟩
instance : Agg Tryz.prog 370 := ⟨fun w => run_isAgg Tryz.underlying370 w⟩
instance : Inf Tryz.prog 370 (.agg #[(.slice none 0 0), (.int .i64 0), (.int .i64 0)]) 3 40 := ⟨by kernel_rfl, by kernel_rfl⟩
instance : Str Tryz.prog 370 [(0, 2), (2, 1)] := ⟨⟨_, Tryz.underlying370, by kernel_rfl, by kernel_rfl⟩⟩
instance : Fld Tryz.prog 370 0 0 368 2 := ⟨⟨_, _, Tryz.underlying370, rfl, rfl, rfl, by kernel_rfl⟩⟩
instance : Fld Tryz.prog 370 1 2 36 1 := ⟨⟨_, _, Tryz.underlying370, rfl, rfl, rfl, by kernel_rfl⟩⟩
instance : One Tryz.prog 372 := ⟨fun w => run_isAgg Tryz.underlying372 w⟩
instance : Inf Tryz.prog 372 .nilFunc 1 8 := ⟨by kernel_rfl, by kernel_rfl⟩
instance : Agg Tryz.prog 373 := ⟨fun w => run_isAgg Tryz.underlying373 w⟩
instance : Inf Tryz.prog 373 (.agg #[(.string ⟨#[]⟩), (.int .i64 0)]) 2 24 := ⟨by kernel_rfl, by kernel_rfl⟩
instance : Str Tryz.prog 373 [(0, 1), (1, 1)] := ⟨⟨_, Tryz.underlying373, by kernel_rfl, by kernel_rfl⟩⟩
instance : Fld Tryz.prog 373 0 0 9 1 := ⟨⟨_, _, Tryz.underlying373, rfl, rfl, rfl, by kernel_rfl⟩⟩
instance : Fld Tryz.prog 373 1 1 3 1 := ⟨⟨_, _, Tryz.underlying373, rfl, rfl, rfl, by kernel_rfl⟩⟩
instance : Agg Tryz.prog 374 := ⟨fun w => run_isAgg Tryz.underlying374 w⟩
instance : Inf Tryz.prog 374 (.agg #[(.string ⟨#[]⟩), (.int .i64 0)]) 2 24 := ⟨by kernel_rfl, by kernel_rfl⟩
instance : Str Tryz.prog 374 [(0, 1), (1, 1)] := ⟨⟨_, Tryz.underlying374, by kernel_rfl, by kernel_rfl⟩⟩
instance : Fld Tryz.prog 374 0 0 9 1 := ⟨⟨_, _, Tryz.underlying374, rfl, rfl, rfl, by kernel_rfl⟩⟩
instance : Fld Tryz.prog 374 1 1 3 1 := ⟨⟨_, _, Tryz.underlying374, rfl, rfl, rfl, by kernel_rfl⟩⟩
instance : One Tryz.prog 375 := ⟨fun w => run_isAgg Tryz.underlying375 w⟩
instance : Inf Tryz.prog 375 .nilFunc 1 8 := ⟨by kernel_rfl, by kernel_rfl⟩
instance : One Tryz.prog 376 := ⟨fun w => run_isAgg Tryz.underlying376 w⟩
instance : Inf Tryz.prog 376 .nilFunc 1 8 := ⟨by kernel_rfl, by kernel_rfl⟩
instance : One Tryz.prog 377 := ⟨fun w => run_isAgg Tryz.underlying377 w⟩
instance : Inf Tryz.prog 377 .nilFunc 1 8 := ⟨by kernel_rfl, by kernel_rfl⟩
instance : One Tryz.prog 378 := ⟨fun w => run_isAgg Tryz.underlying378 w⟩
instance : Inf Tryz.prog 378 .nilFunc 1 8 := ⟨by kernel_rfl, by kernel_rfl⟩
instance : Und Tryz.prog 379 (.pointer 386) := ⟨Tryz.underlying379⟩
instance : Inf Tryz.prog 379 (.pointer none) 1 8 := ⟨by kernel_rfl, by kernel_rfl⟩
instance : Und Tryz.prog 380 (.map 3 42) := ⟨Tryz.underlying380⟩
instance : Inf Tryz.prog 380 (.map none) 1 8 := ⟨by kernel_rfl, by kernel_rfl⟩
instance : Agg Tryz.prog 381 := ⟨fun w => run_isAgg Tryz.underlying381 w⟩
instance : Inf Tryz.prog 381 (.agg #[(.pointer none), (.int .i64 0), (.bool false), (.map none), (.map none)]) 5 40 := ⟨by kernel_rfl, by kernel_rfl⟩
instance : Str Tryz.prog 381 [(0, 1), (1, 1), (2, 1), (3, 1), (4, 1)] := ⟨⟨_, Tryz.underlying381, by kernel_rfl, by kernel_rfl⟩⟩
instance : Fld Tryz.prog 381 0 0 379 1 := ⟨⟨_, _, Tryz.underlying381, rfl, rfl, rfl, by kernel_rfl⟩⟩
instance : Fld Tryz.prog 381 1 1 2 1 := ⟨⟨_, _, Tryz.underlying381, rfl, rfl, rfl, by kernel_rfl⟩⟩
instance : Fld Tryz.prog 381 2 2 4 1 := ⟨⟨_, _, Tryz.underlying381, rfl, rfl, rfl, by kernel_rfl⟩⟩
instance : Fld Tryz.prog 381 3 3 380 1 := ⟨⟨_, _, Tryz.underlying381, rfl, rfl, rfl, by kernel_rfl⟩⟩
instance : Fld Tryz.prog 381 4 4 219 1 := ⟨⟨_, _, Tryz.underlying381, rfl, rfl, rfl, by kernel_rfl⟩⟩
instance : Agg Tryz.prog 382 := ⟨fun w => run_isAgg Tryz.underlying382 w⟩
instance : Inf Tryz.prog 382 (.agg #[(.pointer none), (.int .i64 0), (.bool false), (.map none), (.map none)]) 5 40 := ⟨by kernel_rfl, by kernel_rfl⟩
instance : Str Tryz.prog 382 [(0, 1), (1, 1), (2, 1), (3, 1), (4, 1)] := ⟨⟨_, Tryz.underlying382, by kernel_rfl, by kernel_rfl⟩⟩
instance : Fld Tryz.prog 382 0 0 379 1 := ⟨⟨_, _, Tryz.underlying382, rfl, rfl, rfl, by kernel_rfl⟩⟩
instance : Fld Tryz.prog 382 1 1 2 1 := ⟨⟨_, _, Tryz.underlying382, rfl, rfl, rfl, by kernel_rfl⟩⟩
instance : Fld Tryz.prog 382 2 2 4 1 := ⟨⟨_, _, Tryz.underlying382, rfl, rfl, rfl, by kernel_rfl⟩⟩
instance : Fld Tryz.prog 382 3 3 380 1 := ⟨⟨_, _, Tryz.underlying382, rfl, rfl, rfl, by kernel_rfl⟩⟩
instance : Fld Tryz.prog 382 4 4 219 1 := ⟨⟨_, _, Tryz.underlying382, rfl, rfl, rfl, by kernel_rfl⟩⟩
instance : One Tryz.prog 383 := ⟨fun w => run_isAgg Tryz.underlying383 w⟩
instance : Inf Tryz.prog 383 .nilFunc 1 8 := ⟨by kernel_rfl, by kernel_rfl⟩
instance : One Tryz.prog 384 := ⟨fun w => run_isAgg Tryz.underlying384 w⟩
instance : Inf Tryz.prog 384 .nilFunc 1 8 := ⟨by kernel_rfl, by kernel_rfl⟩
instance : Agg Tryz.prog 385 := ⟨fun w => run_isAgg Tryz.underlying385 w⟩
instance : Inf Tryz.prog 385 (.agg #[(.pointer none), (.int .i64 0)]) 2 16 := ⟨by kernel_rfl, by kernel_rfl⟩
instance : Str Tryz.prog 385 [(0, 1), (1, 1)] := ⟨⟨_, Tryz.underlying385, by kernel_rfl, by kernel_rfl⟩⟩
instance : Fld Tryz.prog 385 0 0 25 1 := ⟨⟨_, _, Tryz.underlying385, rfl, rfl, rfl, by kernel_rfl⟩⟩
instance : Fld Tryz.prog 385 1 1 197 1 := ⟨⟨_, _, Tryz.underlying385, rfl, rfl, rfl, by kernel_rfl⟩⟩
instance : Agg Tryz.prog 386 := ⟨fun w => run_isAgg Tryz.underlying386 w⟩
instance : Inf Tryz.prog 386 (.agg #[(.pointer none), (.int .i64 0)]) 2 16 := ⟨by kernel_rfl, by kernel_rfl⟩
instance : Str Tryz.prog 386 [(0, 1), (1, 1)] := ⟨⟨_, Tryz.underlying386, by kernel_rfl, by kernel_rfl⟩⟩
instance : Fld Tryz.prog 386 0 0 25 1 := ⟨⟨_, _, Tryz.underlying386, rfl, rfl, rfl, by kernel_rfl⟩⟩
instance : Fld Tryz.prog 386 1 1 197 1 := ⟨⟨_, _, Tryz.underlying386, rfl, rfl, rfl, by kernel_rfl⟩⟩
instance : One Tryz.prog 387 := ⟨fun w => run_isAgg Tryz.underlying387 w⟩
instance : Inf Tryz.prog 387 .nilFunc 1 8 := ⟨by kernel_rfl, by kernel_rfl⟩
instance : One Tryz.prog 388 := ⟨fun w => run_isAgg Tryz.underlying388 w⟩
instance : Inf Tryz.prog 388 .nilFunc 1 8 := ⟨by kernel_rfl, by kernel_rfl⟩
instance : One Tryz.prog 389 := ⟨fun w => run_isAgg Tryz.underlying389 w⟩
instance : Inf Tryz.prog 389 .nilFunc 1 8 := ⟨by kernel_rfl, by kernel_rfl⟩
instance : One Tryz.prog 390 := ⟨fun w => run_isAgg Tryz.underlying390 w⟩
instance : Inf Tryz.prog 390 .nilFunc 1 8 := ⟨by kernel_rfl, by kernel_rfl⟩
instance : One Tryz.prog 391 := ⟨fun w => run_isAgg Tryz.underlying391 w⟩
instance : Inf Tryz.prog 391 .nilFunc 1 8 := ⟨by kernel_rfl, by kernel_rfl⟩
instance : Und Tryz.prog 392 (.array 256 5) := ⟨Tryz.underlying392⟩
instance : One Tryz.prog 393 := ⟨fun w => run_isAgg Tryz.underlying393 w⟩
instance : Inf Tryz.prog 393 .nilFunc 1 8 := ⟨by kernel_rfl, by kernel_rfl⟩
instance : One Tryz.prog 394 := ⟨fun w => run_isAgg Tryz.underlying394 w⟩
instance : Inf Tryz.prog 394 .nilFunc 1 8 := ⟨by kernel_rfl, by kernel_rfl⟩
instance : One Tryz.prog 396 := ⟨fun w => run_isAgg Tryz.underlying396 w⟩
instance : Inf Tryz.prog 396 .nilFunc 1 8 := ⟨by kernel_rfl, by kernel_rfl⟩
instance : Und Tryz.prog 397 (.pointer 399) := ⟨Tryz.underlying397⟩
instance : Inf Tryz.prog 397 (.pointer none) 1 8 := ⟨by kernel_rfl, by kernel_rfl⟩
instance : Agg Tryz.prog 398 := ⟨fun w => run_isAgg Tryz.underlying398 w⟩
instance : Inf Tryz.prog 398 (.agg #[(.pointer none), (.slice none 0 0)]) 2 32 := ⟨by kernel_rfl, by kernel_rfl⟩
instance : Str Tryz.prog 398 [(0, 1), (1, 1)] := ⟨⟨_, Tryz.underlying398, by kernel_rfl, by kernel_rfl⟩⟩
instance : Fld Tryz.prog 398 0 0 397 1 := ⟨⟨_, _, Tryz.underlying398, rfl, rfl, rfl, by kernel_rfl⟩⟩
instance : Fld Tryz.prog 398 1 1 40 1 := ⟨⟨_, _, Tryz.underlying398, rfl, rfl, rfl, by kernel_rfl⟩⟩
instance : Agg Tryz.prog 399 := ⟨fun w => run_isAgg Tryz.underlying399 w⟩
instance : Inf Tryz.prog 399 (.agg #[(.pointer none), (.slice none 0 0)]) 2 32 := ⟨by kernel_rfl, by kernel_rfl⟩
instance : Str Tryz.prog 399 [(0, 1), (1, 1)] := ⟨⟨_, Tryz.underlying399, by kernel_rfl, by kernel_rfl⟩⟩
instance : Fld Tryz.prog 399 0 0 397 1 := ⟨⟨_, _, Tryz.underlying399, rfl, rfl, rfl, by kernel_rfl⟩⟩
instance : Fld Tryz.prog 399 1 1 40 1 := ⟨⟨_, _, Tryz.underlying399, rfl, rfl, rfl, by kernel_rfl⟩⟩
instance : One Tryz.prog 400 := ⟨fun w => run_isAgg Tryz.underlying400 w⟩
instance : Inf Tryz.prog 400 .nilIface 1 16 := ⟨by kernel_rfl, by kernel_rfl⟩
instance : One Tryz.prog 401 := ⟨fun w => run_isAgg Tryz.underlying401 w⟩
instance : Inf Tryz.prog 401 .nilIface 1 16 := ⟨by kernel_rfl, by kernel_rfl⟩
instance : One Tryz.prog 403 := ⟨fun w => run_isAgg Tryz.underlying403 w⟩
instance : Inf Tryz.prog 403 .nilFunc 1 8 := ⟨by kernel_rfl, by kernel_rfl⟩
instance : One Tryz.prog 404 := ⟨fun w => run_isAgg Tryz.underlying404 w⟩
instance : Inf Tryz.prog 404 .nilFunc 1 8 := ⟨by kernel_rfl, by kernel_rfl⟩
instance : One Tryz.prog 405 := ⟨fun w => run_isAgg Tryz.underlying405 w⟩
instance : Inf Tryz.prog 405 .nilFunc 1 8 := ⟨by kernel_rfl, by kernel_rfl⟩
instance : Und Tryz.prog 406 (.pointer 280) := ⟨Tryz.underlying406⟩
instance : Inf Tryz.prog 406 (.pointer none) 1 8 := ⟨by kernel_rfl, by kernel_rfl⟩
instance : Und Tryz.prog 407 (.pointer 207) := ⟨Tryz.underlying407⟩
instance : Inf Tryz.prog 407 (.pointer none) 1 8 := ⟨by kernel_rfl, by kernel_rfl⟩
instance : One Tryz.prog 408 := ⟨fun w => run_isAgg Tryz.underlying408 w⟩
instance : Inf Tryz.prog 408 .nilFunc 1 8 := ⟨by kernel_rfl, by kernel_rfl⟩
instance : One Tryz.prog 409 := ⟨fun w => run_isAgg Tryz.underlying409 w⟩
instance : Inf Tryz.prog 409 .nilFunc 1 8 := ⟨by kernel_rfl, by kernel_rfl⟩
instance : Und Tryz.prog 410 (.pointer 191) := ⟨Tryz.underlying410⟩
instance : Inf Tryz.prog 410 (.pointer none) 1 8 := ⟨by kernel_rfl, by kernel_rfl⟩
instance : Und Tryz.prog 411 (.pointer 197) := ⟨Tryz.underlying411⟩
instance : Inf Tryz.prog 411 (.pointer none) 1 8 := ⟨by kernel_rfl, by kernel_rfl⟩
instance : One Tryz.prog 412 := ⟨fun w => run_isAgg Tryz.underlying412 w⟩
instance : Inf Tryz.prog 412 .nilFunc 1 8 := ⟨by kernel_rfl, by kernel_rfl⟩
instance : Und Tryz.prog 413 (.pointer 2) := ⟨Tryz.underlying413⟩
instance : Inf Tryz.prog 413 (.pointer none) 1 8 := ⟨by kernel_rfl, by kernel_rfl⟩
instance : One Tryz.prog 414 := ⟨fun w => run_isAgg Tryz.underlying414 w⟩
instance : Inf Tryz.prog 414 .nilFunc 1 8 := ⟨by kernel_rfl, by kernel_rfl⟩
instance : Und Tryz.prog 415 (.int .i64) := ⟨Tryz.underlying415⟩
instance : Inf Tryz.prog 415 (.int .i64 0) 1 8 := ⟨by kernel_rfl, by kernel_rfl⟩
instance : One Tryz.prog 417 := ⟨fun w => run_isAgg Tryz.underlying417 w⟩
instance : Inf Tryz.prog 417 .nilFunc 1 8 := ⟨by kernel_rfl, by kernel_rfl⟩
instance : One Tryz.prog 418 := ⟨fun w => run_isAgg Tryz.underlying418 w⟩
instance : Inf Tryz.prog 418 .nilFunc 1 8 := ⟨by kernel_rfl, by kernel_rfl⟩
instance : One Tryz.prog 419 := ⟨fun w => run_isAgg Tryz.underlying419 w⟩
instance : Inf Tryz.prog 419 .nilFunc 1 8 := ⟨by kernel_rfl, by kernel_rfl⟩
instance : One Tryz.prog 420 := ⟨fun w => run_isAgg Tryz.underlying420 w⟩
instance : Inf Tryz.prog 420 .nilFunc 1 8 := ⟨by kernel_rfl, by kernel_rfl⟩
instance : One Tryz.prog 421 := ⟨fun w => run_isAgg Tryz.underlying421 w⟩
instance : Inf Tryz.prog 421 .nilFunc 1 8 := ⟨by kernel_rfl, by kernel_rfl⟩
instance : One Tryz.prog 422 := ⟨fun w => run_isAgg Tryz.underlying422 w⟩
instance : Inf Tryz.prog 422 .nilFunc 1 8 := ⟨by kernel_rfl, by kernel_rfl⟩
instance : One Tryz.prog 423 := ⟨fun w => run_isAgg Tryz.underlying423 w⟩
instance : Inf Tryz.prog 423 .nilFunc 1 8 := ⟨by kernel_rfl, by kernel_rfl⟩
instance : One Tryz.prog 424 := ⟨fun w => run_isAgg Tryz.underlying424 w⟩
instance : Inf Tryz.prog 424 .nilFunc 1 8 := ⟨by kernel_rfl, by kernel_rfl⟩
instance : One Tryz.prog 425 := ⟨fun w => run_isAgg Tryz.underlying425 w⟩
instance : Inf Tryz.prog 425 .nilFunc 1 8 := ⟨by kernel_rfl, by kernel_rfl⟩
instance : One Tryz.prog 426 := ⟨fun w => run_isAgg Tryz.underlying426 w⟩
instance : Inf Tryz.prog 426 .nilFunc 1 8 := ⟨by kernel_rfl, by kernel_rfl⟩
instance : One Tryz.prog 427 := ⟨fun w => run_isAgg Tryz.underlying427 w⟩
instance : Inf Tryz.prog 427 .nilFunc 1 8 := ⟨by kernel_rfl, by kernel_rfl⟩
instance : Und Tryz.prog 428 (.slice 430) := ⟨Tryz.underlying428⟩
instance : Inf Tryz.prog 428 (.slice none 0 0) 1 24 := ⟨by kernel_rfl, by kernel_rfl⟩
instance : Agg Tryz.prog 429 := ⟨fun w => run_isAgg Tryz.underlying429 w⟩
instance : Inf Tryz.prog 429 (.agg #[(.int .i64 0), (.int .i64 0)]) 2 16 := ⟨by kernel_rfl, by kernel_rfl⟩
instance : Str Tryz.prog 429 [(0, 1), (1, 1)] := ⟨⟨_, Tryz.underlying429, by kernel_rfl, by kernel_rfl⟩⟩
instance : Fld Tryz.prog 429 0 0 3 1 := ⟨⟨_, _, Tryz.underlying429, rfl, rfl, rfl, by kernel_rfl⟩⟩
instance : Fld Tryz.prog 429 1 1 3 1 := ⟨⟨_, _, Tryz.underlying429, rfl, rfl, rfl, by kernel_rfl⟩⟩
instance : Agg Tryz.prog 430 := ⟨fun w => run_isAgg Tryz.underlying430 w⟩
instance : Inf Tryz.prog 430 (.agg #[(.int .i64 0), (.int .i64 0)]) 2 16 := ⟨by kernel_rfl, by kernel_rfl⟩
instance : Str Tryz.prog 430 [(0, 1), (1, 1)] := ⟨⟨_, Tryz.underlying430, by kernel_rfl, by kernel_rfl⟩⟩
instance : Fld Tryz.prog 430 0 0 3 1 := ⟨⟨_, _, Tryz.underlying430, rfl, rfl, rfl, by kernel_rfl⟩⟩
instance : Fld Tryz.prog 430 1 1 3 1 := ⟨⟨_, _, Tryz.underlying430, rfl, rfl, rfl, by kernel_rfl⟩⟩
instance : One Tryz.prog 431 := ⟨fun w => run_isAgg Tryz.underlying431 w⟩
instance : Inf Tryz.prog 431 .nilFunc 1 8 := ⟨by kernel_rfl, by kernel_rfl⟩
instance : Und Tryz.prog 432 (.pointer 461) := ⟨Tryz.underlying432⟩
instance : Inf Tryz.prog 432 (.pointer none) 1 8 := ⟨by kernel_rfl, by kernel_rfl⟩
instance : One Tryz.prog 433 := ⟨fun w => run_isAgg Tryz.underlying433 w⟩
instance : Inf Tryz.prog 433 .nilFunc 1 8 := ⟨by kernel_rfl, by kernel_rfl⟩
instance : One Tryz.prog 435 := ⟨fun w => run_isAgg Tryz.underlying435 w⟩
instance : Inf Tryz.prog 435 .nilFunc 1 8 := ⟨by kernel_rfl, by kernel_rfl⟩
instance : One Tryz.prog 437 := ⟨fun w => run_isAgg Tryz.underlying437 w⟩
instance : Inf Tryz.prog 437 .nilFunc 1 8 := ⟨by kernel_rfl, by kernel_rfl⟩
instance : Und Tryz.prog 438 (.pointer 5) := ⟨Tryz.underlying438⟩
instance : Inf Tryz.prog 438 (.pointer none) 1 8 := ⟨by kernel_rfl, by kernel_rfl⟩
instance : Und Tryz.prog 439 (.array 64 201) := ⟨Tryz.underlying439⟩
instance : Inf Tryz.prog 439 (.agg (List.replicate 64 (.int .u32 0)).toArray) 64 256 := ⟨by kernel_rfl, by kernel_rfl⟩
instance : One Tryz.prog 440 := ⟨fun w => run_isAgg Tryz.underlying440 w⟩
instance : Inf Tryz.prog 440 .nilFunc 1 8 := ⟨by kernel_rfl, by kernel_rfl⟩
instance : One Tryz.prog 441 := ⟨fun w => run_isAgg Tryz.underlying441 w⟩
instance : Inf Tryz.prog 441 .nilFunc 1 8 := ⟨by kernel_rfl, by kernel_rfl⟩
instance : One Tryz.prog 442 := ⟨fun w => run_isAgg Tryz.underlying442 w⟩
instance : Inf Tryz.prog 442 .nilFunc 1 8 := ⟨by kernel_rfl, by kernel_rfl⟩
instance : Und Tryz.prog 443 (.pointer 205) := ⟨Tryz.underlying443⟩
instance : Inf Tryz.prog 443 (.pointer none) 1 8 := ⟨by kernel_rfl, by kernel_rfl⟩
instance : One Tryz.prog 444 := ⟨fun w => run_isAgg Tryz.underlying444 w⟩
instance : Inf Tryz.prog 444 .nilFunc 1 8 := ⟨by kernel_rfl, by kernel_rfl⟩
instance : Und Tryz.prog 445 (.pointer 21) := ⟨Tryz.underlying445⟩
instance : Inf Tryz.prog 445 (.pointer none) 1 8 := ⟨by kernel_rfl, by kernel_rfl⟩
instance : One Tryz.prog 446 := ⟨fun w => run_isAgg Tryz.underlying446 w⟩
instance : Inf Tryz.prog 446 .nilFunc 1 8 := ⟨by kernel_rfl, by kernel_rfl⟩
instance : One Tryz.prog 447 := ⟨fun w => run_isAgg Tryz.underlying447 w⟩
instance : Inf Tryz.prog 447 (.pointer none) 1 8 := ⟨by kernel_rfl, by kernel_rfl⟩
instance : One Tryz.prog 448 := ⟨fun w => run_isAgg Tryz.underlying448 w⟩
instance : Inf Tryz.prog 448 .nilFunc 1 8 := ⟨by kernel_rfl, by kernel_rfl⟩
instance : One Tryz.prog 449 := ⟨fun w => run_isAgg Tryz.underlying449 w⟩
instance : Inf Tryz.prog 449 .nilFunc 1 8 := ⟨by kernel_rfl, by kernel_rfl⟩
instance : Und Tryz.prog 450 (.int .u64) := ⟨Tryz.underlying450⟩
instance : Inf Tryz.prog 450 (.int .u64 0) 1 8 := ⟨by kernel_rfl, by kernel_rfl⟩
instance : One Tryz.prog 451 := ⟨fun w => run_isAgg Tryz.underlying451 w⟩
instance : Inf Tryz.prog 451 .nilFunc 1 8 := ⟨by kernel_rfl, by kernel_rfl⟩
instance : One Tryz.prog 452 := ⟨fun w => run_isAgg Tryz.underlying452 w⟩
instance : Inf Tryz.prog 452 .nilFunc 1 8 := ⟨by kernel_rfl, by kernel_rfl⟩
instance : One Tryz.prog 453 := ⟨fun w => run_isAgg Tryz.underlying453 w⟩
instance : Inf Tryz.prog 453 .nilFunc 1 8 := ⟨by kernel_rfl, by kernel_rfl⟩
instance : Und Tryz.prog 454 (.pointer 3) := ⟨Tryz.underlying454⟩
instance : Inf Tryz.prog 454 (.pointer none) 1 8 := ⟨by kernel_rfl, by kernel_rfl⟩
instance : One Tryz.prog 455 := ⟨fun w => run_isAgg Tryz.underlying455 w⟩
instance : Inf Tryz.prog 455 .nilFunc 1 8 := ⟨by kernel_rfl, by kernel_rfl⟩
instance : Und Tryz.prog 456 (.pointer 368) := ⟨Tryz.underlying456⟩
instance : Inf Tryz.prog 456 (.pointer none) 1 8 := ⟨by kernel_rfl, by kernel_rfl⟩
instance : One Tryz.prog 457 := ⟨fun w => run_isAgg Tryz.underlying457 w⟩
instance : Inf Tryz.prog 457 .nilFunc 1 8 := ⟨by kernel_rfl, by kernel_rfl⟩
instance : Und Tryz.prog 458 (.slice 464) := ⟨Tryz.underlying458⟩
instance : Inf Tryz.prog 458 (.slice none 0 0) 1 24 := ⟨by kernel_rfl, by kernel_rfl⟩
instance : Und Tryz.prog 459 (.slice 467) := ⟨Tryz.underlying459⟩
instance : Inf Tryz.prog 459 (.slice none 0 0) 1 24 := ⟨by kernel_rfl, by kernel_rfl⟩
instance : Agg Tryz.prog 460 := ⟨fun w => run_isAgg Tryz.underlying460 w⟩
instance : Inf Tryz.prog 460 (.agg #[(.slice none 0 0), (.slice none 0 0), (.int .i64 0)]) 3 56 := ⟨by kernel_rfl, by kernel_rfl⟩
instance : Str Tryz.prog 460 [(0, 1), (1, 1), (2, 1)] := ⟨⟨_, Tryz.underlying460, by kernel_rfl, by kernel_rfl⟩⟩
instance : Fld Tryz.prog 460 0 0 458 1 := ⟨⟨_, _, Tryz.underlying460, rfl, rfl, rfl, by kernel_rfl⟩⟩
instance : Fld Tryz.prog 460 1 1 459 1 := ⟨⟨_, _, Tryz.underlying460, rfl, rfl, rfl, by kernel_rfl⟩⟩
instance : Fld Tryz.prog 460 2 2 3 1 := ⟨⟨_, _, Tryz.underlying460, rfl, rfl, rfl, by kernel_rfl⟩⟩
instance : Agg Tryz.prog 461 := ⟨fun w => run_isAgg Tryz.underlying461 w⟩
instance : Inf Tryz.prog 461 (.agg #[(.slice none 0 0), (.slice none 0 0), (.int .i64 0)]) 3 56 := ⟨by kernel_rfl, by kernel_rfl⟩
instance : Str Tryz.prog 461 [(0, 1), (1, 1), (2, 1)] := ⟨⟨_, Tryz.underlying461, by kernel_rfl, by kernel_rfl⟩⟩
instance : Fld Tryz.prog 461 0 0 458 1 := ⟨⟨_, _, Tryz.underlying461, rfl, rfl, rfl, by kernel_rfl⟩⟩
instance : Fld Tryz.prog 461 1 1 459 1 := ⟨⟨_, _, Tryz.underlying461, rfl, rfl, rfl, by kernel_rfl⟩⟩
instance : Fld Tryz.prog 461 2 2 3 1 := ⟨⟨_, _, Tryz.underlying461, rfl, rfl, rfl, by kernel_rfl⟩⟩
instance : Und Tryz.prog 462 (.int .u16) := ⟨Tryz.underlying462⟩
instance : Inf Tryz.prog 462 (.int .u16 0) 1 2 := ⟨by kernel_rfl, by kernel_rfl⟩
instance : Agg Tryz.prog 463 := ⟨fun w => run_isAgg Tryz.underlying463 w⟩
instance : Inf Tryz.prog 463 (.agg #[(.int .u16 0), (.int .u16 0), (.int .u16 0)]) 3 6 := ⟨by kernel_rfl, by kernel_rfl⟩
instance : Str Tryz.prog 463 [(0, 1), (1, 1), (2, 1)] := ⟨⟨_, Tryz.underlying463, by kernel_rfl, by kernel_rfl⟩⟩
instance : Fld Tryz.prog 463 0 0 462 1 := ⟨⟨_, _, Tryz.underlying463, rfl, rfl, rfl, by kernel_rfl⟩⟩
instance : Fld Tryz.prog 463 1 1 462 1 := ⟨⟨_, _, Tryz.underlying463, rfl, rfl, rfl, by kernel_rfl⟩⟩
instance : Fld Tryz.prog 463 2 2 462 1 := ⟨⟨_, _, Tryz.underlying463, rfl, rfl, rfl, by kernel_rfl⟩⟩
instance : Agg Tryz.prog 464 := ⟨fun w => run_isAgg Tryz.underlying464 w⟩
instance : Inf Tryz.prog 464 (.agg #[(.int .u16 0), (.int .u16 0), (.int .u16 0)]) 3 6 := ⟨by kernel_rfl, by kernel_rfl⟩
instance : Str Tryz.prog 464 [(0, 1), (1, 1), (2, 1)] := ⟨⟨_, Tryz.underlying464, by kernel_rfl, by kernel_rfl⟩⟩
instance : Fld Tryz.prog 464 0 0 462 1 := ⟨⟨_, _, Tryz.underlying464, rfl, rfl, rfl, by kernel_rfl⟩⟩
instance : Fld Tryz.prog 464 1 1 462 1 := ⟨⟨_, _, Tryz.underlying464, rfl, rfl, rfl, by kernel_rfl⟩⟩
instance : Fld Tryz.prog 464 2 2 462 1 := ⟨⟨_, _, Tryz.underlying464, rfl, rfl, rfl, by kernel_rfl⟩⟩
instance : One Tryz.prog 465 := ⟨fun w => run_isAgg Tryz.underlying465 w⟩
instance : Inf Tryz.prog 465 .nilFunc 1 8 := ⟨by kernel_rfl, by kernel_rfl⟩
instance : Agg Tryz.prog 466 := ⟨fun w => run_isAgg Tryz.underlying466 w⟩
instance : Inf Tryz.prog 466 (.agg #[(.int .u32 0), (.int .u32 0), (.int .u32 0)]) 3 12 := ⟨by kernel_rfl, by kernel_rfl⟩
instance : Str Tryz.prog 466 [(0, 1), (1, 1), (2, 1)] := ⟨⟨_, Tryz.underlying466, by kernel_rfl, by kernel_rfl⟩⟩
instance : Fld Tryz.prog 466 0 0 201 1 := ⟨⟨_, _, Tryz.underlying466, rfl, rfl, rfl, by kernel_rfl⟩⟩
instance : Fld Tryz.prog 466 1 1 201 1 := ⟨⟨_, _, Tryz.underlying466, rfl, rfl, rfl, by kernel_rfl⟩⟩
instance : Fld Tryz.prog 466 2 2 201 1 := ⟨⟨_, _, Tryz.underlying466, rfl, rfl, rfl, by kernel_rfl⟩⟩
instance : Agg Tryz.prog 467 := ⟨fun w => run_isAgg Tryz.underlying467 w⟩
instance : Inf Tryz.prog 467 (.agg #[(.int .u32 0), (.int .u32 0), (.int .u32 0)]) 3 12 := ⟨by kernel_rfl, by kernel_rfl⟩
instance : Str Tryz.prog 467 [(0, 1), (1, 1), (2, 1)] := ⟨⟨_, Tryz.underlying467, by kernel_rfl, by kernel_rfl⟩⟩
instance : Fld Tryz.prog 467 0 0 201 1 := ⟨⟨_, _, Tryz.underlying467, rfl, rfl, rfl, by kernel_rfl⟩⟩
instance : Fld Tryz.prog 467 1 1 201 1 := ⟨⟨_, _, Tryz.underlying467, rfl, rfl, rfl, by kernel_rfl⟩⟩
instance : Fld Tryz.prog 467 2 2 201 1 := ⟨⟨_, _, Tryz.underlying467, rfl, rfl, rfl, by kernel_rfl⟩⟩
instance : One Tryz.prog 468 := ⟨fun w => run_isAgg Tryz.underlying468 w⟩
instance : Inf Tryz.prog 468 .nilFunc 1 8 := ⟨by kernel_rfl, by kernel_rfl⟩
instance : Und Tryz.prog 469 (.array 24 5) := ⟨Tryz.underlying469⟩
instance : Inf Tryz.prog 469 (.agg (List.replicate 24 (.int .u8 0)).toArray) 24 24 := ⟨by kernel_rfl, by kernel_rfl⟩
instance : One Tryz.prog 470 := ⟨fun w => run_isAgg Tryz.underlying470 w⟩
instance : Inf Tryz.prog 470 .nilFunc 1 8 := ⟨by kernel_rfl, by kernel_rfl⟩
instance : One Tryz.prog 472 := ⟨fun w => run_isAgg Tryz.underlying472 w⟩
instance : Inf Tryz.prog 472 .nilFunc 1 8 := ⟨by kernel_rfl, by kernel_rfl⟩
instance : One Tryz.prog 473 := ⟨fun w => run_isAgg Tryz.underlying473 w⟩
instance : Inf Tryz.prog 473 .nilFunc 1 8 := ⟨by kernel_rfl, by kernel_rfl⟩
instance : One Tryz.prog 474 := ⟨fun w => run_isAgg Tryz.underlying474 w⟩
instance : Inf Tryz.prog 474 .nilFunc 1 8 := ⟨by kernel_rfl, by kernel_rfl⟩
instance : One Tryz.prog 475 := ⟨fun w => run_isAgg Tryz.underlying475 w⟩
instance : Inf Tryz.prog 475 .nilFunc 1 8 := ⟨by kernel_rfl, by kernel_rfl⟩
instance : One Tryz.prog 476 := ⟨fun w => run_isAgg Tryz.underlying476 w⟩
instance : Inf Tryz.prog 476 .nilFunc 1 8 := ⟨by kernel_rfl, by kernel_rfl⟩
instance : Und Tryz.prog 477 (.pointer 450) := ⟨Tryz.underlying477⟩
instance : Inf Tryz.prog 477 (.pointer none) 1 8 := ⟨by kernel_rfl, by kernel_rfl⟩
instance : One Tryz.prog 479 := ⟨fun w => run_isAgg Tryz.underlying479 w⟩
instance : Inf Tryz.prog 479 .nilFunc 1 8 := ⟨by kernel_rfl, by kernel_rfl⟩
instance : One Tryz.prog 480 := ⟨fun w => run_isAgg Tryz.underlying480 w⟩
instance : Inf Tryz.prog 480 .nilFunc 1 8 := ⟨by kernel_rfl, by kernel_rfl⟩
instance : One Tryz.prog 481 := ⟨fun w => run_isAgg Tryz.underlying481 w⟩
instance : Inf Tryz.prog 481 .nilFunc 1 8 := ⟨by kernel_rfl, by kernel_rfl⟩
instance : Und Tryz.prog 482 (.pointer 464) := ⟨Tryz.underlying482⟩
instance : Inf Tryz.prog 482 (.pointer none) 1 8 := ⟨by kernel_rfl, by kernel_rfl⟩
instance : Und Tryz.prog 483 (.pointer 467) := ⟨Tryz.underlying483⟩
instance : Inf Tryz.prog 483 (.pointer none) 1 8 := ⟨by kernel_rfl, by kernel_rfl⟩
instance : One Tryz.prog 484 := ⟨fun w => run_isAgg Tryz.underlying484 w⟩
instance : Inf Tryz.prog 484 .nilFunc 1 8 := ⟨by kernel_rfl, by kernel_rfl⟩
instance : Und Tryz.prog 485 (.array 20 292) := ⟨Tryz.underlying485⟩
instance : Inf Tryz.prog 485 (.agg (List.replicate 20 (.int .u64 0)).toArray) 20 160 := ⟨by kernel_rfl, by kernel_rfl⟩
instance : Und Tryz.prog 486 (.array 65 5) := ⟨Tryz.underlying486⟩
instance : Inf Tryz.prog 486 (.agg (List.replicate 65 (.int .u8 0)).toArray) 65 65 := ⟨by kernel_rfl, by kernel_rfl⟩
instance : Und Tryz.prog 487 (.int .i64) := ⟨Tryz.underlying487⟩
instance : Inf Tryz.prog 487 (.int .i64 0) 1 8 := ⟨by kernel_rfl, by kernel_rfl⟩
instance : One Tryz.prog 489 := ⟨fun w => run_isAgg Tryz.underlying489 w⟩
instance : Inf Tryz.prog 489 .nilFunc 1 8 := ⟨by kernel_rfl, by kernel_rfl⟩
instance : Und Tryz.prog 490 (.pointer 496) := ⟨Tryz.underlying490⟩
instance : Inf Tryz.prog 490 (.pointer none) 1 8 := ⟨by kernel_rfl, by kernel_rfl⟩
instance : One Tryz.prog 491 := ⟨fun w => run_isAgg Tryz.underlying491 w⟩
instance : Inf Tryz.prog 491 .nilFunc 1 8 := ⟨by kernel_rfl, by kernel_rfl⟩
instance : One Tryz.prog 492 := ⟨fun w => run_isAgg Tryz.underlying492 w⟩
instance : Inf Tryz.prog 492 .nilFunc 1 8 := ⟨by kernel_rfl, by kernel_rfl⟩
instance : One Tryz.prog 494 := ⟨fun w => run_isAgg Tryz.underlying494 w⟩
instance : Inf Tryz.prog 494 .nilFunc 1 8 := ⟨by kernel_rfl, by kernel_rfl⟩
instance : Agg Tryz.prog 495 := ⟨fun w => run_isAgg Tryz.underlying495 w⟩
instance : Inf Tryz.prog 495 (.agg #[(.string ⟨#[]⟩), (.string ⟨#[]⟩), .nilIface]) 3 48 := ⟨by kernel_rfl, by kernel_rfl⟩
instance : Str Tryz.prog 495 [(0, 1), (1, 1), (2, 1)] := ⟨⟨_, Tryz.underlying495, by kernel_rfl, by kernel_rfl⟩⟩
instance : Fld Tryz.prog 495 0 0 9 1 := ⟨⟨_, _, Tryz.underlying495, rfl, rfl, rfl, by kernel_rfl⟩⟩
instance : Fld Tryz.prog 495 1 1 9 1 := ⟨⟨_, _, Tryz.underlying495, rfl, rfl, rfl, by kernel_rfl⟩⟩
instance : Fld Tryz.prog 495 2 2 401 1 := ⟨⟨_, _, Tryz.underlying495, rfl, rfl, rfl, by kernel_rfl⟩⟩
instance : Agg Tryz.prog 496 := ⟨fun w => run_isAgg Tryz.underlying496 w⟩
instance : Inf Tryz.prog 496 (.agg #[(.string ⟨#[]⟩), (.string ⟨#[]⟩), .nilIface]) 3 48 := ⟨by kernel_rfl, by kernel_rfl⟩
instance : Str Tryz.prog 496 [(0, 1), (1, 1), (2, 1)] := ⟨⟨_, Tryz.underlying496, by kernel_rfl, by kernel_rfl⟩⟩
instance : Fld Tryz.prog 496 0 0 9 1 := ⟨⟨_, _, Tryz.underlying496, rfl, rfl, rfl, by kernel_rfl⟩⟩
instance : Fld Tryz.prog 496 1 1 9 1 := ⟨⟨_, _, Tryz.underlying496, rfl, rfl, rfl, by kernel_rfl⟩⟩
instance : Fld Tryz.prog 496 2 2 401 1 := ⟨⟨_, _, Tryz.underlying496, rfl, rfl, rfl, by kernel_rfl⟩⟩
instance : One Tryz.prog 497 := ⟨fun w => run_isAgg Tryz.underlying497 w⟩
instance : Inf Tryz.prog 497 .nilFunc 1 8 := ⟨by kernel_rfl, by kernel_rfl⟩
instance : Und Tryz.prog 498 (.pointer 500) := ⟨Tryz.underlying498⟩
instance : Inf Tryz.prog 498 (.pointer none) 1 8 := ⟨by kernel_rfl, by kernel_rfl⟩
instance : Agg Tryz.prog 499 := ⟨fun w => run_isAgg Tryz.underlying499 w⟩
instance : Inf Tryz.prog 499 (.agg #[(.string ⟨#[]⟩)]) 1 16 := ⟨by kernel_rfl, by kernel_rfl⟩
instance : Str Tryz.prog 499 [(0, 1)] := ⟨⟨_, Tryz.underlying499, by kernel_rfl, by kernel_rfl⟩⟩
instance : Fld Tryz.prog 499 0 0 9 1 := ⟨⟨_, _, Tryz.underlying499, rfl, rfl, rfl, by kernel_rfl⟩⟩
instance : Agg Tryz.prog 500 := ⟨fun w => run_isAgg Tryz.underlying500 w⟩
instance : Inf Tryz.prog 500 (.agg #[(.string ⟨#[]⟩)]) 1 16 := ⟨by kernel_rfl, by kernel_rfl⟩
instance : Str Tryz.prog 500 [(0, 1)] := ⟨⟨_, Tryz.underlying500, by kernel_rfl, by kernel_rfl⟩⟩
instance : Fld Tryz.prog 500 0 0 9 1 := ⟨⟨_, _, Tryz.underlying500, rfl, rfl, rfl, by kernel_rfl⟩⟩
instance : Agg Tryz.prog 501 := ⟨fun w => run_isAgg Tryz.underlying501 w⟩
instance : Inf Tryz.prog 501 (.agg #[(.pointer none), (.pointer none), (.pointer none), (.string ⟨#[]⟩)]) 4 40 := ⟨by kernel_rfl, by kernel_rfl⟩
instance : Str Tryz.prog 501 [(0, 1), (1, 1), (2, 1), (3, 1)] := ⟨⟨_, Tryz.underlying501, by kernel_rfl, by kernel_rfl⟩⟩
instance : Fld Tryz.prog 501 0 0 17 1 := ⟨⟨_, _, Tryz.underlying501, rfl, rfl, rfl, by kernel_rfl⟩⟩
instance : Fld Tryz.prog 501 1 1 17 1 := ⟨⟨_, _, Tryz.underlying501, rfl, rfl, rfl, by kernel_rfl⟩⟩
instance : Fld Tryz.prog 501 2 2 17 1 := ⟨⟨_, _, Tryz.underlying501, rfl, rfl, rfl, by kernel_rfl⟩⟩
instance : Fld Tryz.prog 501 3 3 9 1 := ⟨⟨_, _, Tryz.underlying501, rfl, rfl, rfl, by kernel_rfl⟩⟩
instance : Agg Tryz.prog 502 := ⟨fun w => run_isAgg Tryz.underlying502 w⟩
instance : Inf Tryz.prog 502 (.agg #[(.pointer none), (.pointer none), (.pointer none), (.string ⟨#[]⟩)]) 4 40 := ⟨by kernel_rfl, by kernel_rfl⟩
instance : Str Tryz.prog 502 [(0, 1), (1, 1), (2, 1), (3, 1)] := ⟨⟨_, Tryz.underlying502, by kernel_rfl, by kernel_rfl⟩⟩
instance : Fld Tryz.prog 502 0 0 17 1 := ⟨⟨_, _, Tryz.underlying502, rfl, rfl, rfl, by kernel_rfl⟩⟩
instance : Fld Tryz.prog 502 1 1 17 1 := ⟨⟨_, _, Tryz.underlying502, rfl, rfl, rfl, by kernel_rfl⟩⟩
instance : Fld Tryz.prog 502 2 2 17 1 := ⟨⟨_, _, Tryz.underlying502, rfl, rfl, rfl, by kernel_rfl⟩⟩
instance : Fld Tryz.prog 502 3 3 9 1 := ⟨⟨_, _, Tryz.underlying502, rfl, rfl, rfl, by kernel_rfl⟩⟩
instance : Und Tryz.prog 503 (.array 0 16) := ⟨Tryz.underlying503⟩
instance : Inf Tryz.prog 503 (.agg #[]) 0 0 := ⟨by kernel_rfl, by kernel_rfl⟩
instance : Agg Tryz.prog 504 := ⟨fun w => run_isAgg Tryz.underlying504 w⟩
instance : Inf Tryz.prog 504 (.agg #[]) 0 0 := ⟨by kernel_rfl, by kernel_rfl⟩
instance : Str Tryz.prog 504 [(0, 0)] := ⟨⟨_, Tryz.underlying504, by kernel_rfl, by kernel_rfl⟩⟩
instance : Agg Tryz.prog 505 := ⟨fun w => run_isAgg Tryz.underlying505 w⟩
instance : Inf Tryz.prog 505 (.agg #[]) 0 0 := ⟨by kernel_rfl, by kernel_rfl⟩
instance : Str Tryz.prog 505 [(0, 0)] := ⟨⟨_, Tryz.underlying505, by kernel_rfl, by kernel_rfl⟩⟩
instance : Und Tryz.prog 506 (.int .u8) := ⟨Tryz.underlying506⟩
instance : Inf Tryz.prog 506 (.int .u8 0) 1 1 := ⟨by kernel_rfl, by kernel_rfl⟩
instance : Und Tryz.prog 507 (.int .u8) := ⟨Tryz.underlying507⟩
instance : Inf Tryz.prog 507 (.int .u8 0) 1 1 := ⟨by kernel_rfl, by kernel_rfl⟩
instance : One Tryz.prog 508 := ⟨fun w => run_isAgg Tryz.underlying508 w⟩
instance : Inf Tryz.prog 508 .nilFunc 1 8 := ⟨by kernel_rfl, by kernel_rfl⟩
instance : Und Tryz.prog 509 (.int .i32) := ⟨Tryz.underlying509⟩
instance : Inf Tryz.prog 509 (.int .i32 0) 1 4 := ⟨by kernel_rfl, by kernel_rfl⟩
instance : Und Tryz.prog 510 (.int .i32) := ⟨Tryz.underlying510⟩
instance : Inf Tryz.prog 510 (.int .i32 0) 1 4 := ⟨by kernel_rfl, by kernel_rfl⟩
instance : Agg Tryz.prog 511 := ⟨fun w => run_isAgg Tryz.underlying511 w⟩
instance : Inf Tryz.prog 511 (.agg #[(.int .u64 0), (.int .u64 0), (.int .u32 0), (.int .u8 0), (.int .u8 0), (.int .u8 0), (.int .u8 0), .nilFunc, (.pointer none), (.int .i32 0), (.int .i32 0)]) 11 48 := ⟨by kernel_rfl, by kernel_rfl⟩
instance : Str Tryz.prog 511 [(0, 1), (1, 1), (2, 1), (3, 1), (4, 1), (5, 1), (6, 1), (7, 1), (8, 1), (9, 1), (10, 1)] := ⟨⟨_, Tryz.underlying511, by kernel_rfl, by kernel_rfl⟩⟩
instance : Fld Tryz.prog 511 0 0 12 1 := ⟨⟨_, _, Tryz.underlying511, rfl, rfl, rfl, by kernel_rfl⟩⟩
instance : Fld Tryz.prog 511 1 1 12 1 := ⟨⟨_, _, Tryz.underlying511, rfl, rfl, rfl, by kernel_rfl⟩⟩
instance : Fld Tryz.prog 511 2 2 201 1 := ⟨⟨_, _, Tryz.underlying511, rfl, rfl, rfl, by kernel_rfl⟩⟩
instance : Fld Tryz.prog 511 3 3 506 1 := ⟨⟨_, _, Tryz.underlying511, rfl, rfl, rfl, by kernel_rfl⟩⟩
instance : Fld Tryz.prog 511 4 4 5 1 := ⟨⟨_, _, Tryz.underlying511, rfl, rfl, rfl, by kernel_rfl⟩⟩
instance : Fld Tryz.prog 511 5 5 5 1 := ⟨⟨_, _, Tryz.underlying511, rfl, rfl, rfl, by kernel_rfl⟩⟩
instance : Fld Tryz.prog 511 6 6 507 1 := ⟨⟨_, _, Tryz.underlying511, rfl, rfl, rfl, by kernel_rfl⟩⟩
instance : Fld Tryz.prog 511 7 7 508 1 := ⟨⟨_, _, Tryz.underlying511, rfl, rfl, rfl, by kernel_rfl⟩⟩
instance : Fld Tryz.prog 511 8 8 438 1 := ⟨⟨_, _, Tryz.underlying511, rfl, rfl, rfl, by kernel_rfl⟩⟩
instance : Fld Tryz.prog 511 9 9 509 1 := ⟨⟨_, _, Tryz.underlying511, rfl, rfl, rfl, by kernel_rfl⟩⟩
instance : Fld Tryz.prog 511 10 10 510 1 := ⟨⟨_, _, Tryz.underlying511, rfl, rfl, rfl, by kernel_rfl⟩⟩
instance : Agg Tryz.prog 512 := ⟨fun w => run_isAgg Tryz.underlying512 w⟩
instance : Inf Tryz.prog 512 (.agg #[(.int .u64 0), (.int .u64 0), (.int .u32 0), (.int .u8 0), (.int .u8 0), (.int .u8 0), (.int .u8 0), .nilFunc, (.pointer none), (.int .i32 0), (.int .i32 0)]) 11 48 := ⟨by kernel_rfl, by kernel_rfl⟩
instance : Str Tryz.prog 512 [(0, 1), (1, 1), (2, 1), (3, 1), (4, 1), (5, 1), (6, 1), (7, 1), (8, 1), (9, 1), (10, 1)] := ⟨⟨_, Tryz.underlying512, by kernel_rfl, by kernel_rfl⟩⟩
instance : Fld Tryz.prog 512 0 0 12 1 := ⟨⟨_, _, Tryz.underlying512, rfl, rfl, rfl, by kernel_rfl⟩⟩
instance : Fld Tryz.prog 512 1 1 12 1 := ⟨⟨_, _, Tryz.underlying512, rfl, rfl, rfl, by kernel_rfl⟩⟩
instance : Fld Tryz.prog 512 2 2 201 1 := ⟨⟨_, _, Tryz.underlying512, rfl, rfl, rfl, by kernel_rfl⟩⟩
instance : Fld Tryz.prog 512 3 3 506 1 := ⟨⟨_, _, Tryz.underlying512, rfl, rfl, rfl, by kernel_rfl⟩⟩
instance : Fld Tryz.prog 512 4 4 5 1 := ⟨⟨_, _, Tryz.underlying512, rfl, rfl, rfl, by kernel_rfl⟩⟩
instance : Fld Tryz.prog 512 5 5 5 1 := ⟨⟨_, _, Tryz.underlying512, rfl, rfl, rfl, by kernel_rfl⟩⟩
instance : Fld Tryz.prog 512 6 6 507 1 := ⟨⟨_, _, Tryz.underlying512, rfl, rfl, rfl, by kernel_rfl⟩⟩
instance : Fld Tryz.prog 512 7 7 508 1 := ⟨⟨_, _, Tryz.underlying512, rfl, rfl, rfl, by kernel_rfl⟩⟩
instance : Fld Tryz.prog 512 8 8 438 1 := ⟨⟨_, _, Tryz.underlying512, rfl, rfl, rfl, by kernel_rfl⟩⟩
instance : Fld Tryz.prog 512 9 9 509 1 := ⟨⟨_, _, Tryz.underlying512, rfl, rfl, rfl, by kernel_rfl⟩⟩
instance : Fld Tryz.prog 512 10 10 510 1 := ⟨⟨_, _, Tryz.underlying512, rfl, rfl, rfl, by kernel_rfl⟩⟩
instance : One Tryz.prog 513 := ⟨fun w => run_isAgg Tryz.underlying513 w⟩
instance : Inf Tryz.prog 513 .nilFunc 1 8 := ⟨by kernel_rfl, by kernel_rfl⟩
instance : One Tryz.prog 514 := ⟨fun w => run_isAgg Tryz.underlying514 w⟩
instance : Inf Tryz.prog 514 .nilFunc 1 8 := ⟨by kernel_rfl, by kernel_rfl⟩
instance : Fun Tryz.prog 3 := Fun.mk' Tryz.func3 (by kernel_rfl) (by kernel_rfl)
instance : Fun Tryz.prog 4 := Fun.mk' Tryz.func4 (by kernel_rfl) (by kernel_rfl)
instance : Fun Tryz.prog 5 := Fun.mk' Tryz.func5 (by kernel_rfl) (by kernel_rfl)
instance : Fun Tryz.prog 6 := Fun.mk' Tryz.func6 (by kernel_rfl) (by kernel_rfl)
instance : Fun Tryz.prog 7 := Fun.mk' Tryz.func7 (by kernel_rfl) (by kernel_rfl)
instance : Fun Tryz.prog 8 := Fun.mk' Tryz.func8 (by kernel_rfl) (by kernel_rfl)
instance : Fun Tryz.prog 9 := Fun.mk' Tryz.func9 (by kernel_rfl) (by kernel_rfl)
instance : Fun Tryz.prog 10 := Fun.mk' Tryz.func10 (by kernel_rfl) (by kernel_rfl)
instance : Fun Tryz.prog 11 := Fun.mk' Tryz.func11 (by kernel_rfl) (by kernel_rfl)
instance : Fun Tryz.prog 12 := Fun.mk' Tryz.func12 (by kernel_rfl) (by kernel_rfl)
instance : Fun Tryz.prog 13 := Fun.mk' Tryz.func13 (by kernel_rfl) (by kernel_rfl)
instance : Fun Tryz.prog 14 := Fun.mk' Tryz.func14 (by kernel_rfl) (by kernel_rfl)
instance : Fun Tryz.prog 15 := Fun.mk' Tryz.func15 (by kernel_rfl) (by kernel_rfl)
instance : Fun Tryz.prog 16 := Fun.mk' Tryz.func16 (by kernel_rfl) (by kernel_rfl)
instance : Fun Tryz.prog 17 := Fun.mk' Tryz.func17 (by kernel_rfl) (by kernel_rfl)
instance : Fun Tryz.prog 18 := Fun.mk' Tryz.func18 (by kernel_rfl) (by kernel_rfl)
instance : Fun Tryz.prog 19 := Fun.mk' Tryz.func19 (by kernel_rfl) (by kernel_rfl)
instance : Fun Tryz.prog 20 := Fun.mk' Tryz.func20 (by kernel_rfl) (by kernel_rfl)
instance : Fun Tryz.prog 21 := Fun.mk' Tryz.func21 (by kernel_rfl) (by kernel_rfl)
instance : Fun Tryz.prog 22 := Fun.mk' Tryz.func22 (by kernel_rfl) (by kernel_rfl)
instance : Fun Tryz.prog 23 := Fun.mk' Tryz.func23 (by kernel_rfl) (by kernel_rfl)
instance : Fun Tryz.prog 24 := Fun.mk' Tryz.func24 (by kernel_rfl) (by kernel_rfl)
instance : Fun Tryz.prog 25 := Fun.mk' Tryz.func25 (by kernel_rfl) (by kernel_rfl)
instance : Fun Tryz.prog 26 := Fun.mk' Tryz.func26 (by kernel_rfl) (by kernel_rfl)
instance : Fun Tryz.prog 27 := Fun.mk' Tryz.func27 (by kernel_rfl) (by kernel_rfl)
instance : Fun Tryz.prog 28 := Fun.mk' Tryz.func28 (by kernel_rfl) (by kernel_rfl)
instance : Fun Tryz.prog 29 := Fun.mk' Tryz.func29 (by kernel_rfl) (by kernel_rfl)
instance : Fun Tryz.prog 30 := Fun.mk' Tryz.func30 (by kernel_rfl) (by kernel_rfl)
instance : Fun Tryz.prog 31 := Fun.mk' Tryz.func31 (by kernel_rfl) (by kernel_rfl)
instance : Fun Tryz.prog 32 := Fun.mk' Tryz.func32 (by kernel_rfl) (by kernel_rfl)
instance : Fun Tryz.prog 33 := Fun.mk' Tryz.func33 (by kernel_rfl) (by kernel_rfl)
instance : Fun Tryz.prog 34 := Fun.mk' Tryz.func34 (by kernel_rfl) (by kernel_rfl)
instance : Fun Tryz.prog 35 := Fun.mk' Tryz.func35 (by kernel_rfl) (by kernel_rfl)
instance : Fun Tryz.prog 36 := Fun.mk' Tryz.func36 (by kernel_rfl) (by kernel_rfl)
instance : Fun Tryz.prog 37 := Fun.mk' Tryz.func37 (by kernel_rfl) (by kernel_rfl)
instance : Fun Tryz.prog 38 := Fun.mk' Tryz.func38 (by kernel_rfl) (by kernel_rfl)
instance : Fun Tryz.prog 39 := Fun.mk' Tryz.func39 (by kernel_rfl) (by kernel_rfl)
instance : Fun Tryz.prog 40 := Fun.mk' Tryz.func40 (by kernel_rfl) (by kernel_rfl)
instance : Fun Tryz.prog 41 := Fun.mk' Tryz.func41 (by kernel_rfl) (by kernel_rfl)
instance : Fun Tryz.prog 42 := Fun.mk' Tryz.func42 (by kernel_rfl) (by kernel_rfl)
instance : Fun Tryz.prog 43 := Fun.mk' Tryz.func43 (by kernel_rfl) (by kernel_rfl)
instance : Fun Tryz.prog 44 := Fun.mk' Tryz.func44 (by kernel_rfl) (by kernel_rfl)
instance : Fun Tryz.prog 45 := Fun.mk' Tryz.func45 (by kernel_rfl) (by kernel_rfl)
instance : Fun Tryz.prog 46 := Fun.mk' Tryz.func46 (by kernel_rfl) (by kernel_rfl)
instance : Fun Tryz.prog 47 := Fun.mk' Tryz.func47 (by kernel_rfl) (by kernel_rfl)
instance : Fun Tryz.prog 48 := Fun.mk' Tryz.func48 (by kernel_rfl) (by kernel_rfl)
instance : Fun Tryz.prog 49 := Fun.mk' Tryz.func49 (by kernel_rfl) (by kernel_rfl)
instance : Fun Tryz.prog 50 := Fun.mk' Tryz.func50 (by kernel_rfl) (by kernel_rfl)
instance : Fun Tryz.prog 51 := Fun.mk' Tryz.func51 (by kernel_rfl) (by kernel_rfl)
instance : Fun Tryz.prog 52 := Fun.mk' Tryz.func52 (by kernel_rfl) (by kernel_rfl)
instance : Fun Tryz.prog 53 := Fun.mk' Tryz.func53 (by kernel_rfl) (by kernel_rfl)
instance : Fun Tryz.prog 54 := Fun.mk' Tryz.func54 (by kernel_rfl) (by kernel_rfl)
instance : Fun Tryz.prog 55 := Fun.mk' Tryz.func55 (by kernel_rfl) (by kernel_rfl)
instance : Fun Tryz.prog 56 := Fun.mk' Tryz.func56 (by kernel_rfl) (by kernel_rfl)
instance : Fun Tryz.prog 57 := Fun.mk' Tryz.func57 (by kernel_rfl) (by kernel_rfl)
instance : Fun Tryz.prog 58 := Fun.mk' Tryz.func58 (by kernel_rfl) (by kernel_rfl)
instance : Fun Tryz.prog 59 := Fun.mk' Tryz.func59 (by kernel_rfl) (by kernel_rfl)
instance : Fun Tryz.prog 60 := Fun.mk' Tryz.func60 (by kernel_rfl) (by kernel_rfl)
instance : Fun Tryz.prog 61 := Fun.mk' Tryz.func61 (by kernel_rfl) (by kernel_rfl)
instance : Fun Tryz.prog 62 := Fun.mk' Tryz.func62 (by kernel_rfl) (by kernel_rfl)
instance : Fun Tryz.prog 63 := Fun.mk' Tryz.func63 (by kernel_rfl) (by kernel_rfl)
instance : Fun Tryz.prog 64 := Fun.mk' Tryz.func64 (by kernel_rfl) (by kernel_rfl)
instance : Fun Tryz.prog 65 := Fun.mk' Tryz.func65 (by kernel_rfl) (by kernel_rfl)
instance : Fun Tryz.prog 66 := Fun.mk' Tryz.func66 (by kernel_rfl) (by kernel_rfl)
instance : Fun Tryz.prog 67 := Fun.mk' Tryz.func67 (by kernel_rfl) (by kernel_rfl)
instance : Fun Tryz.prog 68 := Fun.mk' Tryz.func68 (by kernel_rfl) (by kernel_rfl)
instance : Fun Tryz.prog 69 := Fun.mk' Tryz.func69 (by kernel_rfl) (by kernel_rfl)
instance : Fun Tryz.prog 70 := Fun.mk' Tryz.func70 (by kernel_rfl) (by kernel_rfl)
instance : Fun Tryz.prog 71 := Fun.mk' Tryz.func71 (by kernel_rfl) (by kernel_rfl)
instance : Fun Tryz.prog 72 := Fun.mk' Tryz.func72 (by kernel_rfl) (by kernel_rfl)
instance : Fun Tryz.prog 73 := Fun.mk' Tryz.func73 (by kernel_rfl) (by kernel_rfl)
instance : Fun Tryz.prog 74 := Fun.mk' Tryz.func74 (by kernel_rfl) (by kernel_rfl)
instance : Fun Tryz.prog 75 := Fun.mk' Tryz.func75 (by kernel_rfl) (by kernel_rfl)
instance : Fun Tryz.prog 76 := Fun.mk' Tryz.func76 (by kernel_rfl) (by kernel_rfl)
instance : Fun Tryz.prog 77 := Fun.mk' Tryz.func77 (by kernel_rfl) (by kernel_rfl)
instance : Fun Tryz.prog 78 := Fun.mk' Tryz.func78 (by kernel_rfl) (by kernel_rfl)
instance : Fun Tryz.prog 79 := Fun.mk' Tryz.func79 (by kernel_rfl) (by kernel_rfl)
instance : Fun Tryz.prog 80 := Fun.mk' Tryz.func80 (by kernel_rfl) (by kernel_rfl)
instance : Fun Tryz.prog 81 := Fun.mk' Tryz.func81 (by kernel_rfl) (by kernel_rfl)
instance : Fun Tryz.prog 82 := Fun.mk' Tryz.func82 (by kernel_rfl) (by kernel_rfl)
instance : Fun Tryz.prog 83 := Fun.mk' Tryz.func83 (by kernel_rfl) (by kernel_rfl)
instance : Fun Tryz.prog 84 := Fun.mk' Tryz.func84 (by kernel_rfl) (by kernel_rfl)
instance : Fun Tryz.prog 85 := Fun.mk' Tryz.func85 (by kernel_rfl) (by kernel_rfl)
instance : Fun Tryz.prog 86 := Fun.mk' Tryz.func86 (by kernel_rfl) (by kernel_rfl)
instance : Fun Tryz.prog 87 := Fun.mk' Tryz.func87 (by kernel_rfl) (by kernel_rfl)
instance : Fun Tryz.prog 88 := Fun.mk' Tryz.func88 (by kernel_rfl) (by kernel_rfl)
instance : Fun Tryz.prog 89 := Fun.mk' Tryz.func89 (by kernel_rfl) (by kernel_rfl)
instance : Fun Tryz.prog 90 := Fun.mk' Tryz.func90 (by kernel_rfl) (by kernel_rfl)
instance : Fun Tryz.prog 91 := Fun.mk' Tryz.func91 (by kernel_rfl) (by kernel_rfl)
instance : Fun Tryz.prog 92 := Fun.mk' Tryz.func92 (by kernel_rfl) (by kernel_rfl)
instance : Fun Tryz.prog 93 := Fun.mk' Tryz.func93 (by kernel_rfl) (by kernel_rfl)
instance : Fun Tryz.prog 94 := Fun.mk' Tryz.func94 (by kernel_rfl) (by kernel_rfl)
instance : Fun Tryz.prog 95 := Fun.mk' Tryz.func95 (by kernel_rfl) (by kernel_rfl)
instance : Fun Tryz.prog 96 := Fun.mk' Tryz.func96 (by kernel_rfl) (by kernel_rfl)
instance : Fun Tryz.prog 97 := Fun.mk' Tryz.func97 (by kernel_rfl) (by kernel_rfl)
instance : Fun Tryz.prog 98 := Fun.mk' Tryz.func98 (by kernel_rfl) (by kernel_rfl)
instance : Fun Tryz.prog 99 := Fun.mk' Tryz.func99 (by kernel_rfl) (by kernel_rfl)
instance : Fun Tryz.prog 100 := Fun.mk' Tryz.func100 (by kernel_rfl) (by kernel_rfl)
instance : Fun Tryz.prog 101 := Fun.mk' Tryz.func101 (by kernel_rfl) (by kernel_rfl)
instance : Fun Tryz.prog 102 := Fun.mk' Tryz.func102 (by kernel_rfl) (by kernel_rfl)
instance : Fun Tryz.prog 103 := Fun.mk' Tryz.func103 (by kernel_rfl) (by kernel_rfl)
instance : Fun Tryz.prog 105 := Fun.mk' Tryz.func105 (by kernel_rfl) (by kernel_rfl)
instance : Fun Tryz.prog 106 := Fun.mk' Tryz.func106 (by kernel_rfl) (by kernel_rfl)
instance : Fun Tryz.prog 107 := Fun.mk' Tryz.func107 (by kernel_rfl) (by kernel_rfl)
instance : Fun Tryz.prog 108 := Fun.mk' Tryz.func108 (by kernel_rfl) (by kernel_rfl)
instance : Fun Tryz.prog 109 := Fun.mk' Tryz.func109 (by kernel_rfl) (by kernel_rfl)
instance : Fun Tryz.prog 110 := Fun.mk' Tryz.func110 (by kernel_rfl) (by kernel_rfl)
instance : Fun Tryz.prog 111 := Fun.mk' Tryz.func111 (by kernel_rfl) (by kernel_rfl)
instance : Fun Tryz.prog 112 := Fun.mk' Tryz.func112 (by kernel_rfl) (by kernel_rfl)
instance : Fun Tryz.prog 113 := Fun.mk' Tryz.func113 (by kernel_rfl) (by kernel_rfl)
instance : Fun Tryz.prog 114 := Fun.mk' Tryz.func114 (by kernel_rfl) (by kernel_rfl)
instance : Fun Tryz.prog 115 := Fun.mk' Tryz.func115 (by kernel_rfl) (by kernel_rfl)
instance : Fun Tryz.prog 116 := Fun.mk' Tryz.func116 (by kernel_rfl) (by kernel_rfl)
instance : Fun Tryz.prog 117 := Fun.mk' Tryz.func117 (by kernel_rfl) (by kernel_rfl)
instance : Fun Tryz.prog 118 := Fun.mk' Tryz.func118 (by kernel_rfl) (by kernel_rfl)
instance : Fun Tryz.prog 119 := Fun.mk' Tryz.func119 (by kernel_rfl) (by kernel_rfl)
instance : Fun Tryz.prog 120 := Fun.mk' Tryz.func120 (by kernel_rfl) (by kernel_rfl)
instance : Fun Tryz.prog 121 := Fun.mk' Tryz.func121 (by kernel_rfl) (by kernel_rfl)
instance : Fun Tryz.prog 122 := Fun.mk' Tryz.func122 (by kernel_rfl) (by kernel_rfl)
instance : Fun Tryz.prog 123 := Fun.mk' Tryz.func123 (by kernel_rfl) (by kernel_rfl)
instance : Fun Tryz.prog 124 := Fun.mk' Tryz.func124 (by kernel_rfl) (by kernel_rfl)
instance : Fun Tryz.prog 125 := Fun.mk' Tryz.func125 (by kernel_rfl) (by kernel_rfl)
instance : Fun Tryz.prog 126 := Fun.mk' Tryz.func126 (by kernel_rfl) (by kernel_rfl)
instance : Fun Tryz.prog 127 := Fun.mk' Tryz.func127 (by kernel_rfl) (by kernel_rfl)
instance : Fun Tryz.prog 128 := Fun.mk' Tryz.func128 (by kernel_rfl) (by kernel_rfl)
instance : Fun Tryz.prog 129 := Fun.mk' Tryz.func129 (by kernel_rfl) (by kernel_rfl)
instance : Fun Tryz.prog 130 := Fun.mk' Tryz.func130 (by kernel_rfl) (by kernel_rfl)
instance : Fun Tryz.prog 131 := Fun.mk' Tryz.func131 (by kernel_rfl) (by kernel_rfl)
instance : Fun Tryz.prog 132 := Fun.mk' Tryz.func132 (by kernel_rfl) (by kernel_rfl)
instance : Fun Tryz.prog 133 := Fun.mk' Tryz.func133 (by kernel_rfl) (by kernel_rfl)
instance : Fun Tryz.prog 134 := Fun.mk' Tryz.func134 (by kernel_rfl) (by kernel_rfl)
instance : Fun Tryz.prog 135 := Fun.mk' Tryz.func135 (by kernel_rfl) (by kernel_rfl)
instance : Fun Tryz.prog 136 := Fun.mk' Tryz.func136 (by kernel_rfl) (by kernel_rfl)
instance : Fun Tryz.prog 137 := Fun.mk' Tryz.func137 (by kernel_rfl) (by kernel_rfl)
instance : Fun Tryz.prog 138 := Fun.mk' Tryz.func138 (by kernel_rfl) (by kernel_rfl)
instance : Fun Tryz.prog 139 := Fun.mk' Tryz.func139 (by kernel_rfl) (by kernel_rfl)
instance : Fun Tryz.prog 140 := Fun.mk' Tryz.func140 (by kernel_rfl) (by kernel_rfl)
instance : Fun Tryz.prog 141 := Fun.mk' Tryz.func141 (by kernel_rfl) (by kernel_rfl)
instance : Fun Tryz.prog 142 := Fun.mk' Tryz.func142 (by kernel_rfl) (by kernel_rfl)
instance : Fun Tryz.prog 143 := Fun.mk' Tryz.func143 (by kernel_rfl) (by kernel_rfl)
instance : Fun Tryz.prog 144 := Fun.mk' Tryz.func144 (by kernel_rfl) (by kernel_rfl)
instance : Fun Tryz.prog 145 := Fun.mk' Tryz.func145 (by kernel_rfl) (by kernel_rfl)
instance : Fun Tryz.prog 146 := Fun.mk' Tryz.func146 (by kernel_rfl) (by kernel_rfl)
instance : Fun Tryz.prog 147 := Fun.mk' Tryz.func147 (by kernel_rfl) (by kernel_rfl)
instance : Fun Tryz.prog 148 := Fun.mk' Tryz.func148 (by kernel_rfl) (by kernel_rfl)
instance : Fun Tryz.prog 149 := Fun.mk' Tryz.func149 (by kernel_rfl) (by kernel_rfl)
instance : Fun Tryz.prog 150 := Fun.mk' Tryz.func150 (by kernel_rfl) (by kernel_rfl)
instance : Fun Tryz.prog 151 := Fun.mk' Tryz.func151 (by kernel_rfl) (by kernel_rfl)
instance : Fun Tryz.prog 152 := Fun.mk' Tryz.func152 (by kernel_rfl) (by kernel_rfl)
instance : Fun Tryz.prog 153 := Fun.mk' Tryz.func153 (by kernel_rfl) (by kernel_rfl)
instance : Fun Tryz.prog 154 := Fun.mk' Tryz.func154 (by kernel_rfl) (by kernel_rfl)
instance : Fun Tryz.prog 155 := Fun.mk' Tryz.func155 (by kernel_rfl) (by kernel_rfl)
instance : Fun Tryz.prog 156 := Fun.mk' Tryz.func156 (by kernel_rfl) (by kernel_rfl)
instance : Fun Tryz.prog 157 := Fun.mk' Tryz.func157 (by kernel_rfl) (by kernel_rfl)
instance : Fun Tryz.prog 158 := Fun.mk' Tryz.func158 (by kernel_rfl) (by kernel_rfl)
instance : Fun Tryz.prog 159 := Fun.mk' Tryz.func159 (by kernel_rfl) (by kernel_rfl)
instance : Fun Tryz.prog 160 := Fun.mk' Tryz.func160 (by kernel_rfl) (by kernel_rfl)
instance : Fun Tryz.prog 161 := Fun.mk' Tryz.func161 (by kernel_rfl) (by kernel_rfl)
instance : Fun Tryz.prog 162 := Fun.mk' Tryz.func162 (by kernel_rfl) (by kernel_rfl)
instance : Fun Tryz.prog 163 := Fun.mk' Tryz.func163 (by kernel_rfl) (by kernel_rfl)
instance : Fun Tryz.prog 164 := Fun.mk' Tryz.func164 (by kernel_rfl) (by kernel_rfl)
instance : Fun Tryz.prog 165 := Fun.mk' Tryz.func165 (by kernel_rfl) (by kernel_rfl)
instance : Fun Tryz.prog 166 := Fun.mk' Tryz.func166 (by kernel_rfl) (by kernel_rfl)
instance : Fun Tryz.prog 167 := Fun.mk' Tryz.func167 (by kernel_rfl) (by kernel_rfl)
instance : Fun Tryz.prog 168 := Fun.mk' Tryz.func168 (by kernel_rfl) (by kernel_rfl)
instance : Fun Tryz.prog 169 := Fun.mk' Tryz.func169 (by kernel_rfl) (by kernel_rfl)
instance : Fun Tryz.prog 170 := Fun.mk' Tryz.func170 (by kernel_rfl) (by kernel_rfl)
instance : Fun Tryz.prog 171 := Fun.mk' Tryz.func171 (by kernel_rfl) (by kernel_rfl)
instance : Fun Tryz.prog 172 := Fun.mk' Tryz.func172 (by kernel_rfl) (by kernel_rfl)
instance : Fun Tryz.prog 173 := Fun.mk' Tryz.func173 (by kernel_rfl) (by kernel_rfl)
instance : Fun Tryz.prog 174 := Fun.mk' Tryz.func174 (by kernel_rfl) (by kernel_rfl)
instance : Fun Tryz.prog 175 := Fun.mk' Tryz.func175 (by kernel_rfl) (by kernel_rfl)
instance : Fun Tryz.prog 176 := Fun.mk' Tryz.func176 (by kernel_rfl) (by kernel_rfl)
instance : Fun Tryz.prog 177 := Fun.mk' Tryz.func177 (by kernel_rfl) (by kernel_rfl)
instance : Fun Tryz.prog 178 := Fun.mk' Tryz.func178 (by kernel_rfl) (by kernel_rfl)
instance : Fun Tryz.prog 179 := Fun.mk' Tryz.func179 (by kernel_rfl) (by kernel_rfl)
instance : Fun Tryz.prog 180 := Fun.mk' Tryz.func180 (by kernel_rfl) (by kernel_rfl)
instance : Fun Tryz.prog 181 := Fun.mk' Tryz.func181 (by kernel_rfl) (by kernel_rfl)
instance : Fun Tryz.prog 182 := Fun.mk' Tryz.func182 (by kernel_rfl) (by kernel_rfl)
instance : Fun Tryz.prog 183 := Fun.mk' Tryz.func183 (by kernel_rfl) (by kernel_rfl)
instance : Fun Tryz.prog 184 := Fun.mk' Tryz.func184 (by kernel_rfl) (by kernel_rfl)
instance : Fun Tryz.prog 185 := Fun.mk' Tryz.func185 (by kernel_rfl) (by kernel_rfl)
instance : Fun Tryz.prog 186 := Fun.mk' Tryz.func186 (by kernel_rfl) (by kernel_rfl)
instance : Fun Tryz.prog 187 := Fun.mk' Tryz.func187 (by kernel_rfl) (by kernel_rfl)
instance : Fun Tryz.prog 188 := Fun.mk' Tryz.func188 (by kernel_rfl) (by kernel_rfl)
instance : Fun Tryz.prog 189 := Fun.mk' Tryz.func189 (by kernel_rfl) (by kernel_rfl)
instance : Fun Tryz.prog 190 := Fun.mk' Tryz.func190 (by kernel_rfl) (by kernel_rfl)
instance : Fun Tryz.prog 191 := Fun.mk' Tryz.func191 (by kernel_rfl) (by kernel_rfl)
instance : Fun Tryz.prog 192 := Fun.mk' Tryz.func192 (by kernel_rfl) (by kernel_rfl)
instance : Fun Tryz.prog 193 := Fun.mk' Tryz.func193 (by kernel_rfl) (by kernel_rfl)
instance : Fun Tryz.prog 194 := Fun.mk' Tryz.func194 (by kernel_rfl) (by kernel_rfl)
instance : Fun Tryz.prog 195 := Fun.mk' Tryz.func195 (by kernel_rfl) (by kernel_rfl)
instance : Fun Tryz.prog 196 := Fun.mk' Tryz.func196 (by kernel_rfl) (by kernel_rfl)
instance : Fun Tryz.prog 197 := Fun.mk' Tryz.func197 (by kernel_rfl) (by kernel_rfl)
instance : Fun Tryz.prog 198 := Fun.mk' Tryz.func198 (by kernel_rfl) (by kernel_rfl)
instance : Fun Tryz.prog 199 := Fun.mk' Tryz.func199 (by kernel_rfl) (by kernel_rfl)
instance : Fun Tryz.prog 200 := Fun.mk' Tryz.func200 (by kernel_rfl) (by kernel_rfl)
instance : Fun Tryz.prog 201 := Fun.mk' Tryz.func201 (by kernel_rfl) (by kernel_rfl)
instance : Fun Tryz.prog 202 := Fun.mk' Tryz.func202 (by kernel_rfl) (by kernel_rfl)
instance : Fun Tryz.prog 203 := Fun.mk' Tryz.func203 (by kernel_rfl) (by kernel_rfl)
instance : Fun Tryz.prog 204 := Fun.mk' Tryz.func204 (by kernel_rfl) (by kernel_rfl)
instance : Fun Tryz.prog 205 := Fun.mk' Tryz.func205 (by kernel_rfl) (by kernel_rfl)
instance : Fun Tryz.prog 206 := Fun.mk' Tryz.func206 (by kernel_rfl) (by kernel_rfl)
instance : Fun Tryz.prog 207 := Fun.mk' Tryz.func207 (by kernel_rfl) (by kernel_rfl)
instance : Fun Tryz.prog 208 := Fun.mk' Tryz.func208 (by kernel_rfl) (by kernel_rfl)
instance : Fun Tryz.prog 209 := Fun.mk' Tryz.func209 (by kernel_rfl) (by kernel_rfl)
instance : Fun Tryz.prog 210 := Fun.mk' Tryz.func210 (by kernel_rfl) (by kernel_rfl)
instance : Fun Tryz.prog 211 := Fun.mk' Tryz.func211 (by kernel_rfl) (by kernel_rfl)
instance : Fun Tryz.prog 212 := Fun.mk' Tryz.func212 (by kernel_rfl) (by kernel_rfl)
instance : Fun Tryz.prog 213 := Fun.mk' Tryz.func213 (by kernel_rfl) (by kernel_rfl)
instance : ELoad Tryz.prog 214 .u32 := ⟨fun hc => run_call_load Tryz.func214 (by kernel_rfl) (by kernel_rfl) (by kernel_rfl) .u32 (by kernel_rfl) hc⟩
instance : Fun Tryz.prog 215 := Fun.mk' Tryz.func215 (by kernel_rfl) (by kernel_rfl)
instance : Fun Tryz.prog 216 := Fun.mk' Tryz.func216 (by kernel_rfl) (by kernel_rfl)
instance : Fun Tryz.prog 217 := Fun.mk' Tryz.func217 (by kernel_rfl) (by kernel_rfl)
instance : Fun Tryz.prog 218 := Fun.mk' Tryz.func218 (by kernel_rfl) (by kernel_rfl)
instance : Fun Tryz.prog 219 := Fun.mk' Tryz.func219 (by kernel_rfl) (by kernel_rfl)
instance : Fun Tryz.prog 220 := Fun.mk' Tryz.func220 (by kernel_rfl) (by kernel_rfl)
instance : Fun Tryz.prog 221 := Fun.mk' Tryz.func221 (by kernel_rfl) (by kernel_rfl)
instance : Fun Tryz.prog 222 := Fun.mk' Tryz.func222 (by kernel_rfl) (by kernel_rfl)
instance : Fun Tryz.prog 223 := Fun.mk' Tryz.func223 (by kernel_rfl) (by kernel_rfl)
instance : Fun Tryz.prog 224 := Fun.mk' Tryz.func224 (by kernel_rfl) (by kernel_rfl)
instance : Fun Tryz.prog 225 := Fun.mk' Tryz.func225 (by kernel_rfl) (by kernel_rfl)
instance : Fun Tryz.prog 226 := Fun.mk' Tryz.func226 (by kernel_rfl) (by kernel_rfl)
instance : Fun Tryz.prog 227 := Fun.mk' Tryz.func227 (by kernel_rfl) (by kernel_rfl)
instance : Fun Tryz.prog 228 := Fun.mk' Tryz.func228 (by kernel_rfl) (by kernel_rfl)
instance : Fun Tryz.prog 229 := Fun.mk' Tryz.func229 (by kernel_rfl) (by kernel_rfl)
instance : Fun Tryz.prog 230 := Fun.mk' Tryz.func230 (by kernel_rfl) (by kernel_rfl)
instance : Fun Tryz.prog 231 := Fun.mk' Tryz.func231 (by kernel_rfl) (by kernel_rfl)
instance : Fun Tryz.prog 232 := Fun.mk' Tryz.func232 (by kernel_rfl) (by kernel_rfl)
instance : Fun Tryz.prog 233 := Fun.mk' Tryz.func233 (by kernel_rfl) (by kernel_rfl)
instance : Fun Tryz.prog 234 := Fun.mk' Tryz.func234 (by kernel_rfl) (by kernel_rfl)
instance : Fun Tryz.prog 235 := Fun.mk' Tryz.func235 (by kernel_rfl) (by kernel_rfl)
instance : Fun Tryz.prog 236 := Fun.mk' Tryz.func236 (by kernel_rfl) (by kernel_rfl)
instance : Fun Tryz.prog 237 := Fun.mk' Tryz.func237 (by kernel_rfl) (by kernel_rfl)
instance : Fun Tryz.prog 238 := Fun.mk' Tryz.func238 (by kernel_rfl) (by kernel_rfl)
instance : Fun Tryz.prog 239 := Fun.mk' Tryz.func239 (by kernel_rfl) (by kernel_rfl)
instance : Fun Tryz.prog 240 := Fun.mk' Tryz.func240 (by kernel_rfl) (by kernel_rfl)
instance : Fun Tryz.prog 241 := Fun.mk' Tryz.func241 (by kernel_rfl) (by kernel_rfl)
instance : Fun Tryz.prog 242 := Fun.mk' Tryz.func242 (by kernel_rfl) (by kernel_rfl)
instance : Fun Tryz.prog 243 := Fun.mk' Tryz.func243 (by kernel_rfl) (by kernel_rfl)
instance : Fun Tryz.prog 244 := Fun.mk' Tryz.func244 (by kernel_rfl) (by kernel_rfl)
instance : Fun Tryz.prog 245 := Fun.mk' Tryz.func245 (by kernel_rfl) (by kernel_rfl)
instance : Fun Tryz.prog 246 := Fun.mk' Tryz.func246 (by kernel_rfl) (by kernel_rfl)
instance : Fun Tryz.prog 247 := Fun.mk' Tryz.func247 (by kernel_rfl) (by kernel_rfl)
instance : Fun Tryz.prog 248 := Fun.mk' Tryz.func248 (by kernel_rfl) (by kernel_rfl)
instance : Fun Tryz.prog 249 := Fun.mk' Tryz.func249 (by kernel_rfl) (by kernel_rfl)
instance : Fun Tryz.prog 250 := Fun.mk' Tryz.func250 (by kernel_rfl) (by kernel_rfl)
instance : Fun Tryz.prog 251 := Fun.mk' Tryz.func251 (by kernel_rfl) (by kernel_rfl)
instance : Fun Tryz.prog 252 := Fun.mk' Tryz.func252 (by kernel_rfl) (by kernel_rfl)
instance : Fun Tryz.prog 253 := Fun.mk' Tryz.func253 (by kernel_rfl) (by kernel_rfl)
instance : Fun Tryz.prog 254 := Fun.mk' Tryz.func254 (by kernel_rfl) (by kernel_rfl)
instance : Fun Tryz.prog 255 := Fun.mk' Tryz.func255 (by kernel_rfl) (by kernel_rfl)
instance : Fun Tryz.prog 256 := Fun.mk' Tryz.func256 (by kernel_rfl) (by kernel_rfl)
instance : Fun Tryz.prog 257 := Fun.mk' Tryz.func257 (by kernel_rfl) (by kernel_rfl)
instance : EStore Tryz.prog 258 := ⟨fun hc hz => run_call_store Tryz.func258 (by kernel_rfl) (by kernel_rfl) (by kernel_rfl) (by kernel_rfl) hc hz⟩
instance : Fun Tryz.prog 259 := Fun.mk' Tryz.func259 (by kernel_rfl) (by kernel_rfl)
instance : EAdd Tryz.prog 260 .i64 := ⟨fun hc hz hs => run_call_add Tryz.func260 (by kernel_rfl) (by kernel_rfl) (by kernel_rfl) .i64 (by kernel_rfl) hc hz hs⟩
instance : Fun Tryz.prog 262 := Fun.mk' Tryz.func262 (by kernel_rfl) (by kernel_rfl)
instance : Fun Tryz.prog 263 := Fun.mk' Tryz.func263 (by kernel_rfl) (by kernel_rfl)
instance : Fun Tryz.prog 264 := Fun.mk' Tryz.func264 (by kernel_rfl) (by kernel_rfl)
instance : Fun Tryz.prog 265 := Fun.mk' Tryz.func265 (by kernel_rfl) (by kernel_rfl)
instance : Fun Tryz.prog 266 := Fun.mk' Tryz.func266 (by kernel_rfl) (by kernel_rfl)
instance : Fun Tryz.prog 267 := Fun.mk' Tryz.func267 (by kernel_rfl) (by kernel_rfl)
instance : Fun Tryz.prog 268 := Fun.mk' Tryz.func268 (by kernel_rfl) (by kernel_rfl)
instance : Fun Tryz.prog 269 := Fun.mk' Tryz.func269 (by kernel_rfl) (by kernel_rfl)
instance : Fun Tryz.prog 270 := Fun.mk' Tryz.func270 (by kernel_rfl) (by kernel_rfl)
instance : Fun Tryz.prog 271 := Fun.mk' Tryz.func271 (by kernel_rfl) (by kernel_rfl)
instance : Fun Tryz.prog 272 := Fun.mk' Tryz.func272 (by kernel_rfl) (by kernel_rfl)
instance : Fun Tryz.prog 273 := Fun.mk' Tryz.func273 (by kernel_rfl) (by kernel_rfl)
instance : Fun Tryz.prog 274 := Fun.mk' Tryz.func274 (by kernel_rfl) (by kernel_rfl)
instance : Fun Tryz.prog 275 := Fun.mk' Tryz.func275 (by kernel_rfl) (by kernel_rfl)
instance : Fun Tryz.prog 276 := Fun.mk' Tryz.func276 (by kernel_rfl) (by kernel_rfl)
instance : Fun Tryz.prog 277 := Fun.mk' Tryz.func277 (by kernel_rfl) (by kernel_rfl)
instance : Fun Tryz.prog 278 := Fun.mk' Tryz.func278 (by kernel_rfl) (by kernel_rfl)
instance : Fun Tryz.prog 279 := Fun.mk' Tryz.func279 (by kernel_rfl) (by kernel_rfl)
instance : Fun Tryz.prog 280 := Fun.mk' Tryz.func280 (by kernel_rfl) (by kernel_rfl)
instance : Fun Tryz.prog 282 := Fun.mk' Tryz.func282 (by kernel_rfl) (by kernel_rfl)
instance : Fun Tryz.prog 283 := Fun.mk' Tryz.func283 (by kernel_rfl) (by kernel_rfl)
instance : Fun Tryz.prog 284 := Fun.mk' Tryz.func284 (by kernel_rfl) (by kernel_rfl)
instance : Fun Tryz.prog 285 := Fun.mk' Tryz.func285 (by kernel_rfl) (by kernel_rfl)
instance : Fun Tryz.prog 286 := Fun.mk' Tryz.func286 (by kernel_rfl) (by kernel_rfl)
instance : Fun Tryz.prog 287 := Fun.mk' Tryz.func287 (by kernel_rfl) (by kernel_rfl)
instance : Fun Tryz.prog 288 := Fun.mk' Tryz.func288 (by kernel_rfl) (by kernel_rfl)
instance : Fun Tryz.prog 289 := Fun.mk' Tryz.func289 (by kernel_rfl) (by kernel_rfl)
instance : Fun Tryz.prog 290 := Fun.mk' Tryz.func290 (by kernel_rfl) (by kernel_rfl)
instance : Fun Tryz.prog 291 := Fun.mk' Tryz.func291 (by kernel_rfl) (by kernel_rfl)
instance : Fun Tryz.prog 292 := Fun.mk' Tryz.func292 (by kernel_rfl) (by kernel_rfl)
instance : EMark0 Tryz.prog 293 := ⟨fun w => run_call_mark0 Tryz.func293 (by kernel_rfl) (by kernel_rfl) (by kernel_rfl) .disable (by kernel_rfl) w⟩
instance : ECas Tryz.prog 294 .i32 := ⟨fun hc hz => run_call_cas_hit Tryz.func294 (by kernel_rfl) (by kernel_rfl) (by kernel_rfl) .i32 (by kernel_rfl) hc hz⟩
instance : EMark0 Tryz.prog 295 := ⟨fun w => run_call_mark0 Tryz.func295 (by kernel_rfl) (by kernel_rfl) (by kernel_rfl) .enable (by kernel_rfl) w⟩
instance : EMark Tryz.prog 296 := ⟨fun a w => run_call_marked Tryz.func296 (by kernel_rfl) (by kernel_rfl) (by kernel_rfl) .acquire (by kernel_rfl) a w⟩
instance : Fun Tryz.prog 297 := Fun.mk' Tryz.func297 (by kernel_rfl) (by kernel_rfl)
instance : EMark Tryz.prog 298 := ⟨fun a w => run_call_marked Tryz.func298 (by kernel_rfl) (by kernel_rfl) (by kernel_rfl) .releaseMerge (by kernel_rfl) a w⟩
instance : EAdd Tryz.prog 299 .i32 := ⟨fun hc hz hs => run_call_add Tryz.func299 (by kernel_rfl) (by kernel_rfl) (by kernel_rfl) .i32 (by kernel_rfl) hc hz hs⟩
instance : Fun Tryz.prog 300 := Fun.mk' Tryz.func300 (by kernel_rfl) (by kernel_rfl)
instance : Fun Tryz.prog 301 := Fun.mk' Tryz.func301 (by kernel_rfl) (by kernel_rfl)
instance : Fun Tryz.prog 302 := Fun.mk' Tryz.func302 (by kernel_rfl) (by kernel_rfl)
instance : Fun Tryz.prog 303 := Fun.mk' Tryz.func303 (by kernel_rfl) (by kernel_rfl)
instance : Fun Tryz.prog 304 := Fun.mk' Tryz.func304 (by kernel_rfl) (by kernel_rfl)
instance : Fun Tryz.prog 305 := Fun.mk' Tryz.func305 (by kernel_rfl) (by kernel_rfl)
instance : Fun Tryz.prog 306 := Fun.mk' Tryz.func306 (by kernel_rfl) (by kernel_rfl)
instance : Fun Tryz.prog 307 := Fun.mk' Tryz.func307 (by kernel_rfl) (by kernel_rfl)
instance : Fun Tryz.prog 308 := Fun.mk' Tryz.func308 (by kernel_rfl) (by kernel_rfl)
instance : Fun Tryz.prog 310 := Fun.mk' Tryz.func310 (by kernel_rfl) (by kernel_rfl)
instance : Fun Tryz.prog 311 := Fun.mk' Tryz.func311 (by kernel_rfl) (by kernel_rfl)
instance : Fun Tryz.prog 312 := Fun.mk' Tryz.func312 (by kernel_rfl) (by kernel_rfl)
instance : Fun Tryz.prog 313 := Fun.mk' Tryz.func313 (by kernel_rfl) (by kernel_rfl)
instance : Fun Tryz.prog 314 := Fun.mk' Tryz.func314 (by kernel_rfl) (by kernel_rfl)
instance : Fun Tryz.prog 315 := Fun.mk' Tryz.func315 (by kernel_rfl) (by kernel_rfl)
instance : Fun Tryz.prog 316 := Fun.mk' Tryz.func316 (by kernel_rfl) (by kernel_rfl)
instance : Fun Tryz.prog 325 := Fun.mk' Tryz.func325 (by kernel_rfl) (by kernel_rfl)
instance : Fun Tryz.prog 326 := Fun.mk' Tryz.func326 (by kernel_rfl) (by kernel_rfl)
instance : Fun Tryz.prog 327 := Fun.mk' Tryz.func327 (by kernel_rfl) (by kernel_rfl)
instance : Fun Tryz.prog 328 := Fun.mk' Tryz.func328 (by kernel_rfl) (by kernel_rfl)
instance : Fun Tryz.prog 329 := Fun.mk' Tryz.func329 (by kernel_rfl) (by kernel_rfl)
instance : Fun Tryz.prog 330 := Fun.mk' Tryz.func330 (by kernel_rfl) (by kernel_rfl)
instance : Fun Tryz.prog 331 := Fun.mk' Tryz.func331 (by kernel_rfl) (by kernel_rfl)
instance : Fun Tryz.prog 332 := Fun.mk' Tryz.func332 (by kernel_rfl) (by kernel_rfl)
instance : Fun Tryz.prog 333 := Fun.mk' Tryz.func333 (by kernel_rfl) (by kernel_rfl)
instance : Fun Tryz.prog 334 := Fun.mk' Tryz.func334 (by kernel_rfl) (by kernel_rfl)
instance : Fun Tryz.prog 335 := Fun.mk' Tryz.func335 (by kernel_rfl) (by kernel_rfl)
instance : Fun Tryz.prog 336 := Fun.mk' Tryz.func336 (by kernel_rfl) (by kernel_rfl)
instance : Fun Tryz.prog 337 := Fun.mk' Tryz.func337 (by kernel_rfl) (by kernel_rfl)
instance : Fun Tryz.prog 338 := Fun.mk' Tryz.func338 (by kernel_rfl) (by kernel_rfl)
instance : Fun Tryz.prog 339 := Fun.mk' Tryz.func339 (by kernel_rfl) (by kernel_rfl)
instance : Fun Tryz.prog 340 := Fun.mk' Tryz.func340 (by kernel_rfl) (by kernel_rfl)
instance : Fun Tryz.prog 341 := Fun.mk' Tryz.func341 (by kernel_rfl) (by kernel_rfl)
instance : Fun Tryz.prog 342 := Fun.mk' Tryz.func342 (by kernel_rfl) (by kernel_rfl)
instance : Fun Tryz.prog 343 := Fun.mk' Tryz.func343 (by kernel_rfl) (by kernel_rfl)
instance : Fun Tryz.prog 344 := Fun.mk' Tryz.func344 (by kernel_rfl) (by kernel_rfl)
theorem mixed : Tryz.prog.follows .mixedOrders = true := by kernel_rfl
end Cr
