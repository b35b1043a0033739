/-
  FACTS ON THE TYPES AND FUNCTIONS OF THIS SEAT's TRANSLATION, written by a program off the dump's rows; each is proved by the kernel.
  Layer 2 (digest): what each function of package digest computes.
  Layer 2 (digest): mix.
  Layer 2 (digest): bytes, one.
-/
import Derived.Test.YtobnnhlgdoddgaaDoorOrd2
import Derived.Test.YtobnnhlgdoddgaaDoorRows
namespace Cr
open Go Go.Proofs
instance : One Tryd.prog 1 := ⟨fun w => run_isAgg Tryd.underlying1 w⟩
instance : Inf Tryd.prog 1 .nilFunc 1 8 := ⟨by kernel_rfl, by kernel_rfl⟩
instance : Und Tryd.prog 2 (.int .i64) := ⟨Tryd.underlying2⟩
instance : Inf Tryd.prog 2 (.int .i64 0) 1 8 := ⟨by kernel_rfl, by kernel_rfl⟩
instance : Und Tryd.prog 3 (.int .i64) := ⟨Tryd.underlying3⟩
instance : Inf Tryd.prog 3 (.int .i64 0) 1 8 := ⟨by kernel_rfl, by kernel_rfl⟩
instance : Und Tryd.prog 4 (.bool) := ⟨Tryd.underlying4⟩
instance : Inf Tryd.prog 4 (.bool false) 1 1 := ⟨by kernel_rfl, by kernel_rfl⟩
instance : Und Tryd.prog 5 (.int .u8) := ⟨Tryd.underlying5⟩
instance : Inf Tryd.prog 5 (.int .u8 0) 1 1 := ⟨by kernel_rfl, by kernel_rfl⟩
instance : Und Tryd.prog 6 (.int .u8) := ⟨Tryd.underlying6⟩
instance : Inf Tryd.prog 6 (.int .u8 0) 1 1 := ⟨by kernel_rfl, by kernel_rfl⟩
instance : Agg Tryd.prog 7 := ⟨fun w => run_isAgg Tryd.underlying7 w⟩
instance : Inf Tryd.prog 7 (.agg #[(.int .i64 0), (.int .i64 0), (.bool false), (.int .u8 0)]) 4 24 := ⟨by kernel_rfl, by kernel_rfl⟩
instance : Str Tryd.prog 7 [(0, 1), (1, 1), (2, 1), (3, 1)] := ⟨⟨_, Tryd.underlying7, by kernel_rfl, by kernel_rfl⟩⟩
instance : Fld Tryd.prog 7 0 0 2 1 := ⟨⟨_, _, Tryd.underlying7, rfl, rfl, rfl, by kernel_rfl⟩⟩
instance : Fld Tryd.prog 7 1 1 3 1 := ⟨⟨_, _, Tryd.underlying7, rfl, rfl, rfl, by kernel_rfl⟩⟩
instance : Fld Tryd.prog 7 2 2 4 1 := ⟨⟨_, _, Tryd.underlying7, rfl, rfl, rfl, by kernel_rfl⟩⟩
instance : Fld Tryd.prog 7 3 3 6 1 := ⟨⟨_, _, Tryd.underlying7, rfl, rfl, rfl, by kernel_rfl⟩⟩
instance : Agg Tryd.prog 8 := ⟨fun w => run_isAgg Tryd.underlying8 w⟩
instance : Inf Tryd.prog 8 (.agg #[(.int .i64 0), (.int .i64 0), (.bool false), (.int .u8 0)]) 4 24 := ⟨by kernel_rfl, by kernel_rfl⟩
instance : Str Tryd.prog 8 [(0, 1), (1, 1), (2, 1), (3, 1)] := ⟨⟨_, Tryd.underlying8, by kernel_rfl, by kernel_rfl⟩⟩
instance : Fld Tryd.prog 8 0 0 2 1 := ⟨⟨_, _, Tryd.underlying8, rfl, rfl, rfl, by kernel_rfl⟩⟩
instance : Fld Tryd.prog 8 1 1 3 1 := ⟨⟨_, _, Tryd.underlying8, rfl, rfl, rfl, by kernel_rfl⟩⟩
instance : Fld Tryd.prog 8 2 2 4 1 := ⟨⟨_, _, Tryd.underlying8, rfl, rfl, rfl, by kernel_rfl⟩⟩
instance : Fld Tryd.prog 8 3 3 6 1 := ⟨⟨_, _, Tryd.underlying8, rfl, rfl, rfl, by kernel_rfl⟩⟩
instance : Und Tryd.prog 9 (.string) := ⟨Tryd.underlying9⟩
instance : Inf Tryd.prog 9 (.string ⟨#[]⟩) 1 16 := ⟨by kernel_rfl, by kernel_rfl⟩
instance : Und Tryd.prog 10 (.string) := ⟨Tryd.underlying10⟩
instance : Inf Tryd.prog 10 (.string ⟨#[]⟩) 1 16 := ⟨by kernel_rfl, by kernel_rfl⟩
instance : Und Tryd.prog 11 (.string) := ⟨Tryd.underlying11⟩
instance : Inf Tryd.prog 11 (.string ⟨#[]⟩) 1 16 := ⟨by kernel_rfl, by kernel_rfl⟩
instance : Und Tryd.prog 12 (.int .u64) := ⟨Tryd.underlying12⟩
instance : Inf Tryd.prog 12 (.int .u64 0) 1 8 := ⟨by kernel_rfl, by kernel_rfl⟩
instance : Agg Tryd.prog 13 := ⟨fun w => run_isAgg Tryd.underlying13 w⟩
instance : Inf Tryd.prog 13 (.agg #[(.string ⟨#[]⟩), (.int .u64 0)]) 2 24 := ⟨by kernel_rfl, by kernel_rfl⟩
instance : Str Tryd.prog 13 [(0, 1), (1, 1)] := ⟨⟨_, Tryd.underlying13, by kernel_rfl, by kernel_rfl⟩⟩
instance : Fld Tryd.prog 13 0 0 9 1 := ⟨⟨_, _, Tryd.underlying13, rfl, rfl, rfl, by kernel_rfl⟩⟩
instance : Fld Tryd.prog 13 1 1 12 1 := ⟨⟨_, _, Tryd.underlying13, rfl, rfl, rfl, by kernel_rfl⟩⟩
instance : Agg Tryd.prog 14 := ⟨fun w => run_isAgg Tryd.underlying14 w⟩
instance : Inf Tryd.prog 14 (.agg #[(.string ⟨#[]⟩), (.int .u64 0)]) 2 24 := ⟨by kernel_rfl, by kernel_rfl⟩
instance : Str Tryd.prog 14 [(0, 1), (1, 1)] := ⟨⟨_, Tryd.underlying14, by kernel_rfl, by kernel_rfl⟩⟩
instance : Fld Tryd.prog 14 0 0 9 1 := ⟨⟨_, _, Tryd.underlying14, rfl, rfl, rfl, by kernel_rfl⟩⟩
instance : Fld Tryd.prog 14 1 1 12 1 := ⟨⟨_, _, Tryd.underlying14, rfl, rfl, rfl, by kernel_rfl⟩⟩
instance : Und Tryd.prog 15 (.pointer 150) := ⟨Tryd.underlying15⟩
instance : Inf Tryd.prog 15 (.pointer none) 1 8 := ⟨by kernel_rfl, by kernel_rfl⟩
instance : Und Tryd.prog 16 (.pointer 153) := ⟨Tryd.underlying16⟩
instance : Inf Tryd.prog 16 (.pointer none) 1 8 := ⟨by kernel_rfl, by kernel_rfl⟩
instance : Und Tryd.prog 17 (.pointer 161) := ⟨Tryd.underlying17⟩
instance : Inf Tryd.prog 17 (.pointer none) 1 8 := ⟨by kernel_rfl, by kernel_rfl⟩
instance : Agg Tryd.prog 18 := ⟨fun w => run_isAgg Tryd.underlying18 w⟩
instance : Inf Tryd.prog 18 (.agg #[(.pointer none)]) 1 8 := ⟨by kernel_rfl, by kernel_rfl⟩
instance : Str Tryd.prog 18 [(0, 1)] := ⟨⟨_, Tryd.underlying18, by kernel_rfl, by kernel_rfl⟩⟩
instance : Fld Tryd.prog 18 0 0 17 1 := ⟨⟨_, _, Tryd.underlying18, rfl, rfl, rfl, by kernel_rfl⟩⟩
instance : Agg Tryd.prog 19 := ⟨fun w => run_isAgg Tryd.underlying19 w⟩
instance : Inf Tryd.prog 19 (.agg #[(.pointer none)]) 1 8 := ⟨by kernel_rfl, by kernel_rfl⟩
instance : Str Tryd.prog 19 [(0, 1)] := ⟨⟨_, Tryd.underlying19, by kernel_rfl, by kernel_rfl⟩⟩
instance : Fld Tryd.prog 19 0 0 17 1 := ⟨⟨_, _, Tryd.underlying19, rfl, rfl, rfl, by kernel_rfl⟩⟩
instance : One Tryd.prog 20 := ⟨fun w => run_isAgg Tryd.underlying20 w⟩
instance : Inf Tryd.prog 20 .nilIface 1 16 := ⟨by kernel_rfl, by kernel_rfl⟩
instance : Und Tryd.prog 21 (.int .i32) := ⟨Tryd.underlying21⟩
instance : Inf Tryd.prog 21 (.int .i32 0) 1 4 := ⟨by kernel_rfl, by kernel_rfl⟩
instance : Und Tryd.prog 22 (.slice 38) := ⟨Tryd.underlying22⟩
instance : Inf Tryd.prog 22 (.slice none 0 0) 1 24 := ⟨by kernel_rfl, by kernel_rfl⟩
instance : Und Tryd.prog 23 (.slice 48) := ⟨Tryd.underlying23⟩
instance : Inf Tryd.prog 23 (.slice none 0 0) 1 24 := ⟨by kernel_rfl, by kernel_rfl⟩
instance : One Tryd.prog 25 := ⟨fun w => run_isAgg Tryd.underlying25 w⟩
instance : Inf Tryd.prog 25 .nilFunc 1 8 := ⟨by kernel_rfl, by kernel_rfl⟩
instance : Und Tryd.prog 26 (.pointer 71) := ⟨Tryd.underlying26⟩
instance : Inf Tryd.prog 26 (.pointer none) 1 8 := ⟨by kernel_rfl, by kernel_rfl⟩
instance : Und Tryd.prog 27 (.array 2 26) := ⟨Tryd.underlying27⟩
instance : Inf Tryd.prog 27 (.agg #[(.pointer none), (.pointer none)]) 2 16 := ⟨by kernel_rfl, by kernel_rfl⟩
instance : Und Tryd.prog 28 (.pointer 59) := ⟨Tryd.underlying28⟩
instance : Inf Tryd.prog 28 (.pointer none) 1 8 := ⟨by kernel_rfl, by kernel_rfl⟩
instance : Und Tryd.prog 29 (.int .i64) := ⟨Tryd.underlying29⟩
instance : Inf Tryd.prog 29 (.int .i64 0) 1 8 := ⟨by kernel_rfl, by kernel_rfl⟩
instance : One Tryd.prog 31 := ⟨fun w => run_isAgg Tryd.underlying31 w⟩
instance : Inf Tryd.prog 31 .nilFunc 1 8 := ⟨by kernel_rfl, by kernel_rfl⟩
instance : One Tryd.prog 33 := ⟨fun w => run_isAgg Tryd.underlying33 w⟩
instance : Inf Tryd.prog 33 .nilFunc 1 8 := ⟨by kernel_rfl, by kernel_rfl⟩
instance : One Tryd.prog 34 := ⟨fun w => run_isAgg Tryd.underlying34 w⟩
instance : Inf Tryd.prog 34 .nilFunc 1 8 := ⟨by kernel_rfl, by kernel_rfl⟩
instance : One Tryd.prog 35 := ⟨fun w => run_isAgg Tryd.underlying35 w⟩
instance : Inf Tryd.prog 35 .nilFunc 1 8 := ⟨by kernel_rfl, by kernel_rfl⟩
instance : Und Tryd.prog 36 (.slice 5) := ⟨Tryd.underlying36⟩
instance : Inf Tryd.prog 36 (.slice none 0 0) 1 24 := ⟨by kernel_rfl, by kernel_rfl⟩
instance : Agg Tryd.prog 37 := ⟨fun w => run_isAgg Tryd.underlying37 w⟩
instance : Inf Tryd.prog 37 (.agg #[(.int .i64 0), (.slice none 0 0)]) 2 32 := ⟨by kernel_rfl, by kernel_rfl⟩
instance : Str Tryd.prog 37 [(0, 1), (1, 1)] := ⟨⟨_, Tryd.underlying37, by kernel_rfl, by kernel_rfl⟩⟩
instance : Fld Tryd.prog 37 0 0 3 1 := ⟨⟨_, _, Tryd.underlying37, rfl, rfl, rfl, by kernel_rfl⟩⟩
instance : Fld Tryd.prog 37 1 1 36 1 := ⟨⟨_, _, Tryd.underlying37, rfl, rfl, rfl, by kernel_rfl⟩⟩
instance : Agg Tryd.prog 38 := ⟨fun w => run_isAgg Tryd.underlying38 w⟩
instance : Inf Tryd.prog 38 (.agg #[(.int .i64 0), (.slice none 0 0)]) 2 32 := ⟨by kernel_rfl, by kernel_rfl⟩
instance : Str Tryd.prog 38 [(0, 1), (1, 1)] := ⟨⟨_, Tryd.underlying38, by kernel_rfl, by kernel_rfl⟩⟩
instance : Fld Tryd.prog 38 0 0 3 1 := ⟨⟨_, _, Tryd.underlying38, rfl, rfl, rfl, by kernel_rfl⟩⟩
instance : Fld Tryd.prog 38 1 1 36 1 := ⟨⟨_, _, Tryd.underlying38, rfl, rfl, rfl, by kernel_rfl⟩⟩
instance : One Tryd.prog 39 := ⟨fun w => run_isAgg Tryd.underlying39 w⟩
instance : Inf Tryd.prog 39 .nilFunc 1 8 := ⟨by kernel_rfl, by kernel_rfl⟩
instance : One Tryd.prog 41 := ⟨fun w => run_isAgg Tryd.underlying41 w⟩
instance : Inf Tryd.prog 41 .nilFunc 1 8 := ⟨by kernel_rfl, by kernel_rfl⟩
instance : One Tryd.prog 42 := ⟨fun w => run_isAgg Tryd.underlying42 w⟩
instance : Inf Tryd.prog 42 .nilFunc 1 8 := ⟨by kernel_rfl, by kernel_rfl⟩
instance : One Tryd.prog 43 := ⟨fun w => run_isAgg Tryd.underlying43 w⟩
instance : Inf Tryd.prog 43 .nilFunc 1 8 := ⟨by kernel_rfl, by kernel_rfl⟩
instance : One Tryd.prog 44 := ⟨fun w => run_isAgg Tryd.underlying44 w⟩
instance : Inf Tryd.prog 44 .nilFunc 1 8 := ⟨by kernel_rfl, by kernel_rfl⟩
instance : One Tryd.prog 45 := ⟨fun w => run_isAgg Tryd.underlying45 w⟩
instance : Inf Tryd.prog 45 .nilFunc 1 8 := ⟨by kernel_rfl, by kernel_rfl⟩
instance : One Tryd.prog 46 := ⟨fun w => run_isAgg Tryd.underlying46 w⟩
instance : Inf Tryd.prog 46 .nilFunc 1 8 := ⟨by kernel_rfl, by kernel_rfl⟩
instance : One Tryd.prog 47 := ⟨fun w => run_isAgg Tryd.underlying47 w⟩
instance : Inf Tryd.prog 47 .nilFunc 1 8 := ⟨by kernel_rfl, by kernel_rfl⟩
instance : Agg Tryd.prog 48 := ⟨fun w => run_isAgg Tryd.underlying48 w⟩
instance : Inf Tryd.prog 48 (.agg #[(.int .i64 0), (.slice none 0 0)]) 2 32 := ⟨by kernel_rfl, by kernel_rfl⟩
instance : Str Tryd.prog 48 [(0, 1), (1, 1)] := ⟨⟨_, Tryd.underlying48, by kernel_rfl, by kernel_rfl⟩⟩
instance : Fld Tryd.prog 48 0 0 3 1 := ⟨⟨_, _, Tryd.underlying48, rfl, rfl, rfl, by kernel_rfl⟩⟩
instance : Fld Tryd.prog 48 1 1 36 1 := ⟨⟨_, _, Tryd.underlying48, rfl, rfl, rfl, by kernel_rfl⟩⟩
instance : Und Tryd.prog 49 (.slice 99) := ⟨Tryd.underlying49⟩
instance : Inf Tryd.prog 49 (.slice none 0 0) 1 24 := ⟨by kernel_rfl, by kernel_rfl⟩
instance : Agg Tryd.prog 50 := ⟨fun w => run_isAgg Tryd.underlying50 w⟩
instance : Inf Tryd.prog 50 (.agg #[(.bool false), (.bool false), (.int .i64 0)]) 3 16 := ⟨by kernel_rfl, by kernel_rfl⟩
instance : Str Tryd.prog 50 [(0, 1), (1, 1), (2, 1)] := ⟨⟨_, Tryd.underlying50, by kernel_rfl, by kernel_rfl⟩⟩
instance : Fld Tryd.prog 50 0 0 4 1 := ⟨⟨_, _, Tryd.underlying50, rfl, rfl, rfl, by kernel_rfl⟩⟩
instance : Fld Tryd.prog 50 1 1 4 1 := ⟨⟨_, _, Tryd.underlying50, rfl, rfl, rfl, by kernel_rfl⟩⟩
instance : Fld Tryd.prog 50 2 2 3 1 := ⟨⟨_, _, Tryd.underlying50, rfl, rfl, rfl, by kernel_rfl⟩⟩
instance : Agg Tryd.prog 51 := ⟨fun w => run_isAgg Tryd.underlying51 w⟩
instance : Inf Tryd.prog 51 (.agg #[(.bool false), (.bool false), (.int .i64 0)]) 3 16 := ⟨by kernel_rfl, by kernel_rfl⟩
instance : Str Tryd.prog 51 [(0, 1), (1, 1), (2, 1)] := ⟨⟨_, Tryd.underlying51, by kernel_rfl, by kernel_rfl⟩⟩
instance : Fld Tryd.prog 51 0 0 4 1 := ⟨⟨_, _, Tryd.underlying51, rfl, rfl, rfl, by kernel_rfl⟩⟩
instance : Fld Tryd.prog 51 1 1 4 1 := ⟨⟨_, _, Tryd.underlying51, rfl, rfl, rfl, by kernel_rfl⟩⟩
instance : Fld Tryd.prog 51 2 2 3 1 := ⟨⟨_, _, Tryd.underlying51, rfl, rfl, rfl, by kernel_rfl⟩⟩
instance : Und Tryd.prog 52 (.slice 101) := ⟨Tryd.underlying52⟩
instance : Inf Tryd.prog 52 (.slice none 0 0) 1 24 := ⟨by kernel_rfl, by kernel_rfl⟩
instance : Agg Tryd.prog 53 := ⟨fun w => run_isAgg Tryd.underlying53 w⟩
instance : Inf Tryd.prog 53 (.agg #[]) 0 0 := ⟨by kernel_rfl, by kernel_rfl⟩
instance : Str Tryd.prog 53 [] := ⟨⟨_, Tryd.underlying53, by kernel_rfl, by kernel_rfl⟩⟩
instance : Agg Tryd.prog 54 := ⟨fun w => run_isAgg Tryd.underlying54 w⟩
instance : Inf Tryd.prog 54 (.agg #[]) 0 0 := ⟨by kernel_rfl, by kernel_rfl⟩
instance : Str Tryd.prog 54 [] := ⟨⟨_, Tryd.underlying54, by kernel_rfl, by kernel_rfl⟩⟩
instance : Agg Tryd.prog 55 := ⟨fun w => run_isAgg Tryd.underlying55 w⟩
instance : Inf Tryd.prog 55 (.agg #[]) 0 0 := ⟨by kernel_rfl, by kernel_rfl⟩
instance : Str Tryd.prog 55 [] := ⟨⟨_, Tryd.underlying55, by kernel_rfl, by kernel_rfl⟩⟩
instance : Agg Tryd.prog 56 := ⟨fun w => run_isAgg Tryd.underlying56 w⟩
instance : Inf Tryd.prog 56 (.agg #[(.int .i64 0)]) 1 8 := ⟨by kernel_rfl, by kernel_rfl⟩
instance : Str Tryd.prog 56 [(0, 0), (0, 0), (0, 1)] := ⟨⟨_, Tryd.underlying56, by kernel_rfl, by kernel_rfl⟩⟩
instance : Fld Tryd.prog 56 2 0 2 1 := ⟨⟨_, _, Tryd.underlying56, rfl, rfl, rfl, by kernel_rfl⟩⟩
instance : Agg Tryd.prog 57 := ⟨fun w => run_isAgg Tryd.underlying57 w⟩
instance : Inf Tryd.prog 57 (.agg #[(.int .i64 0)]) 1 8 := ⟨by kernel_rfl, by kernel_rfl⟩
instance : Str Tryd.prog 57 [(0, 0), (0, 0), (0, 1)] := ⟨⟨_, Tryd.underlying57, by kernel_rfl, by kernel_rfl⟩⟩
instance : Fld Tryd.prog 57 2 0 2 1 := ⟨⟨_, _, Tryd.underlying57, rfl, rfl, rfl, by kernel_rfl⟩⟩
instance : Agg Tryd.prog 58 := ⟨fun w => run_isAgg Tryd.underlying58 w⟩
instance : Inf Tryd.prog 58 (.agg #[(.bool false), (.bool false), (.int .i64 0), (.slice none 0 0), (.slice none 0 0), (.int .i64 0), (.int .i64 0)]) 7 80 := ⟨by kernel_rfl, by kernel_rfl⟩
instance : Str Tryd.prog 58 [(0, 3), (3, 1), (4, 1), (5, 1), (6, 1)] := ⟨⟨_, Tryd.underlying58, by kernel_rfl, by kernel_rfl⟩⟩
instance : Fld Tryd.prog 58 0 0 51 3 := ⟨⟨_, _, Tryd.underlying58, rfl, rfl, rfl, by kernel_rfl⟩⟩
instance : Fld Tryd.prog 58 1 3 49 1 := ⟨⟨_, _, Tryd.underlying58, rfl, rfl, rfl, by kernel_rfl⟩⟩
instance : Fld Tryd.prog 58 2 4 52 1 := ⟨⟨_, _, Tryd.underlying58, rfl, rfl, rfl, by kernel_rfl⟩⟩
instance : Fld Tryd.prog 58 3 5 57 1 := ⟨⟨_, _, Tryd.underlying58, rfl, rfl, rfl, by kernel_rfl⟩⟩
instance : Fld Tryd.prog 58 4 6 57 1 := ⟨⟨_, _, Tryd.underlying58, rfl, rfl, rfl, by kernel_rfl⟩⟩
instance : Agg Tryd.prog 59 := ⟨fun w => run_isAgg Tryd.underlying59 w⟩
instance : Inf Tryd.prog 59 (.agg #[(.bool false), (.bool false), (.int .i64 0), (.slice none 0 0), (.slice none 0 0), (.int .i64 0), (.int .i64 0)]) 7 80 := ⟨by kernel_rfl, by kernel_rfl⟩
instance : Str Tryd.prog 59 [(0, 3), (3, 1), (4, 1), (5, 1), (6, 1)] := ⟨⟨_, Tryd.underlying59, by kernel_rfl, by kernel_rfl⟩⟩
instance : Fld Tryd.prog 59 0 0 51 3 := ⟨⟨_, _, Tryd.underlying59, rfl, rfl, rfl, by kernel_rfl⟩⟩
instance : Fld Tryd.prog 59 1 3 49 1 := ⟨⟨_, _, Tryd.underlying59, rfl, rfl, rfl, by kernel_rfl⟩⟩
instance : Fld Tryd.prog 59 2 4 52 1 := ⟨⟨_, _, Tryd.underlying59, rfl, rfl, rfl, by kernel_rfl⟩⟩
instance : Fld Tryd.prog 59 3 5 57 1 := ⟨⟨_, _, Tryd.underlying59, rfl, rfl, rfl, by kernel_rfl⟩⟩
instance : Fld Tryd.prog 59 4 6 57 1 := ⟨⟨_, _, Tryd.underlying59, rfl, rfl, rfl, by kernel_rfl⟩⟩
instance : Agg Tryd.prog 60 := ⟨fun w => run_isAgg Tryd.underlying60 w⟩
instance : Inf Tryd.prog 60 (.agg #[]) 0 0 := ⟨by kernel_rfl, by kernel_rfl⟩
instance : Str Tryd.prog 60 [] := ⟨⟨_, Tryd.underlying60, by kernel_rfl, by kernel_rfl⟩⟩
instance : Und Tryd.prog 61 (.int .u32) := ⟨Tryd.underlying61⟩
instance : Inf Tryd.prog 61 (.int .u32 0) 1 4 := ⟨by kernel_rfl, by kernel_rfl⟩
instance : Agg Tryd.prog 62 := ⟨fun w => run_isAgg Tryd.underlying62 w⟩
instance : Inf Tryd.prog 62 (.agg #[(.int .u32 0)]) 1 4 := ⟨by kernel_rfl, by kernel_rfl⟩
instance : Str Tryd.prog 62 [(0, 0), (0, 1)] := ⟨⟨_, Tryd.underlying62, by kernel_rfl, by kernel_rfl⟩⟩
instance : Fld Tryd.prog 62 1 0 61 1 := ⟨⟨_, _, Tryd.underlying62, rfl, rfl, rfl, by kernel_rfl⟩⟩
instance : Agg Tryd.prog 63 := ⟨fun w => run_isAgg Tryd.underlying63 w⟩
instance : Inf Tryd.prog 63 (.agg #[(.int .u32 0)]) 1 4 := ⟨by kernel_rfl, by kernel_rfl⟩
instance : Str Tryd.prog 63 [(0, 0), (0, 1)] := ⟨⟨_, Tryd.underlying63, by kernel_rfl, by kernel_rfl⟩⟩
instance : Fld Tryd.prog 63 1 0 61 1 := ⟨⟨_, _, Tryd.underlying63, rfl, rfl, rfl, by kernel_rfl⟩⟩
instance : Agg Tryd.prog 64 := ⟨fun w => run_isAgg Tryd.underlying64 w⟩
instance : Inf Tryd.prog 64 (.agg #[(.int .i32 0), (.int .u32 0)]) 2 8 := ⟨by kernel_rfl, by kernel_rfl⟩
instance : Str Tryd.prog 64 [(0, 1), (1, 1)] := ⟨⟨_, Tryd.underlying64, by kernel_rfl, by kernel_rfl⟩⟩
instance : Fld Tryd.prog 64 0 0 21 1 := ⟨⟨_, _, Tryd.underlying64, rfl, rfl, rfl, by kernel_rfl⟩⟩
instance : Fld Tryd.prog 64 1 1 61 1 := ⟨⟨_, _, Tryd.underlying64, rfl, rfl, rfl, by kernel_rfl⟩⟩
instance : Agg Tryd.prog 65 := ⟨fun w => run_isAgg Tryd.underlying65 w⟩
instance : Inf Tryd.prog 65 (.agg #[(.int .i32 0), (.int .u32 0)]) 2 8 := ⟨by kernel_rfl, by kernel_rfl⟩
instance : Str Tryd.prog 65 [(0, 1), (1, 1)] := ⟨⟨_, Tryd.underlying65, by kernel_rfl, by kernel_rfl⟩⟩
instance : Fld Tryd.prog 65 0 0 21 1 := ⟨⟨_, _, Tryd.underlying65, rfl, rfl, rfl, by kernel_rfl⟩⟩
instance : Fld Tryd.prog 65 1 1 61 1 := ⟨⟨_, _, Tryd.underlying65, rfl, rfl, rfl, by kernel_rfl⟩⟩
instance : Agg Tryd.prog 66 := ⟨fun w => run_isAgg Tryd.underlying66 w⟩
instance : Inf Tryd.prog 66 (.agg #[(.int .i32 0), (.int .u32 0)]) 2 8 := ⟨by kernel_rfl, by kernel_rfl⟩
instance : Str Tryd.prog 66 [(0, 0), (0, 2)] := ⟨⟨_, Tryd.underlying66, by kernel_rfl, by kernel_rfl⟩⟩
instance : Fld Tryd.prog 66 1 0 65 2 := ⟨⟨_, _, Tryd.underlying66, rfl, rfl, rfl, by kernel_rfl⟩⟩
instance : Agg Tryd.prog 67 := ⟨fun w => run_isAgg Tryd.underlying67 w⟩
instance : Inf Tryd.prog 67 (.agg #[(.int .i32 0), (.int .u32 0)]) 2 8 := ⟨by kernel_rfl, by kernel_rfl⟩
instance : Str Tryd.prog 67 [(0, 0), (0, 2)] := ⟨⟨_, Tryd.underlying67, by kernel_rfl, by kernel_rfl⟩⟩
instance : Fld Tryd.prog 67 1 0 65 2 := ⟨⟨_, _, Tryd.underlying67, rfl, rfl, rfl, by kernel_rfl⟩⟩
instance : Agg Tryd.prog 68 := ⟨fun w => run_isAgg Tryd.underlying68 w⟩
instance : Inf Tryd.prog 68 (.agg #[(.int .u32 0), (.int .i32 0), (.int .u32 0)]) 3 12 := ⟨by kernel_rfl, by kernel_rfl⟩
instance : Str Tryd.prog 68 [(0, 0), (0, 1), (1, 2)] := ⟨⟨_, Tryd.underlying68, by kernel_rfl, by kernel_rfl⟩⟩
instance : Fld Tryd.prog 68 1 0 63 1 := ⟨⟨_, _, Tryd.underlying68, rfl, rfl, rfl, by kernel_rfl⟩⟩
instance : Fld Tryd.prog 68 2 1 67 2 := ⟨⟨_, _, Tryd.underlying68, rfl, rfl, rfl, by kernel_rfl⟩⟩
instance : Agg Tryd.prog 69 := ⟨fun w => run_isAgg Tryd.underlying69 w⟩
instance : Inf Tryd.prog 69 (.agg #[(.int .u32 0), (.int .i32 0), (.int .u32 0)]) 3 12 := ⟨by kernel_rfl, by kernel_rfl⟩
instance : Str Tryd.prog 69 [(0, 0), (0, 1), (1, 2)] := ⟨⟨_, Tryd.underlying69, by kernel_rfl, by kernel_rfl⟩⟩
instance : Fld Tryd.prog 69 1 0 63 1 := ⟨⟨_, _, Tryd.underlying69, rfl, rfl, rfl, by kernel_rfl⟩⟩
instance : Fld Tryd.prog 69 2 1 67 2 := ⟨⟨_, _, Tryd.underlying69, rfl, rfl, rfl, by kernel_rfl⟩⟩
instance : Agg Tryd.prog 70 := ⟨fun w => run_isAgg Tryd.underlying70 w⟩
instance : Inf Tryd.prog 70 (.agg #[(.pointer none), (.int .u32 0), (.int .i32 0), (.int .u32 0), (.int .i64 0), (.int .i64 0), (.bool false)]) 7 48 := ⟨by kernel_rfl, by kernel_rfl⟩
instance : Str Tryd.prog 70 [(0, 1), (1, 3), (4, 1), (5, 1), (6, 1)] := ⟨⟨_, Tryd.underlying70, by kernel_rfl, by kernel_rfl⟩⟩
instance : Fld Tryd.prog 70 0 0 28 1 := ⟨⟨_, _, Tryd.underlying70, rfl, rfl, rfl, by kernel_rfl⟩⟩
instance : Fld Tryd.prog 70 1 1 69 3 := ⟨⟨_, _, Tryd.underlying70, rfl, rfl, rfl, by kernel_rfl⟩⟩
instance : Fld Tryd.prog 70 2 4 3 1 := ⟨⟨_, _, Tryd.underlying70, rfl, rfl, rfl, by kernel_rfl⟩⟩
instance : Fld Tryd.prog 70 3 5 3 1 := ⟨⟨_, _, Tryd.underlying70, rfl, rfl, rfl, by kernel_rfl⟩⟩
instance : Fld Tryd.prog 70 4 6 4 1 := ⟨⟨_, _, Tryd.underlying70, rfl, rfl, rfl, by kernel_rfl⟩⟩
instance : Agg Tryd.prog 71 := ⟨fun w => run_isAgg Tryd.underlying71 w⟩
instance : Inf Tryd.prog 71 (.agg #[(.pointer none), (.int .u32 0), (.int .i32 0), (.int .u32 0), (.int .i64 0), (.int .i64 0), (.bool false)]) 7 48 := ⟨by kernel_rfl, by kernel_rfl⟩
instance : Str Tryd.prog 71 [(0, 1), (1, 3), (4, 1), (5, 1), (6, 1)] := ⟨⟨_, Tryd.underlying71, by kernel_rfl, by kernel_rfl⟩⟩
instance : Fld Tryd.prog 71 0 0 28 1 := ⟨⟨_, _, Tryd.underlying71, rfl, rfl, rfl, by kernel_rfl⟩⟩
instance : Fld Tryd.prog 71 1 1 69 3 := ⟨⟨_, _, Tryd.underlying71, rfl, rfl, rfl, by kernel_rfl⟩⟩
instance : Fld Tryd.prog 71 2 4 3 1 := ⟨⟨_, _, Tryd.underlying71, rfl, rfl, rfl, by kernel_rfl⟩⟩
instance : Fld Tryd.prog 71 3 5 3 1 := ⟨⟨_, _, Tryd.underlying71, rfl, rfl, rfl, by kernel_rfl⟩⟩
instance : Fld Tryd.prog 71 4 6 4 1 := ⟨⟨_, _, Tryd.underlying71, rfl, rfl, rfl, by kernel_rfl⟩⟩
instance : One Tryd.prog 72 := ⟨fun w => run_isAgg Tryd.underlying72 w⟩
instance : Inf Tryd.prog 72 .nilFunc 1 8 := ⟨by kernel_rfl, by kernel_rfl⟩
instance : One Tryd.prog 73 := ⟨fun w => run_isAgg Tryd.underlying73 w⟩
instance : Inf Tryd.prog 73 .nilFunc 1 8 := ⟨by kernel_rfl, by kernel_rfl⟩
instance : One Tryd.prog 74 := ⟨fun w => run_isAgg Tryd.underlying74 w⟩
instance : Inf Tryd.prog 74 .nilFunc 1 8 := ⟨by kernel_rfl, by kernel_rfl⟩
instance : Und Tryd.prog 75 (.pointer 77) := ⟨Tryd.underlying75⟩
instance : Inf Tryd.prog 75 (.pointer none) 1 8 := ⟨by kernel_rfl, by kernel_rfl⟩
instance : Agg Tryd.prog 76 := ⟨fun w => run_isAgg Tryd.underlying76 w⟩
instance : Inf Tryd.prog 76 (.agg #[(.pointer none), (.int .i64 0)]) 2 16 := ⟨by kernel_rfl, by kernel_rfl⟩
instance : Str Tryd.prog 76 [(0, 1), (1, 1)] := ⟨⟨_, Tryd.underlying76, by kernel_rfl, by kernel_rfl⟩⟩
instance : Fld Tryd.prog 76 0 0 28 1 := ⟨⟨_, _, Tryd.underlying76, rfl, rfl, rfl, by kernel_rfl⟩⟩
instance : Fld Tryd.prog 76 1 1 29 1 := ⟨⟨_, _, Tryd.underlying76, rfl, rfl, rfl, by kernel_rfl⟩⟩
instance : Agg Tryd.prog 77 := ⟨fun w => run_isAgg Tryd.underlying77 w⟩
instance : Inf Tryd.prog 77 (.agg #[(.pointer none), (.int .i64 0)]) 2 16 := ⟨by kernel_rfl, by kernel_rfl⟩
instance : Str Tryd.prog 77 [(0, 1), (1, 1)] := ⟨⟨_, Tryd.underlying77, by kernel_rfl, by kernel_rfl⟩⟩
instance : Fld Tryd.prog 77 0 0 28 1 := ⟨⟨_, _, Tryd.underlying77, rfl, rfl, rfl, by kernel_rfl⟩⟩
instance : Fld Tryd.prog 77 1 1 29 1 := ⟨⟨_, _, Tryd.underlying77, rfl, rfl, rfl, by kernel_rfl⟩⟩
instance : Und Tryd.prog 78 (.array 32 5) := ⟨Tryd.underlying78⟩
instance : Inf Tryd.prog 78 (.agg (List.replicate 32 (.int .u8 0)).toArray) 32 32 := ⟨by kernel_rfl, by kernel_rfl⟩
instance : One Tryd.prog 79 := ⟨fun w => run_isAgg Tryd.underlying79 w⟩
instance : Inf Tryd.prog 79 .nilFunc 1 8 := ⟨by kernel_rfl, by kernel_rfl⟩
instance : One Tryd.prog 80 := ⟨fun w => run_isAgg Tryd.underlying80 w⟩
instance : Inf Tryd.prog 80 .nilFunc 1 8 := ⟨by kernel_rfl, by kernel_rfl⟩
instance : One Tryd.prog 81 := ⟨fun w => run_isAgg Tryd.underlying81 w⟩
instance : Inf Tryd.prog 81 .nilFunc 1 8 := ⟨by kernel_rfl, by kernel_rfl⟩
instance : One Tryd.prog 82 := ⟨fun w => run_isAgg Tryd.underlying82 w⟩
instance : Inf Tryd.prog 82 .nilFunc 1 8 := ⟨by kernel_rfl, by kernel_rfl⟩
instance : Und Tryd.prog 83 (.pointer 69) := ⟨Tryd.underlying83⟩
instance : Inf Tryd.prog 83 (.pointer none) 1 8 := ⟨by kernel_rfl, by kernel_rfl⟩
instance : One Tryd.prog 85 := ⟨fun w => run_isAgg Tryd.underlying85 w⟩
instance : Inf Tryd.prog 85 .nilFunc 1 8 := ⟨by kernel_rfl, by kernel_rfl⟩
instance : One Tryd.prog 86 := ⟨fun w => run_isAgg Tryd.underlying86 w⟩
instance : Inf Tryd.prog 86 .nilFunc 1 8 := ⟨by kernel_rfl, by kernel_rfl⟩
instance : One Tryd.prog 87 := ⟨fun w => run_isAgg Tryd.underlying87 w⟩
instance : Inf Tryd.prog 87 .nilFunc 1 8 := ⟨by kernel_rfl, by kernel_rfl⟩
instance : Und Tryd.prog 88 (.map 3 4) := ⟨Tryd.underlying88⟩
instance : Inf Tryd.prog 88 (.map none) 1 8 := ⟨by kernel_rfl, by kernel_rfl⟩
instance : One Tryd.prog 89 := ⟨fun w => run_isAgg Tryd.underlying89 w⟩
instance : Inf Tryd.prog 89 .nilFunc 1 8 := ⟨by kernel_rfl, by kernel_rfl⟩
instance : Und Tryd.prog 90 (.slice 36) := ⟨Tryd.underlying90⟩
instance : Inf Tryd.prog 90 (.slice none 0 0) 1 24 := ⟨by kernel_rfl, by kernel_rfl⟩
instance : One Tryd.prog 91 := ⟨fun w => run_isAgg Tryd.underlying91 w⟩
instance : Inf Tryd.prog 91 .nilFunc 1 8 := ⟨by kernel_rfl, by kernel_rfl⟩
instance : One Tryd.prog 92 := ⟨fun w => run_isAgg Tryd.underlying92 w⟩
instance : Inf Tryd.prog 92 .nilFunc 1 8 := ⟨by kernel_rfl, by kernel_rfl⟩
instance : One Tryd.prog 93 := ⟨fun w => run_isAgg Tryd.underlying93 w⟩
instance : Inf Tryd.prog 93 .nilFunc 1 8 := ⟨by kernel_rfl, by kernel_rfl⟩
instance : One Tryd.prog 94 := ⟨fun w => run_isAgg Tryd.underlying94 w⟩
instance : Inf Tryd.prog 94 .nilFunc 1 8 := ⟨by kernel_rfl, by kernel_rfl⟩
instance : One Tryd.prog 95 := ⟨fun w => run_isAgg Tryd.underlying95 w⟩
instance : Inf Tryd.prog 95 .nilFunc 1 8 := ⟨by kernel_rfl, by kernel_rfl⟩
instance : One Tryd.prog 96 := ⟨fun w => run_isAgg Tryd.underlying96 w⟩
instance : Inf Tryd.prog 96 .nilFunc 1 8 := ⟨by kernel_rfl, by kernel_rfl⟩
instance : One Tryd.prog 97 := ⟨fun w => run_isAgg Tryd.underlying97 w⟩
instance : Inf Tryd.prog 97 .nilFunc 1 8 := ⟨by kernel_rfl, by kernel_rfl⟩
instance : Und Tryd.prog 98 (.array 64 5) := ⟨Tryd.underlying98⟩
instance : Inf Tryd.prog 98 (.agg (List.replicate 64 (.int .u8 0)).toArray) 64 64 := ⟨by kernel_rfl, by kernel_rfl⟩
instance : Und Tryd.prog 99 (.array 64 5) := ⟨Tryd.underlying99⟩
instance : Inf Tryd.prog 99 (.agg (List.replicate 64 (.int .u8 0)).toArray) 64 64 := ⟨by kernel_rfl, by kernel_rfl⟩
instance : Agg Tryd.prog 100 := ⟨fun w => run_isAgg Tryd.underlying100 w⟩
instance : Inf Tryd.prog 100 (.agg ((.int .i64 0) :: (List.replicate 64 (.int .u8 0))).toArray) 65 72 := ⟨by kernel_rfl, by kernel_rfl⟩
instance : Str Tryd.prog 100 [(0, 1), (1, 64)] := ⟨⟨_, Tryd.underlying100, by kernel_rfl, by kernel_rfl⟩⟩
instance : Fld Tryd.prog 100 0 0 3 1 := ⟨⟨_, _, Tryd.underlying100, rfl, rfl, rfl, by kernel_rfl⟩⟩
instance : Fld Tryd.prog 100 1 1 99 64 := ⟨⟨_, _, Tryd.underlying100, rfl, rfl, rfl, by kernel_rfl⟩⟩
instance : Agg Tryd.prog 101 := ⟨fun w => run_isAgg Tryd.underlying101 w⟩
instance : Inf Tryd.prog 101 (.agg ((.int .i64 0) :: (List.replicate 64 (.int .u8 0))).toArray) 65 72 := ⟨by kernel_rfl, by kernel_rfl⟩
instance : Str Tryd.prog 101 [(0, 1), (1, 64)] := ⟨⟨_, Tryd.underlying101, by kernel_rfl, by kernel_rfl⟩⟩
instance : Fld Tryd.prog 101 0 0 3 1 := ⟨⟨_, _, Tryd.underlying101, rfl, rfl, rfl, by kernel_rfl⟩⟩
instance : Fld Tryd.prog 101 1 1 99 64 := ⟨⟨_, _, Tryd.underlying101, rfl, rfl, rfl, by kernel_rfl⟩⟩
instance : Und Tryd.prog 102 (.pointer 63) := ⟨Tryd.underlying102⟩
instance : Inf Tryd.prog 102 (.pointer none) 1 8 := ⟨by kernel_rfl, by kernel_rfl⟩
instance : One Tryd.prog 103 := ⟨fun w => run_isAgg Tryd.underlying103 w⟩
instance : Inf Tryd.prog 103 .nilFunc 1 8 := ⟨by kernel_rfl, by kernel_rfl⟩
instance : Und Tryd.prog 104 (.pointer 61) := ⟨Tryd.underlying104⟩
instance : Inf Tryd.prog 104 (.pointer none) 1 8 := ⟨by kernel_rfl, by kernel_rfl⟩
instance : One Tryd.prog 105 := ⟨fun w => run_isAgg Tryd.underlying105 w⟩
instance : Inf Tryd.prog 105 .nilFunc 1 8 := ⟨by kernel_rfl, by kernel_rfl⟩
instance : One Tryd.prog 106 := ⟨fun w => run_isAgg Tryd.underlying106 w⟩
instance : Inf Tryd.prog 106 .nilFunc 1 8 := ⟨by kernel_rfl, by kernel_rfl⟩
instance : One Tryd.prog 108 := ⟨fun w => run_isAgg Tryd.underlying108 w⟩
instance : Inf Tryd.prog 108 .nilFunc 1 8 := ⟨by kernel_rfl, by kernel_rfl⟩
instance : Und Tryd.prog 109 (.int .u64) := ⟨Tryd.underlying109⟩
instance : Inf Tryd.prog 109 (.int .u64 0) 1 8 := ⟨by kernel_rfl, by kernel_rfl⟩
instance : Und Tryd.prog 110 (.pointer 114) := ⟨Tryd.underlying110⟩
instance : Inf Tryd.prog 110 (.pointer none) 1 8 := ⟨by kernel_rfl, by kernel_rfl⟩
instance : Und Tryd.prog 111 (.array 8 61) := ⟨Tryd.underlying111⟩
instance : Inf Tryd.prog 111 (.agg #[(.int .u32 0), (.int .u32 0), (.int .u32 0), (.int .u32 0), (.int .u32 0), (.int .u32 0), (.int .u32 0), (.int .u32 0)]) 8 32 := ⟨by kernel_rfl, by kernel_rfl⟩
instance : Und Tryd.prog 112 (.array 8 61) := ⟨Tryd.underlying112⟩
instance : Inf Tryd.prog 112 (.agg #[(.int .u32 0), (.int .u32 0), (.int .u32 0), (.int .u32 0), (.int .u32 0), (.int .u32 0), (.int .u32 0), (.int .u32 0)]) 8 32 := ⟨by kernel_rfl, by kernel_rfl⟩
instance : Agg Tryd.prog 113 := ⟨fun w => run_isAgg Tryd.underlying113 w⟩
instance : Inf Tryd.prog 113 (.agg ((.int .u32 0) :: (.int .u32 0) :: (.int .u32 0) :: (.int .u32 0) :: (.int .u32 0) :: (.int .u32 0) :: (.int .u32 0) :: (.int .u32 0) :: (List.replicate 64 (.int .u8 0) ++ ([(.int .i64 0)]))).toArray) 73 104 := ⟨by kernel_rfl, by kernel_rfl⟩
instance : Str Tryd.prog 113 [(0, 8), (8, 64), (72, 1)] := ⟨⟨_, Tryd.underlying113, by kernel_rfl, by kernel_rfl⟩⟩
instance : Fld Tryd.prog 113 0 0 112 8 := ⟨⟨_, _, Tryd.underlying113, rfl, rfl, rfl, by kernel_rfl⟩⟩
instance : Fld Tryd.prog 113 1 8 98 64 := ⟨⟨_, _, Tryd.underlying113, rfl, rfl, rfl, by kernel_rfl⟩⟩
instance : Fld Tryd.prog 113 2 72 3 1 := ⟨⟨_, _, Tryd.underlying113, rfl, rfl, rfl, by kernel_rfl⟩⟩
instance : Agg Tryd.prog 114 := ⟨fun w => run_isAgg Tryd.underlying114 w⟩
instance : Inf Tryd.prog 114 (.agg ((.int .u32 0) :: (.int .u32 0) :: (.int .u32 0) :: (.int .u32 0) :: (.int .u32 0) :: (.int .u32 0) :: (.int .u32 0) :: (.int .u32 0) :: (List.replicate 64 (.int .u8 0) ++ ([(.int .i64 0)]))).toArray) 73 104 := ⟨by kernel_rfl, by kernel_rfl⟩
instance : Str Tryd.prog 114 [(0, 8), (8, 64), (72, 1)] := ⟨⟨_, Tryd.underlying114, by kernel_rfl, by kernel_rfl⟩⟩
instance : Fld Tryd.prog 114 0 0 112 8 := ⟨⟨_, _, Tryd.underlying114, rfl, rfl, rfl, by kernel_rfl⟩⟩
instance : Fld Tryd.prog 114 1 8 98 64 := ⟨⟨_, _, Tryd.underlying114, rfl, rfl, rfl, by kernel_rfl⟩⟩
instance : Fld Tryd.prog 114 2 72 3 1 := ⟨⟨_, _, Tryd.underlying114, rfl, rfl, rfl, by kernel_rfl⟩⟩
instance : Und Tryd.prog 115 (.array 4 5) := ⟨Tryd.underlying115⟩
instance : Inf Tryd.prog 115 (.agg #[(.int .u8 0), (.int .u8 0), (.int .u8 0), (.int .u8 0)]) 4 4 := ⟨by kernel_rfl, by kernel_rfl⟩
instance : One Tryd.prog 116 := ⟨fun w => run_isAgg Tryd.underlying116 w⟩
instance : Inf Tryd.prog 116 .nilFunc 1 8 := ⟨by kernel_rfl, by kernel_rfl⟩
instance : One Tryd.prog 117 := ⟨fun w => run_isAgg Tryd.underlying117 w⟩
instance : Inf Tryd.prog 117 .nilFunc 1 8 := ⟨by kernel_rfl, by kernel_rfl⟩
instance : One Tryd.prog 118 := ⟨fun w => run_isAgg Tryd.underlying118 w⟩
instance : Inf Tryd.prog 118 .nilFunc 1 8 := ⟨by kernel_rfl, by kernel_rfl⟩
instance : One Tryd.prog 119 := ⟨fun w => run_isAgg Tryd.underlying119 w⟩
instance : Inf Tryd.prog 119 .nilFunc 1 8 := ⟨by kernel_rfl, by kernel_rfl⟩
instance : One Tryd.prog 120 := ⟨fun w => run_isAgg Tryd.underlying120 w⟩
instance : Inf Tryd.prog 120 .nilFunc 1 8 := ⟨by kernel_rfl, by kernel_rfl⟩
instance : One Tryd.prog 121 := ⟨fun w => run_isAgg Tryd.underlying121 w⟩
instance : Inf Tryd.prog 121 .nilFunc 1 8 := ⟨by kernel_rfl, by kernel_rfl⟩
instance : Und Tryd.prog 122 (.pointer 67) := ⟨Tryd.underlying122⟩
instance : Inf Tryd.prog 122 (.pointer none) 1 8 := ⟨by kernel_rfl, by kernel_rfl⟩
instance : One Tryd.prog 123 := ⟨fun w => run_isAgg Tryd.underlying123 w⟩
instance : Inf Tryd.prog 123 .nilFunc 1 8 := ⟨by kernel_rfl, by kernel_rfl⟩
instance : One Tryd.prog 124 := ⟨fun w => run_isAgg Tryd.underlying124 w⟩
instance : Inf Tryd.prog 124 .nilFunc 1 8 := ⟨by kernel_rfl, by kernel_rfl⟩
instance : Und Tryd.prog 125 (.int .u64) := ⟨Tryd.underlying125⟩
instance : Inf Tryd.prog 125 (.int .u64 0) 1 8 := ⟨by kernel_rfl, by kernel_rfl⟩
instance : One Tryd.prog 126 := ⟨fun w => run_isAgg Tryd.underlying126 w⟩
instance : Inf Tryd.prog 126 .nilFunc 1 8 := ⟨by kernel_rfl, by kernel_rfl⟩
instance : One Tryd.prog 127 := ⟨fun w => run_isAgg Tryd.underlying127 w⟩
instance : Inf Tryd.prog 127 .nilFunc 1 8 := ⟨by kernel_rfl, by kernel_rfl⟩
instance : Und Tryd.prog 128 (.pointer 51) := ⟨Tryd.underlying128⟩
instance : Inf Tryd.prog 128 (.pointer none) 1 8 := ⟨by kernel_rfl, by kernel_rfl⟩
instance : Und Tryd.prog 129 (.pointer 57) := ⟨Tryd.underlying129⟩
instance : Inf Tryd.prog 129 (.pointer none) 1 8 := ⟨by kernel_rfl, by kernel_rfl⟩
instance : One Tryd.prog 130 := ⟨fun w => run_isAgg Tryd.underlying130 w⟩
instance : Inf Tryd.prog 130 .nilFunc 1 8 := ⟨by kernel_rfl, by kernel_rfl⟩
instance : Und Tryd.prog 131 (.pointer 2) := ⟨Tryd.underlying131⟩
instance : Inf Tryd.prog 131 (.pointer none) 1 8 := ⟨by kernel_rfl, by kernel_rfl⟩
instance : Und Tryd.prog 132 (.pointer 65) := ⟨Tryd.underlying132⟩
instance : Inf Tryd.prog 132 (.pointer none) 1 8 := ⟨by kernel_rfl, by kernel_rfl⟩
instance : One Tryd.prog 133 := ⟨fun w => run_isAgg Tryd.underlying133 w⟩
instance : Inf Tryd.prog 133 .nilFunc 1 8 := ⟨by kernel_rfl, by kernel_rfl⟩
instance : Und Tryd.prog 134 (.pointer 21) := ⟨Tryd.underlying134⟩
instance : Inf Tryd.prog 134 (.pointer none) 1 8 := ⟨by kernel_rfl, by kernel_rfl⟩
instance : One Tryd.prog 135 := ⟨fun w => run_isAgg Tryd.underlying135 w⟩
instance : Inf Tryd.prog 135 .nilFunc 1 8 := ⟨by kernel_rfl, by kernel_rfl⟩
instance : One Tryd.prog 136 := ⟨fun w => run_isAgg Tryd.underlying136 w⟩
instance : Inf Tryd.prog 136 (.pointer none) 1 8 := ⟨by kernel_rfl, by kernel_rfl⟩
instance : One Tryd.prog 137 := ⟨fun w => run_isAgg Tryd.underlying137 w⟩
instance : Inf Tryd.prog 137 .nilFunc 1 8 := ⟨by kernel_rfl, by kernel_rfl⟩
instance : One Tryd.prog 138 := ⟨fun w => run_isAgg Tryd.underlying138 w⟩
instance : Inf Tryd.prog 138 .nilFunc 1 8 := ⟨by kernel_rfl, by kernel_rfl⟩
instance : One Tryd.prog 139 := ⟨fun w => run_isAgg Tryd.underlying139 w⟩
instance : Inf Tryd.prog 139 .nilFunc 1 8 := ⟨by kernel_rfl, by kernel_rfl⟩
instance : Und Tryd.prog 140 (.pointer 112) := ⟨Tryd.underlying140⟩
instance : Inf Tryd.prog 140 (.pointer none) 1 8 := ⟨by kernel_rfl, by kernel_rfl⟩
instance : One Tryd.prog 141 := ⟨fun w => run_isAgg Tryd.underlying141 w⟩
instance : Inf Tryd.prog 141 .nilFunc 1 8 := ⟨by kernel_rfl, by kernel_rfl⟩
instance : One Tryd.prog 142 := ⟨fun w => run_isAgg Tryd.underlying142 w⟩
instance : Inf Tryd.prog 142 .nilFunc 1 8 := ⟨by kernel_rfl, by kernel_rfl⟩
instance : One Tryd.prog 143 := ⟨fun w => run_isAgg Tryd.underlying143 w⟩
instance : Inf Tryd.prog 143 .nilFunc 1 8 := ⟨by kernel_rfl, by kernel_rfl⟩
instance : Und Tryd.prog 144 (.array 64 61) := ⟨Tryd.underlying144⟩
instance : Inf Tryd.prog 144 (.agg (List.replicate 64 (.int .u32 0)).toArray) 64 256 := ⟨by kernel_rfl, by kernel_rfl⟩
instance : One Tryd.prog 145 := ⟨fun w => run_isAgg Tryd.underlying145 w⟩
instance : Inf Tryd.prog 145 .nilFunc 1 8 := ⟨by kernel_rfl, by kernel_rfl⟩
instance : One Tryd.prog 146 := ⟨fun w => run_isAgg Tryd.underlying146 w⟩
instance : Inf Tryd.prog 146 .nilFunc 1 8 := ⟨by kernel_rfl, by kernel_rfl⟩
instance : One Tryd.prog 147 := ⟨fun w => run_isAgg Tryd.underlying147 w⟩
instance : Inf Tryd.prog 147 .nilFunc 1 8 := ⟨by kernel_rfl, by kernel_rfl⟩
instance : One Tryd.prog 148 := ⟨fun w => run_isAgg Tryd.underlying148 w⟩
instance : Inf Tryd.prog 148 .nilFunc 1 8 := ⟨by kernel_rfl, by kernel_rfl⟩
instance : Agg Tryd.prog 149 := ⟨fun w => run_isAgg Tryd.underlying149 w⟩
instance : Inf Tryd.prog 149 (.agg #[(.pointer none), (.pointer none), (.pointer none), (.string ⟨#[]⟩)]) 4 40 := ⟨by kernel_rfl, by kernel_rfl⟩
instance : Str Tryd.prog 149 [(0, 1), (1, 1), (2, 1), (3, 1)] := ⟨⟨_, Tryd.underlying149, by kernel_rfl, by kernel_rfl⟩⟩
instance : Fld Tryd.prog 149 0 0 17 1 := ⟨⟨_, _, Tryd.underlying149, rfl, rfl, rfl, by kernel_rfl⟩⟩
instance : Fld Tryd.prog 149 1 1 17 1 := ⟨⟨_, _, Tryd.underlying149, rfl, rfl, rfl, by kernel_rfl⟩⟩
instance : Fld Tryd.prog 149 2 2 17 1 := ⟨⟨_, _, Tryd.underlying149, rfl, rfl, rfl, by kernel_rfl⟩⟩
instance : Fld Tryd.prog 149 3 3 9 1 := ⟨⟨_, _, Tryd.underlying149, rfl, rfl, rfl, by kernel_rfl⟩⟩
instance : Agg Tryd.prog 150 := ⟨fun w => run_isAgg Tryd.underlying150 w⟩
instance : Inf Tryd.prog 150 (.agg #[(.pointer none), (.pointer none), (.pointer none), (.string ⟨#[]⟩)]) 4 40 := ⟨by kernel_rfl, by kernel_rfl⟩
instance : Str Tryd.prog 150 [(0, 1), (1, 1), (2, 1), (3, 1)] := ⟨⟨_, Tryd.underlying150, by kernel_rfl, by kernel_rfl⟩⟩
instance : Fld Tryd.prog 150 0 0 17 1 := ⟨⟨_, _, Tryd.underlying150, rfl, rfl, rfl, by kernel_rfl⟩⟩
instance : Fld Tryd.prog 150 1 1 17 1 := ⟨⟨_, _, Tryd.underlying150, rfl, rfl, rfl, by kernel_rfl⟩⟩
instance : Fld Tryd.prog 150 2 2 17 1 := ⟨⟨_, _, Tryd.underlying150, rfl, rfl, rfl, by kernel_rfl⟩⟩
instance : Fld Tryd.prog 150 3 3 9 1 := ⟨⟨_, _, Tryd.underlying150, rfl, rfl, rfl, by kernel_rfl⟩⟩
instance : Und Tryd.prog 151 (.array 0 16) := ⟨Tryd.underlying151⟩
instance : Inf Tryd.prog 151 (.agg #[]) 0 0 := ⟨by kernel_rfl, by kernel_rfl⟩
instance : Agg Tryd.prog 152 := ⟨fun w => run_isAgg Tryd.underlying152 w⟩
instance : Inf Tryd.prog 152 (.agg #[]) 0 0 := ⟨by kernel_rfl, by kernel_rfl⟩
instance : Str Tryd.prog 152 [(0, 0)] := ⟨⟨_, Tryd.underlying152, by kernel_rfl, by kernel_rfl⟩⟩
instance : Agg Tryd.prog 153 := ⟨fun w => run_isAgg Tryd.underlying153 w⟩
instance : Inf Tryd.prog 153 (.agg #[]) 0 0 := ⟨by kernel_rfl, by kernel_rfl⟩
instance : Str Tryd.prog 153 [(0, 0)] := ⟨⟨_, Tryd.underlying153, by kernel_rfl, by kernel_rfl⟩⟩
instance : Und Tryd.prog 154 (.int .u8) := ⟨Tryd.underlying154⟩
instance : Inf Tryd.prog 154 (.int .u8 0) 1 1 := ⟨by kernel_rfl, by kernel_rfl⟩
instance : Und Tryd.prog 155 (.int .u8) := ⟨Tryd.underlying155⟩
instance : Inf Tryd.prog 155 (.int .u8 0) 1 1 := ⟨by kernel_rfl, by kernel_rfl⟩
instance : One Tryd.prog 156 := ⟨fun w => run_isAgg Tryd.underlying156 w⟩
instance : Inf Tryd.prog 156 .nilFunc 1 8 := ⟨by kernel_rfl, by kernel_rfl⟩
instance : Und Tryd.prog 157 (.pointer 5) := ⟨Tryd.underlying157⟩
instance : Inf Tryd.prog 157 (.pointer none) 1 8 := ⟨by kernel_rfl, by kernel_rfl⟩
instance : Und Tryd.prog 158 (.int .i32) := ⟨Tryd.underlying158⟩
instance : Inf Tryd.prog 158 (.int .i32 0) 1 4 := ⟨by kernel_rfl, by kernel_rfl⟩
instance : Und Tryd.prog 159 (.int .i32) := ⟨Tryd.underlying159⟩
instance : Inf Tryd.prog 159 (.int .i32 0) 1 4 := ⟨by kernel_rfl, by kernel_rfl⟩
instance : Agg Tryd.prog 160 := ⟨fun w => run_isAgg Tryd.underlying160 w⟩
instance : Inf Tryd.prog 160 (.agg #[(.int .u64 0), (.int .u64 0), (.int .u32 0), (.int .u8 0), (.int .u8 0), (.int .u8 0), (.int .u8 0), .nilFunc, (.pointer none), (.int .i32 0), (.int .i32 0)]) 11 48 := ⟨by kernel_rfl, by kernel_rfl⟩
instance : Str Tryd.prog 160 [(0, 1), (1, 1), (2, 1), (3, 1), (4, 1), (5, 1), (6, 1), (7, 1), (8, 1), (9, 1), (10, 1)] := ⟨⟨_, Tryd.underlying160, by kernel_rfl, by kernel_rfl⟩⟩
instance : Fld Tryd.prog 160 0 0 12 1 := ⟨⟨_, _, Tryd.underlying160, rfl, rfl, rfl, by kernel_rfl⟩⟩
instance : Fld Tryd.prog 160 1 1 12 1 := ⟨⟨_, _, Tryd.underlying160, rfl, rfl, rfl, by kernel_rfl⟩⟩
instance : Fld Tryd.prog 160 2 2 61 1 := ⟨⟨_, _, Tryd.underlying160, rfl, rfl, rfl, by kernel_rfl⟩⟩
instance : Fld Tryd.prog 160 3 3 154 1 := ⟨⟨_, _, Tryd.underlying160, rfl, rfl, rfl, by kernel_rfl⟩⟩
instance : Fld Tryd.prog 160 4 4 5 1 := ⟨⟨_, _, Tryd.underlying160, rfl, rfl, rfl, by kernel_rfl⟩⟩
instance : Fld Tryd.prog 160 5 5 5 1 := ⟨⟨_, _, Tryd.underlying160, rfl, rfl, rfl, by kernel_rfl⟩⟩
instance : Fld Tryd.prog 160 6 6 155 1 := ⟨⟨_, _, Tryd.underlying160, rfl, rfl, rfl, by kernel_rfl⟩⟩
instance : Fld Tryd.prog 160 7 7 156 1 := ⟨⟨_, _, Tryd.underlying160, rfl, rfl, rfl, by kernel_rfl⟩⟩
instance : Fld Tryd.prog 160 8 8 157 1 := ⟨⟨_, _, Tryd.underlying160, rfl, rfl, rfl, by kernel_rfl⟩⟩
instance : Fld Tryd.prog 160 9 9 158 1 := ⟨⟨_, _, Tryd.underlying160, rfl, rfl, rfl, by kernel_rfl⟩⟩
instance : Fld Tryd.prog 160 10 10 159 1 := ⟨⟨_, _, Tryd.underlying160, rfl, rfl, rfl, by kernel_rfl⟩⟩
instance : Agg Tryd.prog 161 := ⟨fun w => run_isAgg Tryd.underlying161 w⟩
instance : Inf Tryd.prog 161 (.agg #[(.int .u64 0), (.int .u64 0), (.int .u32 0), (.int .u8 0), (.int .u8 0), (.int .u8 0), (.int .u8 0), .nilFunc, (.pointer none), (.int .i32 0), (.int .i32 0)]) 11 48 := ⟨by kernel_rfl, by kernel_rfl⟩
instance : Str Tryd.prog 161 [(0, 1), (1, 1), (2, 1), (3, 1), (4, 1), (5, 1), (6, 1), (7, 1), (8, 1), (9, 1), (10, 1)] := ⟨⟨_, Tryd.underlying161, by kernel_rfl, by kernel_rfl⟩⟩
instance : Fld Tryd.prog 161 0 0 12 1 := ⟨⟨_, _, Tryd.underlying161, rfl, rfl, rfl, by kernel_rfl⟩⟩
instance : Fld Tryd.prog 161 1 1 12 1 := ⟨⟨_, _, Tryd.underlying161, rfl, rfl, rfl, by kernel_rfl⟩⟩
instance : Fld Tryd.prog 161 2 2 61 1 := ⟨⟨_, _, Tryd.underlying161, rfl, rfl, rfl, by kernel_rfl⟩⟩
instance : Fld Tryd.prog 161 3 3 154 1 := ⟨⟨_, _, Tryd.underlying161, rfl, rfl, rfl, by kernel_rfl⟩⟩
instance : Fld Tryd.prog 161 4 4 5 1 := ⟨⟨_, _, Tryd.underlying161, rfl, rfl, rfl, by kernel_rfl⟩⟩
instance : Fld Tryd.prog 161 5 5 5 1 := ⟨⟨_, _, Tryd.underlying161, rfl, rfl, rfl, by kernel_rfl⟩⟩
instance : Fld Tryd.prog 161 6 6 155 1 := ⟨⟨_, _, Tryd.underlying161, rfl, rfl, rfl, by kernel_rfl⟩⟩
instance : Fld Tryd.prog 161 7 7 156 1 := ⟨⟨_, _, Tryd.underlying161, rfl, rfl, rfl, by kernel_rfl⟩⟩
instance : Fld Tryd.prog 161 8 8 157 1 := ⟨⟨_, _, Tryd.underlying161, rfl, rfl, rfl, by kernel_rfl⟩⟩
instance : Fld Tryd.prog 161 9 9 158 1 := ⟨⟨_, _, Tryd.underlying161, rfl, rfl, rfl, by kernel_rfl⟩⟩
instance : Fld Tryd.prog 161 10 10 159 1 := ⟨⟨_, _, Tryd.underlying161, rfl, rfl, rfl, by kernel_rfl⟩⟩
instance : Fun Tryd.prog 3 := Fun.mk' Tryd.func3 (by kernel_rfl) (by kernel_rfl)
instance : Fun Tryd.prog 4 := Fun.mk' Tryd.func4 (by kernel_rfl) (by kernel_rfl)
instance : Fun Tryd.prog 5 := Fun.mk' Tryd.func5 (by kernel_rfl) (by kernel_rfl)
instance : Fun Tryd.prog 6 := Fun.mk' Tryd.func6 (by kernel_rfl) (by kernel_rfl)
instance : Fun Tryd.prog 7 := Fun.mk' Tryd.func7 (by kernel_rfl) (by kernel_rfl)
instance : Fun Tryd.prog 8 := Fun.mk' Tryd.func8 (by kernel_rfl) (by kernel_rfl)
instance : Fun Tryd.prog 9 := Fun.mk' Tryd.func9 (by kernel_rfl) (by kernel_rfl)
instance : Fun Tryd.prog 10 := Fun.mk' Tryd.func10 (by kernel_rfl) (by kernel_rfl)
instance : Fun Tryd.prog 11 := Fun.mk' Tryd.func11 (by kernel_rfl) (by kernel_rfl)
instance : Fun Tryd.prog 12 := Fun.mk' Tryd.func12 (by kernel_rfl) (by kernel_rfl)
instance : Fun Tryd.prog 13 := Fun.mk' Tryd.func13 (by kernel_rfl) (by kernel_rfl)
instance : Fun Tryd.prog 14 := Fun.mk' Tryd.func14 (by kernel_rfl) (by kernel_rfl)
instance : Fun Tryd.prog 15 := Fun.mk' Tryd.func15 (by kernel_rfl) (by kernel_rfl)
instance : Fun Tryd.prog 16 := Fun.mk' Tryd.func16 (by kernel_rfl) (by kernel_rfl)
instance : Fun Tryd.prog 17 := Fun.mk' Tryd.func17 (by kernel_rfl) (by kernel_rfl)
instance : Fun Tryd.prog 18 := Fun.mk' Tryd.func18 (by kernel_rfl) (by kernel_rfl)
instance : Fun Tryd.prog 19 := Fun.mk' Tryd.func19 (by kernel_rfl) (by kernel_rfl)
instance : Fun Tryd.prog 20 := Fun.mk' Tryd.func20 (by kernel_rfl) (by kernel_rfl)
instance : Fun Tryd.prog 21 := Fun.mk' Tryd.func21 (by kernel_rfl) (by kernel_rfl)
instance : Fun Tryd.prog 22 := Fun.mk' Tryd.func22 (by kernel_rfl) (by kernel_rfl)
instance : Fun Tryd.prog 23 := Fun.mk' Tryd.func23 (by kernel_rfl) (by kernel_rfl)
instance : Fun Tryd.prog 24 := Fun.mk' Tryd.func24 (by kernel_rfl) (by kernel_rfl)
instance : Fun Tryd.prog 25 := Fun.mk' Tryd.func25 (by kernel_rfl) (by kernel_rfl)
instance : Fun Tryd.prog 26 := Fun.mk' Tryd.func26 (by kernel_rfl) (by kernel_rfl)
instance : Fun Tryd.prog 27 := Fun.mk' Tryd.func27 (by kernel_rfl) (by kernel_rfl)
instance : Fun Tryd.prog 28 := Fun.mk' Tryd.func28 (by kernel_rfl) (by kernel_rfl)
instance : Fun Tryd.prog 29 := Fun.mk' Tryd.func29 (by kernel_rfl) (by kernel_rfl)
instance : Fun Tryd.prog 30 := Fun.mk' Tryd.func30 (by kernel_rfl) (by kernel_rfl)
instance : Fun Tryd.prog 31 := Fun.mk' Tryd.func31 (by kernel_rfl) (by kernel_rfl)
instance : Fun Tryd.prog 32 := Fun.mk' Tryd.func32 (by kernel_rfl) (by kernel_rfl)
instance : Fun Tryd.prog 33 := Fun.mk' Tryd.func33 (by kernel_rfl) (by kernel_rfl)
instance : Fun Tryd.prog 34 := Fun.mk' Tryd.func34 (by kernel_rfl) (by kernel_rfl)
instance : Fun Tryd.prog 35 := Fun.mk' Tryd.func35 (by kernel_rfl) (by kernel_rfl)
instance : Fun Tryd.prog 36 := Fun.mk' Tryd.func36 (by kernel_rfl) (by kernel_rfl)
instance : Fun Tryd.prog 37 := Fun.mk' Tryd.func37 (by kernel_rfl) (by kernel_rfl)
instance : Fun Tryd.prog 38 := Fun.mk' Tryd.func38 (by kernel_rfl) (by kernel_rfl)
instance : Fun Tryd.prog 39 := Fun.mk' Tryd.func39 (by kernel_rfl) (by kernel_rfl)
instance : Fun Tryd.prog 40 := Fun.mk' Tryd.func40 (by kernel_rfl) (by kernel_rfl)
instance : Fun Tryd.prog 41 := Fun.mk' Tryd.func41 (by kernel_rfl) (by kernel_rfl)
instance : Fun Tryd.prog 42 := Fun.mk' Tryd.func42 (by kernel_rfl) (by kernel_rfl)
instance : Fun Tryd.prog 43 := Fun.mk' Tryd.func43 (by kernel_rfl) (by kernel_rfl)
instance : Fun Tryd.prog 44 := Fun.mk' Tryd.func44 (by kernel_rfl) (by kernel_rfl)
instance : Fun Tryd.prog 45 := Fun.mk' Tryd.func45 (by kernel_rfl) (by kernel_rfl)
instance : ELoad Tryd.prog 46 .u32 := ⟨fun hc => run_call_load Tryd.func46 (by kernel_rfl) (by kernel_rfl) (by kernel_rfl) .u32 (by kernel_rfl) hc⟩
instance : Fun Tryd.prog 47 := Fun.mk' Tryd.func47 (by kernel_rfl) (by kernel_rfl)
instance : Fun Tryd.prog 48 := Fun.mk' Tryd.func48 (by kernel_rfl) (by kernel_rfl)
instance : Fun Tryd.prog 49 := Fun.mk' Tryd.func49 (by kernel_rfl) (by kernel_rfl)
instance : Fun Tryd.prog 50 := Fun.mk' Tryd.func50 (by kernel_rfl) (by kernel_rfl)
instance : Fun Tryd.prog 51 := Fun.mk' Tryd.func51 (by kernel_rfl) (by kernel_rfl)
instance : Fun Tryd.prog 52 := Fun.mk' Tryd.func52 (by kernel_rfl) (by kernel_rfl)
instance : Fun Tryd.prog 53 := Fun.mk' Tryd.func53 (by kernel_rfl) (by kernel_rfl)
instance : Fun Tryd.prog 54 := Fun.mk' Tryd.func54 (by kernel_rfl) (by kernel_rfl)
instance : Fun Tryd.prog 55 := Fun.mk' Tryd.func55 (by kernel_rfl) (by kernel_rfl)
instance : Fun Tryd.prog 56 := Fun.mk' Tryd.func56 (by kernel_rfl) (by kernel_rfl)
instance : Fun Tryd.prog 57 := Fun.mk' Tryd.func57 (by kernel_rfl) (by kernel_rfl)
instance : Fun Tryd.prog 58 := Fun.mk' Tryd.func58 (by kernel_rfl) (by kernel_rfl)
instance : Fun Tryd.prog 59 := Fun.mk' Tryd.func59 (by kernel_rfl) (by kernel_rfl)
instance : Fun Tryd.prog 60 := Fun.mk' Tryd.func60 (by kernel_rfl) (by kernel_rfl)
instance : Fun Tryd.prog 61 := Fun.mk' Tryd.func61 (by kernel_rfl) (by kernel_rfl)
instance : Fun Tryd.prog 62 := Fun.mk' Tryd.func62 (by kernel_rfl) (by kernel_rfl)
instance : EStore Tryd.prog 63 := ⟨fun hc hz => run_call_store Tryd.func63 (by kernel_rfl) (by kernel_rfl) (by kernel_rfl) (by kernel_rfl) hc hz⟩
instance : Fun Tryd.prog 64 := Fun.mk' Tryd.func64 (by kernel_rfl) (by kernel_rfl)
instance : Fun Tryd.prog 65 := Fun.mk' Tryd.func65 (by kernel_rfl) (by kernel_rfl)
instance : Fun Tryd.prog 66 := Fun.mk' Tryd.func66 (by kernel_rfl) (by kernel_rfl)
instance : Fun Tryd.prog 67 := Fun.mk' Tryd.func67 (by kernel_rfl) (by kernel_rfl)
instance : EAdd Tryd.prog 68 .i64 := ⟨fun hc hz hs => run_call_add Tryd.func68 (by kernel_rfl) (by kernel_rfl) (by kernel_rfl) .i64 (by kernel_rfl) hc hz hs⟩
instance : EMark0 Tryd.prog 70 := ⟨fun w => run_call_mark0 Tryd.func70 (by kernel_rfl) (by kernel_rfl) (by kernel_rfl) .disable (by kernel_rfl) w⟩
instance : ECas Tryd.prog 71 .i32 := ⟨fun hc hz => run_call_cas_hit Tryd.func71 (by kernel_rfl) (by kernel_rfl) (by kernel_rfl) .i32 (by kernel_rfl) hc hz⟩
instance : EMark0 Tryd.prog 72 := ⟨fun w => run_call_mark0 Tryd.func72 (by kernel_rfl) (by kernel_rfl) (by kernel_rfl) .enable (by kernel_rfl) w⟩
instance : EMark Tryd.prog 73 := ⟨fun a w => run_call_marked Tryd.func73 (by kernel_rfl) (by kernel_rfl) (by kernel_rfl) .acquire (by kernel_rfl) a w⟩
instance : Fun Tryd.prog 74 := Fun.mk' Tryd.func74 (by kernel_rfl) (by kernel_rfl)
instance : EMark Tryd.prog 75 := ⟨fun a w => run_call_marked Tryd.func75 (by kernel_rfl) (by kernel_rfl) (by kernel_rfl) .releaseMerge (by kernel_rfl) a w⟩
instance : EAdd Tryd.prog 76 .i32 := ⟨fun hc hz hs => run_call_add Tryd.func76 (by kernel_rfl) (by kernel_rfl) (by kernel_rfl) .i32 (by kernel_rfl) hc hz hs⟩
instance : Fun Tryd.prog 77 := Fun.mk' Tryd.func77 (by kernel_rfl) (by kernel_rfl)
instance : Fun Tryd.prog 78 := Fun.mk' Tryd.func78 (by kernel_rfl) (by kernel_rfl)
instance : Fun Tryd.prog 86 := Fun.mk' Tryd.func86 (by kernel_rfl) (by kernel_rfl)
instance : Fun Tryd.prog 87 := Fun.mk' Tryd.func87 (by kernel_rfl) (by kernel_rfl)
instance : Fun Tryd.prog 88 := Fun.mk' Tryd.func88 (by kernel_rfl) (by kernel_rfl)
theorem mixed : Tryd.prog.follows .mixedOrders = true := by kernel_rfl
end Cr
namespace Cr
open Go Go.Proofs
set_option maxRecDepth 100000
set_option maxHeartbeats 4000000

def spin (x : Int) (n : Nat) : Int := ior .u32 (ishr .u32 x n) (ishl .u32 x (32 - n))
theorem spin_ (x : Int) (n : Nat) (W : World) (h : n ≤ 32) : Calls Tryd.prog 88 #[.int .u32 x, .int .i64 n] W (Ret fun v w => v = .int .u32 (spin x n) ∧ St W noF [] w) := by
  have hS := St.start W
  refine calls_C Tryd.func88 rfl Tryd.ntmps88 rfl ?_
  repeat (first | (refine G_id ?_; first | refine G_nil ?_ | refine G_plain rfl rfl ?_) | (refine X_id ?_; first | refine X_yl (Yl_assign rfl rfl) rfl rfl ?_) | (refine C_id ?_; first | refine C_seq ?_ | refine C_region ?_) | (refine E_id ?_; first | refine E_code ?_))
  refine C_ord [(0, true), (1, true), (2, true), (3, true), (4, true), (5, true), (6, true), (7, true), (8, true)] mixed (by kernel_rfl) rfl ?_
  have hS := hS.drew
  repeat (first | (refine C_id ?_; first | refine C_ret ?_) | (refine E_id ?_; first | refine E_code ?_ | refine E_ret1 rfl (Rv_tmp rfl) (Ret.mk ?_)) | (refine GO_id ?_; first | refine GO_nil ?_ | refine GO_pure rfl rfl (fun _ => Yl_move rfl rfl) rfl rfl ?_ | refine GO_pure rfl rfl (fun _ => Yl_assign rfl rfl) rfl rfl ?_ | refine GO_pure rfl rfl (fun _ => Yl_sub rfl rfl rfl (w64 (by omega) (by omega))) rfl rfl ?_ | refine GO_pure rfl rfl (fun _ => Yl_or rfl rfl rfl) rfl rfl ?_ | refine GO_pure rfl rfl (fun _ => Yl_shr rfl rfl rfl (by omega)) rfl rfl ?_ | refine GO_pure rfl rfl (fun _ => Yl_shl rfl rfl rfl (by omega)) rfl rfl ?_))
  refine ⟨?_, hS⟩
  unfold spin
  congr 3
  omega
theorem at_ (k i : Int) (b bi : Nat) (W : World) (hk : 0 ≤ k) (hk' : k < 8) (hi : 0 ≤ i) (hi' : i < 64) (hbi : Ro W noF (pts bi (.cells #[.int .i64 i] 3))) :
    Calls Tryd.prog 87 #[.int .i64 k, .pointer (some ⟨b, 0, none⟩), .pointer (some ⟨bi, 0, none⟩)] W (Ret fun v w => v = .pointer (some ⟨b, ((k - i) % 8).toNat, none⟩) ∧ W = w) := by
  have hS := St.start W
  have hbi := (hbi.rd hS).pts
  refine calls_C Tryd.func87 rfl Tryd.ntmps87 rfl ?_
  repeat (first | (refine G_id ?_; first | refine G_nil ?_ | refine G_plain rfl rfl ?_) | (refine X_id ?_; first | refine X_yl (Yl_move rfl rfl) rfl rfl ?_ | refine X_yl (Yl_assign rfl rfl) rfl rfl ?_ | refine X_yl (Yl_sub rfl rfl rfl (w64 (by omega) (by omega))) rfl rfl ?_ | refine X_yl (Yl_and rfl rfl rfl) rfl rfl ?_ | refine X_yl (Yl_load rfl rfl (cell_at (by assumption))) rfl rfl ?_) | (refine C_id ?_; first | refine C_seq ?_ | refine C_region ?_) | (refine E_id ?_; first | refine E_code ?_))
  rw [iand_7]
  repeat (first | (refine G_id ?_; first | refine G_nil ?_ | refine G_plain rfl rfl ?_) | (refine X_id ?_; first | refine X_yl (Yl_assign rfl rfl) rfl rfl ?_ | refine X_yl (Yl_indexAddr_arr rfl rfl rfl (by omega) (by omega)) rfl rfl ?_) | (refine C_id ?_; first | refine C_ret ?_) | (refine E_id ?_; first | refine E_code ?_ | refine E_ret1 rfl (Rv_tmp rfl) (Ret.mk ?_)))
  exact ⟨by simp, rfl⟩

/-! ### spread -/
def u32 (x : Int) : Int := IntKind.u32.wrap x
def byteAt (b : List UInt8) (i : Nat) : Int := u32 (b.getD i 0).toNat
def word (b : List UInt8) (i : Nat) : Int := ior .u32 (ior .u32 (ior .u32 (ishl .u32 (byteAt b (4 * i)) 24) (ishl .u32 (byteAt b (4 * i + 1)) 16)) (ishl .u32 (byteAt b (4 * i + 2)) 8)) (byteAt b (4 * i + 3))
def sig (a : Int) (p q r : Nat) : Int := ixor .u32 (ixor .u32 (spin a p) (spin a q)) (ishr .u32 a r)
def later (L : List Int) (i : Nat) : Int := u32 (u32 (u32 (L.getD (i - 16) 0 + sig (L.getD (i - 15) 0) 7 18 3) + L.getD (i - 7) 0) + sig (L.getD (i - 2) 0) 17 19 10)
def spreadTo (b : List UInt8) : Nat → List Int
  | 0 => List.replicate 64 0
  | i + 1 => (spreadTo b i).set i (if i < 16 then word b i else later (spreadTo b i) i)
theorem spreadTo_length (b : List UInt8) : ∀ i, (spreadTo b i).length = 64
  | 0 => by simp [spreadTo]
  | i + 1 => by simp [spreadTo, spreadTo_length b i]
theorem spread_ (a : Option Addr) (c : Nat) (b : List UInt8) (W : World) (hb : Rd W (bytes a b)) (h64 : b.length = 64) (hc : 64 ≤ c) :
    Calls Tryd.prog 86 #[.slice a 64 c] W (Ret fun v w => v = .agg (ints .u32 (spreadTo b 64)).toArray ∧ St W noF [] w) := by
  have hS := St.start W
  have hbo := hb.ro
  obtain ⟨ab, ao, rfl⟩ := hb.base (by intro e; have := bv_length b; rw [e] at this; simp at this; omega)
  refine calls_C Tryd.func86 rfl Tryd.ntmps86 rfl ?_
  repeat (first | (refine G_id ?_; first | refine G_nil ?_ | refine G_plain rfl rfl ?_) | (refine X_id ?_; first | refine X_yl (Yl_move rfl rfl) rfl rfl ?_ | refine X_alloc rfl rfl rfl hS (fun _ _ hS _ => ?_)) | (refine C_id ?_; first | refine C_seq ?_ | refine C_region ?_ | refine C_block ?_) | (refine E_id ?_; first | refine E_code ?_))
  rename_i b2 _ _ _ b3 _ _
  rw [ints_rep] at hS
  refine C_loop (α := Nat) (fun i => [(0, .slice (some ⟨ab, ao, none⟩) 64 c), (2, .pointer (some ⟨b2, 0, none⟩)), (3, .pointer (some ⟨b3, 0, none⟩)), (8, .int .i64 (i : Nat))])
    (fun i w => i ≤ 64 ∧ St W noF [pts b3 (.cells (ints .u32 (spreadTo b i)).toArray 144), pts b2 (.cells (List.replicate 64 (.int .u32 0)).toArray 144)] w) (fun i => 64 - i) 0 ⟨rfl, rfl, rfl, rfl, trivial⟩ ⟨Nat.zero_le _, hS⟩ ?_
  clear hS
  rintro i w ⟨hi, hS⟩
  obtain ⟨L, hLe⟩ : ∃ L, L = spreadTo b i := ⟨_, rfl⟩
  have hL : L.length = 64 := by rw [hLe]; exact spreadTo_length b i
  rw [← hLe] at hS
  by_cases h16 : i < 16
  · repeat (first | (refine G_id ?_; first | refine G_nil ?_ | refine G_plain rfl rfl ?_) | (refine X_id ?_; first | refine X_yl (Yl_move rfl rfl) rfl rfl ?_ | refine X_yl (Yl_assign rfl rfl) rfl rfl ?_ | refine X_yl (Yl_lss_t rfl rfl rfl (by omega)) rfl rfl ?_ | refine X_yl (Yl_add rfl rfl rfl (w64 (by omega) (by omega))) rfl rfl ?_ | refine X_yl (Yl_mul rfl rfl rfl (w64 (by omega) (by omega))) rfl rfl ?_) | (refine C_id ?_; first | refine C_seq ?_ | refine C_region ?_ | refine C_block ?_ | refine C_skip ?_ | refine C_cond_t rfl ?_) | (refine E_id ?_; first | refine E_code ?_))
    refine X_yl (Yl_slice (l := 4 * i) (h := 4 * i + 4) rfl rfl rfl rfl (.inr ⟨_, _, rfl, by omega, by omega, by omega⟩) (.inr ⟨_, _, rfl, by omega, by omega, by omega⟩)) rfl rfl ?_
    rw [show sub (some ⟨ab, ao, none⟩) (4 * i) 1 c = some ⟨ab, ao + 4 * i, none⟩ by unfold sub; rw [if_neg (by omega)]; simp [add_lit], show 4 * i + 4 - 4 * i = 4 by omega]
    repeat (first | (refine G_id ?_; first | refine G_nil ?_ | refine G_plain rfl rfl ?_) | (refine X_id ?_; first | refine X_yl (Yl_assign rfl rfl) rfl rfl ?_) | (refine C_id ?_; first | refine C_seq ?_) | (refine E_id ?_; first | refine E_code ?_))
    refine C_ord [(0, true), (1, true), (2, true), (3, true), (4, true), (5, true), (6, true), (7, true), (8, true), (9, true), (10, true), (11, true), (12, true), (13, true), (14, true), (15, true), (16, true), (17, true), (18, true), (19, true), (20, true), (21, true), (22, true), (23, true), (24, false)] mixed (by kernel_rfl) rfl ?_
    have hS := hS.drew
    have hcell : ∀ j, j < 4 → _root_.Go.World.cell? _ ⟨ab, ao + 4 * i + j, none⟩ = some (.int .u8 ((b.getD (4 * i + j) 0).toNat : Nat)) := fun j hj => by
      have := (hbo.rd hS).cell (i := 4 * i + j) (v := .int .u8 ((b.getD (4 * i + j) 0).toNat : Nat)) (by simp [bv, List.getD_eq_getElem?_getD, show 4 * i + j < b.length by omega])
      simpa [adr, Nat.add_assoc] using this
    have q0 := hcell 0 (by omega)
    have q1 := hcell 1 (by omega)
    have q2 := hcell 2 (by omega)
    have q3 := hcell 3 (by omega)
    repeat (first | (refine G_id ?_; first | refine G_nil ?_ | refine G_plain rfl rfl ?_) | (refine X_id ?_; first | refine X_yl (Yl_move rfl rfl) rfl rfl ?_ | refine X_yl (Yl_add rfl rfl rfl (w64 (by omega) (by omega))) rfl rfl ?_ | refine X_storeI rfl rfl rfl rfl hS (by omega) (fun _ hS => ?_)) | (refine C_id ?_; first | refine C_region ?_ | refine C_exit ?_) | (refine E_id ?_; first | refine E_code ?_ | refine E_then_exit ?_ | refine E_blk_same ?_) | (refine GO_id ?_; first | refine GO_nil ?_ | refine GO_pure rfl rfl (fun _ => Yl_move rfl rfl) rfl rfl ?_ | refine GO_pure rfl rfl (fun _ => Yl_indexAddr_arr rfl rfl rfl (by omega) (by omega)) rfl rfl ?_ | refine GO_pure rfl rfl (fun _ => Yl_indexAddr rfl rfl rfl (by omega) (by omega) (by first | assumption | exact ⟨_, _, rfl⟩)) rfl rfl ?_ | refine GO_pure rfl rfl (fun _ => Yl_convInt rfl rfl rfl) rfl rfl ?_ | refine GO_pure rfl rfl (fun _ => Yl_or rfl rfl rfl) rfl rfl ?_ | refine GO_pure rfl rfl (fun _ => Yl_shl rfl rfl rfl (by omega)) rfl rfl ?_ | refine GO_read (fun w' => w'.cell? _ = some _) rfl rfl (by assumption) (fun _ hc => Yl_load rfl rfl hc) rfl rfl ?_ | refine GO_hard rfl rfl ?_) | (refine Keep_id ?_; first | refine And.intro (by repeat (first | exact trivial | refine And.intro (.inl (by decide +kernel)) ?_ | refine And.intro (.inr (by first | assumption | exact hS.cell | exact cell_at (by assumption) | exact hS.cellI (by omega) | exact hS.cellIP (by omega) | exact hS.cellsN | exact ((hr.rd hS).cellX (by omega) hx) | exact ((hr2.rd hS).cellX (by omega) hx2) | exact hS.cellB (by omega) | exact hS.cellBA (by omega) | exact (hb.rd hS).cellB' (by omega) | exact (hb2.rd hS).cellB' (by omega) | exact (hg.rd hS).cellI (by omega) | exact (hg2.rd hS).cellI (by omega) | exact ((hr.rd hS).cellF (by first | omega | (dsimp only; omega)) hx) | exact ((hr2.rd hS).cellF (by first | omega | (dsimp only; omega)) hx2))) ?_)) ?_))
    refine E_round (i + 1) ⟨rfl, rfl, rfl, rfl, trivial⟩ ⟨by omega, ?_⟩ (by omega)
    rw [show 0 + (i : Int).toNat * 1 = i by omega, hLe] at hS
    simp only [spreadTo, if_pos h16]
    exact hS
  · by_cases h64 : i < 64
    · repeat (first | (refine G_id ?_; first | refine G_nil ?_ | refine G_plain rfl rfl ?_) | (refine X_id ?_; first | refine X_yl (Yl_move rfl rfl) rfl rfl ?_ | refine X_yl (Yl_assign rfl rfl) rfl rfl ?_ | refine X_yl (Yl_lss_t rfl rfl rfl (by omega)) rfl rfl ?_ | refine X_yl (Yl_lss_f rfl rfl rfl (by omega)) rfl rfl ?_) | (refine C_id ?_; first | refine C_seq ?_ | refine C_region ?_ | refine C_block ?_ | refine C_skip ?_ | refine C_cond_t rfl ?_ | refine C_cond_f rfl ?_) | (refine E_id ?_; first | refine E_code ?_))
      refine C_ord [(0, true), (1, true), (2, true), (3, true), (4, true), (5, true), (6, true), (7, true), (8, true), (9, true)] mixed (by kernel_rfl) rfl ?_
      have hS := hS.drew
      repeat (first | (refine E_id ?_; first | refine E_code ?_) | (refine GO_id ?_; first | refine GO_nil ?_ | refine GO_pure rfl rfl (fun _ => Yl_move rfl rfl) rfl rfl ?_ | refine GO_pure rfl rfl (fun _ => Yl_assign rfl rfl) rfl rfl ?_ | refine GO_pure rfl rfl (fun _ => Yl_indexAddr_arr rfl rfl rfl (by omega) (by omega)) rfl rfl ?_ | refine GO_pure rfl rfl (fun _ => Yl_sub rfl rfl rfl (w64 (by omega) (by omega))) rfl rfl ?_ | refine GO_read (fun w' => w'.cell? _ = some _) rfl rfl (hS.cellI (by omega)) (fun _ hc => Yl_load rfl rfl hc) rfl rfl ?_))
      refine C_ord [(0, true), (1, true), (2, true), (3, true), (4, true), (5, true), (7, true), (10, true), (11, true), (14, true), (15, true), (16, true), (17, true), (19, true), (21, true), (24, true), (25, true), (6, false), (8, false), (9, true), (12, true), (13, true), (18, true), (20, false), (22, false), (23, true), (26, true), (27, true), (28, true), (29, false)] mixed (by kernel_rfl) rfl ?_
      have hS := hS.drew
      repeat (first | (refine G_id ?_; first | refine G_nil ?_ | refine G_plain rfl rfl ?_) | (refine X_id ?_; first | (refine X_callq 88 rfl rfl rfl rfl rfl hS (spin_ _ _ _ (by decide)) ?_; rintro _ _ rfl hS) | refine X_yl (Yl_move rfl rfl) rfl rfl ?_ | refine X_yl (Yl_add rfl rfl rfl (w64 (by omega) (by omega))) rfl rfl ?_ | refine X_storeI rfl rfl rfl rfl hS (by omega) (fun _ hS => ?_)) | (refine C_id ?_; first | refine C_region ?_) | (refine E_id ?_; first | refine E_code ?_ | refine E_blk_n ?_) | (refine GO_id ?_; first | refine GO_nil ?_ | refine GO_pure rfl rfl (fun _ => Yl_move rfl rfl) rfl rfl ?_ | refine GO_pure rfl rfl (fun _ => Yl_indexAddr_arr rfl rfl rfl (by omega) (by omega)) rfl rfl ?_ | refine GO_pure rfl rfl (fun _ => Yl_sub rfl rfl rfl (w64 (by omega) (by omega))) rfl rfl ?_ | refine GO_pure rfl rfl (fun _ => Yl_add rfl rfl rfl rfl) rfl rfl ?_ | refine GO_pure rfl rfl (fun _ => Yl_xor rfl rfl rfl) rfl rfl ?_ | refine GO_pure rfl rfl (fun _ => Yl_shr rfl rfl rfl (by omega)) rfl rfl ?_ | refine GO_read (fun w' => w'.cell? _ = some _) rfl rfl (hS.cellI (by omega)) (fun _ hc => Yl_load rfl rfl hc) rfl rfl ?_ | refine GO_hard rfl rfl ?_) | (refine Keep_id ?_; first | refine And.intro (by repeat (first | exact trivial | refine And.intro (.inl (by decide +kernel)) ?_ | refine And.intro (.inr (by first | assumption | exact hS.cell | exact cell_at (by assumption) | exact hS.cellI (by omega) | exact hS.cellIP (by omega) | exact hS.cellsN | exact ((hr.rd hS).cellX (by omega) hx) | exact ((hr2.rd hS).cellX (by omega) hx2) | exact hS.cellB (by omega) | exact hS.cellBA (by omega) | exact (hb.rd hS).cellB' (by omega) | exact (hb2.rd hS).cellB' (by omega) | exact (hg.rd hS).cellI (by omega) | exact (hg2.rd hS).cellI (by omega) | exact ((hr.rd hS).cellF (by first | omega | (dsimp only; omega)) hx) | exact ((hr2.rd hS).cellF (by first | omega | (dsimp only; omega)) hx2))) ?_)) ?_))
      refine E_round (i + 1) ⟨rfl, rfl, rfl, rfl, trivial⟩ ⟨by omega, ?_⟩ (by omega)
      rw [show 0 + (i : Int).toNat * 1 = i by omega, show 0 + ((i : Int) - 16).toNat * 1 = i - 16 by omega, show 0 + ((i : Int) - 15).toNat * 1 = i - 15 by omega, show 0 + ((i : Int) - 7).toNat * 1 = i - 7 by omega, show 0 + ((i : Int) - 2).toNat * 1 = i - 2 by omega, hLe] at hS
      simp only [spreadTo, if_neg h16]
      exact hS
    · obtain rfl : i = 64 := by omega
      have hlen : LenIs (ints .u32 L) 64 := ⟨by rw [ints_length]; exact hL⟩
      repeat (first | (refine G_id ?_; first | refine G_nil ?_ | refine G_plain rfl rfl ?_) | (refine X_id ?_; first | refine X_yl (Yl_lss_f rfl rfl rfl (by omega)) rfl rfl ?_ | refine X_yl (Yl_loadN rfl rfl hS.cellsN) rfl rfl ?_ | refine X_store rfl rfl rfl rfl hS (fun _ hS _ => ?_)) | (refine C_id ?_; first | refine C_seq ?_ | refine C_region ?_ | refine C_ret ?_ | refine C_exit ?_ | refine C_cond_f rfl ?_) | (refine E_id ?_; first | refine E_code ?_ | refine E_then_exit ?_ | refine E_blk_same ?_ | refine E_ret1 rfl (by first | exact Rv_tmp rfl | exact Rv_cell rfl (run_load1 hS.cell) | exact Rv_cell rfl (run_loadN hS.cellsN)) (Ret.mk ?_)))
      exact ⟨by rw [hLe], hS.drops⟩
end Cr
namespace Cr
open Go Go.Proofs
set_option maxRecDepth 100000
set_option maxHeartbeats 6000000
attribute [local irreducible] Calls

/-- Where the word k of a step i lies. -/
def spot (k : Int) (i : Nat) : Nat := ((k - i) % 8).toNat
theorem spot_lt (k : Int) (i : Nat) : spot k i < 8 := by unfold spot; omega
def sig3 (a : Int) (p q r : Nat) : Int := ixor .u32 (ixor .u32 (spin a p) (spin a q)) (spin a r)
def mixT (rd w : List Int) (V : List Int) (i : Nat) : Int :=
  let e := V.getD (spot 4 i) 0
  u32 (u32 (u32 (u32 (V.getD (spot 7 i) 0 + sig3 e 6 11 25) + ixor .u32 (V.getD (spot 6 i) 0) (iand .u32 e (ixor .u32 (V.getD (spot 5 i) 0) (V.getD (spot 6 i) 0)))) + rd.getD ((i : Int).toNat * 1) 0) + w.getD (0 + (i : Int).toNat * 1) 0)
def mixU (rd w : List Int) (V : List Int) (i : Nat) : List Int := V.set (spot 3 i) (u32 (V.getD (spot 3 i) 0 + mixT rd w V i))
def mixStep (rd w : List Int) (V : List Int) (i : Nat) : List Int :=
  let a := V.getD (spot 0 i) 0
  let t := mixT rd w V i
  let U := mixU rd w V i
  U.set (spot 7 i) (u32 (u32 (t + sig3 a 2 13 22) + ior .u32 (iand .u32 a (U.getD (spot 1 i) 0)) (iand .u32 (U.getD (spot 2 i) 0) (ior .u32 a (U.getD (spot 1 i) 0)))))
def mixTo (rd w H : List Int) : Nat → List Int
  | 0 => H
  | i + 1 => mixStep rd w (mixTo rd w H i) i
theorem mixTo_length (rd w H : List Int) : ∀ i, (mixTo rd w H i).length = H.length
  | 0 => rfl
  | i + 1 => by simp [mixTo, mixStep, mixU, mixTo_length rd w H i]
def addTo (H V : List Int) : Nat → List Int
  | 0 => H
  | i + 1 => (addTo H V i).set i (u32 ((addTo H V i).getD i 0 + V.getD i 0))
theorem addTo_length (H V : List Int) : ∀ i, (addTo H V i).length = H.length
  | 0 => rfl
  | i + 1 => by simp [addTo, addTo_length H V i]
/-- A block more. -/
def blend (rd H : List Int) (b : List UInt8) : List Int := addTo H (mixTo rd (spreadTo b 64) H 64) 8
theorem blend_length (rd H : List Int) (b : List UInt8) : (blend rd H b).length = H.length := addTo_length _ _ _

theorem St.abs2 {W : World} {F : Nat → Prop} {r : Res} {b : Nat} {k : IntKind} {L : List Int} {T : TypeId} {rs : List Res} {w : World} (hS : St W F (r :: pts b (.cells (ints k L).toArray T) :: rs) w) : ∃ U, U = L ∧ St W F (r :: pts b (.cells (ints k U).toArray T) :: rs) w := ⟨L, rfl, hS⟩
theorem mix_ (s : Nat) (H rd : List Int) (R : List UInt8) (tot : Int) (T : TypeId) (W : World) (F : Nat → Prop) (hH : H.length = 8) (hR : R.length = 64) (hrd : rd.length = 64) (hg : Ro W F (row (some ⟨2, 0, none⟩) (ints .u32 rd)))
    (hS : St W F [pts s (.cells (ints .u32 H ++ (bv R ++ [Value.int .i64 tot])).toArray T)] W) :
    Calls Tryd.prog 78 #[.pointer (some ⟨s, 0, none⟩), .slice (some ⟨s, 8, none⟩) 64 64] W (Ret fun _ w => True ∧ St W F [pts s (.cells (ints .u32 (blend rd H R) ++ (bv R ++ [Value.int .i64 tot])).toArray T)] w) := by
  have hRb : Rd W (bytes (some ⟨s, 8, none⟩) R) := (hS.rd (List.mem_cons_self ..)).mono fun h hh => ⟨h, row_pts_at (n := 64) (by
    rw [List.drop_append_of_le_length (by rw [ints_length]; omega), List.drop_of_length_le (by rw [ints_length]; omega), List.nil_append, List.take_append_of_le_length (by simp [hR]), List.take_of_length_le (by simp [hR])]) h hh, fun _ _ e => e⟩
  have hlH : LenIs (ints .u32 H) 8 := ⟨by rw [ints_length]; exact hH⟩
  have hlS : LenIs (ints .u32 (spreadTo R 64)) 64 := ⟨by rw [ints_length]; exact spreadTo_length _ _⟩
  refine calls_C Tryd.func78 rfl Tryd.ntmps78 rfl ?_
  repeat (first | (refine G_id ?_; first | refine G_nil ?_ | refine G_plain rfl rfl ?_) | (refine X_id ?_; first | (refine X_callq 86 rfl rfl rfl rfl rfl hS (spread_ _ _ R _ hRb hR (by omega)) ?_; rintro _ _ rfl hS) | refine X_yl (Yl_move rfl rfl) rfl rfl ?_ | refine X_yl (Yl_nilCheck rfl rfl) rfl rfl ?_ | refine X_yl (Yl_loadN rfl rfl hS.cellsN) rfl rfl ?_ | refine X_store rfl rfl rfl rfl hS (fun _ hS _ => ?_) | refine X_alloc rfl rfl rfl hS (fun _ _ hS _ => ?_)) | (refine C_id ?_; first | refine C_seq ?_ | refine C_region ?_) | (refine E_id ?_; first | refine E_code ?_))
  rename_i b5 _ _
  refine X_store (l := List.replicate 8 (.int .u32 0)) rfl rfl rfl rfl hS (fun _ hS _ => ?_)
  repeat (first | (refine G_id ?_; first | refine G_nil ?_ | refine G_plain rfl rfl ?_) | (refine X_id ?_; first | refine X_yl (Yl_move rfl rfl) rfl rfl ?_) | (refine C_id ?_; first | refine C_seq ?_ | refine C_region ?_ | refine C_block ?_) | (refine E_id ?_; first | refine E_code ?_))
  rename_i b4 _ _ _ _ _ _ _ _ _ _ _
  refine C_loop (α := Nat) (fun i => [(0, .pointer (some ⟨s, 0, none⟩)), (4, .pointer (some ⟨b4, 0, none⟩)), (5, .pointer (some ⟨b5, 0, none⟩)), (17, .int .i64 (i : Nat))])
    (fun i w => i ≤ 64 ∧ St W F [pts b5 (.cells (ints .u32 (mixTo rd (spreadTo R 64) H i)).toArray 112), pts b4 (.cells (ints .u32 (spreadTo R 64)).toArray 144), pts s (.cells (ints .u32 H ++ (bv R ++ [Value.int .i64 tot])).toArray T)] w) (fun i => 64 - i) 0 ⟨rfl, rfl, rfl, rfl, trivial⟩ ⟨Nat.zero_le _, hS⟩ ?_
  clear hS
  rintro i w ⟨hi, hS⟩
  obtain ⟨V, hVe⟩ : ∃ V, V = mixTo rd (spreadTo R 64) H i := ⟨_, rfl⟩
  have hV : V.length = 8 := by rw [hVe, mixTo_length]; exact hH
  rw [← hVe] at hS
  obtain ⟨Ws, hwe⟩ : ∃ L, L = spreadTo R 64 := ⟨_, rfl⟩
  have hWs : Ws.length = 64 := by rw [hwe]; exact spreadTo_length _ _
  rw [← hwe] at hS
  by_cases h64 : i < 64
  · repeat (first | (refine G_id ?_; first | refine G_nil ?_ | refine G_plain rfl rfl ?_) | (refine X_id ?_; first | refine X_yl (Yl_move rfl rfl) rfl rfl ?_ | refine X_yl (Yl_assign rfl rfl) rfl rfl ?_ | refine X_yl (Yl_makeFunc rfl rfl rfl) rfl rfl ?_ | refine X_yl (Yl_lss_t rfl rfl rfl (by omega)) rfl rfl ?_ | refine X_store rfl rfl rfl rfl hS (fun _ hS _ => ?_) | refine X_alloc rfl rfl rfl hS (fun _ _ hS _ => ?_)) | (refine C_id ?_; first | refine C_seq ?_ | refine C_region ?_ | refine C_block ?_ | refine C_skip ?_ | refine C_cond_t rfl ?_) | (refine E_id ?_; first | refine E_code ?_))
    refine C_ord [(0, true), (4, true), (1, false), (2, true), (3, true), (5, false), (6, true), (7, true), (8, true), (9, true)] mixed (by kernel_rfl) rfl ?_
    have hS := hS.drew
    repeat (first | (refine X_id ?_; first | (refine X_callc 87 rfl rfl rfl rfl rfl (at_ _ i _ _ _ (by decide) (by decide) (by omega) (by omega) ((hS.rd (List.mem_cons_self ..)).ro)) ?_; rintro _ rfl)) | (refine C_id ?_; first | refine C_seq ?_) | (refine E_id ?_; first | refine E_code ?_) | (refine GO_id ?_; first | refine GO_nil ?_ | refine GO_pure rfl rfl (fun _ => Yl_move rfl rfl) rfl rfl ?_ | refine GO_pure rfl rfl (fun _ => Yl_assign rfl rfl) rfl rfl ?_ | refine GO_pure rfl rfl (fun _ => Yl_nilCheck rfl rfl) rfl rfl ?_ | refine GO_read (fun w' => w'.cell? _ = some _) rfl rfl (hS.cellI (by omega)) (fun _ hc => Yl_load rfl rfl hc) rfl rfl ?_ | refine GO_hard rfl rfl ?_) | (refine Keep_id ?_; first | refine And.intro (by repeat (first | exact trivial | refine And.intro (.inl (by decide +kernel)) ?_ | refine And.intro (.inr (by first | assumption | exact hS.cell | exact cell_at (by assumption) | exact hS.cellI (by omega) | exact hS.cellIP (by omega) | exact hS.cellsN | exact ((hr.rd hS).cellX (by omega) hx) | exact ((hr2.rd hS).cellX (by omega) hx2) | exact hS.cellB (by omega) | exact hS.cellBA (by omega) | exact (hb.rd hS).cellB' (by omega) | exact (hb2.rd hS).cellB' (by omega) | exact (hg.rd hS).cellI (by omega) | exact (hg2.rd hS).cellI (by omega) | exact ((hr.rd hS).cellF (by first | omega | (dsimp only; omega)) hx) | exact ((hr2.rd hS).cellF (by first | omega | (dsimp only; omega)) hx2))) ?_)) ?_))
    refine C_ord [(0, true), (4, true), (6, true), (9, true), (13, true), (17, true), (18, true), (22, true), (30, true), (31, true), (32, true), (34, true), (35, true), (36, true), (1, false), (2, true), (3, true), (5, false), (7, false), (8, true), (10, false), (11, true), (12, true), (14, false), (15, true), (16, true), (19, false), (20, true), (21, true), (23, false), (24, true), (25, true), (26, true), (27, true), (28, true), (29, true), (33, true), (37, true), (38, true)] mixed (by kernel_rfl) rfl ?_
    have hS := hS.drew
    repeat (first | (refine G_id ?_; first | refine G_nil ?_ | refine G_plain rfl rfl ?_) | (refine X_id ?_; first | (refine X_callq 88 rfl rfl rfl rfl rfl hS (spin_ _ _ _ (by decide)) ?_; rintro _ _ rfl hS) | (refine X_callc 87 rfl rfl rfl rfl rfl (at_ _ i _ _ _ (by decide) (by decide) (by omega) (by omega) ((hS.rd (List.mem_cons_self ..)).ro)) ?_; rintro _ rfl) | refine X_yl (Yl_move rfl rfl) rfl rfl ?_ | refine X_yl (Yl_nilCheck rfl rfl) rfl rfl ?_ | refine X_yl (Yl_add rfl rfl rfl rfl) rfl rfl ?_ | refine X_yl (Yl_load rfl rfl (hS.cellI (by omega))) rfl rfl ?_ | refine X_storeI rfl rfl rfl rfl hS (by omega) (fun _ hS => ?_)) | (refine C_id ?_; first | refine C_seq ?_ | refine C_region ?_) | (refine E_id ?_; first | refine E_code ?_) | (refine GO_id ?_; first | refine GO_nil ?_ | refine GO_pure rfl rfl (fun _ => Yl_move rfl rfl) rfl rfl ?_ | refine GO_pure rfl rfl (fun _ => Yl_assign rfl rfl) rfl rfl ?_ | refine GO_pure rfl rfl (fun _ => Yl_nilCheck rfl rfl) rfl rfl ?_ | refine GO_pure rfl rfl (fun _ => Yl_indexAddr_arr rfl rfl rfl (by omega) (by omega)) rfl rfl ?_ | refine GO_pure rfl rfl (fun _ => Yl_add rfl rfl rfl rfl) rfl rfl ?_ | refine GO_pure rfl rfl (fun _ => Yl_xor rfl rfl rfl) rfl rfl ?_ | refine GO_pure rfl rfl (fun _ => Yl_and rfl rfl rfl) rfl rfl ?_ | refine GO_read (fun w' => w'.cell? _ = some _) rfl rfl hS.cell (fun _ hc => Yl_load rfl rfl hc) rfl rfl ?_ | refine GO_read (fun w' => w'.cell? _ = some _) rfl rfl (hS.cellI (by omega)) (fun _ hc => Yl_load rfl rfl hc) rfl rfl ?_ | refine GO_read (fun w' => w'.cell? _ = some _) rfl rfl ((hg.rd hS).cellI (by omega)) (fun _ hc => Yl_load rfl rfl hc) rfl rfl ?_ | refine GO_hard rfl rfl ?_) | (refine Keep_id ?_; first | refine And.intro (by repeat (first | exact trivial | refine And.intro (.inl (by decide +kernel)) ?_ | refine And.intro (.inr (by first | assumption | exact hS.cell | exact cell_at (by assumption) | exact hS.cellI (by omega) | exact hS.cellIP (by omega) | exact hS.cellsN | exact ((hr.rd hS).cellX (by omega) hx) | exact ((hr2.rd hS).cellX (by omega) hx2) | exact hS.cellB (by omega) | exact hS.cellBA (by omega) | exact (hb.rd hS).cellB' (by omega) | exact (hb2.rd hS).cellB' (by omega) | exact (hg.rd hS).cellI (by omega) | exact (hg2.rd hS).cellI (by omega) | exact ((hr.rd hS).cellF (by first | omega | (dsimp only; omega)) hx) | exact ((hr2.rd hS).cellF (by first | omega | (dsimp only; omega)) hx2))) ?_)) ?_))
    obtain ⟨U, hUe, hS⟩ := St.abs2 hS
    have hUl : U.length = 8 := by rw [hUe]; simp [hV]
    replace hUe : U = mixU rd Ws V i := hUe
    refine C_ord [(0, true), (2, true), (3, true), (5, true), (8, true), (12, true), (13, true), (18, true), (22, true), (23, true), (1, false), (4, false), (6, false), (7, true), (9, false), (10, true), (11, true), (14, false), (15, true), (16, true), (17, true), (19, false), (20, true), (21, true), (24, false), (25, true), (26, true), (27, true), (28, true), (29, true), (30, true), (31, true), (32, false)] mixed (by kernel_rfl) rfl ?_
    have hS := hS.drew
    repeat (first | (refine G_id ?_; first | refine G_nil ?_ | refine G_plain rfl rfl ?_) | (refine X_id ?_; first | (refine X_callq 88 rfl rfl rfl rfl rfl hS (spin_ _ _ _ (by decide)) ?_; rintro _ _ rfl hS) | (refine X_callc 87 rfl rfl rfl rfl rfl (at_ _ i _ _ _ (by decide) (by decide) (by omega) (by omega) ((hS.rd (List.mem_cons_self ..)).ro)) ?_; rintro _ rfl) | refine X_yl (Yl_move rfl rfl) rfl rfl ?_ | refine X_yl (Yl_add rfl rfl rfl (w64 (by omega) (by omega))) rfl rfl ?_ | refine X_storeI rfl rfl rfl rfl hS (by omega) (fun _ hS => ?_)) | (refine C_id ?_; first | refine C_region ?_) | (refine E_id ?_; first | refine E_code ?_ | refine E_blk_n ?_) | (refine GO_id ?_; first | refine GO_nil ?_ | refine GO_pure rfl rfl (fun _ => Yl_move rfl rfl) rfl rfl ?_ | refine GO_pure rfl rfl (fun _ => Yl_nilCheck rfl rfl) rfl rfl ?_ | refine GO_pure rfl rfl (fun _ => Yl_add rfl rfl rfl rfl) rfl rfl ?_ | refine GO_pure rfl rfl (fun _ => Yl_xor rfl rfl rfl) rfl rfl ?_ | refine GO_pure rfl rfl (fun _ => Yl_and rfl rfl rfl) rfl rfl ?_ | refine GO_pure rfl rfl (fun _ => Yl_or rfl rfl rfl) rfl rfl ?_ | refine GO_read (fun w' => w'.cell? _ = some _) rfl rfl (hS.cellI (by omega)) (fun _ hc => Yl_load rfl rfl hc) rfl rfl ?_ | refine GO_hard rfl rfl ?_) | (refine Keep_id ?_; first | refine And.intro (by repeat (first | exact trivial | refine And.intro (.inl (by decide +kernel)) ?_ | refine And.intro (.inr (by first | assumption | exact hS.cell | exact cell_at (by assumption) | exact hS.cellI (by omega) | exact hS.cellIP (by omega) | exact hS.cellsN | exact ((hr.rd hS).cellX (by omega) hx) | exact ((hr2.rd hS).cellX (by omega) hx2) | exact hS.cellB (by omega) | exact hS.cellBA (by omega) | exact (hb.rd hS).cellB' (by omega) | exact (hb2.rd hS).cellB' (by omega) | exact (hg.rd hS).cellI (by omega) | exact (hg2.rd hS).cellI (by omega) | exact ((hr.rd hS).cellF (by first | omega | (dsimp only; omega)) hx) | exact ((hr2.rd hS).cellF (by first | omega | (dsimp only; omega)) hx2))) ?_)) ?_))
    refine E_round (i + 1) ⟨rfl, rfl, rfl, rfl, trivial⟩ ⟨by omega, ?_⟩ (by omega)
    have hS := hS.pick [1, 1, 1]
    show St W F [pts b5 (.cells (ints .u32 (mixStep rd (spreadTo R 64) (mixTo rd (spreadTo R 64) H i) i)).toArray 112), pts b4 (.cells (ints .u32 (spreadTo R 64)).toArray 144), _] _
    rw [← hVe, ← hwe]
    unfold mixStep
    rw [← hUe]
    exact hS
  · obtain rfl : i = 64 := by omega
    repeat (first | (refine G_id ?_; first | refine G_nil ?_ | refine G_plain rfl rfl ?_) | (refine X_id ?_; first | refine X_yl (Yl_move rfl rfl) rfl rfl ?_ | refine X_yl (Yl_lss_f rfl rfl rfl (by omega)) rfl rfl ?_) | (refine C_id ?_; first | refine C_seq ?_ | refine C_region ?_ | refine C_block ?_ | refine C_exit ?_ | refine C_cond_f rfl ?_) | (refine E_id ?_; first | refine E_code ?_ | refine E_then_exit ?_ | refine E_blk_same ?_))
    refine C_loop (α := Nat) (fun k => [(0, .pointer (some ⟨s, 0, none⟩)), (5, .pointer (some ⟨b5, 0, none⟩)), (107, .int .i64 (k : Nat))])
      (fun k w => k ≤ 8 ∧ St W F [pts b5 (.cells (ints .u32 V).toArray 112), pts b4 (.cells (ints .u32 Ws).toArray 144), pts s (.cells (ints .u32 (addTo H V k) ++ (bv R ++ [Value.int .i64 tot])).toArray T)] w) (fun k => 8 - k) 0 ⟨rfl, rfl, rfl, trivial⟩ ⟨Nat.zero_le _, hS⟩ ?_
    clear hS
    rintro k w ⟨hk, hS⟩
    obtain ⟨A, hAe⟩ : ∃ A, A = addTo H V k := ⟨_, rfl⟩
    have hA : A.length = 8 := by rw [hAe, addTo_length]; exact hH
    rw [← hAe] at hS
    by_cases h8 : k < 8
    · repeat (first | (refine G_id ?_; first | refine G_nil ?_ | refine G_plain rfl rfl ?_) | (refine X_id ?_; first | refine X_yl (Yl_move rfl rfl) rfl rfl ?_ | refine X_yl (Yl_assign rfl rfl) rfl rfl ?_ | refine X_yl (Yl_lss_t rfl rfl rfl (by omega)) rfl rfl ?_) | (refine C_id ?_; first | refine C_seq ?_ | refine C_region ?_ | refine C_block ?_ | refine C_skip ?_ | refine C_cond_t rfl ?_) | (refine E_id ?_; first | refine E_code ?_))
      refine C_ord [(0, true), (1, true), (2, true), (3, true), (4, true), (5, true), (6, true), (7, true), (8, true), (9, true), (10, true), (11, false)] mixed (by kernel_rfl) rfl ?_
      have hS := hS.drew
      repeat (first | (refine G_id ?_; first | refine G_nil ?_ | refine G_plain rfl rfl ?_) | (refine X_id ?_; first | refine X_yl (Yl_move rfl rfl) rfl rfl ?_ | refine X_yl (Yl_add rfl rfl rfl (w64 (by omega) (by omega))) rfl rfl ?_ | refine X_storeIP rfl rfl rfl rfl hS (by omega) (fun _ hS => ?_)) | (refine C_id ?_; first | refine C_region ?_) | (refine E_id ?_; first | refine E_code ?_ | refine E_blk_n ?_) | (refine GO_id ?_; first | refine GO_nil ?_ | refine GO_pure rfl rfl (fun _ => Yl_move rfl rfl) rfl rfl ?_ | refine GO_pure rfl rfl (fun _ => Yl_nilCheck rfl rfl) rfl rfl ?_ | refine GO_pure rfl rfl (fun _ => Yl_indexAddr_arr rfl rfl rfl (by omega) (by omega)) rfl rfl ?_ | refine GO_pure rfl rfl (fun _ => Yl_add rfl rfl rfl rfl) rfl rfl ?_ | refine GO_read (fun w' => w'.cell? _ = some _) rfl rfl (hS.cellI (by omega)) (fun _ hc => Yl_load rfl rfl hc) rfl rfl ?_ | refine GO_read (fun w' => w'.cell? _ = some _) rfl rfl (hS.cellIP (by omega)) (fun _ hc => Yl_load rfl rfl hc) rfl rfl ?_ | refine GO_hard rfl rfl ?_) | (refine Keep_id ?_; first | refine And.intro (by repeat (first | exact trivial | refine And.intro (.inl (by decide +kernel)) ?_ | refine And.intro (.inr (by first | assumption | exact hS.cell | exact cell_at (by assumption) | exact hS.cellI (by omega) | exact hS.cellIP (by omega) | exact hS.cellsN | exact ((hr.rd hS).cellX (by omega) hx) | exact ((hr2.rd hS).cellX (by omega) hx2) | exact hS.cellB (by omega) | exact hS.cellBA (by omega) | exact (hb.rd hS).cellB' (by omega) | exact (hb2.rd hS).cellB' (by omega) | exact (hg.rd hS).cellI (by omega) | exact (hg2.rd hS).cellI (by omega) | exact ((hr.rd hS).cellF (by first | omega | (dsimp only; omega)) hx) | exact ((hr2.rd hS).cellF (by first | omega | (dsimp only; omega)) hx2))) ?_)) ?_))
      refine E_round (k + 1) ⟨rfl, rfl, rfl, trivial⟩ ⟨by omega, ?_⟩ (by omega)
      simp only [addTo]
      rw [← hAe]
      rw [show 0 + (k : Int).toNat * 1 = k by omega] at hS
      exact hS
    · obtain rfl : k = 8 := by omega
      repeat (first | (refine G_id ?_; first | refine G_nil ?_ | refine G_plain rfl rfl ?_) | (refine X_id ?_; first | refine X_yl (Yl_lss_f rfl rfl rfl (by omega)) rfl rfl ?_) | (refine C_id ?_; first | refine C_seq ?_ | refine C_region ?_ | refine C_exit ?_ | refine C_cond_f rfl ?_) | (refine E_id ?_; first | refine E_code ?_ | refine E_then_exit ?_ | refine E_blk_same ?_ | refine E_end0 rfl (Ret.mk ?_)))
      refine ⟨trivial, ?_⟩
      replace hS := hS.pick [2]
      rw [hAe, hVe] at hS
      exact hS
end Cr
namespace Cr
open Go Go.Proofs
set_option maxRecDepth 100000
set_option maxHeartbeats 4000000
attribute [local irreducible] Calls

/-! ### bytes -/
def outAt (H : List Int) (i : Nat) : UInt8 := b8 (ishr .u32 (H.getD (i / 4) 0) (24 - i % 4 * 8))
def outTo (H : List Int) : Nat → List UInt8
  | 0 => List.replicate 32 0
  | i + 1 => (outTo H i).set i (outAt H i)
theorem outTo_length (H : List Int) : ∀ i, (outTo H i).length = 32
  | 0 => by simp [outTo]
  | i + 1 => by simp [outTo, outTo_length H i]
/-- The digest's bytes. -/
def outB (H : List Int) : List UInt8 := outTo H 32
theorem outB_length (H : List Int) : (outB H).length = 32 := outTo_length H 32
theorem bytes_ (s : Nat) (H : List Int) (r : List Value) (T : TypeId) (W : World) (hH : H.length = 8) (hs : Rd W (pts s (.cells (ints .u32 H ++ r).toArray T))) :
    Calls Tryd.prog 67 #[.pointer (some ⟨s, 0, none⟩)] W (Ret fun v w => v = .agg (bv (outB H)).toArray ∧ St W noF [] w) := by
  have hS := St.start W
  have hg : Ro W noF (row (some ⟨s, 0, none⟩) (ints .u32 H)) := hs.ro.mono fun h hh => ⟨h, row_pts_at (n := 8) (by rw [List.drop_zero, List.take_append_of_le_length (by rw [ints_length]; omega), List.take_of_length_le (by rw [ints_length]; omega)]) h hh, fun _ _ e => e⟩
  refine calls_C Tryd.func67 rfl Tryd.ntmps67 rfl ?_
  repeat (first | (refine G_id ?_; first | refine G_nil ?_ | refine G_plain rfl rfl ?_) | (refine X_id ?_; first | refine X_yl (Yl_move rfl rfl) rfl rfl ?_ | refine X_alloc rfl rfl rfl hS (fun _ _ hS _ => ?_)) | (refine C_id ?_; first | refine C_seq ?_ | refine C_region ?_ | refine C_block ?_) | (refine E_id ?_; first | refine E_code ?_))
  rename_i b2 _ _ _ b3 _ _
  rw [bv_rep] at hS
  refine C_loop (α := Nat) (fun i => [(0, .pointer (some ⟨s, 0, none⟩)), (2, .pointer (some ⟨b2, 0, none⟩)), (3, .pointer (some ⟨b3, 0, none⟩)), (5, .int .i64 (i : Nat))])
    (fun i w => i ≤ 32 ∧ St W noF [pts b3 (.cells (bv (outTo H i)).toArray 78), pts b2 (.cells (bv (List.replicate 32 0)).toArray 78)] w) (fun i => 32 - i) 0 ⟨rfl, rfl, rfl, rfl, trivial⟩ ⟨Nat.zero_le _, hS⟩ ?_
  clear hS
  rintro i w ⟨hi, hS⟩
  obtain ⟨L, hLe⟩ : ∃ L, L = outTo H i := ⟨_, rfl⟩
  have hL : L.length = 32 := by rw [hLe]; exact outTo_length H i
  rw [← hLe] at hS
  by_cases h32 : i < 32
  · repeat (first | (refine G_id ?_; first | refine G_nil ?_ | refine G_plain rfl rfl ?_) | (refine X_id ?_; first | refine X_yl (Yl_move rfl rfl) rfl rfl ?_ | refine X_yl (Yl_assign rfl rfl) rfl rfl ?_ | refine X_yl (Yl_nilCheck rfl rfl) rfl rfl ?_ | refine X_yl (Yl_lss_t rfl rfl rfl (by omega)) rfl rfl ?_ | refine X_yl (Yl_indexAddr_arr rfl rfl rfl (by omega) (by omega)) rfl rfl ?_ | refine X_yl (Yl_add rfl rfl rfl (w64 (by omega) (by omega))) rfl rfl ?_ | refine X_yl (Yl_sub rfl rfl rfl (w64 (by omega) (by omega))) rfl rfl ?_ | refine X_yl (Yl_mul rfl rfl rfl (w64 (by omega) (by omega))) rfl rfl ?_ | refine X_yl (Yl_convU8 rfl rfl) rfl rfl ?_ | refine X_yl (Yl_shr rfl rfl rfl (by omega)) rfl rfl ?_ | refine X_yl (Yl_quoE rfl rfl rfl (by omega) (by omega) (by omega)) rfl rfl ?_ | refine X_yl (Yl_remE rfl rfl rfl (by omega) (by omega)) rfl rfl ?_ | refine X_yl (Yl_load rfl rfl ((hg.rd hS).cellI (by omega))) rfl rfl ?_ | refine X_storeB rfl rfl rfl rfl hS (by omega) (fun _ hS => ?_)) | (refine C_id ?_; first | refine C_seq ?_ | refine C_region ?_ | refine C_block ?_ | refine C_skip ?_ | refine C_cond_t rfl ?_) | (refine E_id ?_; first | refine E_code ?_ | refine E_blk_n ?_))
    refine E_round (i + 1) ⟨rfl, rfl, rfl, rfl, trivial⟩ ⟨by omega, ?_⟩ (by omega)
    rw [show 0 + (i : Int).toNat * 1 = i by omega, show ((i : Int) / 4).toNat * 1 = i / 4 by omega, show (24 - (i : Int) % 4 * 8).toNat = 24 - i % 4 * 8 by omega, hLe] at hS
    exact hS
  · obtain rfl : i = 32 := by omega
    have hlen : LenO (bv L) 32 := ⟨by simp [hL]⟩
    repeat (first | (refine G_id ?_; first | refine G_nil ?_ | refine G_plain rfl rfl ?_) | (refine X_id ?_; first | refine X_yl (Yl_lss_f rfl rfl rfl (by omega)) rfl rfl ?_ | refine X_yl (Yl_loadN rfl rfl hS.cellsN) rfl rfl ?_ | refine X_storeAll rfl rfl rfl rfl hS (fun _ hS => ?_)) | (refine C_id ?_; first | refine C_seq ?_ | refine C_region ?_ | refine C_ret ?_ | refine C_exit ?_ | refine C_cond_f rfl ?_) | (refine E_id ?_; first | refine E_code ?_ | refine E_then_exit ?_ | refine E_blk_same ?_ | refine E_ret1 rfl (by first | exact Rv_tmp rfl | exact Rv_cell rfl (run_load1 hS.cell) | exact Rv_cell rfl (run_loadN hS.cellsN)) (Ret.mk ?_)))
    exact ⟨by rw [hLe]; rfl, hS.drops⟩

/-! ### one -/
structure StrM where
  H : List Int
  R : List UInt8
  n : Nat
structure StrM.ok (S : StrM) : Prop where
  h8 : S.H.length = 8
  r64 : S.R.length = 64
def StrM.cells (S : StrM) : List Value := ints .u32 S.H ++ (bv S.R ++ [.int .i64 (S.n : Nat)])
def beginH (fs H : List Int) (n : Nat) : List Int := if n = 0 then fs else H
def StrM.one (rd fs : List Int) (S : StrM) (c : UInt8) : StrM :=
  ⟨if (S.n + 1) % 64 = 0 then blend rd (beginH fs S.H S.n) (S.R.set (S.n % 64) c) else beginH fs S.H S.n, S.R.set (S.n % 64) c, S.n + 1⟩
/-- The package's two tables. -/
structure Gl (W : World) (F : Nat → Prop) (rd fs : List Int) : Prop where
  round : Ro W F (row (some ⟨2, 0, none⟩) (ints .u32 rd))
  first : Ro W F (row (some ⟨0, 0, none⟩) (ints .u32 fs))
  round64 : rd.length = 64
  first8 : fs.length = 8
theorem Gl.mono {W w : World} {F F' : Nat → Prop} {rd fs : List Int} (h : Gl W F rd fs) (hw : ∀ r, Ro W F r → Ro w F' r) : Gl w F' rd fs := ⟨hw _ h.round, hw _ h.first, h.round64, h.first8⟩
theorem beginH_length {fs H : List Int} (n : Nat) (h : fs.length = 8) (h' : H.length = 8) : (beginH fs H n).length = 8 := by unfold beginH; split <;> assumption
theorem StrM.one_ok {rd fs : List Int} {S : StrM} {c : UInt8} (h : S.ok) (hf : fs.length = 8) : (S.one rd fs c).ok := by
  refine ⟨?_, by simp [StrM.one, h.r64]⟩
  simp only [StrM.one]
  split
  · rw [blend_length]; exact beginH_length _ hf h.h8
  · exact beginH_length _ hf h.h8
theorem one_ (s : Nat) (S : StrM) (c : UInt8) (rd fs : List Int) (T : TypeId) (W : World) (F : Nat → Prop) (hok : S.ok) (hn : S.n < 2305843009213693951) (hG : Gl W F rd fs) (hS : St W F [pts s (.cells S.cells.toArray T)] W) :
    Calls Tryd.prog 65 #[.pointer (some ⟨s, 0, none⟩), .int .u8 (c.toNat : Int)] W (Ret fun _ w => True ∧ St W F [pts s (.cells (S.one rd fs c).cells.toArray T)] w) := by
  obtain ⟨H, R, n⟩ := S
  obtain ⟨h8, r64⟩ := hok
  unfold StrM.cells at hS
  simp only at h8 r64 hn hS
  have hl1 : LenO (ints .u32 H) 8 := ⟨by rw [ints_length]; exact h8⟩
  have hl2 : LenO (bv R) 64 := ⟨by simp [r64]⟩
  have hl3 : LenO (ints .u32 fs) 8 := ⟨by rw [ints_length]; exact hG.first8⟩
  refine calls_C Tryd.func65 rfl Tryd.ntmps65 rfl ?_
  have hc1 : ∀ H', beginH fs H n = H' → H'.length = 8 := fun H' e => e ▸ beginH_length n hG.first8 h8
  have hend : ∀ H' w, beginH fs H n = H' → St W F [pts s (.cells (ints .u32 (if (n + 1) % 64 = 0 then blend rd H' (R.set (n % 64) c) else H') ++ (bv (R.set (n % 64) c) ++ [Value.int .i64 ((n + 1 : Nat) : Int)])).toArray T)] w →
      St W F [pts s (.cells (StrM.one rd fs ⟨H, R, n⟩ c).cells.toArray T)] w := fun H' w e h => by
    unfold StrM.one StrM.cells; simp only [e]; exact h
  have ei : ((n : Int) % 64).toNat * 1 = n % 64 := by omega
  by_cases h0 : n = 0
  all_goals by_cases h64 : (n + 1) % 64 = 0
  · repeat (first | (refine G_id ?_; first | refine G_nil ?_ | refine G_plain rfl rfl ?_) | (refine X_id ?_; first | refine X_yl (Yl_move rfl rfl) rfl rfl ?_ | refine X_yl (Yl_nilCheck rfl rfl) rfl rfl ?_ | refine X_yl (Yl_fieldAddr0 rfl rfl rfl) rfl rfl ?_ | refine X_yl (Yl_eql_t rfl rfl rfl (by omega)) rfl rfl ?_ | refine X_yl (Yl_load rfl rfl hS.cell) rfl rfl ?_) | (refine C_id ?_; first | refine C_seq ?_ | refine C_region ?_ | refine C_cond_t rfl ?_) | (refine E_id ?_; first | refine E_code ?_))
    refine X_yl (Yl_loadAgg rfl rfl ((hG.first.rd hS).cellsAt rfl) (by rw [ints_length]; exact hG.first8)) rfl rfl ?_
    repeat (first | (refine G_id ?_; first | refine G_nil ?_ | refine G_plain rfl rfl ?_) | (refine X_id ?_; first | refine X_yl (Yl_nilCheck rfl rfl) rfl rfl ?_ | refine X_yl (Yl_fieldAddr0 rfl rfl rfl) rfl rfl ?_ | refine X_store rfl rfl rfl rfl hS (fun _ hS _ => ?_)) | (refine C_id ?_; first | refine C_seq ?_) | (refine E_id ?_; first | refine E_code ?_))
    have e1 : beginH fs H n = fs := by simp [beginH, h0]
    refine C_ord [(0, true), (1, true), (2, true), (3, true), (4, true), (5, true), (6, true), (7, true), (8, true), (9, true), (10, false)] mixed (by kernel_rfl) rfl ?_
    have hS := hS.drew
    repeat (first | (refine G_id ?_; first | refine G_nil ?_ | refine G_plain rfl rfl ?_) | (refine X_id ?_; first | refine X_yl (Yl_move rfl rfl) rfl rfl ?_ | refine X_yl (Yl_nilCheck rfl rfl) rfl rfl ?_ | refine X_yl (Yl_fieldAddr0 rfl rfl rfl) rfl rfl ?_ | refine X_yl (Yl_eql_t rfl rfl rfl (by omega)) rfl rfl ?_ | refine X_yl (Yl_add rfl rfl rfl (w64 (by omega) (by omega))) rfl rfl ?_ | refine X_yl (Yl_remE rfl rfl rfl (by omega) (by omega)) rfl rfl ?_ | refine X_yl (Yl_load rfl rfl hS.cell) rfl rfl ?_ | refine X_storeMB rfl rfl rfl rfl hS rfl (by omega) (fun _ hS => ?_) | refine X_store rfl rfl rfl rfl hS (fun _ hS _ => ?_)) | (refine C_id ?_; first | refine C_seq ?_ | refine C_region ?_ | refine C_cond_t rfl ?_) | (refine E_id ?_; first | refine E_code ?_) | (refine GO_id ?_; first | refine GO_nil ?_ | refine GO_pure rfl rfl (fun _ => Yl_move rfl rfl) rfl rfl ?_ | refine GO_pure rfl rfl (fun _ => Yl_nilCheck rfl rfl) rfl rfl ?_ | refine GO_pure rfl rfl (fun _ => Yl_fieldAddr0 rfl rfl rfl) rfl rfl ?_ | refine GO_pure rfl rfl (fun _ => Yl_indexAddr_arr rfl rfl rfl (by omega) (by omega)) rfl rfl ?_ | refine GO_pure rfl rfl (fun _ => Yl_remE rfl rfl rfl (by omega) (by omega)) rfl rfl ?_ | refine GO_read (fun w' => w'.cell? _ = some _) rfl rfl hS.cell (fun _ hc => Yl_load rfl rfl hc) rfl rfl ?_ | refine GO_hard rfl rfl ?_) | (refine Keep_id ?_; first | refine And.intro (by repeat (first | exact trivial | refine And.intro (.inl (by decide +kernel)) ?_ | refine And.intro (.inr (by first | assumption | exact hS.cell | exact cell_at (by assumption) | exact hS.cellI (by omega) | exact hS.cellIP (by omega) | exact hS.cellsN | exact ((hr.rd hS).cellX (by omega) hx) | exact ((hr2.rd hS).cellX (by omega) hx2) | exact hS.cellB (by omega) | exact hS.cellBA (by omega) | exact (hb.rd hS).cellB' (by omega) | exact (hb2.rd hS).cellB' (by omega) | exact (hg.rd hS).cellI (by omega) | exact (hg2.rd hS).cellI (by omega) | exact ((hr.rd hS).cellF (by first | omega | (dsimp only; omega)) hx) | exact ((hr2.rd hS).cellF (by first | omega | (dsimp only; omega)) hx2))) ?_)) ?_))
    rw [ei] at hS
    refine C_ord [(0, true), (1, true), (2, true), (3, true), (4, true), (5, true), (6, true), (7, false)] mixed (by kernel_rfl) rfl ?_
    have hS := hS.drew
    repeat (first | (refine GO_id ?_; first | refine GO_pure rfl rfl (fun _ => Yl_move rfl rfl) rfl rfl ?_ | refine GO_pure rfl rfl (fun _ => Yl_nilCheck rfl rfl) rfl rfl ?_ | refine GO_pure rfl rfl (fun _ => Yl_fieldAddr0 rfl rfl rfl) rfl rfl ?_ | refine GO_pure rfl rfl (fun _ => Yl_slice_arr rfl rfl) rfl rfl ?_ | refine GO_hard rfl rfl ?_))
    obtain ⟨_, hc, hr, hw, hbk⟩ := hS.call [true]
    refine X_callg _ rfl rfl rfl rfl rfl (mix_ s fs rd (R.set (n % 64) c) (↑n + 1) T _ _ (hc1 _ e1) (by simp [r64]) hG.round64 (hw _ hG.round) hc) ?_
    rintro _ w ⟨_, hS⟩
    replace hS := hbk hS
    clear hc hr hw hbk
    repeat (first | (refine E_id ?_; first | refine E_end0 rfl (Ret.mk ?_)) | (refine GO_id ?_; first | refine GO_nil ?_) | (refine Keep_id ?_; first | refine And.intro (by repeat (first | exact trivial | refine And.intro (.inl (by decide +kernel)) ?_ | refine And.intro (.inr (by first | assumption | exact hS.cell | exact cell_at (by assumption) | exact hS.cellI (by omega) | exact hS.cellIP (by omega) | exact hS.cellsN | exact ((hr.rd hS).cellX (by omega) hx) | exact ((hr2.rd hS).cellX (by omega) hx2) | exact hS.cellB (by omega) | exact hS.cellBA (by omega) | exact (hb.rd hS).cellB' (by omega) | exact (hb2.rd hS).cellB' (by omega) | exact (hg.rd hS).cellI (by omega) | exact (hg2.rd hS).cellI (by omega) | exact ((hr.rd hS).cellF (by first | omega | (dsimp only; omega)) hx) | exact ((hr2.rd hS).cellF (by first | omega | (dsimp only; omega)) hx2))) ?_)) ?_))
    refine ⟨trivial, hend _ _ e1 ?_⟩
    rw [if_pos h64]
    exact hS
  · repeat (first | (refine G_id ?_; first | refine G_nil ?_ | refine G_plain rfl rfl ?_) | (refine X_id ?_; first | refine X_yl (Yl_move rfl rfl) rfl rfl ?_ | refine X_yl (Yl_nilCheck rfl rfl) rfl rfl ?_ | refine X_yl (Yl_fieldAddr0 rfl rfl rfl) rfl rfl ?_ | refine X_yl (Yl_eql_t rfl rfl rfl (by omega)) rfl rfl ?_ | refine X_yl (Yl_load rfl rfl hS.cell) rfl rfl ?_) | (refine C_id ?_; first | refine C_seq ?_ | refine C_region ?_ | refine C_cond_t rfl ?_) | (refine E_id ?_; first | refine E_code ?_))
    refine X_yl (Yl_loadAgg rfl rfl ((hG.first.rd hS).cellsAt rfl) (by rw [ints_length]; exact hG.first8)) rfl rfl ?_
    repeat (first | (refine G_id ?_; first | refine G_nil ?_ | refine G_plain rfl rfl ?_) | (refine X_id ?_; first | refine X_yl (Yl_nilCheck rfl rfl) rfl rfl ?_ | refine X_yl (Yl_fieldAddr0 rfl rfl rfl) rfl rfl ?_ | refine X_store rfl rfl rfl rfl hS (fun _ hS _ => ?_)) | (refine C_id ?_; first | refine C_seq ?_) | (refine E_id ?_; first | refine E_code ?_))
    have e1 : beginH fs H n = fs := by simp [beginH, h0]
    refine C_ord [(0, true), (1, true), (2, true), (3, true), (4, true), (5, true), (6, true), (7, true), (8, true), (9, true), (10, false)] mixed (by kernel_rfl) rfl ?_
    have hS := hS.drew
    repeat (first | (refine G_id ?_; first | refine G_nil ?_ | refine G_plain rfl rfl ?_) | (refine X_id ?_; first | refine X_yl (Yl_move rfl rfl) rfl rfl ?_ | refine X_yl (Yl_nilCheck rfl rfl) rfl rfl ?_ | refine X_yl (Yl_fieldAddr0 rfl rfl rfl) rfl rfl ?_ | refine X_yl (Yl_eql_f rfl rfl rfl (by omega)) rfl rfl ?_ | refine X_yl (Yl_add rfl rfl rfl (w64 (by omega) (by omega))) rfl rfl ?_ | refine X_yl (Yl_remE rfl rfl rfl (by omega) (by omega)) rfl rfl ?_ | refine X_yl (Yl_load rfl rfl hS.cell) rfl rfl ?_ | refine X_storeMB rfl rfl rfl rfl hS rfl (by omega) (fun _ hS => ?_) | refine X_store rfl rfl rfl rfl hS (fun _ hS _ => ?_)) | (refine C_id ?_; first | refine C_seq ?_ | refine C_region ?_ | refine C_skip ?_ | refine C_cond_f rfl ?_) | (refine E_id ?_; first | refine E_code ?_ | refine E_end0 rfl (Ret.mk ?_)) | (refine GO_id ?_; first | refine GO_nil ?_ | refine GO_pure rfl rfl (fun _ => Yl_move rfl rfl) rfl rfl ?_ | refine GO_pure rfl rfl (fun _ => Yl_nilCheck rfl rfl) rfl rfl ?_ | refine GO_pure rfl rfl (fun _ => Yl_fieldAddr0 rfl rfl rfl) rfl rfl ?_ | refine GO_pure rfl rfl (fun _ => Yl_indexAddr_arr rfl rfl rfl (by omega) (by omega)) rfl rfl ?_ | refine GO_pure rfl rfl (fun _ => Yl_remE rfl rfl rfl (by omega) (by omega)) rfl rfl ?_ | refine GO_read (fun w' => w'.cell? _ = some _) rfl rfl hS.cell (fun _ hc => Yl_load rfl rfl hc) rfl rfl ?_ | refine GO_hard rfl rfl ?_) | (refine Keep_id ?_; first | refine And.intro (by repeat (first | exact trivial | refine And.intro (.inl (by decide +kernel)) ?_ | refine And.intro (.inr (by first | assumption | exact hS.cell | exact cell_at (by assumption) | exact hS.cellI (by omega) | exact hS.cellIP (by omega) | exact hS.cellsN | exact ((hr.rd hS).cellX (by omega) hx) | exact ((hr2.rd hS).cellX (by omega) hx2) | exact hS.cellB (by omega) | exact hS.cellBA (by omega) | exact (hb.rd hS).cellB' (by omega) | exact (hb2.rd hS).cellB' (by omega) | exact (hg.rd hS).cellI (by omega) | exact (hg2.rd hS).cellI (by omega) | exact ((hr.rd hS).cellF (by first | omega | (dsimp only; omega)) hx) | exact ((hr2.rd hS).cellF (by first | omega | (dsimp only; omega)) hx2))) ?_)) ?_))
    rw [ei] at hS
    refine ⟨trivial, hend _ _ e1 ?_⟩
    rw [if_neg h64]
    exact hS
  · have e1 : beginH fs H n = H := by simp [beginH, h0]
    repeat (first | (refine G_id ?_; first | refine G_nil ?_ | refine G_plain rfl rfl ?_) | (refine X_id ?_; first | refine X_yl (Yl_move rfl rfl) rfl rfl ?_ | refine X_yl (Yl_nilCheck rfl rfl) rfl rfl ?_ | refine X_yl (Yl_fieldAddr0 rfl rfl rfl) rfl rfl ?_ | refine X_yl (Yl_eql_f rfl rfl rfl (by omega)) rfl rfl ?_ | refine X_yl (Yl_load rfl rfl hS.cell) rfl rfl ?_) | (refine C_id ?_; first | refine C_seq ?_ | refine C_region ?_ | refine C_skip ?_ | refine C_cond_f rfl ?_) | (refine E_id ?_; first | refine E_code ?_))
    refine C_ord [(0, true), (1, true), (2, true), (3, true), (4, true), (5, true), (6, true), (7, true), (8, true), (9, true), (10, false)] mixed (by kernel_rfl) rfl ?_
    have hS := hS.drew
    repeat (first | (refine G_id ?_; first | refine G_nil ?_ | refine G_plain rfl rfl ?_) | (refine X_id ?_; first | refine X_yl (Yl_move rfl rfl) rfl rfl ?_ | refine X_yl (Yl_nilCheck rfl rfl) rfl rfl ?_ | refine X_yl (Yl_fieldAddr0 rfl rfl rfl) rfl rfl ?_ | refine X_yl (Yl_eql_t rfl rfl rfl (by omega)) rfl rfl ?_ | refine X_yl (Yl_add rfl rfl rfl (w64 (by omega) (by omega))) rfl rfl ?_ | refine X_yl (Yl_remE rfl rfl rfl (by omega) (by omega)) rfl rfl ?_ | refine X_yl (Yl_load rfl rfl hS.cell) rfl rfl ?_ | refine X_storeMB rfl rfl rfl rfl hS rfl (by omega) (fun _ hS => ?_) | refine X_store rfl rfl rfl rfl hS (fun _ hS _ => ?_)) | (refine C_id ?_; first | refine C_seq ?_ | refine C_region ?_ | refine C_cond_t rfl ?_) | (refine E_id ?_; first | refine E_code ?_) | (refine GO_id ?_; first | refine GO_nil ?_ | refine GO_pure rfl rfl (fun _ => Yl_move rfl rfl) rfl rfl ?_ | refine GO_pure rfl rfl (fun _ => Yl_nilCheck rfl rfl) rfl rfl ?_ | refine GO_pure rfl rfl (fun _ => Yl_fieldAddr0 rfl rfl rfl) rfl rfl ?_ | refine GO_pure rfl rfl (fun _ => Yl_indexAddr_arr rfl rfl rfl (by omega) (by omega)) rfl rfl ?_ | refine GO_pure rfl rfl (fun _ => Yl_remE rfl rfl rfl (by omega) (by omega)) rfl rfl ?_ | refine GO_read (fun w' => w'.cell? _ = some _) rfl rfl hS.cell (fun _ hc => Yl_load rfl rfl hc) rfl rfl ?_ | refine GO_hard rfl rfl ?_) | (refine Keep_id ?_; first | refine And.intro (by repeat (first | exact trivial | refine And.intro (.inl (by decide +kernel)) ?_ | refine And.intro (.inr (by first | assumption | exact hS.cell | exact cell_at (by assumption) | exact hS.cellI (by omega) | exact hS.cellIP (by omega) | exact hS.cellsN | exact ((hr.rd hS).cellX (by omega) hx) | exact ((hr2.rd hS).cellX (by omega) hx2) | exact hS.cellB (by omega) | exact hS.cellBA (by omega) | exact (hb.rd hS).cellB' (by omega) | exact (hb2.rd hS).cellB' (by omega) | exact (hg.rd hS).cellI (by omega) | exact (hg2.rd hS).cellI (by omega) | exact ((hr.rd hS).cellF (by first | omega | (dsimp only; omega)) hx) | exact ((hr2.rd hS).cellF (by first | omega | (dsimp only; omega)) hx2))) ?_)) ?_))
    rw [ei] at hS
    refine C_ord [(0, true), (1, true), (2, true), (3, true), (4, true), (5, true), (6, true), (7, false)] mixed (by kernel_rfl) rfl ?_
    have hS := hS.drew
    repeat (first | (refine GO_id ?_; first | refine GO_pure rfl rfl (fun _ => Yl_move rfl rfl) rfl rfl ?_ | refine GO_pure rfl rfl (fun _ => Yl_nilCheck rfl rfl) rfl rfl ?_ | refine GO_pure rfl rfl (fun _ => Yl_fieldAddr0 rfl rfl rfl) rfl rfl ?_ | refine GO_pure rfl rfl (fun _ => Yl_slice_arr rfl rfl) rfl rfl ?_ | refine GO_hard rfl rfl ?_))
    obtain ⟨_, hc, hr, hw, hbk⟩ := hS.call [true]
    refine X_callg _ rfl rfl rfl rfl rfl (mix_ s H rd (R.set (n % 64) c) (↑n + 1) T _ _ (hc1 _ e1) (by simp [r64]) hG.round64 (hw _ hG.round) hc) ?_
    rintro _ w ⟨_, hS⟩
    replace hS := hbk hS
    clear hc hr hw hbk
    repeat (first | (refine E_id ?_; first | refine E_end0 rfl (Ret.mk ?_)) | (refine GO_id ?_; first | refine GO_nil ?_) | (refine Keep_id ?_; first | refine And.intro (by repeat (first | exact trivial | refine And.intro (.inl (by decide +kernel)) ?_ | refine And.intro (.inr (by first | assumption | exact hS.cell | exact cell_at (by assumption) | exact hS.cellI (by omega) | exact hS.cellIP (by omega) | exact hS.cellsN | exact ((hr.rd hS).cellX (by omega) hx) | exact ((hr2.rd hS).cellX (by omega) hx2) | exact hS.cellB (by omega) | exact hS.cellBA (by omega) | exact (hb.rd hS).cellB' (by omega) | exact (hb2.rd hS).cellB' (by omega) | exact (hg.rd hS).cellI (by omega) | exact (hg2.rd hS).cellI (by omega) | exact ((hr.rd hS).cellF (by first | omega | (dsimp only; omega)) hx) | exact ((hr2.rd hS).cellF (by first | omega | (dsimp only; omega)) hx2))) ?_)) ?_))
    refine ⟨trivial, hend _ _ e1 ?_⟩
    rw [if_pos h64]
    exact hS
  · have e1 : beginH fs H n = H := by simp [beginH, h0]
    repeat (first | (refine G_id ?_; first | refine G_nil ?_ | refine G_plain rfl rfl ?_) | (refine X_id ?_; first | refine X_yl (Yl_move rfl rfl) rfl rfl ?_ | refine X_yl (Yl_nilCheck rfl rfl) rfl rfl ?_ | refine X_yl (Yl_fieldAddr0 rfl rfl rfl) rfl rfl ?_ | refine X_yl (Yl_eql_f rfl rfl rfl (by omega)) rfl rfl ?_ | refine X_yl (Yl_load rfl rfl hS.cell) rfl rfl ?_) | (refine C_id ?_; first | refine C_seq ?_ | refine C_region ?_ | refine C_skip ?_ | refine C_cond_f rfl ?_) | (refine E_id ?_; first | refine E_code ?_))
    refine C_ord [(0, true), (1, true), (2, true), (3, true), (4, true), (5, true), (6, true), (7, true), (8, true), (9, true), (10, false)] mixed (by kernel_rfl) rfl ?_
    have hS := hS.drew
    repeat (first | (refine G_id ?_; first | refine G_nil ?_ | refine G_plain rfl rfl ?_) | (refine X_id ?_; first | refine X_yl (Yl_move rfl rfl) rfl rfl ?_ | refine X_yl (Yl_nilCheck rfl rfl) rfl rfl ?_ | refine X_yl (Yl_fieldAddr0 rfl rfl rfl) rfl rfl ?_ | refine X_yl (Yl_eql_f rfl rfl rfl (by omega)) rfl rfl ?_ | refine X_yl (Yl_add rfl rfl rfl (w64 (by omega) (by omega))) rfl rfl ?_ | refine X_yl (Yl_remE rfl rfl rfl (by omega) (by omega)) rfl rfl ?_ | refine X_yl (Yl_load rfl rfl hS.cell) rfl rfl ?_ | refine X_storeMB rfl rfl rfl rfl hS rfl (by omega) (fun _ hS => ?_) | refine X_store rfl rfl rfl rfl hS (fun _ hS _ => ?_)) | (refine C_id ?_; first | refine C_seq ?_ | refine C_region ?_ | refine C_skip ?_ | refine C_cond_f rfl ?_) | (refine E_id ?_; first | refine E_code ?_ | refine E_end0 rfl (Ret.mk ?_)) | (refine GO_id ?_; first | refine GO_nil ?_ | refine GO_pure rfl rfl (fun _ => Yl_move rfl rfl) rfl rfl ?_ | refine GO_pure rfl rfl (fun _ => Yl_nilCheck rfl rfl) rfl rfl ?_ | refine GO_pure rfl rfl (fun _ => Yl_fieldAddr0 rfl rfl rfl) rfl rfl ?_ | refine GO_pure rfl rfl (fun _ => Yl_indexAddr_arr rfl rfl rfl (by omega) (by omega)) rfl rfl ?_ | refine GO_pure rfl rfl (fun _ => Yl_remE rfl rfl rfl (by omega) (by omega)) rfl rfl ?_ | refine GO_read (fun w' => w'.cell? _ = some _) rfl rfl hS.cell (fun _ hc => Yl_load rfl rfl hc) rfl rfl ?_ | refine GO_hard rfl rfl ?_) | (refine Keep_id ?_; first | refine And.intro (by repeat (first | exact trivial | refine And.intro (.inl (by decide +kernel)) ?_ | refine And.intro (.inr (by first | assumption | exact hS.cell | exact cell_at (by assumption) | exact hS.cellI (by omega) | exact hS.cellIP (by omega) | exact hS.cellsN | exact ((hr.rd hS).cellX (by omega) hx) | exact ((hr2.rd hS).cellX (by omega) hx2) | exact hS.cellB (by omega) | exact hS.cellBA (by omega) | exact (hb.rd hS).cellB' (by omega) | exact (hb2.rd hS).cellB' (by omega) | exact (hg.rd hS).cellI (by omega) | exact (hg2.rd hS).cellI (by omega) | exact ((hr.rd hS).cellF (by first | omega | (dsimp only; omega)) hx) | exact ((hr2.rd hS).cellF (by first | omega | (dsimp only; omega)) hx2))) ?_)) ?_))
    rw [ei] at hS
    refine ⟨trivial, hend _ _ e1 ?_⟩
    rw [if_neg h64]
    exact hS
end Cr
