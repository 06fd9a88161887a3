/- Closed facts on this seat's tables, printed by a program of this work. -/
import Derived.Test.YtfmkhhdohfagkaaSh
import Derived.Test.YtfmkhhdohfagkaaProg
namespace Go.Proofs.Ytfmkhhdohfagkaa
open Go
theorem mixed : Try.prog.follows .mixedOrders = true := by kernel_rfl
theorem agg27 : aggOk Try.prog 27 7 = true := by kernel_rfl
theorem agg56 : aggOk Try.prog 56 2 = true := by kernel_rfl
theorem agg68 : aggOk Try.prog 68 512 = true := by kernel_rfl
theorem agg73 : aggOk Try.prog 73 2 = true := by kernel_rfl
theorem agg78 : aggOk Try.prog 78 2 = true := by kernel_rfl
theorem bk4 : boolOk Try.prog 4 = true := by kernel_rfl
theorem by71 : bytesOk Try.prog 71 = true := by kernel_rfl
theorem fo27_1 : fieldOk Try.prog 27 1 1 = true := by kernel_rfl
theorem fo27_2 : fieldOk Try.prog 27 2 2 = true := by kernel_rfl
theorem fo27_3 : fieldOk Try.prog 27 3 3 = true := by kernel_rfl
theorem fo27_4 : fieldOk Try.prog 27 4 4 = true := by kernel_rfl
theorem fo27_5 : fieldOk Try.prog 27 5 5 = true := by kernel_rfl
theorem fo27_6 : fieldOk Try.prog 27 6 6 = true := by kernel_rfl
theorem fo56_0 : fieldOk Try.prog 56 0 0 = true := by kernel_rfl
theorem fo56_1 : fieldOk Try.prog 56 1 1 = true := by kernel_rfl
theorem fo59_0 : fieldOk Try.prog 59 0 0 = true := by kernel_rfl
theorem fo59_1 : fieldOk Try.prog 59 1 1 = true := by kernel_rfl
theorem fo70_0 : fieldOk Try.prog 70 0 0 = true := by kernel_rfl
theorem fo70_1 : fieldOk Try.prog 70 1 1 = true := by kernel_rfl
theorem fo70_2 : fieldOk Try.prog 70 2 2 = true := by kernel_rfl
theorem fo70_3 : fieldOk Try.prog 70 3 3 = true := by kernel_rfl
theorem fo73_0 : fieldOk Try.prog 73 0 0 = true := by kernel_rfl
theorem fo73_1 : fieldOk Try.prog 73 1 1 = true := by kernel_rfl
theorem fo78_0 : fieldOk Try.prog 78 0 0 = true := by kernel_rfl
theorem fo78_1 : fieldOk Try.prog 78 1 1 = true := by kernel_rfl
theorem fo88_0 : fieldOk Try.prog 88 0 0 = true := by kernel_rfl
theorem fo88_1 : fieldOk Try.prog 88 1 1 = true := by kernel_rfl
theorem fo93_0 : fieldOk Try.prog 93 0 0 = true := by kernel_rfl
theorem fo93_1 : fieldOk Try.prog 93 1 1 = true := by kernel_rfl
theorem fo93_2 : fieldOk Try.prog 93 2 2 = true := by kernel_rfl
theorem fo93_3 : fieldOk Try.prog 93 3 3 = true := by kernel_rfl
theorem fo93_4 : fieldOk Try.prog 93 4 4 = true := by kernel_rfl
theorem fo93_5 : fieldOk Try.prog 93 5 5 = true := by kernel_rfl
theorem fo110_0 : fieldOk Try.prog 110 0 0 = true := by kernel_rfl
theorem fo110_1 : fieldOk Try.prog 110 1 1 = true := by kernel_rfl
theorem fo110_2 : fieldOk Try.prog 110 2 2 = true := by kernel_rfl
theorem fo110_3 : fieldOk Try.prog 110 3 3 = true := by kernel_rfl
theorem fo110_4 : fieldOk Try.prog 110 4 4 = true := by kernel_rfl
theorem fo110_5 : fieldOk Try.prog 110 5 5 = true := by kernel_rfl
theorem fo110_6 : fieldOk Try.prog 110 6 6 = true := by kernel_rfl
theorem mp67 : mapOk Try.prog 67 3 68 = true := by kernel_rfl
theorem mp91 : mapOk Try.prog 91 88 71 = true := by kernel_rfl
theorem mp106 : mapOk Try.prog 106 3 71 = true := by kernel_rfl
theorem mp107 : mapOk Try.prog 107 114 71 = true := by kernel_rfl
theorem mp108 : mapOk Try.prog 108 3 3 = true := by kernel_rfl
theorem ptr24 : ptrOk Try.prog 24 = true := by kernel_rfl
theorem ptr25 : ptrOk Try.prog 25 = true := by kernel_rfl
theorem ptr45 : ptrOk Try.prog 45 = true := by kernel_rfl
theorem ptr49 : ptrOk Try.prog 49 = true := by kernel_rfl
theorem sc3 : scalarOk Try.prog 3 = true := by kernel_rfl
theorem sc4 : scalarOk Try.prog 4 = true := by kernel_rfl
theorem sc5 : scalarOk Try.prog 5 = true := by kernel_rfl
theorem sc22 : scalarOk Try.prog 22 = true := by kernel_rfl
theorem sc24 : scalarOk Try.prog 24 = true := by kernel_rfl
theorem sc25 : scalarOk Try.prog 25 = true := by kernel_rfl
theorem sc31 : scalarOk Try.prog 31 = true := by kernel_rfl
theorem sc41 : scalarOk Try.prog 41 = true := by kernel_rfl
theorem sc45 : scalarOk Try.prog 45 = true := by kernel_rfl
theorem sc49 : scalarOk Try.prog 49 = true := by kernel_rfl
theorem sc67 : scalarOk Try.prog 67 = true := by kernel_rfl
theorem sc71 : scalarOk Try.prog 71 = true := by kernel_rfl
theorem sc76 : scalarOk Try.prog 76 = true := by kernel_rfl
theorem sc82 : scalarOk Try.prog 82 = true := by kernel_rfl
theorem sc91 : scalarOk Try.prog 91 = true := by kernel_rfl
theorem sc106 : scalarOk Try.prog 106 = true := by kernel_rfl
theorem sc107 : scalarOk Try.prog 107 = true := by kernel_rfl
theorem sc108 : scalarOk Try.prog 108 = true := by kernel_rfl
theorem sl22 : Try.prog.underlying 22 = some (.slice 3) := by kernel_rfl
theorem sl62 : Try.prog.underlying 62 = some (.slice 73) := by kernel_rfl
theorem sl71 : Try.prog.underlying 71 = some (.slice 5) := by kernel_rfl
theorem sl79 : Try.prog.underlying 79 = some (.slice 78) := by kernel_rfl
theorem sl85 : Try.prog.underlying 85 = some (.slice 41) := by kernel_rfl
theorem sl99 : Try.prog.underlying 99 = some (.slice 56) := by kernel_rfl
theorem sl116 : Try.prog.underlying 116 = some (.slice 82) := by kernel_rfl
theorem so22 : sliceOk Try.prog 22 3 1 8 = true := by kernel_rfl
theorem so30 : sliceOk Try.prog 30 4 1 1 = true := by kernel_rfl
theorem so62 : sliceOk Try.prog 62 73 2 32 = true := by kernel_rfl
theorem so71 : sliceOk Try.prog 71 5 1 1 = true := by kernel_rfl
theorem so79 : sliceOk Try.prog 79 78 2 16 = true := by kernel_rfl
theorem so85 : sliceOk Try.prog 85 41 1 8 = true := by kernel_rfl
theorem so99 : sliceOk Try.prog 99 56 2 16 = true := by kernel_rfl
theorem so116 : sliceOk Try.prog 116 82 1 8 = true := by kernel_rfl
theorem st9 : strOk Try.prog 9 = true := by kernel_rfl
theorem un3 : Try.prog.underlying 3 = some (.int .i64) := by kernel_rfl
theorem un5 : Try.prog.underlying 5 = some (.int .u8) := by kernel_rfl
theorem un68 : Try.prog.underlying 68 = some (.array 512 5) := by kernel_rfl
theorem un82 : Try.prog.underlying 82 = some (.int .u64) := by kernel_rfl
theorem z3 : zeroOf Try.prog 3 = some (#[.int .i64 0]) := by kernel_rfl
theorem z4 : zeroOf Try.prog 4 = some (#[.bool false]) := by kernel_rfl
theorem z5 : zeroOf Try.prog 5 = some (#[.int .u8 0]) := by kernel_rfl
theorem z27 : zeroOf Try.prog 27 = some (#[.int .i64 0, .int .i64 0, .int .i64 0, .int .i64 0, .int .i64 0, .int .i64 0, .int .i64 0]) := by kernel_rfl
theorem z31 : zeroOf Try.prog 31 = some (#[.int .i64 0]) := by kernel_rfl
theorem z41 : zeroOf Try.prog 41 = some (#[.nilFunc]) := by kernel_rfl
theorem z56 : zeroOf Try.prog 56 = some (#[.int .i64 0, .int .i64 0]) := by kernel_rfl
theorem z68 : zeroOf Try.prog 68 = some (Array.replicate 512 (.int .u8 0)) := by kernel_rfl
theorem z71 : zeroOf Try.prog 71 = some (#[.slice none 0 0]) := by kernel_rfl
theorem z73 : zeroOf Try.prog 73 = some (#[.int .i64 0, .slice none 0 0]) := by kernel_rfl
theorem z78 : zeroOf Try.prog 78 = some (#[.pointer none, .int .i64 0]) := by kernel_rfl
theorem z82 : zeroOf Try.prog 82 = some (#[.int .u64 0]) := by kernel_rfl
theorem zv3 : zvOf Try.prog 3 = some ((.int .i64 0)) := by kernel_rfl
theorem zv68 : zvOf Try.prog 68 = some (.agg (Array.replicate 512 (.int .u8 0))) := by kernel_rfl
theorem zv71 : zvOf Try.prog 71 = some ((.slice none 0 0)) := by kernel_rfl
end Go.Proofs.Ytfmkhhdohfagkaa
