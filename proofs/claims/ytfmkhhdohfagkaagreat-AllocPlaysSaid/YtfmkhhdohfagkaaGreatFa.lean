/- Closed facts on this seat's tables, printed by a program of this work. -/
import Derived.Test.YtfmkhhdohfagkaaGreatSh
import Derived.Test.YtfmkhhdohfagkaaGreatProg
namespace Go.Proofs.YtfmkhhdohfagkaaGreat
open Go
theorem mixed : Tryz.prog.follows .mixedOrders = true := by kernel_rfl
theorem agg25 : aggOk Tryz.prog 25 7 = true := by kernel_rfl
theorem agg62 : aggOk Tryz.prog 62 2 = true := by kernel_rfl
theorem agg75 : aggOk Tryz.prog 75 512 = true := by kernel_rfl
theorem agg80 : aggOk Tryz.prog 80 2 = true := by kernel_rfl
theorem agg86 : aggOk Tryz.prog 86 2 = true := by kernel_rfl
theorem by78 : bytesOk Tryz.prog 78 = true := by kernel_rfl
theorem fo25_1 : fieldOk Tryz.prog 25 1 1 = true := by kernel_rfl
theorem fo25_2 : fieldOk Tryz.prog 25 2 2 = true := by kernel_rfl
theorem fo25_3 : fieldOk Tryz.prog 25 3 3 = true := by kernel_rfl
theorem fo25_4 : fieldOk Tryz.prog 25 4 4 = true := by kernel_rfl
theorem fo25_5 : fieldOk Tryz.prog 25 5 5 = true := by kernel_rfl
theorem fo25_6 : fieldOk Tryz.prog 25 6 6 = true := by kernel_rfl
theorem fo62_0 : fieldOk Tryz.prog 62 0 0 = true := by kernel_rfl
theorem fo62_1 : fieldOk Tryz.prog 62 1 1 = true := by kernel_rfl
theorem fo65_0 : fieldOk Tryz.prog 65 0 0 = true := by kernel_rfl
theorem fo65_1 : fieldOk Tryz.prog 65 1 1 = true := by kernel_rfl
theorem fo77_0 : fieldOk Tryz.prog 77 0 0 = true := by kernel_rfl
theorem fo77_1 : fieldOk Tryz.prog 77 1 1 = true := by kernel_rfl
theorem fo77_2 : fieldOk Tryz.prog 77 2 2 = true := by kernel_rfl
theorem fo77_3 : fieldOk Tryz.prog 77 3 3 = true := by kernel_rfl
theorem fo80_0 : fieldOk Tryz.prog 80 0 0 = true := by kernel_rfl
theorem fo80_1 : fieldOk Tryz.prog 80 1 1 = true := by kernel_rfl
theorem fo86_0 : fieldOk Tryz.prog 86 0 0 = true := by kernel_rfl
theorem fo86_1 : fieldOk Tryz.prog 86 1 1 = true := by kernel_rfl
theorem fo96_0 : fieldOk Tryz.prog 96 0 0 = true := by kernel_rfl
theorem fo96_1 : fieldOk Tryz.prog 96 1 1 = true := by kernel_rfl
theorem fo101_0 : fieldOk Tryz.prog 101 0 0 = true := by kernel_rfl
theorem fo101_1 : fieldOk Tryz.prog 101 1 1 = true := by kernel_rfl
theorem fo101_2 : fieldOk Tryz.prog 101 2 2 = true := by kernel_rfl
theorem fo101_3 : fieldOk Tryz.prog 101 3 3 = true := by kernel_rfl
theorem fo101_4 : fieldOk Tryz.prog 101 4 4 = true := by kernel_rfl
theorem fo101_5 : fieldOk Tryz.prog 101 5 5 = true := by kernel_rfl
theorem fo119_0 : fieldOk Tryz.prog 119 0 0 = true := by kernel_rfl
theorem fo119_1 : fieldOk Tryz.prog 119 1 1 = true := by kernel_rfl
theorem fo119_2 : fieldOk Tryz.prog 119 2 2 = true := by kernel_rfl
theorem fo119_3 : fieldOk Tryz.prog 119 3 3 = true := by kernel_rfl
theorem fo119_4 : fieldOk Tryz.prog 119 4 4 = true := by kernel_rfl
theorem fo119_5 : fieldOk Tryz.prog 119 5 5 = true := by kernel_rfl
theorem fo119_6 : fieldOk Tryz.prog 119 6 6 = true := by kernel_rfl
theorem mp74 : mapOk Tryz.prog 74 3 75 = true := by kernel_rfl
theorem mp99 : mapOk Tryz.prog 99 96 78 = true := by kernel_rfl
theorem mp115 : mapOk Tryz.prog 115 3 78 = true := by kernel_rfl
theorem mp116 : mapOk Tryz.prog 116 123 78 = true := by kernel_rfl
theorem mp117 : mapOk Tryz.prog 117 3 3 = true := by kernel_rfl
theorem ptr28 : ptrOk Tryz.prog 28 = true := by kernel_rfl
theorem ptr29 : ptrOk Tryz.prog 29 = true := by kernel_rfl
theorem ptr48 : ptrOk Tryz.prog 48 = true := by kernel_rfl
theorem ptr52 : ptrOk Tryz.prog 52 = true := by kernel_rfl
theorem sc3 : scalarOk Tryz.prog 3 = true := by kernel_rfl
theorem sc4 : scalarOk Tryz.prog 4 = true := by kernel_rfl
theorem sc5 : scalarOk Tryz.prog 5 = true := by kernel_rfl
theorem sc28 : scalarOk Tryz.prog 28 = true := by kernel_rfl
theorem sc29 : scalarOk Tryz.prog 29 = true := by kernel_rfl
theorem sc37 : scalarOk Tryz.prog 37 = true := by kernel_rfl
theorem sc44 : scalarOk Tryz.prog 44 = true := by kernel_rfl
theorem sc48 : scalarOk Tryz.prog 48 = true := by kernel_rfl
theorem sc52 : scalarOk Tryz.prog 52 = true := by kernel_rfl
theorem sc69 : scalarOk Tryz.prog 69 = true := by kernel_rfl
theorem sc74 : scalarOk Tryz.prog 74 = true := by kernel_rfl
theorem sc78 : scalarOk Tryz.prog 78 = true := by kernel_rfl
theorem sc84 : scalarOk Tryz.prog 84 = true := by kernel_rfl
theorem sc90 : scalarOk Tryz.prog 90 = true := by kernel_rfl
theorem sc99 : scalarOk Tryz.prog 99 = true := by kernel_rfl
theorem sc115 : scalarOk Tryz.prog 115 = true := by kernel_rfl
theorem sc116 : scalarOk Tryz.prog 116 = true := by kernel_rfl
theorem sc117 : scalarOk Tryz.prog 117 = true := by kernel_rfl
theorem sl68 : Tryz.prog.underlying 68 = some (.slice 80) := by kernel_rfl
theorem sl69 : Tryz.prog.underlying 69 = some (.slice 3) := by kernel_rfl
theorem sl78 : Tryz.prog.underlying 78 = some (.slice 5) := by kernel_rfl
theorem sl87 : Tryz.prog.underlying 87 = some (.slice 86) := by kernel_rfl
theorem sl93 : Tryz.prog.underlying 93 = some (.slice 44) := by kernel_rfl
theorem sl107 : Tryz.prog.underlying 107 = some (.slice 62) := by kernel_rfl
theorem sl125 : Tryz.prog.underlying 125 = some (.slice 90) := by kernel_rfl
theorem so68 : sliceOk Tryz.prog 68 80 2 32 = true := by kernel_rfl
theorem so69 : sliceOk Tryz.prog 69 3 1 8 = true := by kernel_rfl
theorem so78 : sliceOk Tryz.prog 78 5 1 1 = true := by kernel_rfl
theorem so87 : sliceOk Tryz.prog 87 86 2 16 = true := by kernel_rfl
theorem so93 : sliceOk Tryz.prog 93 44 1 8 = true := by kernel_rfl
theorem so107 : sliceOk Tryz.prog 107 62 2 16 = true := by kernel_rfl
theorem so125 : sliceOk Tryz.prog 125 90 1 8 = true := by kernel_rfl
theorem st9 : strOk Tryz.prog 9 = true := by kernel_rfl
theorem un3 : Tryz.prog.underlying 3 = some (.int .i64) := by kernel_rfl
theorem un5 : Tryz.prog.underlying 5 = some (.int .u8) := by kernel_rfl
theorem un75 : Tryz.prog.underlying 75 = some (.array 512 5) := by kernel_rfl
theorem un90 : Tryz.prog.underlying 90 = some (.int .u64) := by kernel_rfl
theorem z3 : zeroOf Tryz.prog 3 = some (#[.int .i64 0]) := by kernel_rfl
theorem z5 : zeroOf Tryz.prog 5 = some (#[.int .u8 0]) := by kernel_rfl
theorem z25 : zeroOf Tryz.prog 25 = some (#[.int .i64 0, .int .i64 0, .int .i64 0, .int .i64 0, .int .i64 0, .int .i64 0, .int .i64 0]) := by kernel_rfl
theorem z37 : zeroOf Tryz.prog 37 = some (#[.int .i64 0]) := by kernel_rfl
theorem z44 : zeroOf Tryz.prog 44 = some (#[.nilFunc]) := by kernel_rfl
theorem z62 : zeroOf Tryz.prog 62 = some (#[.int .i64 0, .int .i64 0]) := by kernel_rfl
theorem z75 : zeroOf Tryz.prog 75 = some (Array.replicate 512 (.int .u8 0)) := by kernel_rfl
theorem z78 : zeroOf Tryz.prog 78 = some (#[.slice none 0 0]) := by kernel_rfl
theorem z80 : zeroOf Tryz.prog 80 = some (#[.int .i64 0, .slice none 0 0]) := by kernel_rfl
theorem z86 : zeroOf Tryz.prog 86 = some (#[.pointer none, .int .i64 0]) := by kernel_rfl
theorem z90 : zeroOf Tryz.prog 90 = some (#[.int .u64 0]) := by kernel_rfl
theorem zv3 : zvOf Tryz.prog 3 = some ((.int .i64 0)) := by kernel_rfl
theorem zv75 : zvOf Tryz.prog 75 = some (.agg (Array.replicate 512 (.int .u8 0))) := by kernel_rfl
theorem zv78 : zvOf Tryz.prog 78 = some ((.slice none 0 0)) := by kernel_rfl
end Go.Proofs.YtfmkhhdohfagkaaGreat
