/- Closed facts on this seat's tables, printed by a program of this work. -/
import Derived.Test.YtedmihapieleaaaGreatSh
import Derived.Test.YtedmihapieleaaaGreatProg
namespace Go.Proofs.YtedmihapieleaaaGreat
open Go
theorem mixed : Tryz.prog.follows .mixedOrders = true := by kernel_rfl
theorem agg28 : aggOk Tryz.prog 28 7 = true := by kernel_rfl
theorem agg104 : aggOk Tryz.prog 104 512 = true := by kernel_rfl
theorem agg108 : aggOk Tryz.prog 108 2 = true := by kernel_rfl
theorem agg114 : aggOk Tryz.prog 114 2 = true := by kernel_rfl
theorem agg134 : aggOk Tryz.prog 134 2 = true := by kernel_rfl
theorem by33 : bytesOk Tryz.prog 33 = true := by kernel_rfl
theorem fo28_1 : fieldOk Tryz.prog 28 1 1 = true := by kernel_rfl
theorem fo28_2 : fieldOk Tryz.prog 28 2 2 = true := by kernel_rfl
theorem fo28_3 : fieldOk Tryz.prog 28 3 3 = true := by kernel_rfl
theorem fo28_4 : fieldOk Tryz.prog 28 4 4 = true := by kernel_rfl
theorem fo28_5 : fieldOk Tryz.prog 28 5 5 = true := by kernel_rfl
theorem fo28_6 : fieldOk Tryz.prog 28 6 6 = true := by kernel_rfl
theorem fo106_0 : fieldOk Tryz.prog 106 0 0 = true := by kernel_rfl
theorem fo106_1 : fieldOk Tryz.prog 106 1 1 = true := by kernel_rfl
theorem fo106_2 : fieldOk Tryz.prog 106 2 2 = true := by kernel_rfl
theorem fo106_3 : fieldOk Tryz.prog 106 3 3 = true := by kernel_rfl
theorem fo108_0 : fieldOk Tryz.prog 108 0 0 = true := by kernel_rfl
theorem fo108_1 : fieldOk Tryz.prog 108 1 1 = true := by kernel_rfl
theorem fo114_0 : fieldOk Tryz.prog 114 0 0 = true := by kernel_rfl
theorem fo114_1 : fieldOk Tryz.prog 114 1 1 = true := by kernel_rfl
theorem fo134_0 : fieldOk Tryz.prog 134 0 0 = true := by kernel_rfl
theorem fo134_1 : fieldOk Tryz.prog 134 1 1 = true := by kernel_rfl
theorem fo144_0 : fieldOk Tryz.prog 144 0 0 = true := by kernel_rfl
theorem fo144_1 : fieldOk Tryz.prog 144 1 1 = true := by kernel_rfl
theorem fo149_0 : fieldOk Tryz.prog 149 0 0 = true := by kernel_rfl
theorem fo149_1 : fieldOk Tryz.prog 149 1 1 = true := by kernel_rfl
theorem fo149_2 : fieldOk Tryz.prog 149 2 2 = true := by kernel_rfl
theorem fo149_3 : fieldOk Tryz.prog 149 3 3 = true := by kernel_rfl
theorem fo149_4 : fieldOk Tryz.prog 149 4 4 = true := by kernel_rfl
theorem fo149_5 : fieldOk Tryz.prog 149 5 5 = true := by kernel_rfl
theorem fo154_0 : fieldOk Tryz.prog 154 0 0 = true := by kernel_rfl
theorem fo154_1 : fieldOk Tryz.prog 154 1 1 = true := by kernel_rfl
theorem fo175_0 : fieldOk Tryz.prog 175 0 0 = true := by kernel_rfl
theorem fo175_1 : fieldOk Tryz.prog 175 1 1 = true := by kernel_rfl
theorem fo175_2 : fieldOk Tryz.prog 175 2 2 = true := by kernel_rfl
theorem fo175_3 : fieldOk Tryz.prog 175 3 3 = true := by kernel_rfl
theorem fo175_4 : fieldOk Tryz.prog 175 4 4 = true := by kernel_rfl
theorem fo175_5 : fieldOk Tryz.prog 175 5 5 = true := by kernel_rfl
theorem fo175_6 : fieldOk Tryz.prog 175 6 6 = true := by kernel_rfl
theorem mp103 : mapOk Tryz.prog 103 3 104 = true := by kernel_rfl
theorem mp147 : mapOk Tryz.prog 147 144 33 = true := by kernel_rfl
theorem mp171 : mapOk Tryz.prog 171 3 33 = true := by kernel_rfl
theorem mp172 : mapOk Tryz.prog 172 179 33 = true := by kernel_rfl
theorem mp173 : mapOk Tryz.prog 173 3 3 = true := by kernel_rfl
theorem ptr24 : ptrOk Tryz.prog 24 = true := by kernel_rfl
theorem ptr25 : ptrOk Tryz.prog 25 = true := by kernel_rfl
theorem ptr76 : ptrOk Tryz.prog 76 = true := by kernel_rfl
theorem ptr80 : ptrOk Tryz.prog 80 = true := by kernel_rfl
theorem sc3 : scalarOk Tryz.prog 3 = true := by kernel_rfl
theorem sc4 : scalarOk Tryz.prog 4 = true := by kernel_rfl
theorem sc5 : scalarOk Tryz.prog 5 = true := by kernel_rfl
theorem sc22 : scalarOk Tryz.prog 22 = true := by kernel_rfl
theorem sc24 : scalarOk Tryz.prog 24 = true := by kernel_rfl
theorem sc25 : scalarOk Tryz.prog 25 = true := by kernel_rfl
theorem sc33 : scalarOk Tryz.prog 33 = true := by kernel_rfl
theorem sc35 : scalarOk Tryz.prog 35 = true := by kernel_rfl
theorem sc41 : scalarOk Tryz.prog 41 = true := by kernel_rfl
theorem sc76 : scalarOk Tryz.prog 76 = true := by kernel_rfl
theorem sc80 : scalarOk Tryz.prog 80 = true := by kernel_rfl
theorem sc103 : scalarOk Tryz.prog 103 = true := by kernel_rfl
theorem sc132 : scalarOk Tryz.prog 132 = true := by kernel_rfl
theorem sc138 : scalarOk Tryz.prog 138 = true := by kernel_rfl
theorem sc147 : scalarOk Tryz.prog 147 = true := by kernel_rfl
theorem sc171 : scalarOk Tryz.prog 171 = true := by kernel_rfl
theorem sc172 : scalarOk Tryz.prog 172 = true := by kernel_rfl
theorem sc173 : scalarOk Tryz.prog 173 = true := by kernel_rfl
theorem sl22 : Tryz.prog.underlying 22 = some (.slice 3) := by kernel_rfl
theorem sl33 : Tryz.prog.underlying 33 = some (.slice 5) := by kernel_rfl
theorem sl98 : Tryz.prog.underlying 98 = some (.slice 108) := by kernel_rfl
theorem sl135 : Tryz.prog.underlying 135 = some (.slice 134) := by kernel_rfl
theorem sl141 : Tryz.prog.underlying 141 = some (.slice 41) := by kernel_rfl
theorem sl155 : Tryz.prog.underlying 155 = some (.slice 114) := by kernel_rfl
theorem sl181 : Tryz.prog.underlying 181 = some (.slice 138) := by kernel_rfl
theorem so22 : sliceOk Tryz.prog 22 3 1 8 = true := by kernel_rfl
theorem so33 : sliceOk Tryz.prog 33 5 1 1 = true := by kernel_rfl
theorem so98 : sliceOk Tryz.prog 98 108 2 32 = true := by kernel_rfl
theorem so135 : sliceOk Tryz.prog 135 134 2 16 = true := by kernel_rfl
theorem so141 : sliceOk Tryz.prog 141 41 1 8 = true := by kernel_rfl
theorem so155 : sliceOk Tryz.prog 155 114 2 16 = true := by kernel_rfl
theorem so181 : sliceOk Tryz.prog 181 138 1 8 = true := by kernel_rfl
theorem st9 : strOk Tryz.prog 9 = true := by kernel_rfl
theorem un3 : Tryz.prog.underlying 3 = some (.int .i64) := by kernel_rfl
theorem un5 : Tryz.prog.underlying 5 = some (.int .u8) := by kernel_rfl
theorem un104 : Tryz.prog.underlying 104 = some (.array 512 5) := by kernel_rfl
theorem un138 : Tryz.prog.underlying 138 = some (.int .u64) := by kernel_rfl
theorem z3 : zeroOf Tryz.prog 3 = some (#[.int .i64 0]) := by kernel_rfl
theorem z5 : zeroOf Tryz.prog 5 = some (#[.int .u8 0]) := by kernel_rfl
theorem z28 : zeroOf Tryz.prog 28 = some (#[.int .i64 0, .int .i64 0, .int .i64 0, .int .i64 0, .int .i64 0, .int .i64 0, .int .i64 0]) := by kernel_rfl
theorem z33 : zeroOf Tryz.prog 33 = some (#[.slice none 0 0]) := by kernel_rfl
theorem z35 : zeroOf Tryz.prog 35 = some (#[.int .i64 0]) := by kernel_rfl
theorem z41 : zeroOf Tryz.prog 41 = some (#[.nilFunc]) := by kernel_rfl
theorem z104 : zeroOf Tryz.prog 104 = some (Array.replicate 512 (.int .u8 0)) := by kernel_rfl
theorem z108 : zeroOf Tryz.prog 108 = some (#[.int .i64 0, .slice none 0 0]) := by kernel_rfl
theorem z114 : zeroOf Tryz.prog 114 = some (#[.int .i64 0, .int .i64 0]) := by kernel_rfl
theorem z134 : zeroOf Tryz.prog 134 = some (#[.pointer none, .int .i64 0]) := by kernel_rfl
theorem z138 : zeroOf Tryz.prog 138 = some (#[.int .u64 0]) := by kernel_rfl
theorem zv3 : zvOf Tryz.prog 3 = some ((.int .i64 0)) := by kernel_rfl
theorem zv33 : zvOf Tryz.prog 33 = some ((.slice none 0 0)) := by kernel_rfl
theorem zv104 : zvOf Tryz.prog 104 = some (.agg (Array.replicate 512 (.int .u8 0))) := by kernel_rfl
end Go.Proofs.YtedmihapieleaaaGreat
