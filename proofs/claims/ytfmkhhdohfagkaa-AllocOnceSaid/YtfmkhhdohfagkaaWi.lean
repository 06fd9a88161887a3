/- slices.Sorted over the keys of a map of ints: the library's contracts, laid on this program. -/
import Derived.Test.YtfmkhhdohfagkaaFa
import Derived.Test.YtfmkhhdohfagkaaWh
import Derived.KernelRfl
import Derived.Shelf.SlIterI.Sorted
import Derived.Shelf.Slices.In.SortNone
import Derived.Shelf.Sort.Plain
set_option linter.unusedVariables false
set_option linter.unusedSimpArgs false
namespace Go.Proofs.Ytfmkhhdohfagkaa
open Go
open Go.Shelf Go.Sort Go.RowKit Go.Maps
def lays189_ren : Go.Shelf.Ren := ⟨fun | 189 => 63 | 125 => 76 | 257 => 75 | 128 => 90 | 129 => 91 | 294 => 81 | 295 => 82 | 296 => 83 | 297 => 84 | 298 => 85 | 299 => 86 | 216 => 87 | 300 => 88 | 301 => 89 | 328 => 94 | 329 => 95 | 330 => 96 | 331 => 97 | 332 => 98 | 215 => 99 | 343 => 100 | n => n, fun | 28 => 22 | 3 => 3 | 46 => 121 | 0 => 0 | 51 => 136 | 53 => 82 | 4 => 4 | 183 => 129 | 182 => 128 | 131 => 133 | 5 => 5 | 9 => 9 | 218 => 137 | 222 => 76 | 228 => 142 | 229 => 38 | n => n, fun n => n⟩
theorem lays189 : Lays.n189 Try.prog lays189_ren where
  mixed := by kernel_rfl
  f125 := Try.func76.trans (congrArg some (by kernel_rfl))
  f128 := Try.func90.trans (congrArg some (by kernel_rfl))
  f129 := Try.func91.trans (congrArg some (by kernel_rfl))
  f189 := Try.func63.trans (congrArg some (by kernel_rfl))
  f215 := Try.func99.trans (congrArg some (by kernel_rfl))
  f216 := Try.func87.trans (congrArg some (by kernel_rfl))
  f257 := Try.func75.trans (congrArg some (by kernel_rfl))
  f294 := Try.func81.trans (congrArg some (by kernel_rfl))
  f295 := Try.func82.trans (congrArg some (by kernel_rfl))
  f296 := Try.func83.trans (congrArg some (by kernel_rfl))
  f297 := Try.func84.trans (congrArg some (by kernel_rfl))
  f298 := Try.func85.trans (congrArg some (by kernel_rfl))
  f299 := Try.func86.trans (congrArg some (by kernel_rfl))
  f300 := Try.func88.trans (congrArg some (by kernel_rfl))
  f301 := Try.func89.trans (congrArg some (by kernel_rfl))
  f328 := Try.func94.trans (congrArg some (by kernel_rfl))
  f329 := Try.func95.trans (congrArg some (by kernel_rfl))
  f330 := Try.func96.trans (congrArg some (by kernel_rfl))
  f331 := Try.func97.trans (congrArg some (by kernel_rfl))
  f332 := Try.func98.trans (congrArg some (by kernel_rfl))
  f343 := Try.func100.trans (congrArg some (by kernel_rfl))
  t0 := Try.underlying0
  a0 := Try.isAgg0
  z0 := Try.sizeOf0
  v0 := Try.zeroValue0
  t3 := Try.underlying3
  a3 := Try.isAgg3
  z3 := Try.sizeOf3
  v3 := Try.zeroValue3
  t4 := Try.underlying4
  a4 := Try.isAgg4
  z4 := Try.sizeOf4
  v4 := Try.zeroValue4
  t5 := Try.underlying5
  a5 := Try.isAgg5
  z5 := Try.sizeOf5
  v5 := Try.zeroValue5
  t9 := Try.underlying9
  a9 := Try.isAgg9
  z9 := Try.sizeOf9
  v9 := Try.zeroValue9
  t28 := Try.underlying22
  a28 := Try.isAgg22
  z28 := Try.sizeOf22
  v28 := Try.zeroValue22
  t46 := Try.underlying121
  a46 := Try.isAgg121
  z46 := Try.sizeOf121
  v46 := Try.zeroValue121
  t51 := Try.underlying136
  a51 := Try.isAgg136
  z51 := Try.sizeOf136
  v51 := Try.zeroValue136
  t53 := Try.underlying82
  a53 := Try.isAgg82
  z53 := Try.sizeOf82
  v53 := Try.zeroValue82
  t131 := Try.underlying133
  a131 := Try.isAgg133
  z131 := Try.sizeOf133
  v131 := Try.zeroValue133
  t182 := Try.underlying128
  a182 := Try.isAgg128
  z182 := Try.sizeOf128
  v182 := Try.zeroValue128
  t183 := Try.underlying129
  a183 := Try.isAgg129
  z183 := Try.sizeOf129
  v183 := Try.zeroValue129
  t218 := Try.underlying137
  a218 := Try.isAgg137
  z218 := Try.sizeOf137
  v218 := Try.zeroValue137
  t222 := Try.underlying76
  a222 := Try.isAgg76
  z222 := Try.sizeOf76
  v222 := Try.zeroValue76
  t228 := Try.underlying142
  a228 := Try.isAgg142
  z228 := Try.sizeOf142
  v228 := Try.zeroValue142
  t229 := Try.underlying38
  a229 := Try.isAgg38
  z229 := Try.sizeOf38
  v229 := Try.zeroValue38

def laysSorted_ren : Go.Shelf.Ren := ⟨fun | 6 => 31 | 8 => 62 | 9 => 63 | 11 => 74 | n => n, fun | 26 => 3 | 28 => 65 | 24 => 22 | 0 => 0 | 3 => 3 | 33 => 42 | 4 => 4 | n => n, fun n => n⟩
theorem laysSorted : SlLaysZI.n6 Try.prog laysSorted_ren where
  mixed := by kernel_rfl
  f6 := ⟨ "slices.Sorted[int]", by decide, Try.func31.trans (congrArg some (by kernel_rfl))⟩
  f8 := ⟨ "slices.Collect[int]", by decide, Try.func62.trans (congrArg some (by kernel_rfl))⟩
  f11 := ⟨ "slices.AppendSeq[[]int,int]", by decide, Try.func74.trans (congrArg some (by kernel_rfl))⟩
  t0 := Try.underlying0
  a0 := Try.isAgg0
  z0 := Try.sizeOf0
  v0 := Try.zeroValue0
  t24 := Try.underlying22
  a24 := Try.isAgg22
  z24 := Try.sizeOf22
  v24 := Try.zeroValue22
  t26 := Try.underlying3
  a26 := Try.isAgg3
  z26 := Try.sizeOf3
  v26 := Try.zeroValue3
  t28 := Try.underlying65
  a28 := Try.isAgg65
  z28 := Try.sizeOf65
  v28 := Try.zeroValue65
  i26 := by kernel_rfl

def laysKeys_ren : Go.Shelf.Ren := ⟨fun | 7 => 32 | 10 => 64 | n => n, fun | 23 => 67 | 26 => 3 | 3 => 68 | 28 => 65 | 0 => 0 | 27 => 64 | 33 => 42 | 4 => 4 | n => n, fun n => n⟩
theorem laysKeys : SlLaysZI.n7 Try.prog laysKeys_ren where
  mixed := by kernel_rfl
  f7 := ⟨ "maps.Keys[map[int][512]byte,int,[512]byte]", by decide, Try.func32.trans (congrArg some (by kernel_rfl))⟩
  f10 := ⟨ "maps.Keys[map[int][512]byte,int,[512]byte]$1", by decide, Try.func64.trans (congrArg some (by kernel_rfl))⟩
  t0 := Try.underlying0
  a0 := Try.isAgg0
  z0 := Try.sizeOf0
  v0 := Try.zeroValue0
  t4 := Try.underlying4
  a4 := Try.isAgg4
  z4 := Try.sizeOf4
  v4 := Try.zeroValue4
  t23 := Try.underlying67
  a23 := Try.isAgg67
  z23 := Try.sizeOf67
  v23 := Try.zeroValue67
  t26 := Try.underlying3
  a26 := Try.isAgg3
  z26 := Try.sizeOf3
  v26 := Try.zeroValue3
  t27 := Try.underlying64
  a27 := Try.isAgg64
  z27 := Try.sizeOf64
  v27 := Try.zeroValue64
  t28 := Try.underlying65
  a28 := Try.isAgg65
  z28 := Try.sizeOf65
  v28 := Try.zeroValue65
  t33 := Try.underlying42
  a33 := Try.isAgg42
  z33 := Try.sizeOf42
  v33 := Try.zeroValue42

theorem mapsKeys {b : Nat} : Spec Try.prog 32 #[.map (some b)] [] fun F v M => ∃ bm, v = .func (.func 64) #[] #[.pointer (some ⟨bm, 0, none⟩)] ∧ M = pt bm (.cells #[.map (some b)] 67 (0, 0)) :: F := by
  refine Spec.intro Try.func32 rfl rfl fun B F => ?_
  simp only [Try.ntmps32, List.cons_append, List.nil_append, env0, Nat.reduceAdd]
  refine WC.seq ?_
  refine WC.region ?_
  refine WL.box fun b1 => ?_
  refine WL.assign ?_
  refine WL.nil ?_
  refine WQ.next ?_
  refine WC.seq ?_
  refine WC.region ?_
  refine WL.makeFuncB ?_
  refine WL.assign ?_
  refine WL.nil ?_
  refine WQ.next ?_
  refine WC.ret (?_)
  exact WQ.ret1 (h1 := .tmp (t := 2) rfl) ⟨_, ⟨_, rfl, rfl⟩, Am.auto⟩


theorem sortsI (m : Nat) : AnyZI.SortsIn Try.prog laysSorted_ren Fence.wide m :=
  ⟨fun blk off cap ss W hH hblk hsz => callsIn_wide.2 (Any.slices_Sort_int lays189 blk off cap ss W hH hblk hsz),
   fun p cap W => callsIn_wide.2 (Any.slices_Sort_int_none lays189 p cap W)⟩
theorem sortedKeys {b c bm : Nat} {es : Array MapEntry} {kvs : List (Int × Value)} (hm : MapIs intE es c kvs) (hl : kvs.length ≤ 1000) (hr : ∀ p ∈ kvs, -9223372036854775808 ≤ p.1 ∧ p.1 ≤ 9223372036854775807) :
    Spec Try.prog 31 #[.func (.func 64) #[] #[.pointer (some ⟨bm, 0, none⟩)]] [pt bm (.cells #[.map (some b)] 67 (0, 0)), pt b (.map es c)] fun F v M => ∃ ss : List Int, ss.Perm (kvs.map (·.1)) ∧ M = rowR 3 1 v ss.length (ints ss) :: pt bm (.cells #[.map (some b)] 67 (0, 0)) :: pt b (.map es c) :: F := by
  intro B F w hs
  have hbm := hs.get .here
  have hb := hs.get (.there .here)
  obtain ⟨D, hown, hsize, hperm⟩ := ownsMap_of (P := Try.prog) (kt := 3) (by kernel_rfl) hb hm (by unfold maxLen; omega) hr
  have hseq : SeqGives Fence.wide 2 Try.prog 64 #[.pointer (some ⟨bm, 0, none⟩)] encZ (fun ss => ss.Perm (Go.intKeys D)) (Maps.size D) w :=
    AnyZI.keys_gives (ρ := laysKeys_ren) { laysKeys with } Fence.wide 2 trivial rfl (by omega) bm b kvs.length D w (Array.getElem?_eq_some_iff.1 hbm).1 (by rw [cell_of hbm]; rfl) hown
  have cS := AnyZI.sorted_in laysSorted Fence.wide 5 trivial trivial trivial trivial rfl (by omega) (sortsI _) (enters_of Try.func63 (by kernel_rfl) rfl) 64 #[.pointer (some ⟨bm, 0, none⟩)] trivial (enters_of Try.func64 (by kernel_rfl) rfl) _ _ (by rw [hsize]; unfold maxLen; omega) (by rw [hsize]; omega) w hseq
  change CallsIn _ _ Try.prog 31 _ _ _ at cS
  refine ((callsIn_wide (n := 5)).1 cS).mono ?_
  rintro e w' ⟨v, ss, rfl, hS, hrow, hnil, hbel⟩
  refine ⟨v, _, rfl, ⟨ss.mergeSort fun x y => decide (x ≤ y), (List.mergeSort_perm ss _).trans (hS.trans hperm), rfl⟩, ?_⟩
  rw [List.length_mergeSort]
  exact hs.newRow hbel hrow

end Go.Proofs.Ytfmkhhdohfagkaa
