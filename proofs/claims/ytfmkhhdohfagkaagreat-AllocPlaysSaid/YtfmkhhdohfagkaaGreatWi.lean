/- slices.Sorted over the keys of a map of ints: the library's contracts, laid on this program. -/
import Derived.Test.YtfmkhhdohfagkaaGreatFa
import Derived.Test.YtfmkhhdohfagkaaGreatWh
import Derived.KernelRfl
import Derived.Shelf.SlIterI.Sorted
import Derived.Shelf.Slices.In.SortNone
import Derived.Shelf.Sort.Plain
set_option linter.unusedVariables false
set_option linter.unusedSimpArgs false
namespace Go.Proofs.YtfmkhhdohfagkaaGreat
open Go
open Go.Shelf Go.Sort Go.RowKit Go.Maps
def lays189_ren : Go.Shelf.Ren := ⟨fun | 189 => 67 | 125 => 82 | 257 => 81 | 128 => 96 | 129 => 97 | 294 => 87 | 295 => 88 | 296 => 89 | 297 => 90 | 298 => 91 | 299 => 92 | 216 => 93 | 300 => 94 | 301 => 95 | 328 => 100 | 329 => 101 | 330 => 102 | 331 => 103 | 332 => 104 | 215 => 105 | 343 => 106 | n => n, fun | 28 => 69 | 3 => 3 | 46 => 130 | 0 => 0 | 51 => 146 | 53 => 90 | 4 => 4 | 183 => 138 | 182 => 137 | 131 => 143 | 5 => 5 | 9 => 9 | 218 => 147 | 222 => 84 | 228 => 152 | 229 => 40 | n => n, fun n => n⟩
theorem lays189 : Lays.n189 Tryz.prog lays189_ren where
  mixed := by kernel_rfl
  f125 := Tryz.func82.trans (congrArg some (by kernel_rfl))
  f128 := Tryz.func96.trans (congrArg some (by kernel_rfl))
  f129 := Tryz.func97.trans (congrArg some (by kernel_rfl))
  f189 := Tryz.func67.trans (congrArg some (by kernel_rfl))
  f215 := Tryz.func105.trans (congrArg some (by kernel_rfl))
  f216 := Tryz.func93.trans (congrArg some (by kernel_rfl))
  f257 := Tryz.func81.trans (congrArg some (by kernel_rfl))
  f294 := Tryz.func87.trans (congrArg some (by kernel_rfl))
  f295 := Tryz.func88.trans (congrArg some (by kernel_rfl))
  f296 := Tryz.func89.trans (congrArg some (by kernel_rfl))
  f297 := Tryz.func90.trans (congrArg some (by kernel_rfl))
  f298 := Tryz.func91.trans (congrArg some (by kernel_rfl))
  f299 := Tryz.func92.trans (congrArg some (by kernel_rfl))
  f300 := Tryz.func94.trans (congrArg some (by kernel_rfl))
  f301 := Tryz.func95.trans (congrArg some (by kernel_rfl))
  f328 := Tryz.func100.trans (congrArg some (by kernel_rfl))
  f329 := Tryz.func101.trans (congrArg some (by kernel_rfl))
  f330 := Tryz.func102.trans (congrArg some (by kernel_rfl))
  f331 := Tryz.func103.trans (congrArg some (by kernel_rfl))
  f332 := Tryz.func104.trans (congrArg some (by kernel_rfl))
  f343 := Tryz.func106.trans (congrArg some (by kernel_rfl))
  t0 := Tryz.underlying0
  a0 := Tryz.isAgg0
  z0 := Tryz.sizeOf0
  v0 := Tryz.zeroValue0
  t3 := Tryz.underlying3
  a3 := Tryz.isAgg3
  z3 := Tryz.sizeOf3
  v3 := Tryz.zeroValue3
  t4 := Tryz.underlying4
  a4 := Tryz.isAgg4
  z4 := Tryz.sizeOf4
  v4 := Tryz.zeroValue4
  t5 := Tryz.underlying5
  a5 := Tryz.isAgg5
  z5 := Tryz.sizeOf5
  v5 := Tryz.zeroValue5
  t9 := Tryz.underlying9
  a9 := Tryz.isAgg9
  z9 := Tryz.sizeOf9
  v9 := Tryz.zeroValue9
  t28 := Tryz.underlying69
  a28 := Tryz.isAgg69
  z28 := Tryz.sizeOf69
  v28 := Tryz.zeroValue69
  t46 := Tryz.underlying130
  a46 := Tryz.isAgg130
  z46 := Tryz.sizeOf130
  v46 := Tryz.zeroValue130
  t51 := Tryz.underlying146
  a51 := Tryz.isAgg146
  z51 := Tryz.sizeOf146
  v51 := Tryz.zeroValue146
  t53 := Tryz.underlying90
  a53 := Tryz.isAgg90
  z53 := Tryz.sizeOf90
  v53 := Tryz.zeroValue90
  t131 := Tryz.underlying143
  a131 := Tryz.isAgg143
  z131 := Tryz.sizeOf143
  v131 := Tryz.zeroValue143
  t182 := Tryz.underlying137
  a182 := Tryz.isAgg137
  z182 := Tryz.sizeOf137
  v182 := Tryz.zeroValue137
  t183 := Tryz.underlying138
  a183 := Tryz.isAgg138
  z183 := Tryz.sizeOf138
  v183 := Tryz.zeroValue138
  t218 := Tryz.underlying147
  a218 := Tryz.isAgg147
  z218 := Tryz.sizeOf147
  v218 := Tryz.zeroValue147
  t222 := Tryz.underlying84
  a222 := Tryz.isAgg84
  z222 := Tryz.sizeOf84
  v222 := Tryz.zeroValue84
  t228 := Tryz.underlying152
  a228 := Tryz.isAgg152
  z228 := Tryz.sizeOf152
  v228 := Tryz.zeroValue152
  t229 := Tryz.underlying40
  a229 := Tryz.isAgg40
  z229 := Tryz.sizeOf40
  v229 := Tryz.zeroValue40

def laysSorted_ren : Go.Shelf.Ren := ⟨fun | 6 => 35 | 8 => 66 | 9 => 67 | 11 => 80 | n => n, fun | 26 => 3 | 28 => 72 | 24 => 69 | 0 => 0 | 3 => 3 | 33 => 114 | 4 => 4 | n => n, fun n => n⟩
theorem laysSorted : SlLaysZI.n6 Tryz.prog laysSorted_ren where
  mixed := by kernel_rfl
  f6 := ⟨ "slices.Sorted[int]", by decide, Tryz.func35.trans (congrArg some (by kernel_rfl))⟩
  f8 := ⟨ "slices.Collect[int]", by decide, Tryz.func66.trans (congrArg some (by kernel_rfl))⟩
  f11 := ⟨ "slices.AppendSeq[[]int,int]", by decide, Tryz.func80.trans (congrArg some (by kernel_rfl))⟩
  t0 := Tryz.underlying0
  a0 := Tryz.isAgg0
  z0 := Tryz.sizeOf0
  v0 := Tryz.zeroValue0
  t24 := Tryz.underlying69
  a24 := Tryz.isAgg69
  z24 := Tryz.sizeOf69
  v24 := Tryz.zeroValue69
  t26 := Tryz.underlying3
  a26 := Tryz.isAgg3
  z26 := Tryz.sizeOf3
  v26 := Tryz.zeroValue3
  t28 := Tryz.underlying72
  a28 := Tryz.isAgg72
  z28 := Tryz.sizeOf72
  v28 := Tryz.zeroValue72
  i26 := by kernel_rfl

def laysKeys_ren : Go.Shelf.Ren := ⟨fun | 7 => 36 | 10 => 68 | n => n, fun | 23 => 74 | 26 => 3 | 3 => 75 | 28 => 72 | 0 => 0 | 27 => 71 | 33 => 114 | 4 => 4 | n => n, fun n => n⟩
theorem laysKeys : SlLaysZI.n7 Tryz.prog laysKeys_ren where
  mixed := by kernel_rfl
  f7 := ⟨ "maps.Keys[map[int][512]byte,int,[512]byte]", by decide, Tryz.func36.trans (congrArg some (by kernel_rfl))⟩
  f10 := ⟨ "maps.Keys[map[int][512]byte,int,[512]byte]$1", by decide, Tryz.func68.trans (congrArg some (by kernel_rfl))⟩
  t0 := Tryz.underlying0
  a0 := Tryz.isAgg0
  z0 := Tryz.sizeOf0
  v0 := Tryz.zeroValue0
  t4 := Tryz.underlying4
  a4 := Tryz.isAgg4
  z4 := Tryz.sizeOf4
  v4 := Tryz.zeroValue4
  t23 := Tryz.underlying74
  a23 := Tryz.isAgg74
  z23 := Tryz.sizeOf74
  v23 := Tryz.zeroValue74
  t26 := Tryz.underlying3
  a26 := Tryz.isAgg3
  z26 := Tryz.sizeOf3
  v26 := Tryz.zeroValue3
  t27 := Tryz.underlying71
  a27 := Tryz.isAgg71
  z27 := Tryz.sizeOf71
  v27 := Tryz.zeroValue71
  t28 := Tryz.underlying72
  a28 := Tryz.isAgg72
  z28 := Tryz.sizeOf72
  v28 := Tryz.zeroValue72
  t33 := Tryz.underlying114
  a33 := Tryz.isAgg114
  z33 := Tryz.sizeOf114
  v33 := Tryz.zeroValue114

theorem mapsKeys {b : Nat} : Spec Tryz.prog 36 #[.map (some b)] [] fun F v M => ∃ bm, v = .func (.func 68) #[] #[.pointer (some ⟨bm, 0, none⟩)] ∧ M = pt bm (.cells #[.map (some b)] 74 (0, 0)) :: F := by
  refine Spec.intro Tryz.func36 rfl rfl fun B F => ?_
  simp only [Tryz.ntmps36, List.cons_append, List.nil_append, env0, Nat.reduceAdd]
  refine WC.seq ?_
  refine WC.region ?_
  refine WL.box fun b1 => ?_
  refine WL.assign ?_
  refine WL.nil ?_
  refine WQ.next ?_
  refine WC.seq ?_
  refine WC.region ?_
  refine WL.makeFuncB ?_
  refine WL.assign ?_
  refine WL.nil ?_
  refine WQ.next ?_
  refine WC.ret (?_)
  exact WQ.ret1 (h1 := .tmp (t := 2) rfl) ⟨_, ⟨_, rfl, rfl⟩, Am.auto⟩


theorem sortsI (m : Nat) : AnyZI.SortsIn Tryz.prog laysSorted_ren Fence.wide m :=
  ⟨fun blk off cap ss W hH hblk hsz => callsIn_wide.2 (Any.slices_Sort_int lays189 blk off cap ss W hH hblk hsz),
   fun p cap W => callsIn_wide.2 (Any.slices_Sort_int_none lays189 p cap W)⟩
theorem sortedKeys {b c bm : Nat} {es : Array MapEntry} {kvs : List (Int × Value)} (hm : MapIs intE es c kvs) (hl : kvs.length ≤ 1000) (hr : ∀ p ∈ kvs, -9223372036854775808 ≤ p.1 ∧ p.1 ≤ 9223372036854775807) :
    Spec Tryz.prog 35 #[.func (.func 68) #[] #[.pointer (some ⟨bm, 0, none⟩)]] [pt bm (.cells #[.map (some b)] 74 (0, 0)), pt b (.map es c)] fun F v M => ∃ ss : List Int, ss.Perm (kvs.map (·.1)) ∧ M = rowR 3 1 v ss.length (ints ss) :: pt bm (.cells #[.map (some b)] 74 (0, 0)) :: pt b (.map es c) :: F := by
  intro B F w hs
  have hbm := hs.get .here
  have hb := hs.get (.there .here)
  obtain ⟨D, hown, hsize, hperm⟩ := ownsMap_of (P := Tryz.prog) (kt := 3) (by kernel_rfl) hb hm (by unfold maxLen; omega) hr
  have hseq : SeqGives Fence.wide 2 Tryz.prog 68 #[.pointer (some ⟨bm, 0, none⟩)] encZ (fun ss => ss.Perm (Go.intKeys D)) (Maps.size D) w :=
    AnyZI.keys_gives (ρ := laysKeys_ren) { laysKeys with } Fence.wide 2 trivial rfl (by omega) bm b kvs.length D w (Array.getElem?_eq_some_iff.1 hbm).1 (by rw [cell_of hbm]; rfl) hown
  have cS := AnyZI.sorted_in laysSorted Fence.wide 5 trivial trivial trivial trivial rfl (by omega) (sortsI _) (enters_of Tryz.func67 (by kernel_rfl) rfl) 68 #[.pointer (some ⟨bm, 0, none⟩)] trivial (enters_of Tryz.func68 (by kernel_rfl) rfl) _ _ (by rw [hsize]; unfold maxLen; omega) (by rw [hsize]; omega) w hseq
  change CallsIn _ _ Tryz.prog 35 _ _ _ at cS
  refine ((callsIn_wide (n := 5)).1 cS).mono ?_
  rintro e w' ⟨v, ss, rfl, hS, hrow, hnil, hbel⟩
  refine ⟨v, _, rfl, ⟨ss.mergeSort fun x y => decide (x ≤ y), (List.mergeSort_perm ss _).trans (hS.trans hperm), rfl⟩, ?_⟩
  rw [List.length_mergeSort]
  exact hs.newRow hbel hrow

end Go.Proofs.YtfmkhhdohfagkaaGreat
