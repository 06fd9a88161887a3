/- slices.Sorted over the keys of a map of ints: the library's contracts, laid on this program. -/
import Derived.Test.YtedmihapieleaaaGreatFa
import Derived.Test.YtedmihapieleaaaGreatWh
import Derived.KernelRfl
import Derived.Shelf.SlIterI.Sorted
import Derived.Shelf.Slices.In.SortNone
import Derived.Shelf.Sort.Plain
set_option linter.unusedVariables false
set_option linter.unusedSimpArgs false
namespace Go.Proofs.YtedmihapieleaaaGreat
open Go
open Go.Shelf Go.Sort Go.RowKit Go.Maps
def lays189_ren : Go.Shelf.Ren := ⟨fun | 189 => 104 | 125 => 119 | 257 => 130 | 128 => 148 | 129 => 149 | 294 => 151 | 295 => 152 | 296 => 153 | 297 => 154 | 298 => 155 | 299 => 156 | 216 => 157 | 300 => 158 | 301 => 159 | 328 => 171 | 329 => 167 | 330 => 168 | 331 => 172 | 332 => 173 | 215 => 174 | 343 => 177 | n => n, fun | 28 => 22 | 3 => 3 | 46 => 170 | 0 => 0 | 51 => 203 | 53 => 138 | 4 => 4 | 183 => 196 | 182 => 195 | 131 => 200 | 5 => 5 | 9 => 9 | 218 => 212 | 222 => 132 | 228 => 219 | 229 => 47 | n => n, fun n => n⟩
theorem lays189 : Lays.n189 Tryz.prog lays189_ren where
  mixed := by kernel_rfl
  f125 := Tryz.func119.trans (congrArg some (by kernel_rfl))
  f128 := Tryz.func148.trans (congrArg some (by kernel_rfl))
  f129 := Tryz.func149.trans (congrArg some (by kernel_rfl))
  f189 := Tryz.func104.trans (congrArg some (by kernel_rfl))
  f215 := Tryz.func174.trans (congrArg some (by kernel_rfl))
  f216 := Tryz.func157.trans (congrArg some (by kernel_rfl))
  f257 := Tryz.func130.trans (congrArg some (by kernel_rfl))
  f294 := Tryz.func151.trans (congrArg some (by kernel_rfl))
  f295 := Tryz.func152.trans (congrArg some (by kernel_rfl))
  f296 := Tryz.func153.trans (congrArg some (by kernel_rfl))
  f297 := Tryz.func154.trans (congrArg some (by kernel_rfl))
  f298 := Tryz.func155.trans (congrArg some (by kernel_rfl))
  f299 := Tryz.func156.trans (congrArg some (by kernel_rfl))
  f300 := Tryz.func158.trans (congrArg some (by kernel_rfl))
  f301 := Tryz.func159.trans (congrArg some (by kernel_rfl))
  f328 := Tryz.func171.trans (congrArg some (by kernel_rfl))
  f329 := Tryz.func167.trans (congrArg some (by kernel_rfl))
  f330 := Tryz.func168.trans (congrArg some (by kernel_rfl))
  f331 := Tryz.func172.trans (congrArg some (by kernel_rfl))
  f332 := Tryz.func173.trans (congrArg some (by kernel_rfl))
  f343 := Tryz.func177.trans (congrArg some (by kernel_rfl))
  t0 := Tryz.underlying0
  a0 := Tryz.isAgg0
  z0 := Tryz.sizeOf0
  v0 := Tryz.zeroValue0
  t3 := Tryz.underlying3
  a3 := Tryz.isAgg3
  z3 := Tryz.sizeOf3
  v3 := Tryz.zeroValue3
  t4 := Tryz.underlying4
  a4 := Tryz.isAgg4
  z4 := Tryz.sizeOf4
  v4 := Tryz.zeroValue4
  t5 := Tryz.underlying5
  a5 := Tryz.isAgg5
  z5 := Tryz.sizeOf5
  v5 := Tryz.zeroValue5
  t9 := Tryz.underlying9
  a9 := Tryz.isAgg9
  z9 := Tryz.sizeOf9
  v9 := Tryz.zeroValue9
  t28 := Tryz.underlying22
  a28 := Tryz.isAgg22
  z28 := Tryz.sizeOf22
  v28 := Tryz.zeroValue22
  t46 := Tryz.underlying170
  a46 := Tryz.isAgg170
  z46 := Tryz.sizeOf170
  v46 := Tryz.zeroValue170
  t51 := Tryz.underlying203
  a51 := Tryz.isAgg203
  z51 := Tryz.sizeOf203
  v51 := Tryz.zeroValue203
  t53 := Tryz.underlying138
  a53 := Tryz.isAgg138
  z53 := Tryz.sizeOf138
  v53 := Tryz.zeroValue138
  t131 := Tryz.underlying200
  a131 := Tryz.isAgg200
  z131 := Tryz.sizeOf200
  v131 := Tryz.zeroValue200
  t182 := Tryz.underlying195
  a182 := Tryz.isAgg195
  z182 := Tryz.sizeOf195
  v182 := Tryz.zeroValue195
  t183 := Tryz.underlying196
  a183 := Tryz.isAgg196
  z183 := Tryz.sizeOf196
  v183 := Tryz.zeroValue196
  t218 := Tryz.underlying212
  a218 := Tryz.isAgg212
  z218 := Tryz.sizeOf212
  v218 := Tryz.zeroValue212
  t222 := Tryz.underlying132
  a222 := Tryz.isAgg132
  z222 := Tryz.sizeOf132
  v222 := Tryz.zeroValue132
  t228 := Tryz.underlying219
  a228 := Tryz.isAgg219
  z228 := Tryz.sizeOf219
  v228 := Tryz.zeroValue219
  t229 := Tryz.underlying47
  a229 := Tryz.isAgg47
  z229 := Tryz.sizeOf47
  v229 := Tryz.zeroValue47

def laysSorted_ren : Go.Shelf.Ren := ⟨fun | 6 => 56 | 8 => 103 | 9 => 104 | 11 => 129 | n => n, fun | 26 => 3 | 28 => 101 | 24 => 22 | 0 => 0 | 3 => 3 | 33 => 51 | 4 => 4 | n => n, fun n => n⟩
theorem laysSorted : SlLaysZI.n6 Tryz.prog laysSorted_ren where
  mixed := by kernel_rfl
  f6 := ⟨ "slices.Sorted[int]", by decide, Tryz.func56.trans (congrArg some (by kernel_rfl))⟩
  f8 := ⟨ "slices.Collect[int]", by decide, Tryz.func103.trans (congrArg some (by kernel_rfl))⟩
  f11 := ⟨ "slices.AppendSeq[[]int,int]", by decide, Tryz.func129.trans (congrArg some (by kernel_rfl))⟩
  t0 := Tryz.underlying0
  a0 := Tryz.isAgg0
  z0 := Tryz.sizeOf0
  v0 := Tryz.zeroValue0
  t24 := Tryz.underlying22
  a24 := Tryz.isAgg22
  z24 := Tryz.sizeOf22
  v24 := Tryz.zeroValue22
  t26 := Tryz.underlying3
  a26 := Tryz.isAgg3
  z26 := Tryz.sizeOf3
  v26 := Tryz.zeroValue3
  t28 := Tryz.underlying101
  a28 := Tryz.isAgg101
  z28 := Tryz.sizeOf101
  v28 := Tryz.zeroValue101
  i26 := by kernel_rfl

def laysKeys_ren : Go.Shelf.Ren := ⟨fun | 7 => 57 | 10 => 105 | n => n, fun | 23 => 103 | 26 => 3 | 3 => 104 | 28 => 101 | 0 => 0 | 27 => 100 | 33 => 51 | 4 => 4 | n => n, fun n => n⟩
theorem laysKeys : SlLaysZI.n7 Tryz.prog laysKeys_ren where
  mixed := by kernel_rfl
  f7 := ⟨ "maps.Keys[map[int][512]byte,int,[512]byte]", by decide, Tryz.func57.trans (congrArg some (by kernel_rfl))⟩
  f10 := ⟨ "maps.Keys[map[int][512]byte,int,[512]byte]$1", by decide, Tryz.func105.trans (congrArg some (by kernel_rfl))⟩
  t0 := Tryz.underlying0
  a0 := Tryz.isAgg0
  z0 := Tryz.sizeOf0
  v0 := Tryz.zeroValue0
  t4 := Tryz.underlying4
  a4 := Tryz.isAgg4
  z4 := Tryz.sizeOf4
  v4 := Tryz.zeroValue4
  t23 := Tryz.underlying103
  a23 := Tryz.isAgg103
  z23 := Tryz.sizeOf103
  v23 := Tryz.zeroValue103
  t26 := Tryz.underlying3
  a26 := Tryz.isAgg3
  z26 := Tryz.sizeOf3
  v26 := Tryz.zeroValue3
  t27 := Tryz.underlying100
  a27 := Tryz.isAgg100
  z27 := Tryz.sizeOf100
  v27 := Tryz.zeroValue100
  t28 := Tryz.underlying101
  a28 := Tryz.isAgg101
  z28 := Tryz.sizeOf101
  v28 := Tryz.zeroValue101
  t33 := Tryz.underlying51
  a33 := Tryz.isAgg51
  z33 := Tryz.sizeOf51
  v33 := Tryz.zeroValue51

theorem mapsKeys {b : Nat} : Spec Tryz.prog 57 #[.map (some b)] [] fun F v M => ∃ bm, v = .func (.func 105) #[] #[.pointer (some ⟨bm, 0, none⟩)] ∧ M = pt bm (.cells #[.map (some b)] 103 (0, 0)) :: F := by
  refine Spec.intro Tryz.func57 rfl rfl fun B F => ?_
  simp only [Tryz.ntmps57, List.cons_append, List.nil_append, env0, Nat.reduceAdd]
  refine WC.seq ?_
  refine WC.region ?_
  refine WL.box fun b1 => ?_
  refine WL.assign ?_
  refine WL.nil ?_
  refine WQ.next ?_
  refine WC.seq ?_
  refine WC.region ?_
  refine WL.makeFuncB ?_
  refine WL.assign ?_
  refine WL.nil ?_
  refine WQ.next ?_
  refine WC.ret (?_)
  exact WQ.ret1 (h1 := .tmp (t := 2) rfl) ⟨_, ⟨_, rfl, rfl⟩, Am.auto⟩


theorem sortsI (m : Nat) : AnyZI.SortsIn Tryz.prog laysSorted_ren Fence.wide m :=
  ⟨fun blk off cap ss W hH hblk hsz => callsIn_wide.2 (Any.slices_Sort_int lays189 blk off cap ss W hH hblk hsz),
   fun p cap W => callsIn_wide.2 (Any.slices_Sort_int_none lays189 p cap W)⟩
theorem sortedKeys {b c bm : Nat} {es : Array MapEntry} {kvs : List (Int × Value)} (hm : MapIs intE es c kvs) (hl : kvs.length ≤ 1000) (hr : ∀ p ∈ kvs, -9223372036854775808 ≤ p.1 ∧ p.1 ≤ 9223372036854775807) :
    Spec Tryz.prog 56 #[.func (.func 105) #[] #[.pointer (some ⟨bm, 0, none⟩)]] [pt bm (.cells #[.map (some b)] 103 (0, 0)), pt b (.map es c)] fun F v M => ∃ ss : List Int, ss.Perm (kvs.map (·.1)) ∧ M = rowR 3 1 v ss.length (ints ss) :: pt bm (.cells #[.map (some b)] 103 (0, 0)) :: pt b (.map es c) :: F := by
  intro B F w hs
  have hbm := hs.get .here
  have hb := hs.get (.there .here)
  obtain ⟨D, hown, hsize, hperm⟩ := ownsMap_of (P := Tryz.prog) (kt := 3) (by kernel_rfl) hb hm (by unfold maxLen; omega) hr
  have hseq : SeqGives Fence.wide 2 Tryz.prog 105 #[.pointer (some ⟨bm, 0, none⟩)] encZ (fun ss => ss.Perm (Go.intKeys D)) (Maps.size D) w :=
    AnyZI.keys_gives (ρ := laysKeys_ren) { laysKeys with } Fence.wide 2 trivial rfl (by omega) bm b kvs.length D w (Array.getElem?_eq_some_iff.1 hbm).1 (by rw [cell_of hbm]; rfl) hown
  have cS := AnyZI.sorted_in laysSorted Fence.wide 5 trivial trivial trivial trivial rfl (by omega) (sortsI _) (enters_of Tryz.func104 (by kernel_rfl) rfl) 105 #[.pointer (some ⟨bm, 0, none⟩)] trivial (enters_of Tryz.func105 (by kernel_rfl) rfl) _ _ (by rw [hsize]; unfold maxLen; omega) (by rw [hsize]; omega) w hseq
  change CallsIn _ _ Tryz.prog 56 _ _ _ at cS
  refine ((callsIn_wide (n := 5)).1 cS).mono ?_
  rintro e w' ⟨v, ss, rfl, hS, hrow, hnil, hbel⟩
  refine ⟨v, _, rfl, ⟨ss.mergeSort fun x y => decide (x ≤ y), (List.mergeSort_perm ss _).trans (hS.trans hperm), rfl⟩, ?_⟩
  rw [List.length_mergeSort]
  exact hs.newRow hbel hrow

end Go.Proofs.YtedmihapieleaaaGreat
