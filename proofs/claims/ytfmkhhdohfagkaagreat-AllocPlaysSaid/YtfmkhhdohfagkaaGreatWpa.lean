/- bollardlaw7.fresh, as maps of digits. -/
import Derived.Test.YtfmkhhdohfagkaaGreatFa
import Derived.Test.YtfmkhhdohfagkaaGreatWp
import Derived.KernelRfl
set_option linter.unusedVariables false
set_option linter.unusedSimpArgs false
namespace Go.Proofs.YtfmkhhdohfagkaaGreat
open Go

variable {a c : Nat} {p : Pl} {bk0 ik0 bk ik : Nat → Bool} {op : Bool}
theorem aFresh (h : PlIs p) : Spec Tryz.prog 6 #[.int .i64 (p.n : Int), .int .i64 (p.ino : Int)] [] fun F v M => ∃ c a, v = .tuple #[.pointer (some ⟨c, 0, none⟩), .pointer (some ⟨a, 0, none⟩), .agg p.cells, .bool true] ∧ M = AL a c p noneB rootB noneB rootB true :: F := by
  refine (lawFresh h).post ?_
  rintro F v M ⟨c, a, rfl, rfl⟩
  have hs : AS p (freshV p) noneB rootB := ⟨fresh_len, fun k hk => fresh_bm h hk, fun k hk => fresh_im h hk⟩
  exact ⟨_, ⟨c, a, rfl, rfl⟩, Wk.shutR (M := F) (AL.opens a c p noneB rootB noneB rootB true) (freshV p, freshV p, []) ⟨hs, hs, Dok.nil p⟩⟩

end Go.Proofs.YtfmkhhdohfagkaaGreat
