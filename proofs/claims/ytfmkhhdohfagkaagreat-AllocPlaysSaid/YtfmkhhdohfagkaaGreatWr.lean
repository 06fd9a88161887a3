/- Walks of AllocKept, AllocStates, AllocOnce. -/
import Derived.Test.YtfmkhhdohfagkaaGreatFa
import Derived.Test.YtfmkhhdohfagkaaGreatWq
import Derived.KernelRfl
set_option linter.unusedVariables false
set_option linter.unusedSimpArgs false
namespace Go.Proofs.YtfmkhhdohfagkaaGreat
open Go

def p400 : Pl := ⟨400, 16, 246, 247, 248, 250, 150⟩
theorem p400_is : PlIs p400 := by
  refine ⟨?_, ?_, ?_, rfl, rfl, ?_, rfl, rfl, ?_, ?_, .inl rfl⟩ <;> decide
/-- The first k are taken. -/
def upto (k : Nat) : Nat → Bool := fun i => decide (i < k)
theorem upto_succ (k : Nat) : setF (upto k) k true = upto (k + 1) := by
  funext i
  unfold setF upto
  split
  · rename_i h; subst h; symm; exact decide_eq_true (by omega)
  · congr 1
    rw [eq_iff_iff]
    constructor <;> intro h <;> omega
theorem upto_zero : noneB = upto 0 := by
  funext i
  symm
  exact decide_eq_false (by omega)
theorem cntB_upto (k : Nat) : ∀ n, cntB (upto k) n = min k n
  | 0 => by simp [cntB]
  | n + 1 => by
    have ih := cntB_upto k n
    unfold cntB at ih ⊢
    rw [List.range_succ, List.filter_append, List.length_append, ih]
    by_cases h : n < k
    · simp [upto, h]; omega
    · simp [upto, h]; omega

end Go.Proofs.YtfmkhhdohfagkaaGreat
