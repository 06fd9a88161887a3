/- Walks of small functions of cache, device, alloc. -/
import Derived.Test.YtedmihapieleaaaGreatFa
import Derived.KernelRfl
set_option linter.unusedVariables false
set_option linter.unusedSimpArgs false
namespace Go.Proofs.YtedmihapieleaaaGreat
open Go
def cacheO (j : Option Nat) (op ov : Bool) (m : Nat) : Obj := .cells #[.pointer (j.map fun b => ⟨b, 0, none⟩), .bool op, .bool ov, .map (some m)] 106 (0, 0)

theorem cacheOpen {c m : Nat} {j : Option Nat} {op ov : Bool} : Spec Tryz.prog 55 #[.pointer (some ⟨c, 0, none⟩)] [pt c (cacheO j op ov m)]
    fun F v M => v = .bool op ∧ M = pt c (cacheO j op ov m) :: F := by
  refine Spec.intro Tryz.func55 rfl rfl fun B F => ?_
  simp only [Tryz.ntmps55, List.cons_append, List.nil_append, env0, Nat.reduceAdd]
  refine WC.seq ?_
  refine WC.region ?_
  refine WL.assign ?_
  refine WL.nil ?_
  refine WQ.next ?_
  refine WC.seq ?_
  refine WC.region ?_
  refine WL.move ?_
  refine WL.neNil ?_ ptr24
  refine WL.move ?_
  refine WL.gT ?_
  refine WL.move ?_
  refine WL.gT ?_
  refine WL.nilCheck ?_
  refine WL.gT ?_
  refine WL.fa ?_ fo106_1
  refine WL.gT ?_
  refine WL.ld ?_ sc4
  refine WL.pickT ?_
  refine WL.assign ?_
  refine WL.nil ?_
  refine WQ.next ?_
  refine WC.ret (?_)
  exact WQ.ret1 (h1 := .tmp (t := 2) rfl) ⟨_, ⟨rfl, rfl⟩, Am.auto⟩

end Go.Proofs.YtedmihapieleaaaGreat
