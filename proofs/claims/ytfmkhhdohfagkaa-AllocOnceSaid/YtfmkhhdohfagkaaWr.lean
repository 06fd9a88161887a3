/- Walks of AllocKept, AllocStates, AllocOnce. -/
import Derived.Test.YtfmkhhdohfagkaaFa
import Derived.Test.YtfmkhhdohfagkaaWq
import Derived.KernelRfl
set_option linter.unusedVariables false
set_option linter.unusedSimpArgs false
namespace Go.Proofs.Ytfmkhhdohfagkaa
open Go

def p400 : Pl := ⟨400, 16, 246, 247, 248, 250, 150⟩
theorem p400_is : PlIs p400 := by
  refine ⟨?_, ?_, ?_, rfl, rfl, ?_, rfl, rfl, ?_, ?_, .inl rfl⟩ <;> decide
/-- The first k are taken. -/
def upto (k : Nat) : Nat → Bool := fun i => decide (i < k)
theorem upto_succ (k : Nat) : setF (upto k) k true = upto (k + 1) := by
  funext i
  unfold setF upto
  split
  · rename_i h; subst h; symm; exact decide_eq_true (by omega)
  · congr 1
    rw [eq_iff_iff]
    constructor <;> intro h <;> omega
theorem upto_zero : noneB = upto 0 := by
  funext i
  symm
  exact decide_eq_false (by omega)
theorem cntB_upto (k : Nat) : ∀ n, cntB (upto k) n = min k n
  | 0 => by simp [cntB]
  | n + 1 => by
    have ih := cntB_upto k n
    unfold cntB at ih ⊢
    rw [List.range_succ, List.filter_append, List.length_append, ih]
    by_cases h : n < k
    · simp [upto, h]; omega
    · simp [upto, h]; omega

theorem lawKept {n m : Int} (hn : -9223372036854775808 ≤ n ∧ n ≤ 9223372036854775807) (hm : -9223372036854775808 ≤ m ∧ m ≤ 9223372036854775807) : Spec Try.prog 5 #[.int .i64 n, .int .i64 m] [] fun F v M => v = .bool true ∧ M = F := by
  refine Spec.intro Try.func5 rfl rfl fun B F => ?_
  simp only [Try.ntmps5, List.cons_append, List.nil_append, env0, Nat.reduceAdd]
  have hda : (p400.da : Int) = 250 := rfl
  have hdc : (p400.dc : Int) = 150 := rfl
  rcases (show n < 0 ∨ (0 ≤ n ∧ 40 < n) ∨ (0 ≤ n ∧ n ≤ 40 ∧ m < 0) ∨ (0 ≤ n ∧ n ≤ 40 ∧ 0 ≤ m ∧ 40 < m) ∨ (0 ≤ n ∧ n ≤ 40 ∧ 0 ≤ m ∧ m ≤ 40) from by omega) with hc | hc | hc | hc | hc
  · refine WC.seq ?_
    refine WC.region ?_
    refine WL.assign ?_
    refine WL.nil ?_
    refine WQ.next ?_
    refine WC.seq ?_
    refine WC.seq ?_
    refine WC.region ?_
    refine WL.move ?_
    refine WL.lss ?_
    refine WL.move ?_
    refine WL.cast (d := 21) (u := .bool true) rfl (congrArg Value.bool (by first | (simp; done) | (simp; omega) | omega)) ?_
    refine WL.gF ?_
    refine WL.gF ?_
    refine WL.pickT ?_
    refine WL.move ?_
    refine WL.gF ?_
    refine WL.gF ?_
    refine WL.pickT ?_
    refine WL.move ?_
    refine WL.gF ?_
    refine WL.gF ?_
    refine WL.pickT ?_
    refine WL.nil ?_
    refine WQ.next ?_
    refine WC.condT rfl rfl ?_
    refine WC.seq ?_
    refine WC.region ?_
    refine WL.call (hc := Try.call7) (sp := lawAwake) (h := ?_)
    rintro _ _ ⟨rfl, rfl⟩
    refine WL.assign ?_
    refine WL.nil ?_
    refine WQ.next ?_
    refine WC.ret (WQ.thenRet (?_))
    exact WQ.ret1 (h1 := .tmp (t := 4) rfl) ⟨_, ⟨rfl, rfl⟩, Am.auto⟩
  · refine WC.seq ?_
    refine WC.region ?_
    refine WL.assign ?_
    refine WL.nil ?_
    refine WQ.next ?_
    refine WC.seq ?_
    refine WC.seq ?_
    refine WC.region ?_
    refine WL.move ?_
    refine WL.lss ?_
    refine WL.move ?_
    refine WL.cast (d := 21) (u := .bool false) rfl (congrArg Value.bool (by first | (simp; done) | (simp; omega) | omega)) ?_
    refine WL.gT ?_
    refine WL.move ?_
    refine WL.gT ?_
    refine WL.gtr ?_
    refine WL.pickF ?_
    refine WL.move ?_
    refine WL.cast (d := 25) (u := .bool true) rfl (congrArg Value.bool (by first | (simp; done) | (simp; omega) | omega)) ?_
    refine WL.gF ?_
    refine WL.gF ?_
    refine WL.pickT ?_
    refine WL.move ?_
    refine WL.gF ?_
    refine WL.gF ?_
    refine WL.pickT ?_
    refine WL.nil ?_
    refine WQ.next ?_
    refine WC.condT rfl rfl ?_
    refine WC.seq ?_
    refine WC.region ?_
    refine WL.call (hc := Try.call7) (sp := lawAwake) (h := ?_)
    rintro _ _ ⟨rfl, rfl⟩
    refine WL.assign ?_
    refine WL.nil ?_
    refine WQ.next ?_
    refine WC.ret (WQ.thenRet (?_))
    exact WQ.ret1 (h1 := .tmp (t := 4) rfl) ⟨_, ⟨rfl, rfl⟩, Am.auto⟩
  · refine WC.seq ?_
    refine WC.region ?_
    refine WL.assign ?_
    refine WL.nil ?_
    refine WQ.next ?_
    refine WC.seq ?_
    refine WC.seq ?_
    refine WC.region ?_
    refine WL.move ?_
    refine WL.lss ?_
    refine WL.move ?_
    refine WL.cast (d := 21) (u := .bool false) rfl (congrArg Value.bool (by first | (simp; done) | (simp; omega) | omega)) ?_
    refine WL.gT ?_
    refine WL.move ?_
    refine WL.gT ?_
    refine WL.gtr ?_
    refine WL.pickF ?_
    refine WL.move ?_
    refine WL.cast (d := 25) (u := .bool false) rfl (congrArg Value.bool (by first | (simp; done) | (simp; omega) | omega)) ?_
    refine WL.gT ?_
    refine WL.move ?_
    refine WL.gT ?_
    refine WL.lss ?_
    refine WL.pickF ?_
    refine WL.move ?_
    refine WL.cast (d := 29) (u := .bool true) rfl (congrArg Value.bool (by first | (simp; done) | (simp; omega) | omega)) ?_
    refine WL.gF ?_
    refine WL.gF ?_
    refine WL.pickT ?_
    refine WL.nil ?_
    refine WQ.next ?_
    refine WC.condT rfl rfl ?_
    refine WC.seq ?_
    refine WC.region ?_
    refine WL.call (hc := Try.call7) (sp := lawAwake) (h := ?_)
    rintro _ _ ⟨rfl, rfl⟩
    refine WL.assign ?_
    refine WL.nil ?_
    refine WQ.next ?_
    refine WC.ret (WQ.thenRet (?_))
    exact WQ.ret1 (h1 := .tmp (t := 4) rfl) ⟨_, ⟨rfl, rfl⟩, Am.auto⟩
  · refine WC.seq ?_
    refine WC.region ?_
    refine WL.assign ?_
    refine WL.nil ?_
    refine WQ.next ?_
    refine WC.seq ?_
    refine WC.seq ?_
    refine WC.region ?_
    refine WL.move ?_
    refine WL.lss ?_
    refine WL.move ?_
    refine WL.cast (d := 21) (u := .bool false) rfl (congrArg Value.bool (by first | (simp; done) | (simp; omega) | omega)) ?_
    refine WL.gT ?_
    refine WL.move ?_
    refine WL.gT ?_
    refine WL.gtr ?_
    refine WL.pickF ?_
    refine WL.move ?_
    refine WL.cast (d := 25) (u := .bool false) rfl (congrArg Value.bool (by first | (simp; done) | (simp; omega) | omega)) ?_
    refine WL.gT ?_
    refine WL.move ?_
    refine WL.gT ?_
    refine WL.lss ?_
    refine WL.pickF ?_
    refine WL.move ?_
    refine WL.cast (d := 29) (u := .bool false) rfl (congrArg Value.bool (by first | (simp; done) | (simp; omega) | omega)) ?_
    refine WL.gT ?_
    refine WL.move ?_
    refine WL.gT ?_
    refine WL.gtr ?_
    refine WL.pickF ?_
    refine WL.nil ?_
    refine WQ.next ?_
    refine WC.condT rfl (congrArg Value.bool (by first | (simp; done) | (simp; omega) | omega)) ?_
    refine WC.seq ?_
    refine WC.region ?_
    refine WL.call (hc := Try.call7) (sp := lawAwake) (h := ?_)
    rintro _ _ ⟨rfl, rfl⟩
    refine WL.assign ?_
    refine WL.nil ?_
    refine WQ.next ?_
    refine WC.ret (WQ.thenRet (?_))
    exact WQ.ret1 (h1 := .tmp (t := 4) rfl) ⟨_, ⟨rfl, rfl⟩, Am.auto⟩
  · obtain ⟨N, rfl⟩ : ∃ N : Nat, n = (N : Int) := ⟨n.toNat, by omega⟩
    obtain ⟨K, rfl⟩ : ∃ K : Nat, m = (K : Int) := ⟨m.toNat, by omega⟩
    refine WC.seq ?_
    refine WC.region ?_
    refine WL.assign ?_
    refine WL.nil ?_
    refine WQ.next ?_
    refine WC.seq ?_
    refine WC.seq ?_
    refine WC.region ?_
    refine WL.move ?_
    refine WL.lss ?_
    refine WL.move ?_
    refine WL.cast (d := 21) (u := .bool false) rfl (congrArg Value.bool (by first | (simp; done) | (simp; omega) | omega)) ?_
    refine WL.gT ?_
    refine WL.move ?_
    refine WL.gT ?_
    refine WL.gtr ?_
    refine WL.pickF ?_
    refine WL.move ?_
    refine WL.cast (d := 25) (u := .bool false) rfl (congrArg Value.bool (by first | (simp; done) | (simp; omega) | omega)) ?_
    refine WL.gT ?_
    refine WL.move ?_
    refine WL.gT ?_
    refine WL.lss ?_
    refine WL.pickF ?_
    refine WL.move ?_
    refine WL.cast (d := 29) (u := .bool false) rfl (congrArg Value.bool (by first | (simp; done) | (simp; omega) | omega)) ?_
    refine WL.gT ?_
    refine WL.move ?_
    refine WL.gT ?_
    refine WL.gtr ?_
    refine WL.pickF ?_
    refine WL.nil ?_
    refine WQ.next ?_
    refine WC.condF rfl (congrArg Value.bool (by first | (simp; done) | (simp; omega) | omega)) ?_
    refine WC.skip ?_
    refine WQ.next ?_
    refine WC.seq ?_
    refine WC.region ?_
    refine WL.call (hc := Try.call8) (sp := aFresh p400_is) (h := ?_)
    rintro _ _ ⟨c, a, rfl, rfl⟩
    refine WL.move ?_
    refine WL.extract ?_
    refine WL.extract ?_
    refine WL.extract ?_
    refine WL.extract ?_
    refine WL.alloc z27 fun b7 => ?_
    refine WL.assign ?_
    refine WL.assign ?_
    refine WL.stV ?_ agg27
    refine WL.assign ?_
    refine WL.nil ?_
    refine WQ.next ?_
    refine WC.seq ?_
    refine WC.seq ?_
    refine WC.region ?_
    refine WL.move ?_
    refine WL.not ?_
    refine WL.nil ?_
    refine WQ.next ?_
    refine WC.condF rfl rfl ?_
    refine WC.skip ?_
    refine WQ.next ?_
    refine WC.seq ?_
    refine WC.seq ?_
    refine WC.region ?_
    refine WL.assign ?_
    refine WL.nil ?_
    refine WQ.next ?_
    refine WC.block ?_
    refine WC.to (A := AL a c p400 noneB rootB noneB rootB true) (A' := AL a c p400 noneB rootB (upto 0) rootB true) (fun h hh => by rw [← upto_zero]; exact hh) ?_
    refine WC.loopA (σ := Nat) (fun i => [(0, .int .i64 (N : Int)), (1, .int .i64 (K : Int)), (5, .pointer (some ⟨c, 0, none⟩)), (6, .pointer (some ⟨a, 0, none⟩)), (7, .pointer (some ⟨b7, 0, none⟩)), (9, .int .i64 (i : Int))]) (fun i => [pt b7 (.cells p400.cells 27 (0, 0)), AL a c p400 noneB rootB (upto i) rootB true] ++ F) (fun i => i ≤ N) (fun i => N - i) 0 (Nat.zero_le _) ?_
    rintro i hi
    refine WC.seq ?_
    refine WC.seq ?_
    refine WC.region ?_
    refine WL.move ?_
    refine WL.move ?_
    refine WL.lss ?_
    refine WL.nil ?_
    refine WQ.next ?_
    refine WC.cond rfl (fun hb => ?_) (fun hb => ?_)
    · have hlt : i < N := by have := of_decide_eq_true hb; omega
      refine WC.skip ?_
      refine WQ.next ?_
      refine WC.seq ?_
      refine WC.block ?_
      refine WC.seq ?_
      refine WC.region ?_
      refine WL.move ?_
      refine WL.call (hc := Try.call9) (sp := aTakeK (k := i) (bk := upto i) p400_is (by show i < 150; omega) (decide_eq_false (by omega)) (fun j hj => decide_eq_true hj)) (h := ?_)
      rintro _ _ ⟨rfl, rfl⟩
      refine WL.move ?_
      refine WL.extract ?_
      refine WL.extract ?_
      refine WL.assign ?_
      refine WL.assign ?_
      refine WL.nil ?_
      refine WQ.next ?_
      refine WC.seq ?_
      refine WC.region ?_
      refine WL.move ?_
      refine WL.nei ?_
      refine WL.nil ?_
      refine WQ.next ?_
      refine WC.condF rfl rfl ?_
      refine WC.skip ?_
      refine WQ.blockNormal ?_
      refine WQ.next ?_
      refine WC.region ?_
      refine WL.move ?_
      refine WL.add ?_
      refine WL.assign ?_
      refine WL.nil ?_
      rw [upto_succ]
      refine WQ.cast (d := 9) (u := .int .i64 ((i + 1 : Nat) : Int)) rfl (congrArg (Value.int .i64) (by omega)) ?_
      exact WQ.back (i + 1) (by omega) (by omega)
    · have hge : ¬ i < N := by have := of_decide_eq_false hb; omega
      have hiN : i = N := by omega
      subst hiN
      refine WC.exit (WQ.thenExit (WQ.thenExit (WQ.blockExit (?_))))
      refine WQ.next ?_
      refine WC.seq ?_
      refine WC.seq ?_
      refine WC.region ?_
      refine WL.move ?_
      refine WL.call (hc := Try.call13) (sp := aCommit (a := a) (p := p400) (bk0 := noneB) (ik0 := rootB) (bk := upto i) (ik := rootB)) (h := ?_)
      rintro _ _ ⟨rfl, rfl⟩
      refine WL.nei ?_
      refine WL.move ?_
      refine WL.gT ?_
      refine WL.move ?_
      refine WL.gT ?_
      refine WL.call (hc := Try.call14) (sp := aBegin (a := a) (p := p400) (bk0 := upto i) (ik0 := rootB) (bk := upto i) (ik := rootB)) (h := ?_)
      rintro _ _ ⟨rfl, rfl⟩
      refine WL.gT ?_
      refine WL.nei ?_
      refine WL.pickF ?_
      refine WL.nil ?_
      refine WQ.next ?_
      refine WC.condF rfl rfl ?_
      refine WC.skip ?_
      refine WQ.next ?_
      refine WC.seq ?_
      refine WC.seq ?_
      refine WC.region ?_
      refine WL.assign ?_
      refine WL.nil ?_
      refine WQ.next ?_
      refine WC.block ?_
      refine WC.loopA (σ := Nat) (fun j => [(0, .int .i64 (i : Int)), (1, .int .i64 (K : Int)), (5, .pointer (some ⟨c, 0, none⟩)), (6, .pointer (some ⟨a, 0, none⟩)), (7, .pointer (some ⟨b7, 0, none⟩)), (12, .int .i64 (j : Int))]) (fun j => [pt b7 (.cells p400.cells 27 (0, 0)), AL a c p400 (upto i) rootB (upto (i + j)) rootB true] ++ F) (fun j => j ≤ K) (fun j => K - j) 0 (Nat.zero_le _) ?_
      rintro j hj
      refine WC.seq ?_
      refine WC.seq ?_
      refine WC.region ?_
      refine WL.move ?_
      refine WL.move ?_
      refine WL.lss ?_
      refine WL.nil ?_
      refine WQ.next ?_
      refine WC.cond rfl (fun hb2 => ?_) (fun hb2 => ?_)
      · have hlt2 : j < K := by have := of_decide_eq_true hb2; omega
        refine WC.skip ?_
        refine WQ.next ?_
        refine WC.seq ?_
        refine WC.block ?_
        refine WC.seq ?_
        refine WC.region ?_
        refine WL.move ?_
        refine WL.call (hc := Try.call9) (sp := aTakeK (k := i + j) (bk := upto (i + j)) p400_is (by show i + j < 150; omega) (decide_eq_false (by omega)) (fun j hj => decide_eq_true hj)) (h := ?_)
        rintro _ _ ⟨rfl, rfl⟩
        refine WL.move ?_
        refine WL.extract ?_
        refine WL.extract ?_
        refine WL.assign ?_
        refine WL.assign ?_
        refine WL.nil ?_
        refine WQ.next ?_
        refine WC.seq ?_
        refine WC.region ?_
        refine WL.move ?_
        refine WL.nei ?_
        refine WL.move ?_
        refine WL.gT ?_
        refine WL.move ?_
        refine WL.gT ?_
        refine WL.fa ?_ fo27_5
        refine WL.gT ?_
        refine WL.ld ?_ sc3
        refine WL.gT ?_
        refine WL.move ?_
        refine WL.gT ?_
        refine WL.add ?_
        refine WL.gT ?_
        refine WL.move ?_
        refine WL.gT ?_
        refine WL.add ?_
        refine WL.gT ?_
        refine WL.nei ?_
        refine WL.pickF ?_
        refine WL.nil ?_
        refine WQ.next ?_
        refine WC.condF rfl (congrArg Value.bool (by first | (simp; done) | (simp; omega) | omega)) ?_
        refine WC.skip ?_
        refine WQ.blockNormal ?_
        refine WQ.next ?_
        refine WC.region ?_
        refine WL.move ?_
        refine WL.add ?_
        refine WL.assign ?_
        refine WL.nil ?_
        rw [upto_succ]
        refine WQ.cast (d := 12) (u := .int .i64 ((j + 1 : Nat) : Int)) rfl (congrArg (Value.int .i64) (by omega)) ?_
        exact WQ.back (j + 1) (by omega) (by omega)
      · have hcnt : cntB (upto i) p400.dc = i := by rw [cntB_upto]; show min i 150 = i; omega
        refine WC.exit (WQ.thenExit (WQ.thenExit (WQ.blockExit (?_))))
        refine WQ.next ?_
        refine WC.seq ?_
        refine WC.seq ?_
        refine WC.region ?_
        refine WL.move ?_
        refine WL.call (hc := Try.call15) (sp := aAbort (a := a) (p := p400) (bk0 := upto i) (ik0 := rootB) (bk := upto (i + j)) (ik := rootB)) (h := ?_)
        rintro _ _ ⟨rfl, rfl⟩
        refine WL.nei ?_
        refine WL.nil ?_
        refine WQ.next ?_
        refine WC.condF rfl rfl ?_
        refine WC.skip ?_
        refine WQ.next ?_
        refine WC.seq ?_
        refine WC.region ?_
        refine WL.move ?_
        refine WL.call (hc := Try.call12) (sp := aFree (bk0 := upto i) (ik0 := rootB) (bk := upto i) (ik := rootB) (op := false) p400_is) (h := ?_)
        rintro _ _ ⟨rfl, rfl⟩
        refine WL.move ?_
        refine WL.extract ?_
        refine WL.extract ?_
        refine WL.assign ?_
        refine WL.assign ?_
        refine WL.nil ?_
        refine WQ.next ?_
        refine WC.seq ?_
        refine WC.seq ?_
        refine WC.region ?_
        refine WL.move ?_
        refine WL.fa ?_ fo27_6
        refine WL.ld ?_ sc3
        refine WL.move ?_
        refine WL.sub ?_
        refine WL.nei ?_
        refine WL.cast (d := 97) (u := .bool false) rfl (congrArg Value.bool (by rw [hcnt]; simp)) ?_
        refine WL.move ?_
        refine WL.gT ?_
        refine WL.move ?_
        refine WL.gT ?_
        refine WL.call (hc := Try.call14) (sp := aBegin (a := a) (p := p400) (bk0 := upto i) (ik0 := rootB) (bk := upto i) (ik := rootB)) (h := ?_)
        rintro _ _ ⟨rfl, rfl⟩
        refine WL.gT ?_
        refine WL.nei ?_
        refine WL.pickF ?_
        refine WL.nil ?_
        refine WQ.next ?_
        refine WC.condF rfl rfl ?_
        refine WC.skip ?_
        refine WQ.next ?_
        refine WC.seq ?_
        refine WC.region ?_
        refine WL.move ?_
        refine WL.call (hc := Try.call9) (sp := aTakeK (k := i) (bk := upto i) p400_is (by show i < 150; omega) (decide_eq_false (by omega)) (fun j hj => decide_eq_true hj)) (h := ?_)
        rintro _ _ ⟨rfl, rfl⟩
        refine WL.move ?_
        refine WL.extract ?_
        refine WL.extract ?_
        refine WL.assign ?_
        refine WL.assign ?_
        refine WL.nil ?_
        refine WQ.next ?_
        refine WC.seq ?_
        refine WC.region ?_
        refine WL.move ?_
        refine WL.eqi ?_
        refine WL.move ?_
        refine WL.gT ?_
        refine WL.move ?_
        refine WL.gT ?_
        refine WL.fa ?_ fo27_5
        refine WL.gT ?_
        refine WL.ld ?_ sc3
        refine WL.gT ?_
        refine WL.move ?_
        refine WL.gT ?_
        refine WL.add ?_
        refine WL.gT ?_
        refine WL.eqi ?_
        refine WL.cast (d := 116) (u := .bool true) rfl (congrArg Value.bool (decide_eq_true (by omega))) ?_
        refine WL.pickT ?_
        refine WL.move ?_
        refine WL.gT ?_
        refine WL.call (hc := Try.call7) (sp := lawAwake) (h := ?_)
        rintro _ _ ⟨rfl, rfl⟩
        refine WL.pickT ?_
        refine WL.assign ?_
        refine WL.nil ?_
        refine WQ.next ?_
        refine WC.ret (?_)
        exact WQ.ret1 (h1 := .tmp (t := 4) rfl) ⟨_, ⟨rfl, rfl⟩, Am.auto⟩

end Go.Proofs.Ytfmkhhdohfagkaa
