/- Walks of InodeRoom, InodeStates, InodeAgain. -/
import Derived.Test.YtedmihapieleaaaGreatFa
import Derived.Test.YtedmihapieleaaaGreatWad
import Derived.KernelRfl
set_option linter.unusedVariables false
set_option linter.unusedSimpArgs false
namespace Go.Proofs.YtedmihapieleaaaGreat
open Go
theorem fo30_0 : fieldOk Tryz.prog 30 0 0 = true := by kernel_rfl
theorem lawRoom {size : Int} (hsz : -9223372036854775808 ≤ size ∧ size ≤ 9223372036854775807) : Spec Tryz.prog 5 #[.int .i64 size] [] fun F v M => v = .bool true ∧ M = F := by
  refine Spec.intro Tryz.func5 rfl rfl fun B F => ?_
  simp only [Tryz.ntmps5, List.cons_append, List.nil_append, env0, Nat.reduceAdd]
  rcases (show size < 0 ∨ (0 ≤ size ∧ 11000 < size) ∨ (0 ≤ size ∧ size ≤ 11000) from by omega) with hc | hc | hc
  · refine WC.seq ?_
    refine WC.region ?_
    refine WL.assign ?_
    refine WL.nil ?_
    refine WQ.next ?_
    refine WC.seq ?_
    refine WC.seq ?_
    refine WC.region ?_
    refine WL.move ?_
    refine WL.lss ?_
    refine WL.move ?_
    refine WL.cast (d := 16) (u := .bool true) rfl (congrArg Value.bool (by first | (simp; done) | (simp; omega) | omega)) ?_
    refine WL.gF ?_
    refine WL.gF ?_
    refine WL.pickT ?_
    refine WL.nil ?_
    refine WQ.next ?_
    refine WC.condT rfl rfl ?_
    refine WC.seq ?_
    refine WC.region ?_
    refine WL.call (hc := Tryz.call15) (sp := l8Awake) (h := ?_)
    rintro _ _ ⟨rfl, rfl⟩
    refine WL.assign ?_
    refine WL.nil ?_
    refine WQ.next ?_
    refine WC.ret (WQ.thenRet (?_))
    exact WQ.ret1 (h1 := .tmp (t := 2) rfl) ⟨_, ⟨rfl, rfl⟩, Am.auto⟩
  · refine WC.seq ?_
    refine WC.region ?_
    refine WL.assign ?_
    refine WL.nil ?_
    refine WQ.next ?_
    refine WC.seq ?_
    refine WC.seq ?_
    refine WC.region ?_
    refine WL.move ?_
    refine WL.lss ?_
    refine WL.move ?_
    refine WL.cast (d := 16) (u := .bool false) rfl (congrArg Value.bool (by first | (simp; done) | (simp; omega) | omega)) ?_
    refine WL.gT ?_
    refine WL.move ?_
    refine WL.gT ?_
    refine WL.gtr ?_
    refine WL.pickF ?_
    refine WL.nil ?_
    refine WQ.next ?_
    refine WC.condT rfl (congrArg Value.bool (by first | (simp; done) | (simp; omega) | omega)) ?_
    refine WC.seq ?_
    refine WC.region ?_
    refine WL.call (hc := Tryz.call15) (sp := l8Awake) (h := ?_)
    rintro _ _ ⟨rfl, rfl⟩
    refine WL.assign ?_
    refine WL.nil ?_
    refine WQ.next ?_
    refine WC.ret (WQ.thenRet (?_))
    exact WQ.ret1 (h1 := .tmp (t := 2) rfl) ⟨_, ⟨rfl, rfl⟩, Am.auto⟩
  · obtain ⟨N, rfl⟩ : ∃ N : Nat, size = (N : Int) := ⟨size.toNat, by omega⟩
    have hpn : PlIs (pN 600) := pN_is (by decide) (by decide)
    have ho : PlOk (pN 600) := hpn.ok
    have hdc : (pN 600).dc = 350 := rfl
    have hin : (pN 600).ino = 16 := rfl
    have hr0 : tot rootM (pN 600).ino = 0 := tot_root _
    have hN : N ≤ 11000 := by omega
    have hd22 : dat N ≤ 22 := by have := dat_mono hN; have h2 : dat 11000 = 22 := rfl; omega
    have hhas : has N ≤ 23 := by rw [has_hs]; have := dat_mono hN; have h2 : dat 11000 = 22 := rfl; unfold hs; split <;> omega
    have hrw : ∀ W k, W + k ≤ 50 → Rw (pN 600) W k := fun W k h => .inr (by have : (pN 600).tb = 248 := rfl; omega)
    have hts : tot (oneM (1, trB [] N)) (pN 600).ino = has N := by rw [tot_one _ (by decide), trB_length]
    have hc0 : cntF rootM (pN 600).ino = 1 := cntF_root (by decide)
    have hc1 : cntF (oneM (1, trB [] N)) (pN 600).ino = 2 := cntF_one _ (by decide)
    refine WC.seq ?_
    refine WC.region ?_
    refine WL.assign ?_
    refine WL.nil ?_
    refine WQ.next ?_
    refine WC.seq ?_
    refine WC.seq ?_
    refine WC.region ?_
    refine WL.move ?_
    refine WL.lss ?_
    refine WL.move ?_
    refine WL.cast (d := 16) (u := .bool false) rfl (congrArg Value.bool (by first | (simp; done) | (simp; omega) | (unfold nI; simp; omega) | omega)) ?_
    refine WL.gT ?_
    refine WL.move ?_
    refine WL.gT ?_
    refine WL.gtr ?_
    refine WL.pickF ?_
    refine WL.nil ?_
    refine WQ.next ?_
    refine WC.condF rfl (congrArg Value.bool (by first | (simp; done) | (simp; omega) | (unfold nI; simp; omega) | omega)) ?_
    refine WC.skip ?_
    refine WQ.next ?_
    refine WC.seq ?_
    refine WC.region ?_
    refine WL.call (hc := Tryz.call16) (sp := l8Fresh (pN_is (n := 600) (by decide) (by decide))) (h := ?_)
    rintro _ _ ⟨c, a, s, rfl, rfl⟩
    refine WL.move ?_
    refine WL.extract ?_
    refine WL.extract ?_
    refine WL.alloc z30 fun b3 => ?_
    refine WL.stV ?_ agg30
    refine WL.assign ?_
    refine WL.nil ?_
    refine WQ.next ?_
    refine WC.seq ?_
    refine WC.seq ?_
    refine WC.region ?_
    refine WL.move ?_
    refine WL.not ?_
    refine WL.nil ?_
    refine WQ.next ?_
    refine WC.condF rfl rfl ?_
    refine WC.skip ?_
    refine WQ.next ?_
    refine WC.seq ?_
    refine WC.region ?_
    refine WL.fa ?_ fo30_1
    refine WL.ld ?_ sc25
    refine WL.call (hc := Tryz.call25) (sp := nFree (F0 := rootM) (F := rootM) (W := 0) (op := true) ho) (h := ?_)
    rintro _ _ ⟨rfl, rfl⟩
    refine WL.move ?_
    refine WL.extract ?_
    refine WL.extract ?_
    refine WL.assign ?_
    refine WL.assign ?_
    refine WL.nil ?_
    refine WQ.next ?_
    refine WC.seq ?_
    refine WC.region ?_
    refine WL.fa ?_ fo30_2
    refine WL.ld ?_ sc26
    refine WL.call (hc := Tryz.call17) (sp := nMake (F0 := rootM) (F := rootM) (W := 0) (i := 1) (k := 1) ho (.inl rfl) (hrw _ _ (by omega)) (by decide) rfl root_one) (h := ?_)
    rintro _ _ ⟨rfl, rfl⟩
    refine WL.move ?_
    refine WL.extract ?_
    refine WL.extract ?_
    refine WL.assign ?_
    refine WL.assign ?_
    refine WL.nil ?_
    refine WQ.next ?_
    refine WC.seq ?_
    refine WC.seq ?_
    refine WC.region ?_
    refine WL.move ?_
    refine WL.nei ?_
    refine WL.move ?_
    refine WL.gT ?_
    refine WL.fa ?_ fo30_2
    refine WL.gT ?_
    refine WL.ld ?_ sc26
    refine WL.gT ?_
    refine WL.move ?_
    refine WL.gT ?_
    refine WL.move ?_
    refine WL.gT ?_
    refine WL.call (hc := Tryz.call26) (sp := nTrunc (F0 := rootM) (F := oneM (1, [])) (W := 1) (i := 1) (size := N) (f := (1, [])) ho (oneM_at _) (hrw _ _ (by show 1 + (has N - 0 + 8) ≤ 50; omega)) (by omega) (by rw [tot_one _ (by decide)]; show 0 + has N ≤ 350 + 0; omega)) (h := ?_)
    rintro _ _ ⟨rfl, rfl⟩
    rw [one_upd]
    refine WL.gT ?_
    refine WL.nei ?_
    refine WL.pickF ?_
    refine WL.nil ?_
    refine WQ.next ?_
    refine WC.condF rfl rfl ?_
    refine WC.skip ?_
    refine WQ.next ?_
    refine WC.seq ?_
    refine WC.region ?_
    refine WL.move ?_
    refine WL.add ?_
    refine WL.quo ?_
    refine WL.cast (d := 51) (u := nI (dat N)) rfl (congrArg (Value.int .i64) (by unfold dat; omega)) ?_
    refine WL.assign ?_
    refine WL.nil ?_
    refine WQ.next ?_
    refine WC.seq ?_
    refine WC.seq ?_
    refine WC.region ?_
    refine WL.move ?_
    refine WL.gtr ?_
    refine WL.nil ?_
    refine WQ.next ?_
    by_cases h10 : 10 < dat N
    · refine WC.condT rfl (congrArg Value.bool (by first | (simp; done) | (simp; omega) | (unfold nI; simp; omega) | omega)) ?_
      refine WC.region ?_
      refine WL.move ?_
      refine WL.add ?_
      refine WL.cast (d := 55) (u := nI (has N)) rfl (congrArg (Value.int .i64) (by rw [has_hs]; unfold hs; rw [if_pos h10]; omega)) ?_
      refine WL.assign ?_
      refine WL.nil ?_
      refine WQ.next ?_
      refine WC.seq ?_
      refine WC.region ?_
      refine WL.fa ?_ fo30_1
      refine WL.ld ?_ sc25
      refine WL.call (hc := Tryz.call25) (sp := nFree (F0 := rootM) (F := oneM (1, trB [] N)) (op := true) ho) (h := ?_)
      rintro _ _ ⟨rfl, rfl⟩
      refine WL.move ?_
      refine WL.extract ?_
      refine WL.extract ?_
      refine WL.assign ?_
      refine WL.assign ?_
      refine WL.nil ?_
      refine WQ.next ?_
      refine WC.seq ?_
      refine WC.seq ?_
      refine WC.region ?_
      refine WL.move ?_
      refine WL.move ?_
      refine WL.sub ?_
      refine WL.move ?_
      refine WL.nei ?_
      refine WL.cast (d := 66) (u := .bool false) rfl (congrArg Value.bool (by rw [hts, hr0]; simp; omega)) ?_
      refine WL.move ?_
      refine WL.gT ?_
      refine WL.move ?_
      refine WL.gT ?_
      refine WL.move ?_
      refine WL.gT ?_
      refine WL.sub ?_
      refine WL.gT ?_
      refine WL.nei ?_
      refine WL.cast (d := 71) (u := .bool false) rfl (congrArg Value.bool (by rw [hc0, hc1, hin]; rfl)) ?_
      refine WL.pickF ?_
      refine WL.move ?_
      refine WL.gT ?_
      refine WL.fa ?_ fo30_0
      refine WL.gT ?_
      refine WL.ld ?_ sc24
      refine WL.gT ?_
      refine WL.call (hc := Tryz.call21) (sp := nCommit (s := s) (a := a) (p := pN 600) (F0 := rootM) (F := oneM (1, trB [] N))) (h := ?_)
      rintro _ _ ⟨rfl, rfl⟩
      refine WL.gT ?_
      refine WL.nei ?_
      refine WL.pickF ?_
      refine WL.move ?_
      refine WL.gT ?_
      refine WL.fa ?_ fo30_0
      refine WL.gT ?_
      refine WL.ld ?_ sc24
      refine WL.gT ?_
      refine WL.call (hc := Tryz.call22) (sp := nBegin (s := s) (a := a) (p := pN 600) (F0 := oneM (1, trB [] N)) (F := oneM (1, trB [] N)) (W := 0)) (h := ?_)
      rintro _ _ ⟨rfl, rfl⟩
      refine WL.gT ?_
      refine WL.nei ?_
      refine WL.pickF ?_
      refine WL.move ?_
      refine WL.gT ?_
      refine WL.fa ?_ fo30_2
      refine WL.gT ?_
      refine WL.ld ?_ sc26
      refine WL.gT ?_
      refine WL.move ?_
      refine WL.gT ?_
      refine WL.call (hc := Tryz.call27) (sp := nDrop (F0 := oneM (1, trB [] N)) (F := oneM (1, trB [] N)) (W := 0) (i := 1) ho (oneM_at _) (by decide) (hrw _ _ (by omega))) (h := ?_)
      rintro _ _ ⟨rfl, rfl⟩
      rw [one_drop]
      refine WL.gT ?_
      refine WL.nei ?_
      refine WL.pickF ?_
      refine WL.nil ?_
      refine WQ.next ?_
      refine WC.condF rfl rfl ?_
      refine WC.skip ?_
      refine WQ.next ?_
      refine WC.seq ?_
      refine WC.region ?_
      refine WL.fa ?_ fo30_1
      refine WL.ld ?_ sc25
      refine WL.call (hc := Tryz.call25) (sp := nFree (F0 := oneM (1, trB [] N)) (F := rootM) (op := true) ho) (h := ?_)
      rintro _ _ ⟨rfl, rfl⟩
      refine WL.move ?_
      refine WL.extract ?_
      refine WL.extract ?_
      refine WL.assign ?_
      refine WL.assign ?_
      refine WL.nil ?_
      refine WQ.next ?_
      refine WC.seq ?_
      refine WC.region ?_
      refine WL.move ?_
      refine WL.move ?_
      refine WL.eqi ?_
      refine WL.cast (d := 100) (u := .bool true) rfl (congrArg Value.bool (by simp)) ?_
      refine WL.move ?_
      refine WL.gT ?_
      refine WL.move ?_
      refine WL.gT ?_
      refine WL.move ?_
      refine WL.gT ?_
      refine WL.eqi ?_
      refine WL.cast (d := 104) (u := .bool true) rfl (congrArg Value.bool (by simp)) ?_
      refine WL.pickT ?_
      refine WL.move ?_
      refine WL.gT ?_
      refine WL.call (hc := Tryz.call15) (sp := l8Awake) (h := ?_)
      rintro _ _ ⟨rfl, rfl⟩
      refine WL.pickT ?_
      refine WL.assign ?_
      refine WL.nil ?_
      refine WQ.next ?_
      refine WC.ret (?_)
      exact WQ.ret1 (h1 := .tmp (t := 2) rfl) ⟨_, ⟨rfl, rfl⟩, Am.auto⟩
    · have hh : has N = dat N := by rw [has_hs]; unfold hs; rw [if_neg h10]; rfl
      refine WC.cast (d := 9) (u := nI (has N)) rfl (congrArg nI hh.symm) ?_
      refine WC.condF rfl (congrArg Value.bool (by first | (simp; done) | (simp; omega) | (unfold nI; simp; omega) | omega)) ?_
      refine WC.skip ?_
      refine WQ.next ?_
      refine WC.seq ?_
      refine WC.region ?_
      refine WL.fa ?_ fo30_1
      refine WL.ld ?_ sc25
      refine WL.call (hc := Tryz.call25) (sp := nFree (F0 := rootM) (F := oneM (1, trB [] N)) (op := true) ho) (h := ?_)
      rintro _ _ ⟨rfl, rfl⟩
      refine WL.move ?_
      refine WL.extract ?_
      refine WL.extract ?_
      refine WL.assign ?_
      refine WL.assign ?_
      refine WL.nil ?_
      refine WQ.next ?_
      refine WC.seq ?_
      refine WC.seq ?_
      refine WC.region ?_
      refine WL.move ?_
      refine WL.move ?_
      refine WL.sub ?_
      refine WL.move ?_
      refine WL.nei ?_
      refine WL.cast (d := 66) (u := .bool false) rfl (congrArg Value.bool (by rw [hts, hr0]; simp; omega)) ?_
      refine WL.move ?_
      refine WL.gT ?_
      refine WL.move ?_
      refine WL.gT ?_
      refine WL.move ?_
      refine WL.gT ?_
      refine WL.sub ?_
      refine WL.gT ?_
      refine WL.nei ?_
      refine WL.cast (d := 71) (u := .bool false) rfl (congrArg Value.bool (by rw [hc0, hc1, hin]; rfl)) ?_
      refine WL.pickF ?_
      refine WL.move ?_
      refine WL.gT ?_
      refine WL.fa ?_ fo30_0
      refine WL.gT ?_
      refine WL.ld ?_ sc24
      refine WL.gT ?_
      refine WL.call (hc := Tryz.call21) (sp := nCommit (s := s) (a := a) (p := pN 600) (F0 := rootM) (F := oneM (1, trB [] N))) (h := ?_)
      rintro _ _ ⟨rfl, rfl⟩
      refine WL.gT ?_
      refine WL.nei ?_
      refine WL.pickF ?_
      refine WL.move ?_
      refine WL.gT ?_
      refine WL.fa ?_ fo30_0
      refine WL.gT ?_
      refine WL.ld ?_ sc24
      refine WL.gT ?_
      refine WL.call (hc := Tryz.call22) (sp := nBegin (s := s) (a := a) (p := pN 600) (F0 := oneM (1, trB [] N)) (F := oneM (1, trB [] N)) (W := 0)) (h := ?_)
      rintro _ _ ⟨rfl, rfl⟩
      refine WL.gT ?_
      refine WL.nei ?_
      refine WL.pickF ?_
      refine WL.move ?_
      refine WL.gT ?_
      refine WL.fa ?_ fo30_2
      refine WL.gT ?_
      refine WL.ld ?_ sc26
      refine WL.gT ?_
      refine WL.move ?_
      refine WL.gT ?_
      refine WL.call (hc := Tryz.call27) (sp := nDrop (F0 := oneM (1, trB [] N)) (F := oneM (1, trB [] N)) (W := 0) (i := 1) ho (oneM_at _) (by decide) (hrw _ _ (by omega))) (h := ?_)
      rintro _ _ ⟨rfl, rfl⟩
      rw [one_drop]
      refine WL.gT ?_
      refine WL.nei ?_
      refine WL.pickF ?_
      refine WL.nil ?_
      refine WQ.next ?_
      refine WC.condF rfl rfl ?_
      refine WC.skip ?_
      refine WQ.next ?_
      refine WC.seq ?_
      refine WC.region ?_
      refine WL.fa ?_ fo30_1
      refine WL.ld ?_ sc25
      refine WL.call (hc := Tryz.call25) (sp := nFree (F0 := oneM (1, trB [] N)) (F := rootM) (op := true) ho) (h := ?_)
      rintro _ _ ⟨rfl, rfl⟩
      refine WL.move ?_
      refine WL.extract ?_
      refine WL.extract ?_
      refine WL.assign ?_
      refine WL.assign ?_
      refine WL.nil ?_
      refine WQ.next ?_
      refine WC.seq ?_
      refine WC.region ?_
      refine WL.move ?_
      refine WL.move ?_
      refine WL.eqi ?_
      refine WL.cast (d := 100) (u := .bool true) rfl (congrArg Value.bool (by simp)) ?_
      refine WL.move ?_
      refine WL.gT ?_
      refine WL.move ?_
      refine WL.gT ?_
      refine WL.move ?_
      refine WL.gT ?_
      refine WL.eqi ?_
      refine WL.cast (d := 104) (u := .bool true) rfl (congrArg Value.bool (by simp)) ?_
      refine WL.pickT ?_
      refine WL.move ?_
      refine WL.gT ?_
      refine WL.call (hc := Tryz.call15) (sp := l8Awake) (h := ?_)
      rintro _ _ ⟨rfl, rfl⟩
      refine WL.pickT ?_
      refine WL.assign ?_
      refine WL.nil ?_
      refine WQ.next ?_
      refine WC.ret (?_)
      exact WQ.ret1 (h1 := .tmp (t := 2) rfl) ⟨_, ⟨rfl, rfl⟩, Am.auto⟩

theorem inReadNil {i u v : Value} : Spec Tryz.prog 23 #[.pointer none, i, u, v] [] fun F r M => r = .tuple #[.slice none 0 0, .int .i64 8] ∧ M = F := by
  refine Spec.intro Tryz.func23 rfl rfl fun B F => ?_
  simp only [Tryz.ntmps23, List.cons_append, List.nil_append, env0, Nat.reduceAdd]
  refine WC.seq ?_
  refine WC.region ?_
  refine WL.assign ?_
  refine WL.assign ?_
  refine WL.nil ?_
  refine WQ.next ?_
  refine WC.seq ?_
  refine WC.region ?_
  refine WL.move ?_
  refine WL.move ?_
  refine WL.call (hc := Tryz.call61) (sp := inLoadNil) (h := ?_)
  rintro _ _ ⟨rfl, rfl⟩
  refine WL.move ?_
  refine WL.extract ?_
  refine WL.extract ?_
  refine WL.allocL zNd rfl fun b10 => ?_
  refine WL.stLA (xs := ndL nd0) (us := ndL nd0) ?_ agg92 rfl rfl (ndL_single _)
  refine WL.assign ?_
  refine WL.nil ?_
  refine WQ.next ?_
  refine WC.seq ?_
  refine WC.seq ?_
  refine WC.region ?_
  refine WL.move ?_
  refine WL.nei ?_
  refine WL.nil ?_
  refine WQ.next ?_
  refine WC.condT rfl rfl ?_
  refine WC.seq ?_
  refine WC.region ?_
  refine WL.move ?_
  refine WL.assign ?_
  refine WL.assign ?_
  refine WL.nil ?_
  refine WQ.next ?_
  refine WC.ret (WQ.thenRet (?_))
  exact WQ.ret2 (h1 := .tmp (t := 8) rfl) (h2 := .tmp (t := 9) rfl) ⟨_, ⟨rfl, rfl⟩, Am.auto⟩

theorem lawInStates {i n : Int} (hi : -9223372036854775808 ≤ i ∧ i ≤ 9223372036854775807) (hn : -9223372036854775808 ≤ n ∧ n ≤ 9223372036854775807) : Spec Tryz.prog 8 #[.int .i64 i, .int .i64 n] [] fun F v M => v = .bool true ∧ M = F := by
  refine Spec.intro Tryz.func8 rfl rfl fun B F => ?_
  simp only [Tryz.ntmps8, List.cons_append, List.nil_append, env0, Nat.reduceAdd]
  have hpn : PlIs (pN 300) := pN_is (by decide) (by decide)
  have ho : PlOk (pN 300) := hpn.ok
  have hdc : (pN 300).dc = 50 := rfl
  have hin : (pN 300).ino = 16 := rfl
  have hr0 : tot rootM (pN 300).ino = 0 := tot_root _
  refine WC.seq ?_
  refine WC.region ?_
  refine WL.assign ?_
  refine WL.nil ?_
  refine WQ.next ?_
  refine WC.seq ?_
  refine WC.region ?_
  refine WL.call (hc := Tryz.call16) (sp := l8Fresh (pN_is (n := 300) (by decide) (by decide))) (h := ?_)
  rintro _ _ ⟨c, a, s, rfl, rfl⟩
  refine WL.move ?_
  refine WL.extract ?_
  refine WL.extract ?_
  refine WL.alloc z30 fun b5 => ?_
  refine WL.stV ?_ agg30
  refine WL.assign ?_
  refine WL.nil ?_
  refine WQ.next ?_
  refine WC.seq ?_
  refine WC.seq ?_
  refine WC.region ?_
  refine WL.move ?_
  refine WL.not ?_
  refine WL.move ?_
  refine WL.gT ?_
  refine WL.fa ?_ fo30_0
  refine WL.gT ?_
  refine WL.ld ?_ sc24
  refine WL.gT ?_
  refine WL.call (hc := Tryz.call28) (sp := nAbort (s := s) (a := a) (p := pN 300) (F0 := rootM) (F := rootM) (W := 0)) (h := ?_)
  rintro _ _ ⟨rfl, rfl⟩
  refine WL.gT ?_
  refine WL.nei ?_
  refine WL.pickF ?_
  refine WL.nil ?_
  refine WQ.next ?_
  refine WC.condF rfl rfl ?_
  refine WC.skip ?_
  refine WQ.next ?_
  refine WC.seq ?_
  refine WC.region ?_
  refine WL.fa ?_ fo30_2
  refine WL.ld ?_ sc26
  refine WL.call (hc := Tryz.call17) (sp := nMake0 (s := s) (a := a) (c := c) (p := pN 300) (F0 := rootM) (F := rootM) (W := 0)) (h := ?_)
  rintro _ _ ⟨rfl, rfl⟩
  refine WL.move ?_
  refine WL.extract ?_
  refine WL.extract ?_
  refine WL.assign ?_
  refine WL.assign ?_
  refine WL.nil ?_
  refine WQ.next ?_
  refine WC.seq ?_
  refine WC.region ?_
  refine WL.assign ?_
  refine WL.nil ?_
  refine WQ.next ?_
  refine WC.seq ?_
  refine WC.region ?_
  refine WL.move ?_
  refine WL.call (hc := Tryz.call17) (sp := inMakeNil) (h := ?_)
  rintro _ _ ⟨rfl, rfl⟩
  refine WL.move ?_
  refine WL.extract ?_
  refine WL.extract ?_
  refine WL.assign ?_
  refine WL.assign ?_
  refine WL.nil ?_
  refine WQ.next ?_
  refine WC.seq ?_
  refine WC.region ?_
  refine WL.move ?_
  refine WL.move ?_
  refine WL.call (hc := Tryz.call29) (sp := inStatNil) (h := ?_)
  rintro _ _ ⟨rfl, rfl⟩
  refine WL.move ?_
  refine WL.extract ?_
  refine WL.extract ?_
  refine WL.alloc z55 fun b12 => ?_
  refine WL.stV ?_ agg55
  refine WL.assign ?_
  refine WL.nil ?_
  refine WQ.next ?_
  refine WC.seq ?_
  refine WC.region ?_
  refine WL.move ?_
  refine WL.move ?_
  refine WL.move ?_
  refine WL.call (hc := Tryz.call23) (sp := inReadNil) (h := ?_)
  rintro _ _ ⟨rfl, rfl⟩
  refine WL.move ?_
  refine WL.extract ?_
  refine WL.extract ?_
  refine WL.assign ?_
  refine WL.assign ?_
  refine WL.nil ?_
  refine WQ.next ?_
  refine WC.seq ?_
  refine WC.region ?_
  refine WL.move ?_
  refine WL.eqi ?_
  refine WL.move ?_
  refine WL.gT ?_
  refine WL.fa ?_ fo30_2
  refine WL.gT ?_
  refine WL.ld ?_ sc26
  refine WL.gT ?_
  refine WL.call (hc := Tryz.call20) (sp := nWrite0 (s := s) (a := a) (c := c) (p := pN 300) (F0 := rootM) (F := rootM) (W := 0)) (h := ?_)
  rintro _ _ ⟨rfl, rfl⟩
  refine WL.gT ?_
  refine WL.eqi ?_
  refine WL.pickT ?_
  refine WL.move ?_
  refine WL.gT ?_
  refine WL.fa ?_ fo30_2
  refine WL.gT ?_
  refine WL.ld ?_ sc26
  refine WL.gT ?_
  refine WL.move ?_
  refine WL.gT ?_
  refine WL.move ?_
  refine WL.gT ?_
  refine WL.call (hc := Tryz.call26) (sp := nTruncate0 (s := s) (a := a) (c := c) (p := pN 300) (F0 := rootM) (F := rootM) (W := 0)) (h := ?_)
  rintro _ _ ⟨rfl, rfl⟩
  refine WL.gT ?_
  refine WL.eqi ?_
  refine WL.pickT ?_
  refine WL.move ?_
  refine WL.gT ?_
  refine WL.fa ?_ fo30_2
  refine WL.gT ?_
  refine WL.ld ?_ sc26
  refine WL.gT ?_
  refine WL.move ?_
  refine WL.gT ?_
  refine WL.call (hc := Tryz.call27) (sp := nDrop0 (s := s) (a := a) (c := c) (p := pN 300) (F0 := rootM) (F := rootM) (W := 0)) (h := ?_)
  rintro _ _ ⟨rfl, rfl⟩
  refine WL.gT ?_
  refine WL.eqi ?_
  refine WL.pickT ?_
  refine WL.move ?_
  refine WL.gT ?_
  refine WL.move ?_
  refine WL.gT ?_
  refine WL.eqi ?_
  refine WL.pickT ?_
  refine WL.move ?_
  refine WL.gT ?_
  refine WL.move ?_
  refine WL.gT ?_
  refine WL.eqi ?_
  refine WL.pickT ?_
  refine WL.move ?_
  refine WL.gT ?_
  refine WL.move ?_
  refine WL.gT ?_
  refine WL.eqi ?_
  refine WL.pickT ?_
  refine WL.move ?_
  refine WL.gT ?_
  refine WL.move ?_
  refine WL.gT ?_
  refine WL.move ?_
  refine WL.gT ?_
  refine WL.call (hc := Tryz.call20) (sp := inWriteNil) (h := ?_)
  rintro _ _ ⟨rfl, rfl⟩
  refine WL.gT ?_
  refine WL.eqi ?_
  refine WL.pickT ?_
  refine WL.move ?_
  refine WL.gT ?_
  refine WL.call (hc := Tryz.call15) (sp := l8Awake) (h := ?_)
  rintro _ _ ⟨rfl, rfl⟩
  refine WL.pickT ?_
  refine WL.assign ?_
  refine WL.nil ?_
  refine WQ.next ?_
  refine WC.ret (?_)
  exact WQ.ret1 (h1 := .tmp (t := 4) rfl) ⟨_, ⟨rfl, rfl⟩, Am.auto⟩

theorem lawAgain {size next : Int} (hsz : -9223372036854775808 ≤ size ∧ size ≤ 9223372036854775807) (hnx : -9223372036854775808 ≤ next ∧ next ≤ 9223372036854775807) : Spec Tryz.prog 7 #[.int .i64 size, .int .i64 next] [] fun F v M => v = .bool true ∧ M = F := by
  refine Spec.intro Tryz.func7 rfl rfl fun B F => ?_
  simp only [Tryz.ntmps7, List.cons_append, List.nil_append, env0, Nat.reduceAdd]
  rcases (show size < 0 ∨ (0 ≤ size ∧ 5000 < size) ∨ (0 ≤ size ∧ size ≤ 5000 ∧ next < 0) ∨ (0 ≤ size ∧ size ≤ 5000 ∧ 0 ≤ next ∧ 5000 < next) ∨ (0 ≤ size ∧ size ≤ 5000 ∧ 0 ≤ next ∧ next ≤ 5000) from by omega) with hc | hc | hc | hc | hc
  · refine WC.seq ?_
    refine WC.region ?_
    refine WL.assign ?_
    refine WL.nil ?_
    refine WQ.next ?_
    refine WC.seq ?_
    refine WC.seq ?_
    refine WC.region ?_
    refine WL.move ?_
    refine WL.lss ?_
    refine WL.move ?_
    refine WL.cast (d := 20) (u := .bool true) rfl (congrArg Value.bool (by first | (simp; done) | (simp; omega) | omega)) ?_
    refine WL.gF ?_
    refine WL.gF ?_
    refine WL.pickT ?_
    refine WL.move ?_
    refine WL.gF ?_
    refine WL.gF ?_
    refine WL.pickT ?_
    refine WL.move ?_
    refine WL.gF ?_
    refine WL.gF ?_
    refine WL.pickT ?_
    refine WL.nil ?_
    refine WQ.next ?_
    refine WC.condT rfl rfl ?_
    refine WC.seq ?_
    refine WC.region ?_
    refine WL.call (hc := Tryz.call15) (sp := l8Awake) (h := ?_)
    rintro _ _ ⟨rfl, rfl⟩
    refine WL.assign ?_
    refine WL.nil ?_
    refine WQ.next ?_
    refine WC.ret (WQ.thenRet (?_))
    exact WQ.ret1 (h1 := .tmp (t := 4) rfl) ⟨_, ⟨rfl, rfl⟩, Am.auto⟩
  · refine WC.seq ?_
    refine WC.region ?_
    refine WL.assign ?_
    refine WL.nil ?_
    refine WQ.next ?_
    refine WC.seq ?_
    refine WC.seq ?_
    refine WC.region ?_
    refine WL.move ?_
    refine WL.lss ?_
    refine WL.move ?_
    refine WL.cast (d := 20) (u := .bool false) rfl (congrArg Value.bool (by first | (simp; done) | (simp; omega) | omega)) ?_
    refine WL.gT ?_
    refine WL.move ?_
    refine WL.gT ?_
    refine WL.gtr ?_
    refine WL.pickF ?_
    refine WL.move ?_
    refine WL.cast (d := 24) (u := .bool true) rfl (congrArg Value.bool (by first | (simp; done) | (simp; omega) | omega)) ?_
    refine WL.gF ?_
    refine WL.gF ?_
    refine WL.pickT ?_
    refine WL.move ?_
    refine WL.gF ?_
    refine WL.gF ?_
    refine WL.pickT ?_
    refine WL.nil ?_
    refine WQ.next ?_
    refine WC.condT rfl rfl ?_
    refine WC.seq ?_
    refine WC.region ?_
    refine WL.call (hc := Tryz.call15) (sp := l8Awake) (h := ?_)
    rintro _ _ ⟨rfl, rfl⟩
    refine WL.assign ?_
    refine WL.nil ?_
    refine WQ.next ?_
    refine WC.ret (WQ.thenRet (?_))
    exact WQ.ret1 (h1 := .tmp (t := 4) rfl) ⟨_, ⟨rfl, rfl⟩, Am.auto⟩
  · refine WC.seq ?_
    refine WC.region ?_
    refine WL.assign ?_
    refine WL.nil ?_
    refine WQ.next ?_
    refine WC.seq ?_
    refine WC.seq ?_
    refine WC.region ?_
    refine WL.move ?_
    refine WL.lss ?_
    refine WL.move ?_
    refine WL.cast (d := 20) (u := .bool false) rfl (congrArg Value.bool (by first | (simp; done) | (simp; omega) | omega)) ?_
    refine WL.gT ?_
    refine WL.move ?_
    refine WL.gT ?_
    refine WL.gtr ?_
    refine WL.pickF ?_
    refine WL.move ?_
    refine WL.cast (d := 24) (u := .bool false) rfl (congrArg Value.bool (by first | (simp; done) | (simp; omega) | omega)) ?_
    refine WL.gT ?_
    refine WL.move ?_
    refine WL.gT ?_
    refine WL.lss ?_
    refine WL.pickF ?_
    refine WL.move ?_
    refine WL.cast (d := 28) (u := .bool true) rfl (congrArg Value.bool (by first | (simp; done) | (simp; omega) | omega)) ?_
    refine WL.gF ?_
    refine WL.gF ?_
    refine WL.pickT ?_
    refine WL.nil ?_
    refine WQ.next ?_
    refine WC.condT rfl rfl ?_
    refine WC.seq ?_
    refine WC.region ?_
    refine WL.call (hc := Tryz.call15) (sp := l8Awake) (h := ?_)
    rintro _ _ ⟨rfl, rfl⟩
    refine WL.assign ?_
    refine WL.nil ?_
    refine WQ.next ?_
    refine WC.ret (WQ.thenRet (?_))
    exact WQ.ret1 (h1 := .tmp (t := 4) rfl) ⟨_, ⟨rfl, rfl⟩, Am.auto⟩
  · refine WC.seq ?_
    refine WC.region ?_
    refine WL.assign ?_
    refine WL.nil ?_
    refine WQ.next ?_
    refine WC.seq ?_
    refine WC.seq ?_
    refine WC.region ?_
    refine WL.move ?_
    refine WL.lss ?_
    refine WL.move ?_
    refine WL.cast (d := 20) (u := .bool false) rfl (congrArg Value.bool (by first | (simp; done) | (simp; omega) | omega)) ?_
    refine WL.gT ?_
    refine WL.move ?_
    refine WL.gT ?_
    refine WL.gtr ?_
    refine WL.pickF ?_
    refine WL.move ?_
    refine WL.cast (d := 24) (u := .bool false) rfl (congrArg Value.bool (by first | (simp; done) | (simp; omega) | omega)) ?_
    refine WL.gT ?_
    refine WL.move ?_
    refine WL.gT ?_
    refine WL.lss ?_
    refine WL.pickF ?_
    refine WL.move ?_
    refine WL.cast (d := 28) (u := .bool false) rfl (congrArg Value.bool (by first | (simp; done) | (simp; omega) | omega)) ?_
    refine WL.gT ?_
    refine WL.move ?_
    refine WL.gT ?_
    refine WL.gtr ?_
    refine WL.pickF ?_
    refine WL.nil ?_
    refine WQ.next ?_
    refine WC.condT rfl (congrArg Value.bool (by first | (simp; done) | (simp; omega) | omega)) ?_
    refine WC.seq ?_
    refine WC.region ?_
    refine WL.call (hc := Tryz.call15) (sp := l8Awake) (h := ?_)
    rintro _ _ ⟨rfl, rfl⟩
    refine WL.assign ?_
    refine WL.nil ?_
    refine WQ.next ?_
    refine WC.ret (WQ.thenRet (?_))
    exact WQ.ret1 (h1 := .tmp (t := 4) rfl) ⟨_, ⟨rfl, rfl⟩, Am.auto⟩
  · obtain ⟨N, rfl⟩ : ∃ N : Nat, size = (N : Int) := ⟨size.toNat, by omega⟩
    obtain ⟨K, rfl⟩ : ∃ K : Nat, next = (K : Int) := ⟨next.toNat, by omega⟩
    have hpn : PlIs (pN 280) := pN_is (by decide) (by decide)
    have ho : PlOk (pN 280) := hpn.ok
    have hdc : (pN 280).dc = 30 := rfl
    have hin : (pN 280).ino = 16 := rfl
    have hr0 : tot rootM (pN 280).ino = 0 := tot_root _
    have hrw : ∀ W k, Rw (pN 280) W k := fun W k => .inl (by decide)
    have hN : N ≤ 5000 := by omega
    have hK : K ≤ 5000 := by omega
    have hh : ∀ n, n ≤ 5000 → has n ≤ 10 := fun n hn => by rw [has_hs]; have := dat_mono hn; have h2 : dat 5000 = 10 := rfl; unfold hs; rw [if_neg (by omega)]; omega
    have hhN := hh N hN
    have hhK := hh K hK
    refine WC.seq ?_
    refine WC.region ?_
    refine WL.assign ?_
    refine WL.nil ?_
    refine WQ.next ?_
    refine WC.seq ?_
    refine WC.seq ?_
    refine WC.region ?_
    refine WL.move ?_
    refine WL.lss ?_
    refine WL.move ?_
    refine WL.cast (d := 20) (u := .bool false) rfl (congrArg Value.bool (by first | (simp; done) | (simp; omega) | omega)) ?_
    refine WL.gT ?_
    refine WL.move ?_
    refine WL.gT ?_
    refine WL.gtr ?_
    refine WL.pickF ?_
    refine WL.move ?_
    refine WL.cast (d := 24) (u := .bool false) rfl (congrArg Value.bool (by first | (simp; done) | (simp; omega) | omega)) ?_
    refine WL.gT ?_
    refine WL.move ?_
    refine WL.gT ?_
    refine WL.lss ?_
    refine WL.pickF ?_
    refine WL.move ?_
    refine WL.cast (d := 28) (u := .bool false) rfl (congrArg Value.bool (by first | (simp; done) | (simp; omega) | omega)) ?_
    refine WL.gT ?_
    refine WL.move ?_
    refine WL.gT ?_
    refine WL.gtr ?_
    refine WL.pickF ?_
    refine WL.nil ?_
    refine WQ.next ?_
    refine WC.condF rfl (congrArg Value.bool (by first | (simp; done) | (simp; omega) | omega)) ?_
    refine WC.skip ?_
    refine WQ.next ?_
    refine WC.seq ?_
    refine WC.region ?_
    refine WL.call (hc := Tryz.call16) (sp := l8Fresh (pN_is (n := 280) (by decide) (by decide))) (h := ?_)
    rintro _ _ ⟨c, a, s, rfl, rfl⟩
    refine WL.move ?_
    refine WL.extract ?_
    refine WL.extract ?_
    refine WL.alloc z30 fun b5 => ?_
    refine WL.stV ?_ agg30
    refine WL.assign ?_
    refine WL.nil ?_
    refine WQ.next ?_
    refine WC.seq ?_
    refine WC.seq ?_
    refine WC.region ?_
    refine WL.move ?_
    refine WL.not ?_
    refine WL.nil ?_
    refine WQ.next ?_
    refine WC.condF rfl rfl ?_
    refine WC.skip ?_
    refine WQ.next ?_
    refine WC.seq ?_
    refine WC.region ?_
    refine WL.fa ?_ fo30_1
    refine WL.ld ?_ sc25
    refine WL.call (hc := Tryz.call25) (sp := nFree (F0 := rootM) (F := rootM) (W := 0) (op := true) ho) (h := ?_)
    rintro _ _ ⟨rfl, rfl⟩
    refine WL.move ?_
    refine WL.extract ?_
    refine WL.extract ?_
    refine WL.assign ?_
    refine WL.assign ?_
    refine WL.nil ?_
    refine WQ.next ?_
    refine WC.seq ?_
    refine WC.seq ?_
    refine WC.region ?_
    refine WL.assign ?_
    refine WL.nil ?_
    refine WQ.next ?_
    refine WC.block ?_
    refine WC.loopA (σ := Nat) (fun k => [(0, .int .i64 (N : Int)), (1, .int .i64 (K : Int)), (5, .pointer (some ⟨b5, 0, none⟩)), (7, .int .i64 (((pN 280).dc : Int) - tot rootM (pN 280).ino)), (9, .int .i64 (k : Int))]) (fun _ => [pt b5 (.cells (stkC c a s (pN 280)) 30 (0, 0)), IN s a c (pN 280) rootM rootM 0 true] ++ F) (fun k => k ≤ 10) (fun k => 10 - k) 0 (Nat.zero_le _) ?_
    rintro k hk
    refine WC.seq ?_
    refine WC.seq ?_
    refine WC.region ?_
    refine WL.move ?_
    refine WL.lss ?_
    refine WL.nil ?_
    refine WQ.next ?_
    refine WC.cond rfl (fun hb => ?_) (fun hb => ?_)
    · have hlt : k < 10 := by have := of_decide_eq_true hb; omega
      refine WC.skip ?_
      refine WQ.next ?_
      refine WC.seq ?_
      refine WC.block ?_
      refine WC.seq ?_
      refine WC.region ?_
      refine WL.fa ?_ fo30_2
      refine WL.ld ?_ sc26
      refine WL.call (hc := Tryz.call17) (sp := nMake (F0 := rootM) (F := rootM) (W := 0) (i := 1) (k := 1) ho (.inl rfl) (hrw _ _) (by decide) rfl root_one) (h := ?_)
      rintro _ _ ⟨rfl, rfl⟩
      refine WL.move ?_
      refine WL.extract ?_
      refine WL.extract ?_
      refine WL.assign ?_
      refine WL.assign ?_
      refine WL.nil ?_
      refine WQ.next ?_
      refine WC.seq ?_
      refine WC.draw ([pt b5 (.cells (stkC c a s (pN 280)) 30 (0, 0))]) [] 44 #[false, false, false, false, false, false, false, false, false, false, false, false, false, false, false, false, false, false, false, false, false, false, false, false, false, false, false, false, false, false, false, false, false, false, false, false, false, false, false, false, false, false, false, false] mixed (by kernel_rfl) NoPanic.autoJ ?_
      refine WD.take (i := 0) #[true, false, false, false, false, false, false, false, false, false, false, false, false, false, false, false, false, false, false, false, false, false, false, false, false, false, false, false, false, false, false, false, false, false, false, false, false, false, false, false, false, false, false, false] rfl (by kernel_rfl) (Qt.move ) ?_
      refine WD.take (i := 1) #[true, true, false, false, false, false, false, false, false, false, false, false, false, false, false, false, false, false, false, false, false, false, false, false, false, false, false, false, false, false, false, false, false, false, false, false, false, false, false, false, false, false, false, false] rfl (by kernel_rfl) (Qt.nei ) ?_
      refine WD.take (i := 2) #[true, true, true, false, false, false, false, false, false, false, false, false, false, false, false, false, false, false, false, false, false, false, false, false, false, false, false, false, false, false, false, false, false, false, false, false, false, false, false, false, false, false, false, false] rfl (by kernel_rfl) (Qt.move ) ?_
      refine WD.takeOn (i := 3) #[true, true, true, true, false, false, false, false, false, false, false, false, false, false, false, false, false, false, false, false, false, false, false, false, false, false, false, false, false, false, false, false, false, false, false, false, false, false, false, false, false, false, false, false] rfl (by kernel_rfl) (Qt.move ) ?_
      refine WD.takeOn (i := 4) #[true, true, true, true, true, false, false, false, false, false, false, false, false, false, false, false, false, false, false, false, false, false, false, false, false, false, false, false, false, false, false, false, false, false, false, false, false, false, false, false, false, false, false, false] rfl (by kernel_rfl) (Qt.nei ) ?_
      refine WD.take (i := 5) #[true, true, true, true, true, true, false, false, false, false, false, false, false, false, false, false, false, false, false, false, false, false, false, false, false, false, false, false, false, false, false, false, false, false, false, false, false, false, false, false, false, false, false, false] rfl (by kernel_rfl) (Qt.pickF ) ?_
      refine WD.take (i := 6) #[true, true, true, true, true, true, true, false, false, false, false, false, false, false, false, false, false, false, false, false, false, false, false, false, false, false, false, false, false, false, false, false, false, false, false, false, false, false, false, false, false, false, false, false] rfl (by kernel_rfl) (Qt.move ) ?_
      refine WD.takeOn (i := 7) #[true, true, true, true, true, true, true, true, false, false, false, false, false, false, false, false, false, false, false, false, false, false, false, false, false, false, false, false, false, false, false, false, false, false, false, false, false, false, false, false, false, false, false, false] rfl (by kernel_rfl) (Qt.fa fo30_2) ?_
      refine WD.takeOn (i := 8) #[true, true, true, true, true, true, true, true, true, false, false, false, false, false, false, false, false, false, false, false, false, false, false, false, false, false, false, false, false, false, false, false, false, false, false, false, false, false, false, false, false, false, false, false] rfl (by kernel_rfl) (Qt.ld sc26) ?_
      refine WD.takeOn (i := 9) #[true, true, true, true, true, true, true, true, true, true, false, false, false, false, false, false, false, false, false, false, false, false, false, false, false, false, false, false, false, false, false, false, false, false, false, false, false, false, false, false, false, false, false, false] rfl (by kernel_rfl) (Qt.move ) ?_
      refine WD.one (i := 10) #[true, true, true, true, true, true, true, true, true, true, true, false, false, false, false, false, false, false, false, false, false, false, false, false, false, false, false, false, false, false, false, false, false, false, false, false, false, false, false, false, false, false, false, false] rfl (by kernel_rfl) fun hnp => ?_
      refine WL.gT ?_
      refine WL.call (hc := Tryz.call19) (sp := alikeSome (n := N) (c := 200) (by omega) (by decide)) (h := ?_)
      rintro _ _ ⟨bs, rfl, rfl⟩
      refine WL.nil (WQ.wd hnp (.inl Am.auto) ?_)
      refine WD.one (i := 11) #[true, true, true, true, true, true, true, true, true, true, true, true, false, false, false, false, false, false, false, false, false, false, false, false, false, false, false, false, false, false, false, false, false, false, false, false, false, false, false, false, false, false, false, false] rfl (by kernel_rfl) fun hnp => ?_
      refine WL.gT ?_
      refine WL.call (hc := Tryz.call20) (sp := nWrite (F0 := rootM) (F := oneM (1, [])) (W := 1) (i := 1) (at' := 0) (f := (1, [])) (bs := someB N 200) ho (oneM_at _) (hrw _ _) (.inr Reads.buf) (someB_length _ _) (Nat.le_refl _) (by show N ≤ maxLen; unfold maxLen; omega) (Nat.zero_le _) (by omega) (by rw [tot_one _ (by decide)]; show 0 + has (max 0 (0 + N)) ≤ 30 + 0; rw [show max 0 (0 + N) = N from by omega]; omega)) (h := ?_)
      rintro _ _ ⟨rfl, rfl⟩
      rw [wrB_nil, one_upd]
      refine WL.nil (WQ.wd hnp (.inl Am.auto) ?_)
      refine WD.takeOn (i := 12) #[true, true, true, true, true, true, true, true, true, true, true, true, true, false, false, false, false, false, false, false, false, false, false, false, false, false, false, false, false, false, false, false, false, false, false, false, false, false, false, false, false, false, false, false] rfl (by kernel_rfl) (Qt.nei ) ?_
      refine WD.take (i := 13) #[true, true, true, true, true, true, true, true, true, true, true, true, true, true, false, false, false, false, false, false, false, false, false, false, false, false, false, false, false, false, false, false, false, false, false, false, false, false, false, false, false, false, false, false] rfl (by kernel_rfl) (Qt.pickF ) ?_
      refine WD.take (i := 14) #[true, true, true, true, true, true, true, true, true, true, true, true, true, true, true, false, false, false, false, false, false, false, false, false, false, false, false, false, false, false, false, false, false, false, false, false, false, false, false, false, false, false, false, false] rfl (by kernel_rfl) (Qt.move ) ?_
      refine WD.takeOn (i := 15) #[true, true, true, true, true, true, true, true, true, true, true, true, true, true, true, true, false, false, false, false, false, false, false, false, false, false, false, false, false, false, false, false, false, false, false, false, false, false, false, false, false, false, false, false] rfl (by kernel_rfl) (Qt.fa fo30_0) ?_
      refine WD.takeOn (i := 16) #[true, true, true, true, true, true, true, true, true, true, true, true, true, true, true, true, true, false, false, false, false, false, false, false, false, false, false, false, false, false, false, false, false, false, false, false, false, false, false, false, false, false, false, false] rfl (by kernel_rfl) (Qt.ld sc24) ?_
      refine WD.one (i := 17) #[true, true, true, true, true, true, true, true, true, true, true, true, true, true, true, true, true, true, false, false, false, false, false, false, false, false, false, false, false, false, false, false, false, false, false, false, false, false, false, false, false, false, false, false] rfl (by kernel_rfl) fun hnp => ?_
      refine WL.gT ?_
      refine WL.call (hc := Tryz.call21) (sp := nCommit (s := s) (a := a) (p := pN 280) (F0 := rootM) (F := oneM (1, someB N 200))) (h := ?_)
      rintro _ _ ⟨rfl, rfl⟩
      refine WL.nil (WQ.wd hnp (.inl Am.auto) ?_)
      refine WD.takeOn (i := 18) #[true, true, true, true, true, true, true, true, true, true, true, true, true, true, true, true, true, true, true, false, false, false, false, false, false, false, false, false, false, false, false, false, false, false, false, false, false, false, false, false, false, false, false, false] rfl (by kernel_rfl) (Qt.nei ) ?_
      refine WD.take (i := 19) #[true, true, true, true, true, true, true, true, true, true, true, true, true, true, true, true, true, true, true, true, false, false, false, false, false, false, false, false, false, false, false, false, false, false, false, false, false, false, false, false, false, false, false, false] rfl (by kernel_rfl) (Qt.pickF ) ?_
      refine WD.take (i := 20) #[true, true, true, true, true, true, true, true, true, true, true, true, true, true, true, true, true, true, true, true, true, false, false, false, false, false, false, false, false, false, false, false, false, false, false, false, false, false, false, false, false, false, false, false] rfl (by kernel_rfl) (Qt.move ) ?_
      refine WD.takeOn (i := 21) #[true, true, true, true, true, true, true, true, true, true, true, true, true, true, true, true, true, true, true, true, true, true, false, false, false, false, false, false, false, false, false, false, false, false, false, false, false, false, false, false, false, false, false, false] rfl (by kernel_rfl) (Qt.fa fo30_0) ?_
      refine WD.takeOn (i := 22) #[true, true, true, true, true, true, true, true, true, true, true, true, true, true, true, true, true, true, true, true, true, true, true, false, false, false, false, false, false, false, false, false, false, false, false, false, false, false, false, false, false, false, false, false] rfl (by kernel_rfl) (Qt.ld sc24) ?_
      refine WD.one (i := 23) #[true, true, true, true, true, true, true, true, true, true, true, true, true, true, true, true, true, true, true, true, true, true, true, true, false, false, false, false, false, false, false, false, false, false, false, false, false, false, false, false, false, false, false, false] rfl (by kernel_rfl) fun hnp => ?_
      refine WL.gT ?_
      refine WL.call (hc := Tryz.call22) (sp := nBegin (s := s) (a := a) (p := pN 280) (F0 := oneM (1, someB N 200)) (F := oneM (1, someB N 200)) (W := 0)) (h := ?_)
      rintro _ _ ⟨rfl, rfl⟩
      refine WL.nil (WQ.wd hnp (.inl Am.auto) ?_)
      refine WD.takeOn (i := 24) #[true, true, true, true, true, true, true, true, true, true, true, true, true, true, true, true, true, true, true, true, true, true, true, true, true, false, false, false, false, false, false, false, false, false, false, false, false, false, false, false, false, false, false, false] rfl (by kernel_rfl) (Qt.nei ) ?_
      refine WD.take (i := 25) #[true, true, true, true, true, true, true, true, true, true, true, true, true, true, true, true, true, true, true, true, true, true, true, true, true, true, false, false, false, false, false, false, false, false, false, false, false, false, false, false, false, false, false, false] rfl (by kernel_rfl) (Qt.pickF ) ?_
      refine WD.take (i := 26) #[true, true, true, true, true, true, true, true, true, true, true, true, true, true, true, true, true, true, true, true, true, true, true, true, true, true, true, false, false, false, false, false, false, false, false, false, false, false, false, false, false, false, false, false] rfl (by kernel_rfl) (Qt.move ) ?_
      refine WD.takeOn (i := 27) #[true, true, true, true, true, true, true, true, true, true, true, true, true, true, true, true, true, true, true, true, true, true, true, true, true, true, true, true, false, false, false, false, false, false, false, false, false, false, false, false, false, false, false, false] rfl (by kernel_rfl) (Qt.fa fo30_2) ?_
      refine WD.takeOn (i := 28) #[true, true, true, true, true, true, true, true, true, true, true, true, true, true, true, true, true, true, true, true, true, true, true, true, true, true, true, true, true, false, false, false, false, false, false, false, false, false, false, false, false, false, false, false] rfl (by kernel_rfl) (Qt.ld sc26) ?_
      refine WD.one (i := 29) #[true, true, true, true, true, true, true, true, true, true, true, true, true, true, true, true, true, true, true, true, true, true, true, true, true, true, true, true, true, true, false, false, false, false, false, false, false, false, false, false, false, false, false, false] rfl (by kernel_rfl) fun hnp => ?_
      refine WL.gT ?_
      refine WL.call (hc := Tryz.call27) (sp := nDrop (F0 := oneM (1, someB N 200)) (F := oneM (1, someB N 200)) (W := 0) (i := 1) ho (oneM_at _) (by decide) (hrw _ _)) (h := ?_)
      rintro _ _ ⟨rfl, rfl⟩
      rw [one_drop]
      refine WL.nil (WQ.wd hnp (.inl Am.auto) ?_)
      refine WD.takeOn (i := 30) #[true, true, true, true, true, true, true, true, true, true, true, true, true, true, true, true, true, true, true, true, true, true, true, true, true, true, true, true, true, true, true, false, false, false, false, false, false, false, false, false, false, false, false, false] rfl (by kernel_rfl) (Qt.nei ) ?_
      refine WD.take (i := 31) #[true, true, true, true, true, true, true, true, true, true, true, true, true, true, true, true, true, true, true, true, true, true, true, true, true, true, true, true, true, true, true, true, false, false, false, false, false, false, false, false, false, false, false, false] rfl (by kernel_rfl) (Qt.pickF ) ?_
      refine WD.take (i := 32) #[true, true, true, true, true, true, true, true, true, true, true, true, true, true, true, true, true, true, true, true, true, true, true, true, true, true, true, true, true, true, true, true, true, false, false, false, false, false, false, false, false, false, false, false] rfl (by kernel_rfl) (Qt.move ) ?_
      refine WD.takeOn (i := 33) #[true, true, true, true, true, true, true, true, true, true, true, true, true, true, true, true, true, true, true, true, true, true, true, true, true, true, true, true, true, true, true, true, true, true, false, false, false, false, false, false, false, false, false, false] rfl (by kernel_rfl) (Qt.fa fo30_0) ?_
      refine WD.takeOn (i := 34) #[true, true, true, true, true, true, true, true, true, true, true, true, true, true, true, true, true, true, true, true, true, true, true, true, true, true, true, true, true, true, true, true, true, true, true, false, false, false, false, false, false, false, false, false] rfl (by kernel_rfl) (Qt.ld sc24) ?_
      refine WD.one (i := 35) #[true, true, true, true, true, true, true, true, true, true, true, true, true, true, true, true, true, true, true, true, true, true, true, true, true, true, true, true, true, true, true, true, true, true, true, true, false, false, false, false, false, false, false, false] rfl (by kernel_rfl) fun hnp => ?_
      refine WL.gT ?_
      refine WL.call (hc := Tryz.call21) (sp := nCommit (s := s) (a := a) (p := pN 280) (F0 := oneM (1, someB N 200)) (F := rootM)) (h := ?_)
      rintro _ _ ⟨rfl, rfl⟩
      refine WL.nil (WQ.wd hnp (.inl Am.auto) ?_)
      refine WD.takeOn (i := 36) #[true, true, true, true, true, true, true, true, true, true, true, true, true, true, true, true, true, true, true, true, true, true, true, true, true, true, true, true, true, true, true, true, true, true, true, true, true, false, false, false, false, false, false, false] rfl (by kernel_rfl) (Qt.nei ) ?_
      refine WD.take (i := 37) #[true, true, true, true, true, true, true, true, true, true, true, true, true, true, true, true, true, true, true, true, true, true, true, true, true, true, true, true, true, true, true, true, true, true, true, true, true, true, false, false, false, false, false, false] rfl (by kernel_rfl) (Qt.pickF ) ?_
      refine WD.take (i := 38) #[true, true, true, true, true, true, true, true, true, true, true, true, true, true, true, true, true, true, true, true, true, true, true, true, true, true, true, true, true, true, true, true, true, true, true, true, true, true, true, false, false, false, false, false] rfl (by kernel_rfl) (Qt.move ) ?_
      refine WD.takeOn (i := 39) #[true, true, true, true, true, true, true, true, true, true, true, true, true, true, true, true, true, true, true, true, true, true, true, true, true, true, true, true, true, true, true, true, true, true, true, true, true, true, true, true, false, false, false, false] rfl (by kernel_rfl) (Qt.fa fo30_0) ?_
      refine WD.takeOn (i := 40) #[true, true, true, true, true, true, true, true, true, true, true, true, true, true, true, true, true, true, true, true, true, true, true, true, true, true, true, true, true, true, true, true, true, true, true, true, true, true, true, true, true, false, false, false] rfl (by kernel_rfl) (Qt.ld sc24) ?_
      refine WD.one (i := 41) #[true, true, true, true, true, true, true, true, true, true, true, true, true, true, true, true, true, true, true, true, true, true, true, true, true, true, true, true, true, true, true, true, true, true, true, true, true, true, true, true, true, true, false, false] rfl (by kernel_rfl) fun hnp => ?_
      refine WL.gT ?_
      refine WL.call (hc := Tryz.call22) (sp := nBegin (s := s) (a := a) (p := pN 280) (F0 := rootM) (F := rootM) (W := 0)) (h := ?_)
      rintro _ _ ⟨rfl, rfl⟩
      refine WL.nil (WQ.wd hnp (.inl Am.auto) ?_)
      refine WD.takeOn (i := 42) #[true, true, true, true, true, true, true, true, true, true, true, true, true, true, true, true, true, true, true, true, true, true, true, true, true, true, true, true, true, true, true, true, true, true, true, true, true, true, true, true, true, true, true, false] rfl (by kernel_rfl) (Qt.nei ) ?_
      refine WD.take (i := 43) #[true, true, true, true, true, true, true, true, true, true, true, true, true, true, true, true, true, true, true, true, true, true, true, true, true, true, true, true, true, true, true, true, true, true, true, true, true, true, true, true, true, true, true, true] rfl (by kernel_rfl) (Qt.pickF ) ?_
      refine WD.done (by kernel_rfl) ?_
      refine WQ.next ?_
      refine WC.condF rfl rfl ?_
      refine WC.skip ?_
      refine WQ.blockNormal ?_
      refine WQ.next ?_
      refine WC.region ?_
      refine WL.move ?_
      refine WL.add ?_
      refine WL.assign ?_
      refine WL.nil ?_
      refine WQ.cast (d := 9) (u := .int .i64 ((k + 1 : Nat) : Int)) rfl (congrArg (Value.int .i64) (by omega)) ?_
      exact WQ.back (k + 1) (by omega) (by omega)
    · refine WC.exit (WQ.thenExit (WQ.thenExit (WQ.blockExit (?_))))
      refine WQ.next ?_
      refine WC.seq ?_
      refine WC.region ?_
      refine WL.fa ?_ fo30_1
      refine WL.ld ?_ sc25
      refine WL.call (hc := Tryz.call25) (sp := nFree (F0 := rootM) (F := rootM) (W := 0) (op := true) ho) (h := ?_)
      rintro _ _ ⟨rfl, rfl⟩
      refine WL.move ?_
      refine WL.extract ?_
      refine WL.extract ?_
      refine WL.assign ?_
      refine WL.assign ?_
      refine WL.nil ?_
      refine WQ.next ?_
      refine WC.seq ?_
      refine WC.region ?_
      refine WL.fa ?_ fo30_2
      refine WL.ld ?_ sc26
      refine WL.call (hc := Tryz.call17) (sp := nMake (F0 := rootM) (F := rootM) (W := 0) (i := 1) (k := 1) ho (.inl rfl) (hrw _ _) (by decide) rfl root_one) (h := ?_)
      rintro _ _ ⟨rfl, rfl⟩
      refine WL.move ?_
      refine WL.extract ?_
      refine WL.extract ?_
      refine WL.assign ?_
      refine WL.assign ?_
      refine WL.nil ?_
      refine WQ.next ?_
      refine WC.seq ?_
      refine WC.seq ?_
      refine WC.region ?_
      refine WL.move ?_
      refine WL.move ?_
      refine WL.nei ?_
      refine WL.cast (d := 113) (u := .bool false) rfl (congrArg Value.bool (by simp)) ?_
      refine WL.move ?_
      refine WL.gT ?_
      refine WL.move ?_
      refine WL.gT ?_
      refine WL.nei ?_
      refine WL.pickF ?_
      refine WL.move ?_
      refine WL.gT ?_
      refine WL.fa ?_ fo30_2
      refine WL.gT ?_
      refine WL.ld ?_ sc26
      refine WL.gT ?_
      refine WL.move ?_
      refine WL.gT ?_
      refine WL.move ?_
      refine WL.gT ?_
      refine WL.call (hc := Tryz.call26) (sp := nTrunc (F0 := rootM) (F := oneM (1, [])) (W := 1) (i := 1) (size := K) (f := (1, [])) ho (oneM_at _) (hrw _ _) (by omega) (by rw [tot_one _ (by decide)]; show 0 + has K ≤ 30 + 0; omega)) (h := ?_)
      rintro _ _ ⟨rfl, rfl⟩
      rw [one_upd]
      refine WL.gT ?_
      refine WL.nei ?_
      refine WL.pickF ?_
      refine WL.nil ?_
      refine WQ.next ?_
      refine WC.condF rfl rfl ?_
      refine WC.skip ?_
      refine WQ.next ?_
      refine WC.seq ?_
      refine WC.region ?_
      refine WL.fa ?_ fo30_2
      refine WL.ld ?_ sc26
      refine WL.move ?_
      refine WL.call (hc := Tryz.call23) (sp := nRead (F0 := rootM) (F := oneM (1, trB [] K)) (i := 1) (at' := 0) (k := 70656) (f := (1, trB [] K)) ho (oneM_at _) (by decide) (by decide)) (h := ?_)
      rintro _ _ ⟨u, rfl, rfl⟩
      have hgot : ((trB [] K).drop 0).take 70656 = List.replicate K 0 := by
        rw [List.drop_zero, List.take_of_length_le (by rw [trB_length]; omega)]
        unfold trB ext
        simp
      simp only [hgot, List.length_replicate]
      refine WL.fact (rowR_shape (el := 5) (size := 1) (v := u) (k := K) (xs := bvs (List.replicate K 0))) (fun ⟨A2, c2, hv2, hR2, hk2, hc2, hl2⟩ => ?_)
      subst hv2
      refine WL.move ?_
      refine WL.extract ?_
      refine WL.extract ?_
      refine WL.assign ?_
      refine WL.assign ?_
      refine WL.nil ?_
      refine WQ.next ?_
      refine WC.seq ?_
      refine WC.region ?_
      refine WL.move ?_
      refine WL.eqi ?_
      refine WL.move ?_
      refine WL.gT ?_
      refine WL.move ?_
      refine WL.gT ?_
      refine WL.move ?_
      refine WL.gT ?_
      refine WL.mkS (k := (K : Int)) z5 (fun b138 => ?_) so33 (by omega) (by omega) (by omega)
      refine WL.cast (d := 138) (u := .slice (some ⟨b138, 0, none⟩) K K) rfl (by rw [Int.toNat_natCast]) ?_
      refine WL.to (A := buf b138 5 (K : Int).toNat (List.replicate (K : Int).toNat (.int .u8 0))) (A' := buf b138 5 K (bvs (List.replicate K 0))) (fun h hh => by rw [bvs_replicate]; rw [Int.toNat_natCast] at hh; exact hh) ?_
      refine WL.gT ?_
      refine WL.call (hc := Tryz.call24) (sp := alikeBytes (R := rowR 5 1 (.slice A2 K c2) K (bvs (List.replicate K 0))) (xs := List.replicate K 0) (ys := List.replicate K 0) (.inr hR2) (.inr Reads.buf) List.length_replicate List.length_replicate (by omega)) (h := ?_)
      rintro _ _ ⟨rfl, rfl⟩
      refine WL.cast (d := 139) (u := .bool true) rfl (congrArg Value.bool (decide_eq_true rfl)) ?_
      refine WL.pickT ?_
      refine WL.move ?_
      refine WL.gT ?_
      refine WL.call (hc := Tryz.call15) (sp := l8Awake) (h := ?_)
      rintro _ _ ⟨rfl, rfl⟩
      refine WL.pickT ?_
      refine WL.assign ?_
      refine WL.nil ?_
      refine WQ.next ?_
      refine WC.ret (?_)
      exact WQ.ret1 (h1 := .tmp (t := 4) rfl) ⟨_, ⟨rfl, rfl⟩, Am.auto⟩

end Go.Proofs.YtedmihapieleaaaGreat
