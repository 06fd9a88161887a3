/- Walks of InodeReads, InodeBytes. -/
import Derived.Test.YtedmihapieleaaaGreatFa
import Derived.Test.YtedmihapieleaaaGreatWad
import Derived.KernelRfl
set_option linter.unusedVariables false
set_option linter.unusedSimpArgs false
namespace Go.Proofs.YtedmihapieleaaaGreat
open Go
theorem fo30_0 : fieldOk Tryz.prog 30 0 0 = true := by kernel_rfl

theorem has_le {n m k : Nat} (hn : n ≤ m) (hm : dat m = k) : has n ≤ k + 1 := by
  rw [has_hs]
  have := dat_mono hn
  unfold hs
  split <;> omega


theorem bs1B (x : Int) : BuildSOk Tryz.prog 33 1 [(0, .int .u8 x)] 5 #[.int .u8 x] := fun w => by kernel_rfl

theorem lawReads {size at' n : Int} (hsz : -9223372036854775808 ≤ size ∧ size ≤ 9223372036854775807) (hat : -9223372036854775808 ≤ at' ∧ at' ≤ 9223372036854775807) (hn : -9223372036854775808 ≤ n ∧ n ≤ 9223372036854775807) : Spec Tryz.prog 4 #[.int .i64 size, .int .i64 at', .int .i64 n] [] fun F v M => v = .bool true ∧ M = F := by
  refine Spec.intro Tryz.func4 rfl rfl fun B F => ?_
  simp only [Tryz.ntmps4, List.cons_append, List.nil_append, env0, Nat.reduceAdd]
  rcases (show size < 0 ∨ (0 ≤ size ∧ 8000 < size) ∨ (0 ≤ size ∧ size ≤ 8000 ∧ at' < 0) ∨ (0 ≤ size ∧ size ≤ 8000 ∧ 0 ≤ at' ∧ n < 0) ∨ (0 ≤ size ∧ size ≤ 8000 ∧ 0 ≤ at' ∧ 0 ≤ n) from by omega) with hc | hc | hc | hc | hc
  · refine WC.seq ?_
    refine WC.region ?_
    refine WL.assign ?_
    refine WL.nil ?_
    refine WQ.next ?_
    refine WC.seq ?_
    refine WC.seq ?_
    refine WC.region ?_
    refine WL.move ?_
    refine WL.lss ?_
    refine WL.move ?_
    refine WL.cast (d := 17) (u := .bool true) rfl (congrArg Value.bool (by first | (simp; done) | (simp; omega) | omega)) ?_
    refine WL.gF ?_
    refine WL.gF ?_
    refine WL.pickT ?_
    refine WL.move ?_
    refine WL.gF ?_
    refine WL.gF ?_
    refine WL.pickT ?_
    refine WL.move ?_
    refine WL.gF ?_
    refine WL.gF ?_
    refine WL.pickT ?_
    refine WL.nil ?_
    refine WQ.next ?_
    refine WC.condT rfl rfl ?_
    refine WC.seq ?_
    refine WC.region ?_
    refine WL.call (hc := Tryz.call15) (sp := l8Awake) (h := ?_)
    rintro _ _ ⟨rfl, rfl⟩
    refine WL.assign ?_
    refine WL.nil ?_
    refine WQ.next ?_
    refine WC.ret (WQ.thenRet (?_))
    exact WQ.ret1 (h1 := .tmp (t := 6) rfl) ⟨_, ⟨rfl, rfl⟩, Am.auto⟩
  · refine WC.seq ?_
    refine WC.region ?_
    refine WL.assign ?_
    refine WL.nil ?_
    refine WQ.next ?_
    refine WC.seq ?_
    refine WC.seq ?_
    refine WC.region ?_
    refine WL.move ?_
    refine WL.lss ?_
    refine WL.move ?_
    refine WL.cast (d := 17) (u := .bool false) rfl (congrArg Value.bool (by first | (simp; done) | (simp; omega) | omega)) ?_
    refine WL.gT ?_
    refine WL.move ?_
    refine WL.gT ?_
    refine WL.gtr ?_
    refine WL.pickF ?_
    refine WL.move ?_
    refine WL.cast (d := 21) (u := .bool true) rfl (congrArg Value.bool (by first | (simp; done) | (simp; omega) | omega)) ?_
    refine WL.gF ?_
    refine WL.gF ?_
    refine WL.pickT ?_
    refine WL.move ?_
    refine WL.gF ?_
    refine WL.gF ?_
    refine WL.pickT ?_
    refine WL.nil ?_
    refine WQ.next ?_
    refine WC.condT rfl rfl ?_
    refine WC.seq ?_
    refine WC.region ?_
    refine WL.call (hc := Tryz.call15) (sp := l8Awake) (h := ?_)
    rintro _ _ ⟨rfl, rfl⟩
    refine WL.assign ?_
    refine WL.nil ?_
    refine WQ.next ?_
    refine WC.ret (WQ.thenRet (?_))
    exact WQ.ret1 (h1 := .tmp (t := 6) rfl) ⟨_, ⟨rfl, rfl⟩, Am.auto⟩
  · refine WC.seq ?_
    refine WC.region ?_
    refine WL.assign ?_
    refine WL.nil ?_
    refine WQ.next ?_
    refine WC.seq ?_
    refine WC.seq ?_
    refine WC.region ?_
    refine WL.move ?_
    refine WL.lss ?_
    refine WL.move ?_
    refine WL.cast (d := 17) (u := .bool false) rfl (congrArg Value.bool (by first | (simp; done) | (simp; omega) | omega)) ?_
    refine WL.gT ?_
    refine WL.move ?_
    refine WL.gT ?_
    refine WL.gtr ?_
    refine WL.pickF ?_
    refine WL.move ?_
    refine WL.cast (d := 21) (u := .bool false) rfl (congrArg Value.bool (by first | (simp; done) | (simp; omega) | omega)) ?_
    refine WL.gT ?_
    refine WL.move ?_
    refine WL.gT ?_
    refine WL.lss ?_
    refine WL.pickF ?_
    refine WL.move ?_
    refine WL.cast (d := 25) (u := .bool true) rfl (congrArg Value.bool (by first | (simp; done) | (simp; omega) | omega)) ?_
    refine WL.gF ?_
    refine WL.gF ?_
    refine WL.pickT ?_
    refine WL.nil ?_
    refine WQ.next ?_
    refine WC.condT rfl rfl ?_
    refine WC.seq ?_
    refine WC.region ?_
    refine WL.call (hc := Tryz.call15) (sp := l8Awake) (h := ?_)
    rintro _ _ ⟨rfl, rfl⟩
    refine WL.assign ?_
    refine WL.nil ?_
    refine WQ.next ?_
    refine WC.ret (WQ.thenRet (?_))
    exact WQ.ret1 (h1 := .tmp (t := 6) rfl) ⟨_, ⟨rfl, rfl⟩, Am.auto⟩
  · refine WC.seq ?_
    refine WC.region ?_
    refine WL.assign ?_
    refine WL.nil ?_
    refine WQ.next ?_
    refine WC.seq ?_
    refine WC.seq ?_
    refine WC.region ?_
    refine WL.move ?_
    refine WL.lss ?_
    refine WL.move ?_
    refine WL.cast (d := 17) (u := .bool false) rfl (congrArg Value.bool (by first | (simp; done) | (simp; omega) | omega)) ?_
    refine WL.gT ?_
    refine WL.move ?_
    refine WL.gT ?_
    refine WL.gtr ?_
    refine WL.pickF ?_
    refine WL.move ?_
    refine WL.cast (d := 21) (u := .bool false) rfl (congrArg Value.bool (by first | (simp; done) | (simp; omega) | omega)) ?_
    refine WL.gT ?_
    refine WL.move ?_
    refine WL.gT ?_
    refine WL.lss ?_
    refine WL.pickF ?_
    refine WL.move ?_
    refine WL.cast (d := 25) (u := .bool false) rfl (congrArg Value.bool (by first | (simp; done) | (simp; omega) | omega)) ?_
    refine WL.gT ?_
    refine WL.move ?_
    refine WL.gT ?_
    refine WL.lss ?_
    refine WL.pickF ?_
    refine WL.nil ?_
    refine WQ.next ?_
    refine WC.condT rfl (congrArg Value.bool (by first | (simp; done) | (simp; omega) | omega)) ?_
    refine WC.seq ?_
    refine WC.region ?_
    refine WL.call (hc := Tryz.call15) (sp := l8Awake) (h := ?_)
    rintro _ _ ⟨rfl, rfl⟩
    refine WL.assign ?_
    refine WL.nil ?_
    refine WQ.next ?_
    refine WC.ret (WQ.thenRet (?_))
    exact WQ.ret1 (h1 := .tmp (t := 6) rfl) ⟨_, ⟨rfl, rfl⟩, Am.auto⟩
  · obtain ⟨N, rfl⟩ : ∃ N : Nat, size = (N : Int) := ⟨size.toNat, by omega⟩
    obtain ⟨T, rfl⟩ : ∃ T : Nat, at' = (T : Int) := ⟨at'.toNat, by omega⟩
    obtain ⟨K, rfl⟩ : ∃ K : Nat, n = (K : Int) := ⟨n.toNat, by omega⟩
    have hpn : PlIs (pN 400) := pN_is (by decide) (by decide)
    have ho : PlOk (pN 400) := hpn.ok
    have hdc : (pN 400).dc = 150 := rfl
    have hin : (pN 400).ino = 16 := rfl
    have hr0 : tot rootM (pN 400).ino = 0 := tot_root _
    have hrw : ∀ W k, W + k ≤ 57 → Rw (pN 400) W k := fun W k h => .inr (by have : (pN 400).tb = 248 := rfl; omega)
    have hN : N ≤ 8000 := by omega
    have hhN : has N ≤ 17 := has_le hN rfl
    have hgl : (((someB N 5).drop T).take K).length ≤ N := by rw [List.length_take, List.length_drop, someB_length]; omega
    rcases (show N ≤ T ∨ (T < N ∧ K < N - T) ∨ (T < N ∧ ¬ K < N - T) from by omega) with hd | hd | hd
    · have hg0 : ((someB N 5).drop T).take K = [] := by rw [List.drop_eq_nil_of_le (by rw [someB_length]; omega), List.take_nil]
      refine WC.seq ?_
      refine WC.region ?_
      refine WL.assign ?_
      refine WL.nil ?_
      refine WQ.next ?_
      refine WC.seq ?_
      refine WC.seq ?_
      refine WC.region ?_
      refine WL.move ?_
      refine WL.lss ?_
      refine WL.move ?_
      refine WL.cast (d := 17) (u := .bool false) rfl (congrArg Value.bool (by first | (simp; done) | (simp; omega) | omega)) ?_
      refine WL.gT ?_
      refine WL.move ?_
      refine WL.gT ?_
      refine WL.gtr ?_
      refine WL.pickF ?_
      refine WL.move ?_
      refine WL.cast (d := 21) (u := .bool false) rfl (congrArg Value.bool (by first | (simp; done) | (simp; omega) | omega)) ?_
      refine WL.gT ?_
      refine WL.move ?_
      refine WL.gT ?_
      refine WL.lss ?_
      refine WL.pickF ?_
      refine WL.move ?_
      refine WL.cast (d := 25) (u := .bool false) rfl (congrArg Value.bool (by first | (simp; done) | (simp; omega) | omega)) ?_
      refine WL.gT ?_
      refine WL.move ?_
      refine WL.gT ?_
      refine WL.lss ?_
      refine WL.pickF ?_
      refine WL.nil ?_
      refine WQ.next ?_
      refine WC.condF rfl (congrArg Value.bool (by first | (simp; done) | (simp; omega) | omega)) ?_
      refine WC.skip ?_
      refine WQ.next ?_
      refine WC.seq ?_
      refine WC.region ?_
      refine WL.call (hc := Tryz.call16) (sp := l8Fresh (pN_is (n := 400) (by decide) (by decide))) (h := ?_)
      rintro _ _ ⟨c, a, s, rfl, rfl⟩
      refine WL.move ?_
      refine WL.extract ?_
      refine WL.extract ?_
      refine WL.alloc z30 fun b7 => ?_
      refine WL.stV ?_ agg30
      refine WL.assign ?_
      refine WL.nil ?_
      refine WQ.next ?_
      refine WC.seq ?_
      refine WC.seq ?_
      refine WC.region ?_
      refine WL.move ?_
      refine WL.not ?_
      refine WL.nil ?_
      refine WQ.next ?_
      refine WC.condF rfl rfl ?_
      refine WC.skip ?_
      refine WQ.next ?_
      refine WC.seq ?_
      refine WC.region ?_
      refine WL.fa ?_ fo30_2
      refine WL.ld ?_ sc26
      refine WL.call (hc := Tryz.call17) (sp := nMake (F0 := rootM) (F := rootM) (W := 0) (i := 1) (k := 1) ho (.inl rfl) (hrw _ _ (by omega)) (by decide) rfl root_one) (h := ?_)
      rintro _ _ ⟨rfl, rfl⟩
      refine WL.move ?_
      refine WL.extract ?_
      refine WL.extract ?_
      refine WL.assign ?_
      refine WL.assign ?_
      refine WL.nil ?_
      refine WQ.next ?_
      refine WC.seq ?_
      refine WC.region ?_
      refine WL.move ?_
      refine WL.call (hc := Tryz.call19) (sp := alikeSome (n := N) (c := 5) (by omega) (by decide)) (h := ?_)
      rintro _ _ ⟨bs, rfl, rfl⟩
      refine WL.assign ?_
      refine WL.nil ?_
      refine WQ.next ?_
      refine WC.seq ?_
      refine WC.seq ?_
      refine WC.region ?_
      refine WL.move ?_
      refine WL.nei ?_
      refine WL.move ?_
      refine WL.gT ?_
      refine WL.fa ?_ fo30_2
      refine WL.gT ?_
      refine WL.ld ?_ sc26
      refine WL.gT ?_
      refine WL.move ?_
      refine WL.gT ?_
      refine WL.move ?_
      refine WL.gT ?_
      refine WL.call (hc := Tryz.call20) (sp := nWrite (F0 := rootM) (F := oneM (1, [])) (W := 1) (i := 1) (at' := 0) (f := (1, [])) (bs := someB N 5) ho (oneM_at _) (hrw _ _ (by show 1 + (has (max 0 (0 + N)) - has 0 + (N + 511) / 512 + 10) ≤ 57; rw [show max 0 (0 + N) = N from by omega]; omega)) (.inr Reads.buf) (someB_length _ _) (Nat.le_refl _) (by show N ≤ maxLen; unfold maxLen; omega) (Nat.zero_le _) (by omega) (by rw [tot_one _ (by decide)]; show 0 + has (max 0 (0 + N)) ≤ 150 + 0; rw [show max 0 (0 + N) = N from by omega]; omega)) (h := ?_)
      rintro _ _ ⟨rfl, rfl⟩
      rw [wrB_nil, one_upd]
      refine WL.gT ?_
      refine WL.nei ?_
      refine WL.pickF ?_
      refine WL.nil ?_
      refine WQ.next ?_
      refine WC.condF rfl rfl ?_
      refine WC.skip ?_
      refine WQ.next ?_
      refine WC.seq ?_
      refine WC.region ?_
      refine WL.fa ?_ fo30_2
      refine WL.ld ?_ sc26
      refine WL.move ?_
      refine WL.move ?_
      refine WL.move ?_
      refine WL.call (hc := Tryz.call23) (sp := nRead (F0 := rootM) (F := oneM (1, someB N 5)) (i := 1) (at' := T) (k := K) (f := (1, someB N 5)) ho (oneM_at _) (by omega) (by omega)) (h := ?_)
      rintro _ _ ⟨u, rfl, rfl⟩
      refine WL.fact (rowR_shape (el := 5) (size := 1) (v := u) (k := (((someB N 5).drop T).take K).length) (xs := bvs (((someB N 5).drop T).take K))) (fun ⟨A2, c2, hv2, hR2, hk2, hc2, hl2⟩ => ?_)
      subst hv2
      have hrb : Reads (buf bs 5 N (bvs (someB N 5))) (some ⟨bs, T, none⟩) (bvs (((someB N 5).drop T).take K)) := by
        have := (Reads.buf (g := bs) (e := 5) (k := N) (xs := bvs (someB N 5))).drop T
        rw [Nat.zero_add] at this
        rw [bvs_take, bvs_drop]
        exact this.take K
      refine WL.move ?_
      refine WL.extract ?_
      refine WL.extract ?_
      refine WL.assign ?_
      refine WL.assign ?_
      refine WL.nil ?_
      refine WQ.next ?_
      refine WC.seq ?_
      refine WC.region ?_
      refine WL.assign ?_
      refine WL.nil ?_
      refine WQ.next ?_
      refine WC.seq ?_
      refine WC.seq ?_
      refine WC.region ?_
      refine WL.move ?_
      refine WL.move ?_
      refine WL.lss ?_
      refine WL.nil ?_
      refine WQ.next ?_
      refine WC.condF rfl (congrArg Value.bool (by first | (simp; done) | (simp; omega) | omega)) ?_
      refine WC.skip ?_
      refine WQ.next ?_
      refine WC.seq ?_
      refine WC.region ?_
      refine WL.move ?_
      refine WL.eqi ?_
      refine WL.move ?_
      refine WL.gT ?_
      refine WL.move ?_
      refine WL.gT ?_
      refine WL.move ?_
      refine WL.gT ?_
      refine WL.call (hc := Tryz.call24) (sp := alikeBytes (R := rowR 5 1 (.slice A2 (((someB N 5).drop T).take K).length c2) (((someB N 5).drop T).take K).length (bvs (((someB N 5).drop T).take K))) (R' := buf bs 5 N (bvs (someB N 5))) (xs := ((someB N 5).drop T).take K) (ys := ((someB N 5).drop T).take K) (.inr hR2) (.inl hg0) rfl (by rw [hg0]; rfl) (by omega)) (h := ?_)
      rintro _ _ ⟨rfl, rfl⟩
      refine WL.cast (d := 81) (u := .bool true) rfl (congrArg Value.bool (decide_eq_true rfl)) ?_
      refine WL.pickT ?_
      refine WL.move ?_
      refine WL.gT ?_
      refine WL.call (hc := Tryz.call15) (sp := l8Awake) (h := ?_)
      rintro _ _ ⟨rfl, rfl⟩
      refine WL.pickT ?_
      refine WL.assign ?_
      refine WL.nil ?_
      refine WQ.next ?_
      refine WC.ret (?_)
      exact WQ.ret1 (h1 := .tmp (t := 6) rfl) ⟨_, ⟨rfl, rfl⟩, Am.auto⟩
    · have hgK : (((someB N 5).drop T).take K).length = K := by rw [List.length_take, List.length_drop, someB_length]; omega
      refine WC.seq ?_
      refine WC.region ?_
      refine WL.assign ?_
      refine WL.nil ?_
      refine WQ.next ?_
      refine WC.seq ?_
      refine WC.seq ?_
      refine WC.region ?_
      refine WL.move ?_
      refine WL.lss ?_
      refine WL.move ?_
      refine WL.cast (d := 17) (u := .bool false) rfl (congrArg Value.bool (by first | (simp; done) | (simp; omega) | omega)) ?_
      refine WL.gT ?_
      refine WL.move ?_
      refine WL.gT ?_
      refine WL.gtr ?_
      refine WL.pickF ?_
      refine WL.move ?_
      refine WL.cast (d := 21) (u := .bool false) rfl (congrArg Value.bool (by first | (simp; done) | (simp; omega) | omega)) ?_
      refine WL.gT ?_
      refine WL.move ?_
      refine WL.gT ?_
      refine WL.lss ?_
      refine WL.pickF ?_
      refine WL.move ?_
      refine WL.cast (d := 25) (u := .bool false) rfl (congrArg Value.bool (by first | (simp; done) | (simp; omega) | omega)) ?_
      refine WL.gT ?_
      refine WL.move ?_
      refine WL.gT ?_
      refine WL.lss ?_
      refine WL.pickF ?_
      refine WL.nil ?_
      refine WQ.next ?_
      refine WC.condF rfl (congrArg Value.bool (by first | (simp; done) | (simp; omega) | omega)) ?_
      refine WC.skip ?_
      refine WQ.next ?_
      refine WC.seq ?_
      refine WC.region ?_
      refine WL.call (hc := Tryz.call16) (sp := l8Fresh (pN_is (n := 400) (by decide) (by decide))) (h := ?_)
      rintro _ _ ⟨c, a, s, rfl, rfl⟩
      refine WL.move ?_
      refine WL.extract ?_
      refine WL.extract ?_
      refine WL.alloc z30 fun b7 => ?_
      refine WL.stV ?_ agg30
      refine WL.assign ?_
      refine WL.nil ?_
      refine WQ.next ?_
      refine WC.seq ?_
      refine WC.seq ?_
      refine WC.region ?_
      refine WL.move ?_
      refine WL.not ?_
      refine WL.nil ?_
      refine WQ.next ?_
      refine WC.condF rfl rfl ?_
      refine WC.skip ?_
      refine WQ.next ?_
      refine WC.seq ?_
      refine WC.region ?_
      refine WL.fa ?_ fo30_2
      refine WL.ld ?_ sc26
      refine WL.call (hc := Tryz.call17) (sp := nMake (F0 := rootM) (F := rootM) (W := 0) (i := 1) (k := 1) ho (.inl rfl) (hrw _ _ (by omega)) (by decide) rfl root_one) (h := ?_)
      rintro _ _ ⟨rfl, rfl⟩
      refine WL.move ?_
      refine WL.extract ?_
      refine WL.extract ?_
      refine WL.assign ?_
      refine WL.assign ?_
      refine WL.nil ?_
      refine WQ.next ?_
      refine WC.seq ?_
      refine WC.region ?_
      refine WL.move ?_
      refine WL.call (hc := Tryz.call19) (sp := alikeSome (n := N) (c := 5) (by omega) (by decide)) (h := ?_)
      rintro _ _ ⟨bs, rfl, rfl⟩
      refine WL.assign ?_
      refine WL.nil ?_
      refine WQ.next ?_
      refine WC.seq ?_
      refine WC.seq ?_
      refine WC.region ?_
      refine WL.move ?_
      refine WL.nei ?_
      refine WL.move ?_
      refine WL.gT ?_
      refine WL.fa ?_ fo30_2
      refine WL.gT ?_
      refine WL.ld ?_ sc26
      refine WL.gT ?_
      refine WL.move ?_
      refine WL.gT ?_
      refine WL.move ?_
      refine WL.gT ?_
      refine WL.call (hc := Tryz.call20) (sp := nWrite (F0 := rootM) (F := oneM (1, [])) (W := 1) (i := 1) (at' := 0) (f := (1, [])) (bs := someB N 5) ho (oneM_at _) (hrw _ _ (by show 1 + (has (max 0 (0 + N)) - has 0 + (N + 511) / 512 + 10) ≤ 57; rw [show max 0 (0 + N) = N from by omega]; omega)) (.inr Reads.buf) (someB_length _ _) (Nat.le_refl _) (by show N ≤ maxLen; unfold maxLen; omega) (Nat.zero_le _) (by omega) (by rw [tot_one _ (by decide)]; show 0 + has (max 0 (0 + N)) ≤ 150 + 0; rw [show max 0 (0 + N) = N from by omega]; omega)) (h := ?_)
      rintro _ _ ⟨rfl, rfl⟩
      rw [wrB_nil, one_upd]
      refine WL.gT ?_
      refine WL.nei ?_
      refine WL.pickF ?_
      refine WL.nil ?_
      refine WQ.next ?_
      refine WC.condF rfl rfl ?_
      refine WC.skip ?_
      refine WQ.next ?_
      refine WC.seq ?_
      refine WC.region ?_
      refine WL.fa ?_ fo30_2
      refine WL.ld ?_ sc26
      refine WL.move ?_
      refine WL.move ?_
      refine WL.move ?_
      refine WL.call (hc := Tryz.call23) (sp := nRead (F0 := rootM) (F := oneM (1, someB N 5)) (i := 1) (at' := T) (k := K) (f := (1, someB N 5)) ho (oneM_at _) (by omega) (by omega)) (h := ?_)
      rintro _ _ ⟨u, rfl, rfl⟩
      refine WL.fact (rowR_shape (el := 5) (size := 1) (v := u) (k := (((someB N 5).drop T).take K).length) (xs := bvs (((someB N 5).drop T).take K))) (fun ⟨A2, c2, hv2, hR2, hk2, hc2, hl2⟩ => ?_)
      subst hv2
      have hrb : Reads (buf bs 5 N (bvs (someB N 5))) (some ⟨bs, T, none⟩) (bvs (((someB N 5).drop T).take K)) := by
        have := (Reads.buf (g := bs) (e := 5) (k := N) (xs := bvs (someB N 5))).drop T
        rw [Nat.zero_add] at this
        rw [bvs_take, bvs_drop]
        exact this.take K
      refine WL.move ?_
      refine WL.extract ?_
      refine WL.extract ?_
      refine WL.assign ?_
      refine WL.assign ?_
      refine WL.nil ?_
      refine WQ.next ?_
      refine WC.seq ?_
      refine WC.region ?_
      refine WL.assign ?_
      refine WL.nil ?_
      refine WQ.next ?_
      refine WC.seq ?_
      refine WC.seq ?_
      refine WC.region ?_
      refine WL.move ?_
      refine WL.move ?_
      refine WL.lss ?_
      refine WL.nil ?_
      refine WQ.next ?_
      refine WC.condT rfl (congrArg Value.bool (by first | (simp; done) | (simp; omega) | omega)) ?_
      refine WC.seq ?_
      refine WC.region ?_
      refine WL.move ?_
      refine WL.move ?_
      refine WL.slcL ?_ so33
      refine WL.cast (d := 68) (u := .slice (some ⟨bs, T, none⟩) (N - T) (N - T)) rfl (by rw [Int.toNat_natCast, if_neg (by omega), Nat.zero_add, Nat.mul_one]) ?_
      refine WL.assign ?_
      refine WL.nil ?_
      refine WQ.next ?_
      refine WC.seq ?_
      refine WC.region ?_
      refine WL.move ?_
      refine WL.move ?_
      refine WL.lenS ?_ sl33
      refine WL.lss ?_
      refine WL.nil ?_
      refine WQ.next ?_
      refine WC.condT rfl (congrArg Value.bool (by first | (simp; done) | (simp; omega) | omega)) ?_
      refine WC.region ?_
      refine WL.move ?_
      refine WL.move ?_
      refine WL.slcH ?_ so33
      refine WL.cast (d := 75) (u := .slice (some ⟨bs, T, none⟩) K (N - T)) rfl (by rw [Int.toNat_natCast]) ?_
      refine WL.assign ?_
      refine WL.nil ?_
      refine WQ.next ?_
      refine WC.seq ?_
      refine WC.region ?_
      refine WL.move ?_
      refine WL.eqi ?_
      refine WL.move ?_
      refine WL.gT ?_
      refine WL.move ?_
      refine WL.gT ?_
      refine WL.move ?_
      refine WL.gT ?_
      refine WL.call (hc := Tryz.call24) (sp := alikeBytes (R := rowR 5 1 (.slice A2 (((someB N 5).drop T).take K).length c2) (((someB N 5).drop T).take K).length (bvs (((someB N 5).drop T).take K))) (R' := buf bs 5 N (bvs (someB N 5))) (xs := ((someB N 5).drop T).take K) (ys := ((someB N 5).drop T).take K) (.inr hR2) (.inr hrb) rfl hgK (by omega)) (h := ?_)
      rintro _ _ ⟨rfl, rfl⟩
      refine WL.cast (d := 81) (u := .bool true) rfl (congrArg Value.bool (decide_eq_true rfl)) ?_
      refine WL.pickT ?_
      refine WL.move ?_
      refine WL.gT ?_
      refine WL.call (hc := Tryz.call15) (sp := l8Awake) (h := ?_)
      rintro _ _ ⟨rfl, rfl⟩
      refine WL.pickT ?_
      refine WL.assign ?_
      refine WL.nil ?_
      refine WQ.next ?_
      refine WC.ret (?_)
      exact WQ.ret1 (h1 := .tmp (t := 6) rfl) ⟨_, ⟨rfl, rfl⟩, Am.auto⟩
    · have hgK : (((someB N 5).drop T).take K).length = N - T := by rw [List.length_take, List.length_drop, someB_length]; omega
      refine WC.seq ?_
      refine WC.region ?_
      refine WL.assign ?_
      refine WL.nil ?_
      refine WQ.next ?_
      refine WC.seq ?_
      refine WC.seq ?_
      refine WC.region ?_
      refine WL.move ?_
      refine WL.lss ?_
      refine WL.move ?_
      refine WL.cast (d := 17) (u := .bool false) rfl (congrArg Value.bool (by first | (simp; done) | (simp; omega) | omega)) ?_
      refine WL.gT ?_
      refine WL.move ?_
      refine WL.gT ?_
      refine WL.gtr ?_
      refine WL.pickF ?_
      refine WL.move ?_
      refine WL.cast (d := 21) (u := .bool false) rfl (congrArg Value.bool (by first | (simp; done) | (simp; omega) | omega)) ?_
      refine WL.gT ?_
      refine WL.move ?_
      refine WL.gT ?_
      refine WL.lss ?_
      refine WL.pickF ?_
      refine WL.move ?_
      refine WL.cast (d := 25) (u := .bool false) rfl (congrArg Value.bool (by first | (simp; done) | (simp; omega) | omega)) ?_
      refine WL.gT ?_
      refine WL.move ?_
      refine WL.gT ?_
      refine WL.lss ?_
      refine WL.pickF ?_
      refine WL.nil ?_
      refine WQ.next ?_
      refine WC.condF rfl (congrArg Value.bool (by first | (simp; done) | (simp; omega) | omega)) ?_
      refine WC.skip ?_
      refine WQ.next ?_
      refine WC.seq ?_
      refine WC.region ?_
      refine WL.call (hc := Tryz.call16) (sp := l8Fresh (pN_is (n := 400) (by decide) (by decide))) (h := ?_)
      rintro _ _ ⟨c, a, s, rfl, rfl⟩
      refine WL.move ?_
      refine WL.extract ?_
      refine WL.extract ?_
      refine WL.alloc z30 fun b7 => ?_
      refine WL.stV ?_ agg30
      refine WL.assign ?_
      refine WL.nil ?_
      refine WQ.next ?_
      refine WC.seq ?_
      refine WC.seq ?_
      refine WC.region ?_
      refine WL.move ?_
      refine WL.not ?_
      refine WL.nil ?_
      refine WQ.next ?_
      refine WC.condF rfl rfl ?_
      refine WC.skip ?_
      refine WQ.next ?_
      refine WC.seq ?_
      refine WC.region ?_
      refine WL.fa ?_ fo30_2
      refine WL.ld ?_ sc26
      refine WL.call (hc := Tryz.call17) (sp := nMake (F0 := rootM) (F := rootM) (W := 0) (i := 1) (k := 1) ho (.inl rfl) (hrw _ _ (by omega)) (by decide) rfl root_one) (h := ?_)
      rintro _ _ ⟨rfl, rfl⟩
      refine WL.move ?_
      refine WL.extract ?_
      refine WL.extract ?_
      refine WL.assign ?_
      refine WL.assign ?_
      refine WL.nil ?_
      refine WQ.next ?_
      refine WC.seq ?_
      refine WC.region ?_
      refine WL.move ?_
      refine WL.call (hc := Tryz.call19) (sp := alikeSome (n := N) (c := 5) (by omega) (by decide)) (h := ?_)
      rintro _ _ ⟨bs, rfl, rfl⟩
      refine WL.assign ?_
      refine WL.nil ?_
      refine WQ.next ?_
      refine WC.seq ?_
      refine WC.seq ?_
      refine WC.region ?_
      refine WL.move ?_
      refine WL.nei ?_
      refine WL.move ?_
      refine WL.gT ?_
      refine WL.fa ?_ fo30_2
      refine WL.gT ?_
      refine WL.ld ?_ sc26
      refine WL.gT ?_
      refine WL.move ?_
      refine WL.gT ?_
      refine WL.move ?_
      refine WL.gT ?_
      refine WL.call (hc := Tryz.call20) (sp := nWrite (F0 := rootM) (F := oneM (1, [])) (W := 1) (i := 1) (at' := 0) (f := (1, [])) (bs := someB N 5) ho (oneM_at _) (hrw _ _ (by show 1 + (has (max 0 (0 + N)) - has 0 + (N + 511) / 512 + 10) ≤ 57; rw [show max 0 (0 + N) = N from by omega]; omega)) (.inr Reads.buf) (someB_length _ _) (Nat.le_refl _) (by show N ≤ maxLen; unfold maxLen; omega) (Nat.zero_le _) (by omega) (by rw [tot_one _ (by decide)]; show 0 + has (max 0 (0 + N)) ≤ 150 + 0; rw [show max 0 (0 + N) = N from by omega]; omega)) (h := ?_)
      rintro _ _ ⟨rfl, rfl⟩
      rw [wrB_nil, one_upd]
      refine WL.gT ?_
      refine WL.nei ?_
      refine WL.pickF ?_
      refine WL.nil ?_
      refine WQ.next ?_
      refine WC.condF rfl rfl ?_
      refine WC.skip ?_
      refine WQ.next ?_
      refine WC.seq ?_
      refine WC.region ?_
      refine WL.fa ?_ fo30_2
      refine WL.ld ?_ sc26
      refine WL.move ?_
      refine WL.move ?_
      refine WL.move ?_
      refine WL.call (hc := Tryz.call23) (sp := nRead (F0 := rootM) (F := oneM (1, someB N 5)) (i := 1) (at' := T) (k := K) (f := (1, someB N 5)) ho (oneM_at _) (by omega) (by omega)) (h := ?_)
      rintro _ _ ⟨u, rfl, rfl⟩
      refine WL.fact (rowR_shape (el := 5) (size := 1) (v := u) (k := (((someB N 5).drop T).take K).length) (xs := bvs (((someB N 5).drop T).take K))) (fun ⟨A2, c2, hv2, hR2, hk2, hc2, hl2⟩ => ?_)
      subst hv2
      have hrb : Reads (buf bs 5 N (bvs (someB N 5))) (some ⟨bs, T, none⟩) (bvs (((someB N 5).drop T).take K)) := by
        have := (Reads.buf (g := bs) (e := 5) (k := N) (xs := bvs (someB N 5))).drop T
        rw [Nat.zero_add] at this
        rw [bvs_take, bvs_drop]
        exact this.take K
      refine WL.move ?_
      refine WL.extract ?_
      refine WL.extract ?_
      refine WL.assign ?_
      refine WL.assign ?_
      refine WL.nil ?_
      refine WQ.next ?_
      refine WC.seq ?_
      refine WC.region ?_
      refine WL.assign ?_
      refine WL.nil ?_
      refine WQ.next ?_
      refine WC.seq ?_
      refine WC.seq ?_
      refine WC.region ?_
      refine WL.move ?_
      refine WL.move ?_
      refine WL.lss ?_
      refine WL.nil ?_
      refine WQ.next ?_
      refine WC.condT rfl (congrArg Value.bool (by first | (simp; done) | (simp; omega) | omega)) ?_
      refine WC.seq ?_
      refine WC.region ?_
      refine WL.move ?_
      refine WL.move ?_
      refine WL.slcL ?_ so33
      refine WL.cast (d := 68) (u := .slice (some ⟨bs, T, none⟩) (N - T) (N - T)) rfl (by rw [Int.toNat_natCast, if_neg (by omega), Nat.zero_add, Nat.mul_one]) ?_
      refine WL.assign ?_
      refine WL.nil ?_
      refine WQ.next ?_
      refine WC.seq ?_
      refine WC.region ?_
      refine WL.move ?_
      refine WL.move ?_
      refine WL.lenS ?_ sl33
      refine WL.lss ?_
      refine WL.nil ?_
      refine WQ.next ?_
      refine WC.condF rfl (congrArg Value.bool (by first | (simp; done) | (simp; omega) | omega)) ?_
      refine WC.skip ?_
      refine WQ.next ?_
      refine WC.seq ?_
      refine WC.region ?_
      refine WL.move ?_
      refine WL.eqi ?_
      refine WL.move ?_
      refine WL.gT ?_
      refine WL.move ?_
      refine WL.gT ?_
      refine WL.move ?_
      refine WL.gT ?_
      refine WL.call (hc := Tryz.call24) (sp := alikeBytes (R := rowR 5 1 (.slice A2 (((someB N 5).drop T).take K).length c2) (((someB N 5).drop T).take K).length (bvs (((someB N 5).drop T).take K))) (R' := buf bs 5 N (bvs (someB N 5))) (xs := ((someB N 5).drop T).take K) (ys := ((someB N 5).drop T).take K) (.inr hR2) (.inr hrb) rfl hgK (by omega)) (h := ?_)
      rintro _ _ ⟨rfl, rfl⟩
      refine WL.cast (d := 81) (u := .bool true) rfl (congrArg Value.bool (decide_eq_true rfl)) ?_
      refine WL.pickT ?_
      refine WL.move ?_
      refine WL.gT ?_
      refine WL.call (hc := Tryz.call15) (sp := l8Awake) (h := ?_)
      rintro _ _ ⟨rfl, rfl⟩
      refine WL.pickT ?_
      refine WL.assign ?_
      refine WL.nil ?_
      refine WQ.next ?_
      refine WC.ret (?_)
      exact WQ.ret1 (h1 := .tmp (t := 6) rfl) ⟨_, ⟨rfl, rfl⟩, Am.auto⟩


theorem splice_step {base src : Bytes} {off k : Nat} (h1 : off + (k + 1) ≤ base.length) (h2 : k < src.length) : (splice base off (src.take k)).set (off + k) (src.getD k 0) = splice base off (src.take (k + 1)) := by
  have hl1 : (src.take k).length = k := by rw [List.length_take]; omega
  have hl2 : (src.take (k + 1)).length = k + 1 := by rw [List.length_take]; omega
  have e1 := splice_length (xs := base) (ys := src.take k) (off := off) (by omega)
  have e2 := splice_length (xs := base) (ys := src.take (k + 1)) (off := off) (by omega)
  apply List.ext_getElem (by rw [List.length_set]; omega)
  intro j h3 h4
  have g1 : ∀ (l : Bytes) (h : j < l.length), l[j] = l.getD j 0 := fun l h => by rw [List.getD_eq_getElem?_getD, List.getElem?_eq_getElem h]; rfl
  rw [g1 _ h3, g1 _ h4, splice_getD (by omega), hl2]
  rw [List.getD_eq_getElem?_getD, List.getElem?_set]
  by_cases hj : off + k = j
  · subst hj
    rw [if_pos rfl, if_pos (by omega), if_pos ⟨by omega, by omega⟩, show off + k - off = k from by omega]
    simp only [Option.getD_some]
    rw [List.getD_eq_getElem?_getD, List.getD_eq_getElem?_getD, List.getElem?_take, if_pos (by omega)]
  · rw [if_neg hj, ← List.getD_eq_getElem?_getD, splice_getD (by omega), hl1]
    by_cases hk : off ≤ j ∧ j < off + k
    · rw [if_pos hk, if_pos ⟨by omega, by omega⟩]
      rw [List.getD_eq_getElem?_getD, List.getD_eq_getElem?_getD, List.getElem?_take, List.getElem?_take, if_pos (by omega), if_pos (by omega)]
    · rw [if_neg hk, if_neg (by omega)]
theorem splice_nil (base : Bytes) (off : Nat) : splice base off [] = base := by
  unfold splice
  simp
theorem splice_take_all {base src : Bytes} {off k : Nat} (h : src.length = k) : splice base off (src.take k) = splice base off src := by rw [List.take_of_length_le (by omega)]
theorem wrB_made (a b : Bytes) (at' : Nat) : splice (splice (List.replicate (max a.length (at' + b.length)) 0) 0 a) at' b = wrB a at' b := by
  unfold wrB
  congr 1
  unfold splice ext
  rw [List.take_zero, List.nil_append, List.drop_replicate]
  congr 2
  omega
theorem trB_cut {old : Bytes} {n : Nat} (h : n ≤ old.length) : trB old n = old.take n := by
  unfold trB
  rw [ext_self (by rw [List.length_take]; omega)]
theorem trB_grow {old : Bytes} {n : Nat} (h : old.length ≤ n) : trB old (n + 1) = trB old n ++ [0] := by
  unfold trB ext
  rw [List.take_of_length_le (by omega), List.take_of_length_le h, List.append_assoc, show n + 1 - old.length = (n - old.length) + 1 from by omega, List.replicate_succ']
theorem trB_same (old : Bytes) : trB old old.length = old := by
  rw [trB_cut (Nat.le_refl _), List.take_of_length_le (Nat.le_refl _)]
theorem buf_prefix {b el k : Nat} {xs : List Value} (m : Nat) : ∀ h, buf b el k xs h → buf b el k (xs.take m) h := by
  intro h hh
  unfold buf at hh ⊢
  obtain ⟨cur, h1, h2, h3, h4⟩ := hh
  refine ⟨cur, h1, h2, ?_, by rw [List.length_take]; omega⟩
  rw [← h3, List.take_take, List.length_take]
  congr 1
  have hl : cur.toList.length = k := by simpa using h2
  omega

theorem lawBytes {size at' n to : Int} (hsz : -9223372036854775808 ≤ size ∧ size ≤ 9223372036854775807) (hat : -9223372036854775808 ≤ at' ∧ at' ≤ 9223372036854775807) (hn : -9223372036854775808 ≤ n ∧ n ≤ 9223372036854775807) (hto : -9223372036854775808 ≤ to ∧ to ≤ 9223372036854775807) : Spec Tryz.prog 6 #[.int .i64 size, .int .i64 at', .int .i64 n, .int .i64 to] [] fun F v M => v = .bool true ∧ M = F := by
  refine Spec.intro Tryz.func6 rfl rfl fun B F => ?_
  simp only [Tryz.ntmps6, List.cons_append, List.nil_append, env0, Nat.reduceAdd]
  by_cases hc0 : size < 0
  · refine WC.seq ?_
    refine WC.region ?_
    refine WL.assign ?_
    refine WL.nil ?_
    refine WQ.next ?_
    refine WC.seq ?_
    refine WC.seq ?_
    refine WC.region ?_
    refine WL.move ?_
    refine WL.lss ?_
    refine WL.move ?_
    refine WL.cast (d := 22) (u := .bool true) rfl (congrArg Value.bool (by first | (simp; done) | (simp; omega) | omega)) ?_
    refine WL.gF ?_
    refine WL.gF ?_
    refine WL.pickT ?_
    refine WL.move ?_
    refine WL.gF ?_
    refine WL.gF ?_
    refine WL.pickT ?_
    refine WL.move ?_
    refine WL.gF ?_
    refine WL.gF ?_
    refine WL.gF ?_
    refine WL.pickT ?_
    refine WL.move ?_
    refine WL.gF ?_
    refine WL.gF ?_
    refine WL.pickT ?_
    refine WL.move ?_
    refine WL.gF ?_
    refine WL.gF ?_
    refine WL.pickT ?_
    refine WL.move ?_
    refine WL.gF ?_
    refine WL.gF ?_
    refine WL.pickT ?_
    refine WL.move ?_
    refine WL.gF ?_
    refine WL.gF ?_
    refine WL.pickT ?_
    refine WL.nil ?_
    refine WQ.next ?_
    refine WC.condT rfl rfl ?_
    refine WC.seq ?_
    refine WC.region ?_
    refine WL.call (hc := Tryz.call15) (sp := l8Awake) (h := ?_)
    rintro _ _ ⟨rfl, rfl⟩
    refine WL.assign ?_
    refine WL.nil ?_
    refine WQ.next ?_
    refine WC.ret (WQ.thenRet (?_))
    exact WQ.ret1 (h1 := .tmp (t := 8) rfl) ⟨_, ⟨rfl, rfl⟩, Am.auto⟩
  · by_cases hc1 : 6000 < size
    · refine WC.seq ?_
      refine WC.region ?_
      refine WL.assign ?_
      refine WL.nil ?_
      refine WQ.next ?_
      refine WC.seq ?_
      refine WC.seq ?_
      refine WC.region ?_
      refine WL.move ?_
      refine WL.lss ?_
      refine WL.move ?_
      refine WL.cast (d := 22) (u := .bool false) rfl (congrArg Value.bool (by first | (simp; done) | (simp; omega) | omega)) ?_
      refine WL.gT ?_
      refine WL.move ?_
      refine WL.gT ?_
      refine WL.gtr ?_
      refine WL.pickF ?_
      refine WL.move ?_
      refine WL.cast (d := 26) (u := .bool true) rfl (congrArg Value.bool (by first | (simp; done) | (simp; omega) | omega)) ?_
      refine WL.gF ?_
      refine WL.gF ?_
      refine WL.pickT ?_
      refine WL.move ?_
      refine WL.gF ?_
      refine WL.gF ?_
      refine WL.gF ?_
      refine WL.pickT ?_
      refine WL.move ?_
      refine WL.gF ?_
      refine WL.gF ?_
      refine WL.pickT ?_
      refine WL.move ?_
      refine WL.gF ?_
      refine WL.gF ?_
      refine WL.pickT ?_
      refine WL.move ?_
      refine WL.gF ?_
      refine WL.gF ?_
      refine WL.pickT ?_
      refine WL.move ?_
      refine WL.gF ?_
      refine WL.gF ?_
      refine WL.pickT ?_
      refine WL.nil ?_
      refine WQ.next ?_
      refine WC.condT rfl rfl ?_
      refine WC.seq ?_
      refine WC.region ?_
      refine WL.call (hc := Tryz.call15) (sp := l8Awake) (h := ?_)
      rintro _ _ ⟨rfl, rfl⟩
      refine WL.assign ?_
      refine WL.nil ?_
      refine WQ.next ?_
      refine WC.ret (WQ.thenRet (?_))
      exact WQ.ret1 (h1 := .tmp (t := 8) rfl) ⟨_, ⟨rfl, rfl⟩, Am.auto⟩
    · by_cases hc2 : at' < 0
      · refine WC.seq ?_
        refine WC.region ?_
        refine WL.assign ?_
        refine WL.nil ?_
        refine WQ.next ?_
        refine WC.seq ?_
        refine WC.seq ?_
        refine WC.region ?_
        refine WL.move ?_
        refine WL.lss ?_
        refine WL.move ?_
        refine WL.cast (d := 22) (u := .bool false) rfl (congrArg Value.bool (by first | (simp; done) | (simp; omega) | omega)) ?_
        refine WL.gT ?_
        refine WL.move ?_
        refine WL.gT ?_
        refine WL.gtr ?_
        refine WL.pickF ?_
        refine WL.move ?_
        refine WL.cast (d := 26) (u := .bool false) rfl (congrArg Value.bool (by first | (simp; done) | (simp; omega) | omega)) ?_
        refine WL.gT ?_
        refine WL.move ?_
        refine WL.gT ?_
        refine WL.lss ?_
        refine WL.pickF ?_
        refine WL.move ?_
        refine WL.cast (d := 30) (u := .bool true) rfl (congrArg Value.bool (by first | (simp; done) | (simp; omega) | omega)) ?_
        refine WL.gF ?_
        refine WL.gF ?_
        refine WL.gF ?_
        refine WL.pickT ?_
        refine WL.move ?_
        refine WL.gF ?_
        refine WL.gF ?_
        refine WL.pickT ?_
        refine WL.move ?_
        refine WL.gF ?_
        refine WL.gF ?_
        refine WL.pickT ?_
        refine WL.move ?_
        refine WL.gF ?_
        refine WL.gF ?_
        refine WL.pickT ?_
        refine WL.move ?_
        refine WL.gF ?_
        refine WL.gF ?_
        refine WL.pickT ?_
        refine WL.nil ?_
        refine WQ.next ?_
        refine WC.condT rfl rfl ?_
        refine WC.seq ?_
        refine WC.region ?_
        refine WL.call (hc := Tryz.call15) (sp := l8Awake) (h := ?_)
        rintro _ _ ⟨rfl, rfl⟩
        refine WL.assign ?_
        refine WL.nil ?_
        refine WQ.next ?_
        refine WC.ret (WQ.thenRet (?_))
        exact WQ.ret1 (h1 := .tmp (t := 8) rfl) ⟨_, ⟨rfl, rfl⟩, Am.auto⟩
      · by_cases hc3 : size < at'
        · refine WC.seq ?_
          refine WC.region ?_
          refine WL.assign ?_
          refine WL.nil ?_
          refine WQ.next ?_
          refine WC.seq ?_
          refine WC.seq ?_
          refine WC.region ?_
          refine WL.move ?_
          refine WL.lss ?_
          refine WL.move ?_
          refine WL.cast (d := 22) (u := .bool false) rfl (congrArg Value.bool (by first | (simp; done) | (simp; omega) | omega)) ?_
          refine WL.gT ?_
          refine WL.move ?_
          refine WL.gT ?_
          refine WL.gtr ?_
          refine WL.pickF ?_
          refine WL.move ?_
          refine WL.cast (d := 26) (u := .bool false) rfl (congrArg Value.bool (by first | (simp; done) | (simp; omega) | omega)) ?_
          refine WL.gT ?_
          refine WL.move ?_
          refine WL.gT ?_
          refine WL.lss ?_
          refine WL.pickF ?_
          refine WL.move ?_
          refine WL.cast (d := 30) (u := .bool false) rfl (congrArg Value.bool (by first | (simp; done) | (simp; omega) | omega)) ?_
          refine WL.gT ?_
          refine WL.move ?_
          refine WL.gT ?_
          refine WL.move ?_
          refine WL.gT ?_
          refine WL.gtr ?_
          refine WL.pickF ?_
          refine WL.move ?_
          refine WL.cast (d := 35) (u := .bool true) rfl (congrArg Value.bool (by first | (simp; done) | (simp; omega) | omega)) ?_
          refine WL.gF ?_
          refine WL.gF ?_
          refine WL.pickT ?_
          refine WL.move ?_
          refine WL.gF ?_
          refine WL.gF ?_
          refine WL.pickT ?_
          refine WL.move ?_
          refine WL.gF ?_
          refine WL.gF ?_
          refine WL.pickT ?_
          refine WL.move ?_
          refine WL.gF ?_
          refine WL.gF ?_
          refine WL.pickT ?_
          refine WL.nil ?_
          refine WQ.next ?_
          refine WC.condT rfl rfl ?_
          refine WC.seq ?_
          refine WC.region ?_
          refine WL.call (hc := Tryz.call15) (sp := l8Awake) (h := ?_)
          rintro _ _ ⟨rfl, rfl⟩
          refine WL.assign ?_
          refine WL.nil ?_
          refine WQ.next ?_
          refine WC.ret (WQ.thenRet (?_))
          exact WQ.ret1 (h1 := .tmp (t := 8) rfl) ⟨_, ⟨rfl, rfl⟩, Am.auto⟩
        · by_cases hc4 : n < 0
          · refine WC.seq ?_
            refine WC.region ?_
            refine WL.assign ?_
            refine WL.nil ?_
            refine WQ.next ?_
            refine WC.seq ?_
            refine WC.seq ?_
            refine WC.region ?_
            refine WL.move ?_
            refine WL.lss ?_
            refine WL.move ?_
            refine WL.cast (d := 22) (u := .bool false) rfl (congrArg Value.bool (by first | (simp; done) | (simp; omega) | omega)) ?_
            refine WL.gT ?_
            refine WL.move ?_
            refine WL.gT ?_
            refine WL.gtr ?_
            refine WL.pickF ?_
            refine WL.move ?_
            refine WL.cast (d := 26) (u := .bool false) rfl (congrArg Value.bool (by first | (simp; done) | (simp; omega) | omega)) ?_
            refine WL.gT ?_
            refine WL.move ?_
            refine WL.gT ?_
            refine WL.lss ?_
            refine WL.pickF ?_
            refine WL.move ?_
            refine WL.cast (d := 30) (u := .bool false) rfl (congrArg Value.bool (by first | (simp; done) | (simp; omega) | omega)) ?_
            refine WL.gT ?_
            refine WL.move ?_
            refine WL.gT ?_
            refine WL.move ?_
            refine WL.gT ?_
            refine WL.gtr ?_
            refine WL.pickF ?_
            refine WL.move ?_
            refine WL.cast (d := 35) (u := .bool false) rfl (congrArg Value.bool (by first | (simp; done) | (simp; omega) | omega)) ?_
            refine WL.gT ?_
            refine WL.move ?_
            refine WL.gT ?_
            refine WL.lss ?_
            refine WL.pickF ?_
            refine WL.move ?_
            refine WL.cast (d := 39) (u := .bool true) rfl (congrArg Value.bool (by first | (simp; done) | (simp; omega) | omega)) ?_
            refine WL.gF ?_
            refine WL.gF ?_
            refine WL.pickT ?_
            refine WL.move ?_
            refine WL.gF ?_
            refine WL.gF ?_
            refine WL.pickT ?_
            refine WL.move ?_
            refine WL.gF ?_
            refine WL.gF ?_
            refine WL.pickT ?_
            refine WL.nil ?_
            refine WQ.next ?_
            refine WC.condT rfl rfl ?_
            refine WC.seq ?_
            refine WC.region ?_
            refine WL.call (hc := Tryz.call15) (sp := l8Awake) (h := ?_)
            rintro _ _ ⟨rfl, rfl⟩
            refine WL.assign ?_
            refine WL.nil ?_
            refine WQ.next ?_
            refine WC.ret (WQ.thenRet (?_))
            exact WQ.ret1 (h1 := .tmp (t := 8) rfl) ⟨_, ⟨rfl, rfl⟩, Am.auto⟩
          · by_cases hc5 : 3000 < n
            · refine WC.seq ?_
              refine WC.region ?_
              refine WL.assign ?_
              refine WL.nil ?_
              refine WQ.next ?_
              refine WC.seq ?_
              refine WC.seq ?_
              refine WC.region ?_
              refine WL.move ?_
              refine WL.lss ?_
              refine WL.move ?_
              refine WL.cast (d := 22) (u := .bool false) rfl (congrArg Value.bool (by first | (simp; done) | (simp; omega) | omega)) ?_
              refine WL.gT ?_
              refine WL.move ?_
              refine WL.gT ?_
              refine WL.gtr ?_
              refine WL.pickF ?_
              refine WL.move ?_
              refine WL.cast (d := 26) (u := .bool false) rfl (congrArg Value.bool (by first | (simp; done) | (simp; omega) | omega)) ?_
              refine WL.gT ?_
              refine WL.move ?_
              refine WL.gT ?_
              refine WL.lss ?_
              refine WL.pickF ?_
              refine WL.move ?_
              refine WL.cast (d := 30) (u := .bool false) rfl (congrArg Value.bool (by first | (simp; done) | (simp; omega) | omega)) ?_
              refine WL.gT ?_
              refine WL.move ?_
              refine WL.gT ?_
              refine WL.move ?_
              refine WL.gT ?_
              refine WL.gtr ?_
              refine WL.pickF ?_
              refine WL.move ?_
              refine WL.cast (d := 35) (u := .bool false) rfl (congrArg Value.bool (by first | (simp; done) | (simp; omega) | omega)) ?_
              refine WL.gT ?_
              refine WL.move ?_
              refine WL.gT ?_
              refine WL.lss ?_
              refine WL.pickF ?_
              refine WL.move ?_
              refine WL.cast (d := 39) (u := .bool false) rfl (congrArg Value.bool (by first | (simp; done) | (simp; omega) | omega)) ?_
              refine WL.gT ?_
              refine WL.move ?_
              refine WL.gT ?_
              refine WL.gtr ?_
              refine WL.pickF ?_
              refine WL.move ?_
              refine WL.cast (d := 43) (u := .bool true) rfl (congrArg Value.bool (by first | (simp; done) | (simp; omega) | omega)) ?_
              refine WL.gF ?_
              refine WL.gF ?_
              refine WL.pickT ?_
              refine WL.move ?_
              refine WL.gF ?_
              refine WL.gF ?_
              refine WL.pickT ?_
              refine WL.nil ?_
              refine WQ.next ?_
              refine WC.condT rfl rfl ?_
              refine WC.seq ?_
              refine WC.region ?_
              refine WL.call (hc := Tryz.call15) (sp := l8Awake) (h := ?_)
              rintro _ _ ⟨rfl, rfl⟩
              refine WL.assign ?_
              refine WL.nil ?_
              refine WQ.next ?_
              refine WC.ret (WQ.thenRet (?_))
              exact WQ.ret1 (h1 := .tmp (t := 8) rfl) ⟨_, ⟨rfl, rfl⟩, Am.auto⟩
            · by_cases hc6 : to < 0
              · refine WC.seq ?_
                refine WC.region ?_
                refine WL.assign ?_
                refine WL.nil ?_
                refine WQ.next ?_
                refine WC.seq ?_
                refine WC.seq ?_
                refine WC.region ?_
                refine WL.move ?_
                refine WL.lss ?_
                refine WL.move ?_
                refine WL.cast (d := 22) (u := .bool false) rfl (congrArg Value.bool (by first | (simp; done) | (simp; omega) | omega)) ?_
                refine WL.gT ?_
                refine WL.move ?_
                refine WL.gT ?_
                refine WL.gtr ?_
                refine WL.pickF ?_
                refine WL.move ?_
                refine WL.cast (d := 26) (u := .bool false) rfl (congrArg Value.bool (by first | (simp; done) | (simp; omega) | omega)) ?_
                refine WL.gT ?_
                refine WL.move ?_
                refine WL.gT ?_
                refine WL.lss ?_
                refine WL.pickF ?_
                refine WL.move ?_
                refine WL.cast (d := 30) (u := .bool false) rfl (congrArg Value.bool (by first | (simp; done) | (simp; omega) | omega)) ?_
                refine WL.gT ?_
                refine WL.move ?_
                refine WL.gT ?_
                refine WL.move ?_
                refine WL.gT ?_
                refine WL.gtr ?_
                refine WL.pickF ?_
                refine WL.move ?_
                refine WL.cast (d := 35) (u := .bool false) rfl (congrArg Value.bool (by first | (simp; done) | (simp; omega) | omega)) ?_
                refine WL.gT ?_
                refine WL.move ?_
                refine WL.gT ?_
                refine WL.lss ?_
                refine WL.pickF ?_
                refine WL.move ?_
                refine WL.cast (d := 39) (u := .bool false) rfl (congrArg Value.bool (by first | (simp; done) | (simp; omega) | omega)) ?_
                refine WL.gT ?_
                refine WL.move ?_
                refine WL.gT ?_
                refine WL.gtr ?_
                refine WL.pickF ?_
                refine WL.move ?_
                refine WL.cast (d := 43) (u := .bool false) rfl (congrArg Value.bool (by first | (simp; done) | (simp; omega) | omega)) ?_
                refine WL.gT ?_
                refine WL.move ?_
                refine WL.gT ?_
                refine WL.lss ?_
                refine WL.pickF ?_
                refine WL.move ?_
                refine WL.cast (d := 47) (u := .bool true) rfl (congrArg Value.bool (by first | (simp; done) | (simp; omega) | omega)) ?_
                refine WL.gF ?_
                refine WL.gF ?_
                refine WL.pickT ?_
                refine WL.nil ?_
                refine WQ.next ?_
                refine WC.condT rfl rfl ?_
                refine WC.seq ?_
                refine WC.region ?_
                refine WL.call (hc := Tryz.call15) (sp := l8Awake) (h := ?_)
                rintro _ _ ⟨rfl, rfl⟩
                refine WL.assign ?_
                refine WL.nil ?_
                refine WQ.next ?_
                refine WC.ret (WQ.thenRet (?_))
                exact WQ.ret1 (h1 := .tmp (t := 8) rfl) ⟨_, ⟨rfl, rfl⟩, Am.auto⟩
              · by_cases hc7 : 6000 < to
                · refine WC.seq ?_
                  refine WC.region ?_
                  refine WL.assign ?_
                  refine WL.nil ?_
                  refine WQ.next ?_
                  refine WC.seq ?_
                  refine WC.seq ?_
                  refine WC.region ?_
                  refine WL.move ?_
                  refine WL.lss ?_
                  refine WL.move ?_
                  refine WL.cast (d := 22) (u := .bool false) rfl (congrArg Value.bool (by first | (simp; done) | (simp; omega) | omega)) ?_
                  refine WL.gT ?_
                  refine WL.move ?_
                  refine WL.gT ?_
                  refine WL.gtr ?_
                  refine WL.pickF ?_
                  refine WL.move ?_
                  refine WL.cast (d := 26) (u := .bool false) rfl (congrArg Value.bool (by first | (simp; done) | (simp; omega) | omega)) ?_
                  refine WL.gT ?_
                  refine WL.move ?_
                  refine WL.gT ?_
                  refine WL.lss ?_
                  refine WL.pickF ?_
                  refine WL.move ?_
                  refine WL.cast (d := 30) (u := .bool false) rfl (congrArg Value.bool (by first | (simp; done) | (simp; omega) | omega)) ?_
                  refine WL.gT ?_
                  refine WL.move ?_
                  refine WL.gT ?_
                  refine WL.move ?_
                  refine WL.gT ?_
                  refine WL.gtr ?_
                  refine WL.pickF ?_
                  refine WL.move ?_
                  refine WL.cast (d := 35) (u := .bool false) rfl (congrArg Value.bool (by first | (simp; done) | (simp; omega) | omega)) ?_
                  refine WL.gT ?_
                  refine WL.move ?_
                  refine WL.gT ?_
                  refine WL.lss ?_
                  refine WL.pickF ?_
                  refine WL.move ?_
                  refine WL.cast (d := 39) (u := .bool false) rfl (congrArg Value.bool (by first | (simp; done) | (simp; omega) | omega)) ?_
                  refine WL.gT ?_
                  refine WL.move ?_
                  refine WL.gT ?_
                  refine WL.gtr ?_
                  refine WL.pickF ?_
                  refine WL.move ?_
                  refine WL.cast (d := 43) (u := .bool false) rfl (congrArg Value.bool (by first | (simp; done) | (simp; omega) | omega)) ?_
                  refine WL.gT ?_
                  refine WL.move ?_
                  refine WL.gT ?_
                  refine WL.lss ?_
                  refine WL.pickF ?_
                  refine WL.move ?_
                  refine WL.cast (d := 47) (u := .bool false) rfl (congrArg Value.bool (by first | (simp; done) | (simp; omega) | omega)) ?_
                  refine WL.gT ?_
                  refine WL.move ?_
                  refine WL.gT ?_
                  refine WL.gtr ?_
                  refine WL.pickF ?_
                  refine WL.nil ?_
                  refine WQ.next ?_
                  refine WC.condT rfl (congrArg Value.bool (by first | (simp; done) | (simp; omega) | omega)) ?_
                  refine WC.seq ?_
                  refine WC.region ?_
                  refine WL.call (hc := Tryz.call15) (sp := l8Awake) (h := ?_)
                  rintro _ _ ⟨rfl, rfl⟩
                  refine WL.assign ?_
                  refine WL.nil ?_
                  refine WQ.next ?_
                  refine WC.ret (WQ.thenRet (?_))
                  exact WQ.ret1 (h1 := .tmp (t := 8) rfl) ⟨_, ⟨rfl, rfl⟩, Am.auto⟩
                · obtain ⟨S, rfl⟩ : ∃ S : Nat, size = (S : Int) := ⟨size.toNat, by omega⟩
                  obtain ⟨T, rfl⟩ : ∃ T : Nat, at' = (T : Int) := ⟨at'.toNat, by omega⟩
                  obtain ⟨N, rfl⟩ : ∃ N : Nat, n = (N : Int) := ⟨n.toNat, by omega⟩
                  obtain ⟨O, rfl⟩ : ∃ O : Nat, to = (O : Int) := ⟨to.toNat, by omega⟩
                  have hpn : PlIs (pN 400) := pN_is (by decide) (by decide)
                  have ho : PlOk (pN 400) := hpn.ok
                  have hdc : (pN 400).dc = 150 := rfl
                  have hin : (pN 400).ino = 16 := rfl
                  have hr0 : tot rootM (pN 400).ino = 0 := tot_root _
                  have hrw : ∀ W k, W + k ≤ 57 → Rw (pN 400) W k := fun W k h => .inr (by have : (pN 400).tb = 248 := rfl; omega)
                  obtain ⟨X, hX⟩ : ∃ X, X = someB S 1 := ⟨_, rfl⟩
                  obtain ⟨Y, hY⟩ : ∃ Y, Y = someB N 200 := ⟨_, rfl⟩
                  obtain ⟨Wn, hWn⟩ : ∃ Wn, Wn = wrB X T Y := ⟨_, rfl⟩
                  obtain ⟨L, hL⟩ : ∃ L, L = max S (T + N) := ⟨_, rfl⟩
                  have hXl : X.length = S := by rw [hX]; exact someB_length _ _
                  have hYl : Y.length = N := by rw [hY]; exact someB_length _ _
                  have hWl : Wn.length = L := by rw [hWn, wrB_length, hXl, hYl, hL]
                  have hS : S ≤ 6000 := by omega
                  have hhS : has S ≤ 13 := has_le hS rfl
                  have hhL : has L ≤ 19 := has_le (m := 9000) (by omega) rfl
                  have hhO : has O ≤ 13 := has_le (m := 6000) (by omega) rfl
                  refine WC.seq ?_
                  refine WC.region ?_
                  refine WL.assign ?_
                  refine WL.nil ?_
                  refine WQ.next ?_
                  refine WC.seq ?_
                  refine WC.seq ?_
                  refine WC.region ?_
                  refine WL.move ?_
                  refine WL.lss ?_
                  refine WL.move ?_
                  refine WL.cast (d := 22) (u := .bool false) rfl (congrArg Value.bool (by first | (simp; done) | (simp; omega) | omega)) ?_
                  refine WL.gT ?_
                  refine WL.move ?_
                  refine WL.gT ?_
                  refine WL.gtr ?_
                  refine WL.pickF ?_
                  refine WL.move ?_
                  refine WL.cast (d := 26) (u := .bool false) rfl (congrArg Value.bool (by first | (simp; done) | (simp; omega) | omega)) ?_
                  refine WL.gT ?_
                  refine WL.move ?_
                  refine WL.gT ?_
                  refine WL.lss ?_
                  refine WL.pickF ?_
                  refine WL.move ?_
                  refine WL.cast (d := 30) (u := .bool false) rfl (congrArg Value.bool (by first | (simp; done) | (simp; omega) | omega)) ?_
                  refine WL.gT ?_
                  refine WL.move ?_
                  refine WL.gT ?_
                  refine WL.move ?_
                  refine WL.gT ?_
                  refine WL.gtr ?_
                  refine WL.pickF ?_
                  refine WL.move ?_
                  refine WL.cast (d := 35) (u := .bool false) rfl (congrArg Value.bool (by first | (simp; done) | (simp; omega) | omega)) ?_
                  refine WL.gT ?_
                  refine WL.move ?_
                  refine WL.gT ?_
                  refine WL.lss ?_
                  refine WL.pickF ?_
                  refine WL.move ?_
                  refine WL.cast (d := 39) (u := .bool false) rfl (congrArg Value.bool (by first | (simp; done) | (simp; omega) | omega)) ?_
                  refine WL.gT ?_
                  refine WL.move ?_
                  refine WL.gT ?_
                  refine WL.gtr ?_
                  refine WL.pickF ?_
                  refine WL.move ?_
                  refine WL.cast (d := 43) (u := .bool false) rfl (congrArg Value.bool (by first | (simp; done) | (simp; omega) | omega)) ?_
                  refine WL.gT ?_
                  refine WL.move ?_
                  refine WL.gT ?_
                  refine WL.lss ?_
                  refine WL.pickF ?_
                  refine WL.move ?_
                  refine WL.cast (d := 47) (u := .bool false) rfl (congrArg Value.bool (by first | (simp; done) | (simp; omega) | omega)) ?_
                  refine WL.gT ?_
                  refine WL.move ?_
                  refine WL.gT ?_
                  refine WL.gtr ?_
                  refine WL.pickF ?_
                  refine WL.nil ?_
                  refine WQ.next ?_
                  refine WC.condF rfl (congrArg Value.bool (by first | (simp; done) | (simp; omega) | omega)) ?_
                  refine WC.skip ?_
                  refine WQ.next ?_
                  refine WC.seq ?_
                  refine WC.region ?_
                  refine WL.call (hc := Tryz.call16) (sp := l8Fresh (pN_is (n := 400) (by decide) (by decide))) (h := ?_)
                  rintro _ _ ⟨c, a, s, rfl, rfl⟩
                  refine WL.move ?_
                  refine WL.extract ?_
                  refine WL.extract ?_
                  refine WL.alloc z30 fun b9 => ?_
                  refine WL.stV ?_ agg30
                  refine WL.assign ?_
                  refine WL.nil ?_
                  refine WQ.next ?_
                  refine WC.seq ?_
                  refine WC.seq ?_
                  refine WC.region ?_
                  refine WL.move ?_
                  refine WL.not ?_
                  refine WL.nil ?_
                  refine WQ.next ?_
                  refine WC.condF rfl rfl ?_
                  refine WC.skip ?_
                  refine WQ.next ?_
                  refine WC.seq ?_
                  refine WC.region ?_
                  refine WL.fa ?_ fo30_2
                  refine WL.ld ?_ sc26
                  refine WL.call (hc := Tryz.call17) (sp := nMake (F0 := rootM) (F := rootM) (W := 0) (i := 1) (k := 1) ho (.inl rfl) (hrw _ _ (by omega)) (by decide) rfl root_one) (h := ?_)
                  rintro _ _ ⟨rfl, rfl⟩
                  refine WL.move ?_
                  refine WL.extract ?_
                  refine WL.extract ?_
                  refine WL.assign ?_
                  refine WL.assign ?_
                  refine WL.nil ?_
                  refine WQ.next ?_
                  refine WC.seq ?_
                  refine WC.seq ?_
                  refine WC.draw ([pt b9 (.cells (stkC c a s (pN 400)) 30 (0, 0))]) [] 23 #[false, false, false, false, false, false, false, false, false, false, false, false, false, false, false, false, false, false, false, false, false, false, false] mixed (by kernel_rfl) NoPanic.autoJ ?_
                  refine WD.take (i := 0) #[true, false, false, false, false, false, false, false, false, false, false, false, false, false, false, false, false, false, false, false, false, false, false] rfl (by kernel_rfl) (Qt.move ) ?_
                  refine WD.take (i := 1) #[true, true, false, false, false, false, false, false, false, false, false, false, false, false, false, false, false, false, false, false, false, false, false] rfl (by kernel_rfl) (Qt.nei ) ?_
                  refine WD.take (i := 2) #[true, true, true, false, false, false, false, false, false, false, false, false, false, false, false, false, false, false, false, false, false, false, false] rfl (by kernel_rfl) (Qt.move ) ?_
                  refine WD.takeOn (i := 3) #[true, true, true, true, false, false, false, false, false, false, false, false, false, false, false, false, false, false, false, false, false, false, false] rfl (by kernel_rfl) (Qt.fa fo30_2) ?_
                  refine WD.takeOn (i := 4) #[true, true, true, true, true, false, false, false, false, false, false, false, false, false, false, false, false, false, false, false, false, false, false] rfl (by kernel_rfl) (Qt.ld sc26) ?_
                  refine WD.takeOn (i := 5) #[true, true, true, true, true, true, false, false, false, false, false, false, false, false, false, false, false, false, false, false, false, false, false] rfl (by kernel_rfl) (Qt.move ) ?_
                  refine WD.takeOn (i := 6) #[true, true, true, true, true, true, true, false, false, false, false, false, false, false, false, false, false, false, false, false, false, false, false] rfl (by kernel_rfl) (Qt.move ) ?_
                  refine WD.one (i := 7) #[true, true, true, true, true, true, true, true, false, false, false, false, false, false, false, false, false, false, false, false, false, false, false] rfl (by kernel_rfl) fun hnp => ?_
                  refine WL.gT ?_
                  refine WL.call (hc := Tryz.call19) (sp := alikeSome (n := S) (c := 1) (by omega) (by decide)) (h := ?_)
                  rintro _ _ ⟨b_7, rfl, rfl⟩
                  rw [← hX]
                  refine WL.nil (WQ.wd hnp (.inl Am.auto) ?_)
                  refine WD.one (i := 8) #[true, true, true, true, true, true, true, true, true, false, false, false, false, false, false, false, false, false, false, false, false, false, false] rfl (by kernel_rfl) fun hnp => ?_
                  refine WL.gT ?_
                  refine WL.call (hc := Tryz.call20) (sp := nWrite (F0 := rootM) (F := oneM (1, [])) (W := 1) (i := 1) (at' := 0) (f := (1, [])) (bs := X) ho (oneM_at _) (hrw _ _ (by show 1 + (has (max 0 (0 + S)) - has 0 + (S + 511) / 512 + 10) ≤ 57; rw [show max 0 (0 + S) = S from by omega]; omega)) (.inr Reads.buf) hXl (Nat.le_refl _) (by show S ≤ maxLen; unfold maxLen; omega) (Nat.zero_le _) (by omega) (by rw [tot_one _ (by decide)]; show 0 + has (max 0 (0 + S)) ≤ 150 + 0; rw [show max 0 (0 + S) = S from by omega]; omega)) (h := ?_)
                  rintro _ _ ⟨rfl, rfl⟩
                  rw [wrB_nil, one_upd]
                  refine WL.nil (WQ.wd hnp (.inl Am.auto) ?_)
                  refine WD.takeOn (i := 9) #[true, true, true, true, true, true, true, true, true, true, false, false, false, false, false, false, false, false, false, false, false, false, false] rfl (by kernel_rfl) (Qt.nei ) ?_
                  refine WD.take (i := 10) #[true, true, true, true, true, true, true, true, true, true, true, false, false, false, false, false, false, false, false, false, false, false, false] rfl (by kernel_rfl) (Qt.pickF ) ?_
                  refine WD.take (i := 11) #[true, true, true, true, true, true, true, true, true, true, true, true, false, false, false, false, false, false, false, false, false, false, false] rfl (by kernel_rfl) (Qt.move ) ?_
                  refine WD.takeOn (i := 12) #[true, true, true, true, true, true, true, true, true, true, true, true, true, false, false, false, false, false, false, false, false, false, false] rfl (by kernel_rfl) (Qt.fa fo30_0) ?_
                  refine WD.takeOn (i := 13) #[true, true, true, true, true, true, true, true, true, true, true, true, true, true, false, false, false, false, false, false, false, false, false] rfl (by kernel_rfl) (Qt.ld sc24) ?_
                  refine WD.one (i := 14) #[true, true, true, true, true, true, true, true, true, true, true, true, true, true, true, false, false, false, false, false, false, false, false] rfl (by kernel_rfl) fun hnp => ?_
                  refine WL.gT ?_
                  refine WL.call (hc := Tryz.call21) (sp := nCommit (s := s) (a := a) (p := pN 400) (F0 := rootM) (F := oneM (1, X))) (h := ?_)
                  rintro _ _ ⟨rfl, rfl⟩
                  refine WL.nil (WQ.wd hnp (.inl Am.auto) ?_)
                  refine WD.takeOn (i := 15) #[true, true, true, true, true, true, true, true, true, true, true, true, true, true, true, true, false, false, false, false, false, false, false] rfl (by kernel_rfl) (Qt.nei ) ?_
                  refine WD.take (i := 16) #[true, true, true, true, true, true, true, true, true, true, true, true, true, true, true, true, true, false, false, false, false, false, false] rfl (by kernel_rfl) (Qt.pickF ) ?_
                  refine WD.take (i := 17) #[true, true, true, true, true, true, true, true, true, true, true, true, true, true, true, true, true, true, false, false, false, false, false] rfl (by kernel_rfl) (Qt.move ) ?_
                  refine WD.takeOn (i := 18) #[true, true, true, true, true, true, true, true, true, true, true, true, true, true, true, true, true, true, true, false, false, false, false] rfl (by kernel_rfl) (Qt.fa fo30_0) ?_
                  refine WD.takeOn (i := 19) #[true, true, true, true, true, true, true, true, true, true, true, true, true, true, true, true, true, true, true, true, false, false, false] rfl (by kernel_rfl) (Qt.ld sc24) ?_
                  refine WD.one (i := 20) #[true, true, true, true, true, true, true, true, true, true, true, true, true, true, true, true, true, true, true, true, true, false, false] rfl (by kernel_rfl) fun hnp => ?_
                  refine WL.gT ?_
                  refine WL.call (hc := Tryz.call22) (sp := nBegin (s := s) (a := a) (p := pN 400) (F0 := oneM (1, X)) (F := oneM (1, X)) (W := 0)) (h := ?_)
                  rintro _ _ ⟨rfl, rfl⟩
                  refine WL.nil (WQ.wd hnp (.inl Am.auto) ?_)
                  refine WD.takeOn (i := 21) #[true, true, true, true, true, true, true, true, true, true, true, true, true, true, true, true, true, true, true, true, true, true, false] rfl (by kernel_rfl) (Qt.nei ) ?_
                  refine WD.take (i := 22) #[true, true, true, true, true, true, true, true, true, true, true, true, true, true, true, true, true, true, true, true, true, true, true] rfl (by kernel_rfl) (Qt.pickF ) ?_
                  refine WD.done (by kernel_rfl) ?_
                  refine WQ.next ?_
                  refine WC.condF rfl rfl ?_
                  refine WC.skip ?_
                  refine WQ.next ?_
                  refine WC.seq ?_
                  refine WC.seq ?_
                  refine WC.draw ([pt b9 (.cells (stkC c a s (pN 400)) 30 (0, 0))]) [] 20 #[false, false, false, false, false, false, false, false, false, false, false, false, false, false, false, false, false, false, false, false] mixed (by kernel_rfl) NoPanic.autoJ ?_
                  refine WD.take (i := 0) #[true, false, false, false, false, false, false, false, false, false, false, false, false, false, false, false, false, false, false, false] rfl (by kernel_rfl) (Qt.fa fo30_2) ?_
                  refine WD.take (i := 1) #[true, true, false, false, false, false, false, false, false, false, false, false, false, false, false, false, false, false, false, false] rfl (by kernel_rfl) (Qt.ld sc26) ?_
                  refine WD.take (i := 2) #[true, true, true, false, false, false, false, false, false, false, false, false, false, false, false, false, false, false, false, false] rfl (by kernel_rfl) (Qt.move ) ?_
                  refine WD.take (i := 3) #[true, true, true, true, false, false, false, false, false, false, false, false, false, false, false, false, false, false, false, false] rfl (by kernel_rfl) (Qt.move ) ?_
                  refine WD.take (i := 4) #[true, true, true, true, true, false, false, false, false, false, false, false, false, false, false, false, false, false, false, false] rfl (by kernel_rfl) (Qt.move ) ?_
                  refine WD.one (i := 5) #[true, true, true, true, true, true, false, false, false, false, false, false, false, false, false, false, false, false, false, false] rfl (by kernel_rfl) fun hnp => ?_
                  refine WL.call (hc := Tryz.call19) (sp := alikeSome (n := N) (c := 200) (by omega) (by decide)) (h := ?_)
                  rintro _ _ ⟨b_9, rfl, rfl⟩
                  rw [← hY]
                  refine WL.nil (WQ.wd hnp (.inl Am.auto) ?_)
                  refine WD.one (i := 6) #[true, true, true, true, true, true, true, false, false, false, false, false, false, false, false, false, false, false, false, false] rfl (by kernel_rfl) fun hnp => ?_
                  refine WL.call (hc := Tryz.call20) (sp := nWrite (F0 := oneM (1, X)) (F := oneM (1, X)) (W := 0) (i := 1) (at' := T) (f := (1, X)) (bs := Y) ho (oneM_at _) (hrw _ _ (by show 0 + (has (max X.length (T + N)) - has X.length + (N + 511) / 512 + 10) ≤ 57; rw [hXl, ← hL]; omega)) (.inr Reads.buf) hYl (Nat.le_refl _) (by show N ≤ maxLen; unfold maxLen; omega) (by show T ≤ X.length; omega) (by omega) (by rw [tot_one _ (by decide)]; show has X.length + has (max X.length (T + N)) ≤ 150 + has X.length; rw [hXl, ← hL]; omega)) (h := ?_)
                  rintro _ _ ⟨rfl, rfl⟩
                  rw [one_upd]
                  simp only [← hWn]
                  refine WL.nil (WQ.wd hnp (.inl Am.auto) ?_)
                  refine WD.take (i := 7) #[true, true, true, true, true, true, true, true, false, false, false, false, false, false, false, false, false, false, false, false] rfl (by kernel_rfl) (Qt.nei ) ?_
                  refine WD.take (i := 8) #[true, true, true, true, true, true, true, true, true, false, false, false, false, false, false, false, false, false, false, false] rfl (by kernel_rfl) (Qt.move ) ?_
                  refine WD.takeOn (i := 9) #[true, true, true, true, true, true, true, true, true, true, false, false, false, false, false, false, false, false, false, false] rfl (by kernel_rfl) (Qt.fa fo30_0) ?_
                  refine WD.takeOn (i := 10) #[true, true, true, true, true, true, true, true, true, true, true, false, false, false, false, false, false, false, false, false] rfl (by kernel_rfl) (Qt.ld sc24) ?_
                  refine WD.one (i := 11) #[true, true, true, true, true, true, true, true, true, true, true, true, false, false, false, false, false, false, false, false] rfl (by kernel_rfl) fun hnp => ?_
                  refine WL.gT ?_
                  refine WL.call (hc := Tryz.call21) (sp := nCommit (s := s) (a := a) (p := pN 400) (F0 := oneM (1, X)) (F := oneM (1, Wn))) (h := ?_)
                  rintro _ _ ⟨rfl, rfl⟩
                  refine WL.nil (WQ.wd hnp (.inl Am.auto) ?_)
                  refine WD.takeOn (i := 12) #[true, true, true, true, true, true, true, true, true, true, true, true, true, false, false, false, false, false, false, false] rfl (by kernel_rfl) (Qt.nei ) ?_
                  refine WD.take (i := 13) #[true, true, true, true, true, true, true, true, true, true, true, true, true, true, false, false, false, false, false, false] rfl (by kernel_rfl) (Qt.pickF ) ?_
                  refine WD.take (i := 14) #[true, true, true, true, true, true, true, true, true, true, true, true, true, true, true, false, false, false, false, false] rfl (by kernel_rfl) (Qt.move ) ?_
                  refine WD.takeOn (i := 15) #[true, true, true, true, true, true, true, true, true, true, true, true, true, true, true, true, false, false, false, false] rfl (by kernel_rfl) (Qt.fa fo30_0) ?_
                  refine WD.takeOn (i := 16) #[true, true, true, true, true, true, true, true, true, true, true, true, true, true, true, true, true, false, false, false] rfl (by kernel_rfl) (Qt.ld sc24) ?_
                  refine WD.one (i := 17) #[true, true, true, true, true, true, true, true, true, true, true, true, true, true, true, true, true, true, false, false] rfl (by kernel_rfl) fun hnp => ?_
                  refine WL.gT ?_
                  refine WL.call (hc := Tryz.call22) (sp := nBegin (s := s) (a := a) (p := pN 400) (F0 := oneM (1, Wn)) (F := oneM (1, Wn)) (W := 0)) (h := ?_)
                  rintro _ _ ⟨rfl, rfl⟩
                  refine WL.nil (WQ.wd hnp (.inl Am.auto) ?_)
                  refine WD.takeOn (i := 18) #[true, true, true, true, true, true, true, true, true, true, true, true, true, true, true, true, true, true, true, false] rfl (by kernel_rfl) (Qt.nei ) ?_
                  refine WD.take (i := 19) #[true, true, true, true, true, true, true, true, true, true, true, true, true, true, true, true, true, true, true, true] rfl (by kernel_rfl) (Qt.pickF ) ?_
                  refine WD.done (by kernel_rfl) ?_
                  refine WQ.next ?_
                  refine WC.condF rfl rfl ?_
                  refine WC.skip ?_
                  refine WQ.next ?_
                  refine WC.seq ?_
                  refine WC.seq ?_
                  refine WC.region ?_
                  refine WL.fa ?_ fo30_2
                  refine WL.ld ?_ sc26
                  refine WL.move ?_
                  refine WL.move ?_
                  refine WL.call (hc := Tryz.call26) (sp := nTrunc (F0 := oneM (1, Wn)) (F := oneM (1, Wn)) (W := 0) (i := 1) (size := O) (f := (1, Wn)) ho (oneM_at _) (hrw _ _ (by show 0 + (has O - has Wn.length + 8) ≤ 57; omega)) (by omega) (by rw [tot_one _ (by decide)]; show has Wn.length + has O ≤ 150 + has Wn.length; omega)) (h := ?_)
                  rintro _ _ ⟨rfl, rfl⟩
                  rw [one_upd]
                  refine WL.nei ?_
                  refine WL.nil ?_
                  refine WQ.next ?_
                  refine WC.condF rfl rfl ?_
                  refine WC.skip ?_
                  refine WQ.next ?_
                  refine WC.seq ?_
                  refine WC.region ?_
                  refine WL.move ?_
                  refine WL.move ?_
                  refine WL.move ?_
                  refine WL.add ?_
                  refine WL.maxI ?_
                  refine WL.cast (d := 117) (u := .int .i64 (L : Int)) rfl (congrArg (Value.int .i64) (by split <;> omega)) ?_
                  refine WL.mkS (k := (L : Int)) z5 (fun bw => ?_) so33 (by omega) (by omega) (by omega)
                  refine WL.cast (d := 118) (u := .slice (some ⟨bw, 0, none⟩) L L) rfl (by rw [Int.toNat_natCast]) ?_
                  refine WL.to (A := buf bw 5 (L : Int).toNat (List.replicate (L : Int).toNat (.int .u8 0))) (A' := buf bw 5 L (bvs (splice (List.replicate L 0) 0 (X.take 0)))) (fun h hh => by rw [List.take_zero, splice_nil, bvs_replicate]; rw [Int.toNat_natCast] at hh; exact hh) ?_
                  refine WL.assign ?_
                  refine WL.nil ?_
                  refine WQ.next ?_
                  refine WC.seq ?_
                  refine WC.region ?_
                  refine WL.move ?_
                  refine WL.call (hc := Tryz.call19) (sp := alikeSome (n := S) (c := 1) (by omega) (by decide)) (h := ?_)
                  rintro _ _ ⟨b_14, rfl, rfl⟩
                  rw [← hX]
                  refine WL.assign ?_
                  refine WL.nil ?_
                  refine WQ.next ?_
                  refine WC.seq ?_
                  refine WC.region ?_
                  refine WL.move ?_
                  refine WL.call (hc := Tryz.call19) (sp := alikeSome (n := N) (c := 200) (by omega) (by decide)) (h := ?_)
                  rintro _ _ ⟨b_15, rfl, rfl⟩
                  rw [← hY]
                  refine WL.assign ?_
                  refine WL.nil ?_
                  refine WQ.next ?_
                  refine WC.seq ?_
                  refine WC.seq ?_
                  refine WC.region ?_
                  refine WL.assign ?_
                  refine WL.nil ?_
                  refine WQ.next ?_
                  refine WC.block ?_
                  refine WC.loopA (σ := Nat) (fun k => [(0, .int .i64 (S : Int)), (1, .int .i64 (T : Int)), (2, .int .i64 (N : Int)), (3, .int .i64 (O : Int)), (9, .pointer (some ⟨b9, 0, none⟩)), (11, nI 1), (13, .slice (some ⟨bw, 0, none⟩) L L), (14, .slice (some ⟨b_14, 0, none⟩) S S), (15, .slice (some ⟨b_15, 0, none⟩) N N), (16, .int .i64 (k : Int))]) (fun k => [buf bw 5 L (bvs (splice (List.replicate L 0) 0 (X.take k))), buf b_14 5 S (bvs X), buf b_15 5 N (bvs Y), pt b9 (.cells (stkC c a s (pN 400)) 30 (0, 0)), IN s a c (pN 400) (oneM (1, Wn)) (oneM (1, trB Wn O)) (0 + (has O - has Wn.length) + 4) true] ++ F) (fun k => k ≤ S) (fun k => S - k) 0 (Nat.zero_le _) ?_
                  rintro k hk
                  refine WC.seq ?_
                  refine WC.seq ?_
                  refine WC.region ?_
                  refine WL.move ?_
                  refine WL.move ?_
                  refine WL.lss ?_
                  refine WL.nil ?_
                  refine WQ.next ?_
                  refine WC.cond rfl (fun hb => ?_) (fun hb => ?_)
                  · have hlt : k < S := by have := of_decide_eq_true hb; omega
                    have hsl : (splice (List.replicate L 0) 0 (X.take k)).length = L := by rw [splice_length (by rw [List.length_replicate, List.length_take]; omega), List.length_replicate]
                    refine WC.skip ?_
                    refine WQ.next ?_
                    refine WC.seq ?_
                    refine WC.block ?_
                    refine WC.region ?_
                    refine WL.move ?_
                    refine WL.move ?_
                    refine WL.move ?_
                    refine WL.move ?_
                    refine WL.idx1 ?_ so33
                    refine WL.ldR (R := buf b_14 5 S (bvs X)) (xs := bvs X) (i := ((k : Nat) : Int).toNat) ?_ sc5 Reads.buf (bvs_get (by omega))
                    refine WL.idx1 ?_ so33
                    refine WL.stB ?_ sc5 (show 0 + ((k : Nat) : Int).toNat < (bvs (splice (List.replicate L 0) 0 (X.take k))).length by rw [bvs_length]; omega)
                    refine WL.nil ?_
                    refine WQ.blockNormal ?_
                    refine WQ.next ?_
                    refine WC.region ?_
                    refine WL.move ?_
                    refine WL.add ?_
                    refine WL.assign ?_
                    refine WL.nil ?_
                    refine WQ.to (A := buf bw 5 L ((bvs (splice (List.replicate L 0) 0 (X.take k))).set (0 + ((k : Nat) : Int).toNat) (bv (X.getD ((k : Nat) : Int).toNat 0)))) (A' := buf bw 5 L (bvs (splice (List.replicate L 0) 0 (X.take (k + 1))))) (fun h hh => by rw [← splice_step (by rw [List.length_replicate]; omega) (by omega), bvs_set]; rw [Int.toNat_natCast] at hh; exact hh) ?_
                    refine WQ.cast (d := 16) (u := .int .i64 ((k + 1 : Nat) : Int)) rfl (congrArg (Value.int .i64) (by omega)) ?_
                    exact WQ.back (k + 1) (by omega) (by omega)
                  · have hge : ¬ k < S := by have := of_decide_eq_false hb; omega
                    have hkS : k = S := by omega
                    subst hkS
                    obtain ⟨Z, hZ⟩ : ∃ Z, Z = splice (List.replicate L 0) 0 X := ⟨_, rfl⟩
                    have hZl : Z.length = L := by rw [hZ, splice_length (by rw [List.length_replicate]; omega), List.length_replicate]
                    refine WC.to (A := buf bw 5 L (bvs (splice (List.replicate L 0) 0 (X.take k)))) (A' := buf bw 5 L (bvs (splice Z T (Y.take 0)))) (fun h hh => by rw [List.take_zero, splice_nil, hZ]; rw [splice_take_all hXl] at hh; exact hh) ?_
                    refine WC.exit (WQ.thenExit (WQ.thenExit (WQ.blockExit (?_))))
                    refine WQ.next ?_
                    refine WC.seq ?_
                    refine WC.seq ?_
                    refine WC.region ?_
                    refine WL.assign ?_
                    refine WL.nil ?_
                    refine WQ.next ?_
                    refine WC.block ?_
                    refine WC.loopA (σ := Nat) (fun j => [(0, .int .i64 (k : Int)), (1, .int .i64 (T : Int)), (2, .int .i64 (N : Int)), (3, .int .i64 (O : Int)), (9, .pointer (some ⟨b9, 0, none⟩)), (11, nI 1), (13, .slice (some ⟨bw, 0, none⟩) L L), (15, .slice (some ⟨b_15, 0, none⟩) N N), (17, .int .i64 (j : Int))]) (fun j => [buf bw 5 L (bvs (splice Z T (Y.take j))), buf b_14 5 k (bvs X), buf b_15 5 N (bvs Y), pt b9 (.cells (stkC c a s (pN 400)) 30 (0, 0)), IN s a c (pN 400) (oneM (1, Wn)) (oneM (1, trB Wn O)) (0 + (has O - has Wn.length) + 4) true] ++ F) (fun j => j ≤ N) (fun j => N - j) 0 (Nat.zero_le _) ?_
                    rintro j hj
                    refine WC.seq ?_
                    refine WC.seq ?_
                    refine WC.region ?_
                    refine WL.move ?_
                    refine WL.move ?_
                    refine WL.lss ?_
                    refine WL.nil ?_
                    refine WQ.next ?_
                    refine WC.cond rfl (fun hb2 => ?_) (fun hb2 => ?_)
                    · have hlt : j < N := by have := of_decide_eq_true hb2; omega
                      have hsl : (splice Z T (Y.take j)).length = L := by rw [splice_length (by rw [hZl, List.length_take]; omega), hZl]
                      refine WC.skip ?_
                      refine WQ.next ?_
                      refine WC.seq ?_
                      refine WC.block ?_
                      refine WC.region ?_
                      refine WL.move ?_
                      refine WL.move ?_
                      refine WL.move ?_
                      refine WL.add ?_
                      refine WL.cast (d := 143) (u := .int .i64 ((T + j : Nat) : Int)) rfl (congrArg (Value.int .i64) (by omega)) ?_
                      refine WL.move ?_
                      refine WL.move ?_
                      refine WL.idx1 ?_ so33
                      refine WL.ldR (R := buf b_15 5 N (bvs Y)) (xs := bvs Y) (i := ((j : Nat) : Int).toNat) ?_ sc5 Reads.buf (bvs_get (by omega))
                      refine WL.idx1 ?_ so33
                      refine WL.stB ?_ sc5 (show 0 + ((T + j : Nat) : Int).toNat < (bvs (splice Z T (Y.take j))).length by rw [bvs_length]; omega)
                      refine WL.nil ?_
                      refine WQ.blockNormal ?_
                      refine WQ.next ?_
                      refine WC.region ?_
                      refine WL.move ?_
                      refine WL.add ?_
                      refine WL.assign ?_
                      refine WL.nil ?_
                      refine WQ.to (A := buf bw 5 L ((bvs (splice Z T (Y.take j))).set (0 + ((T + j : Nat) : Int).toNat) (bv (Y.getD ((j : Nat) : Int).toNat 0)))) (A' := buf bw 5 L (bvs (splice Z T (Y.take (j + 1))))) (fun h hh => by rw [← splice_step (by omega) (by omega), bvs_set]; rw [Int.toNat_natCast, Int.toNat_natCast, Nat.zero_add] at hh; exact hh) ?_
                      refine WQ.cast (d := 17) (u := .int .i64 ((j + 1 : Nat) : Int)) rfl (congrArg (Value.int .i64) (by omega)) ?_
                      exact WQ.back (j + 1) (by omega) (by omega)
                    · have hge2 : ¬ j < N := by have := of_decide_eq_false hb2; omega
                      have hjN : j = N := by omega
                      subst hjN
                      have hfin : splice Z T (Y.take j) = Wn := by rw [splice_take_all hYl, hZ, hWn, hL, ← hYl, ← hXl]; exact wrB_made X Y T
                      refine WC.to (A := buf bw 5 L (bvs (splice Z T (Y.take j)))) (A' := buf bw 5 L (bvs Wn)) (fun h hh => by rw [hfin] at hh; exact hh) ?_
                      refine WC.exit (WQ.thenExit (WQ.thenExit (WQ.blockExit (?_))))
                      refine WQ.next ?_
                      refine WC.seq ?_
                      refine WC.seq ?_
                      refine WC.region ?_
                      refine WL.move ?_
                      refine WL.move ?_
                      refine WL.lenS ?_ sl33
                      refine WL.lss ?_
                      refine WL.nil ?_
                      refine WQ.next ?_
                      refine WC.join (σ := Option Addr × Nat × Nat) (fun y => [(0, .int .i64 (k : Int)), (1, .int .i64 (T : Int)), (2, .int .i64 (j : Int)), (3, .int .i64 (O : Int)), (9, .pointer (some ⟨b9, 0, none⟩)), (11, nI 1), (13, .slice y.1 y.2.1 y.2.2)]) (fun y => [rowR 5 1 (.slice y.1 y.2.1 y.2.2) y.2.1 (bvs (trB Wn y.2.1)), buf b_14 5 k (bvs X), buf b_15 5 j (bvs Y), pt b9 (.cells (stkC c a s (pN 400)) 30 (0, 0)), IN s a c (pN 400) (oneM (1, Wn)) (oneM (1, trB Wn O)) (0 + (has O - has Wn.length) + 4) true] ++ F) (fun y => y.2.1 = O ∨ (L ≤ y.2.1 ∧ y.2.1 ≤ O)) ?_ ?_
                      · by_cases hcut : O < L
                        · refine WC.condT rfl (congrArg Value.bool (by first | (simp; done) | (simp; omega) | omega)) ?_
                          refine WC.region ?_
                          refine WL.move ?_
                          refine WL.move ?_
                          refine WL.slcH ?_ so33
                          refine WL.cast (d := 155) (u := .slice (some ⟨bw, 0, none⟩) O L) rfl (by rw [Int.toNat_natCast]) ?_
                          refine WL.assign ?_
                          refine WL.nil ?_
                          have htc : trB Wn O = Wn.take O := trB_cut (by omega)
                          have htl : (bvs (trB Wn O)).length = O := by rw [bvs_length, trB_length]
                          refine WQ.to (A := buf bw 5 L (bvs Wn)) (A' := rowR 5 1 (.slice (some ⟨bw, 0, none⟩) O L) O (bvs (trB Wn O))) (fun h hh => by have h1 := buf_prefix O h hh; rw [← bvs_take, ← htc] at h1; have h2 := rowR_of_buf (by unfold maxLen; omega) h h1; rw [htl] at h2; exact h2) ?_
                          exact WQ.joined (some ⟨bw, 0, none⟩, O, L) (.inl rfl)
                        · refine WC.condF rfl (congrArg Value.bool (by first | (simp; done) | (simp; omega) | omega)) ?_
                          refine WC.skip ?_
                          have htl : (bvs Wn).length = L := by rw [bvs_length, hWl]
                          have hts : trB Wn L = Wn := by rw [← hWl]; exact trB_same Wn
                          refine WQ.to (A := buf bw 5 L (bvs Wn)) (A' := rowR 5 1 (.slice (some ⟨bw, 0, none⟩) L L) L (bvs (trB Wn L))) (fun h hh => by have h2 := rowR_of_buf (by unfold maxLen; omega) h hh; rw [htl] at h2; rw [hts]; exact h2) ?_
                          exact WQ.joined (some ⟨bw, 0, none⟩, L, L) (.inr ⟨Nat.le_refl _, by show L ≤ O; omega⟩)
                      · rintro ⟨A1, l1, c1⟩ hy
                        simp only at hy
                        refine WQ.next ?_
                        refine WC.seq ?_
                        refine WC.block ?_
                        refine WC.loopA (σ := Option Addr × Nat × Nat) (fun y => [(0, .int .i64 (k : Int)), (1, .int .i64 (T : Int)), (2, .int .i64 (j : Int)), (3, .int .i64 (O : Int)), (9, .pointer (some ⟨b9, 0, none⟩)), (11, nI 1), (13, .slice y.1 y.2.1 y.2.2)]) (fun y => [rowR 5 1 (.slice y.1 y.2.1 y.2.2) y.2.1 (bvs (trB Wn y.2.1)), buf b_14 5 k (bvs X), buf b_15 5 j (bvs Y), pt b9 (.cells (stkC c a s (pN 400)) 30 (0, 0)), IN s a c (pN 400) (oneM (1, Wn)) (oneM (1, trB Wn O)) (0 + (has O - has Wn.length) + 4) true] ++ F) (fun y => y.2.1 = O ∨ (L ≤ y.2.1 ∧ y.2.1 ≤ O)) (fun y => O - y.2.1) (A1, l1, c1) hy ?_
                        rintro ⟨A3, l3, c3⟩ hz
                        simp only at hz
                        refine WC.seq ?_
                        refine WC.seq ?_
                        refine WC.region ?_
                        refine WL.move ?_
                        refine WL.lenS ?_ sl33
                        refine WL.move ?_
                        refine WL.lss ?_
                        refine WL.nil ?_
                        refine WQ.next ?_
                        refine WC.cond rfl (fun hb3 => ?_) (fun hb3 => ?_)
                        · have hlt : l3 < O := by have h : (l3 : Int) < (O : Int) := of_decide_eq_true hb3; omega
                          have hLl : L ≤ l3 := by omega
                          have hgr := trB_grow (old := Wn) (n := l3) (by omega)
                          refine WC.skip ?_
                          refine WQ.next ?_
                          refine WC.block ?_
                          refine WC.region ?_
                          refine WL.move ?_
                          refine WL.buildS (fun b161 => ?_) (bs1B 0)
                          refine WL.append (m := 1) (news := bvs [0]) so33 (by decide) (by repeat (first | exact .here | apply Rem.there | apply Repl.there | apply Mem.there)) (Reads.pt (cs := (bvs [0]).toArray)) (by repeat (first | exact .here | apply Rem.there | apply Repl.there | apply Mem.there)) rfl (bvs_single _) (by show l3 + 1 ≤ maxLen; unfold maxLen; omega) (by show (l3 + 1) * 1 ≤ 140737488355328; omega) ⟨_, z5, rfl⟩ (fun vB hvB => ?_)
                          refine WL.to (A := rowR 5 1 vB (l3 + 1) (bvs (trB Wn l3) ++ bvs [0])) (A' := rowR 5 1 vB (l3 + 1) (bvs (trB Wn (l3 + 1)))) (fun h hh => by rw [hgr, bvs_append]; exact hh) ?_
                          refine WL.fact (rowR_shape (el := 5) (size := 1) (v := vB) (k := l3 + 1) (xs := bvs (trB Wn (l3 + 1)))) (fun ⟨A2, c2, hv2, hR2, hk2, hc2, hl2⟩ => ?_)
                          subst hv2
                          refine WL.assign ?_
                          refine WL.nil ?_
                          refine WQ.blockNormal ?_
                          exact WQ.back (A2, l3 + 1, c2) (by show l3 + 1 = O ∨ (L ≤ l3 + 1 ∧ l3 + 1 ≤ O); omega) (by show O - (l3 + 1) < O - l3; omega)
                        · have hge3 : ¬ l3 < O := by have h : ¬ (l3 : Int) < (O : Int) := of_decide_eq_false hb3; omega
                          have hlO : l3 = O := by omega
                          subst hlO
                          refine WC.fact (rowR_shape (el := 5) (size := 1) (v := .slice A3 l3 c3) (k := l3) (xs := bvs (trB Wn l3))) (fun ⟨A4, c4, hv4, hR4, hk4, hc4, hl4⟩ => ?_)
                          injection hv4 with e1 e2 e3
                          subst e1
                          subst e3
                          have hgl : (trB Wn l3).length = l3 := trB_length _ _
                          refine WC.exit (WQ.thenExit (WQ.thenExit (WQ.blockExit (?_))))
                          refine WQ.next ?_
                          refine WC.seq ?_
                          refine WC.region ?_
                          refine WL.fa ?_ fo30_2
                          refine WL.ld ?_ sc26
                          refine WL.move ?_
                          refine WL.call (hc := Tryz.call23) (sp := nRead (F0 := oneM (1, Wn)) (F := oneM (1, trB Wn l3)) (i := 1) (at' := 0) (k := 70656) (f := (1, trB Wn l3)) ho (oneM_at _) (by decide) (by decide)) (h := ?_)
                          rintro _ _ ⟨u, rfl, rfl⟩
                          have hgot : ((trB Wn l3).drop 0).take 70656 = trB Wn l3 := by rw [List.drop_zero, List.take_of_length_le (by omega)]
                          simp only [hgot, hgl]
                          refine WL.fact (rowR_shape (el := 5) (size := 1) (v := u) (k := l3) (xs := bvs (trB Wn l3))) (fun ⟨A2, c2, hv2, hR2, hk2, hc2, hl2⟩ => ?_)
                          subst hv2
                          refine WL.move ?_
                          refine WL.extract ?_
                          refine WL.extract ?_
                          refine WL.assign ?_
                          refine WL.assign ?_
                          refine WL.nil ?_
                          refine WQ.next ?_
                          refine WC.seq ?_
                          refine WC.region ?_
                          refine WL.move ?_
                          refine WL.eqi ?_
                          refine WL.move ?_
                          refine WL.gT ?_
                          refine WL.move ?_
                          refine WL.gT ?_
                          refine WL.move ?_
                          refine WL.gT ?_
                          refine WL.call (hc := Tryz.call24) (sp := alikeBytes (R := rowR 5 1 (.slice A2 l3 c2) l3 (bvs (trB Wn l3))) (R' := rowR 5 1 (.slice A3 l3 c3) l3 (bvs (trB Wn l3))) (xs := trB Wn l3) (ys := trB Wn l3) (.inr hR2) (.inr hR4) hgl hgl (by omega)) (h := ?_)
                          rintro _ _ ⟨rfl, rfl⟩
                          refine WL.cast (d := 175) (u := .bool true) rfl (congrArg Value.bool (decide_eq_true rfl)) ?_
                          refine WL.pickT ?_
                          refine WL.move ?_
                          refine WL.gT ?_
                          refine WL.call (hc := Tryz.call15) (sp := l8Awake) (h := ?_)
                          rintro _ _ ⟨rfl, rfl⟩
                          refine WL.pickT ?_
                          refine WL.assign ?_
                          refine WL.nil ?_
                          refine WQ.next ?_
                          refine WC.ret (?_)
                          exact WQ.ret1 (h1 := .tmp (t := 8) rfl) ⟨_, ⟨rfl, rfl⟩, Am.auto⟩

end Go.Proofs.YtedmihapieleaaaGreat
