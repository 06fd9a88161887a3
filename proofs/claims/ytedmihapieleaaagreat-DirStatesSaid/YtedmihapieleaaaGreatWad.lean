/- Walks of bollardlaw8: fresh, awake. -/
import Derived.Test.YtedmihapieleaaaGreatFa
import Derived.Test.YtedmihapieleaaaGreatWab
import Derived.Test.YtedmihapieleaaaGreatWac
import Derived.KernelRfl
set_option linter.unusedVariables false
set_option linter.unusedSimpArgs false
namespace Go.Proofs.YtedmihapieleaaaGreat
open Go
theorem z30 : zeroOf Tryz.prog 30 = some (#[.pointer none, .pointer none, .pointer none, .int .i64 0, .int .i64 0, .int .i64 0, .int .i64 0, .int .i64 0, .int .i64 0, .int .i64 0]) := by kernel_rfl
theorem agg30 : aggOk Tryz.prog 30 10 = true := by kernel_rfl
theorem fo30_1 : fieldOk Tryz.prog 30 1 1 = true := by kernel_rfl
theorem fo30_2 : fieldOk Tryz.prog 30 2 2 = true := by kernel_rfl
theorem sc26 : scalarOk Tryz.prog 26 = true := by kernel_rfl

theorem bdStk (c a s : Nat) (v1 v2 v3 v4 v5 v6 v7 : Int) : BuildOk Tryz.prog 30 [(0, .pointer (some ⟨c, 0, none⟩)), (1, .pointer (some ⟨a, 0, none⟩)), (2, .pointer (some ⟨s, 0, none⟩)), (3, .agg #[.int .i64 v1, .int .i64 v2, .int .i64 v3, .int .i64 v4, .int .i64 v5, .int .i64 v6, .int .i64 v7])]
  #[.pointer (some ⟨c, 0, none⟩), .pointer (some ⟨a, 0, none⟩), .pointer (some ⟨s, 0, none⟩), .int .i64 v1, .int .i64 v2, .int .i64 v3, .int .i64 v4, .int .i64 v5, .int .i64 v6, .int .i64 v7] := fun w => by kernel_rfl
def stkC (c a s : Nat) (p : Pl) : Array Value := #[.pointer (some ⟨c, 0, none⟩), .pointer (some ⟨a, 0, none⟩), .pointer (some ⟨s, 0, none⟩), .int .i64 (p.n : Int), .int .i64 (p.ino : Int), .int .i64 (p.im : Int), .int .i64 (p.bm : Int), .int .i64 (p.tb : Int), .int .i64 (p.da : Int), .int .i64 (p.dc : Int)]
theorem statInts : intsOk Tryz.prog 55 2 = true := by kernel_rfl
/-- Sixteen inodes on so many blocks. -/
def pN (n : Nat) : Pl := ⟨n, 16, 246, 247, 248, 250, n - 250⟩
theorem pN_is {n : Nat} (h1 : 251 ≤ n) (h2 : n ≤ 4000) : PlIs (pN n) := by
  constructor <;> simp only [pN] <;> omega
/-- The root and one file, of number 1. -/
def oneM (f : Nat × Bytes) : FM := updM rootM 1 (some f)
theorem oneM_at (f : Nat × Bytes) : oneM f 1 = some f := rfl
theorem one_upd (f g : Nat × Bytes) : updM (oneM f) 1 (some g) = oneM g := FM_twice _ _ _ _
theorem one_drop (f : Nat × Bytes) : updM (oneM f) 1 none = rootM := by
  unfold oneM
  rw [FM_twice]
  funext j
  unfold updM rootM
  by_cases h : j = 1
  · subst h; rfl
  · rw [if_neg h]
theorem tot_one (f : Nat × Bytes) {n : Nat} (h : 2 ≤ n) : tot (oneM f) n = has f.2.length := by
  have h1 := tot_upd' rootM (show 1 < n by omega) (some f)
  have h2 : hasO (rootM 1) = 0 := rfl
  have h3 : hasO (some f) = has f.2.length := rfl
  rw [tot_root, h2, h3] at h1
  unfold oneM
  omega
theorem cntF_root {n : Nat} (h : 1 ≤ n) : cntF rootM n = 1 := by
  induction n with
  | zero => omega
  | succ n ih =>
    unfold cntF cntB at ih ⊢
    rw [List.range_succ, List.filter_append, List.length_append]
    by_cases h0 : n = 0
    · subst h0; rfl
    · rw [ih (by omega)]
      have : (rootM n).isSome = false := by unfold rootM; rw [if_neg h0]; rfl
      simp [this]
theorem cntF_one (f : Nat × Bytes) {n : Nat} (h : 2 ≤ n) : cntF (oneM f) n = 2 := by
  have h1 : cntF (oneM f) n = cntB (setF (fun i => (rootM i).isSome) 1 true) n := by
    unfold cntF
    congr 1
    funext i
    unfold oneM updM setF
    split <;> rfl
  have h2 := cntB_true (f := fun i => (rootM i).isSome) (b := 1) rfl n
  rw [if_pos (by omega)] at h2
  rw [h1, h2]
  have := cntF_root (show 1 ≤ n by omega)
  unfold cntF at this
  rw [this]
theorem root_one (j : Nat) (h : j < 1) : rootM j ≠ none := by
  have : j = 0 := by omega
  subst this
  intro hh
  cases hh
theorem wrB_nil (bs : Bytes) : wrB [] 0 bs = bs := by
  unfold wrB splice ext
  simp
theorem has_600 : has 600 = 2 := rfl

theorem l8Fresh {p : Pl} (h : PlIs p) : Spec Tryz.prog 16 #[.int .i64 (p.n : Int), .int .i64 (p.ino : Int)] [] fun F v M => ∃ c a s, v = .tuple #[.agg (stkC c a s p), .bool true] ∧ M = IN s a c p rootM rootM 0 true :: F := by
  refine Spec.intro Tryz.func16 rfl rfl fun B F => ?_
  simp only [Tryz.ntmps16, List.cons_append, List.nil_append, env0, Nat.reduceAdd]
  have hn2 := h.n2
  have h246 : 246 ≤ p.n := by have := h.bm; have := h.m1; have := h.da; have := h.dc; have := h.d1; omega
  have hfew := fmtB_few h
  refine WC.seq ?_
  refine WC.region ?_
  refine WL.alloc z30 fun b4 => ?_
  refine WL.assign ?_
  refine WL.nil ?_
  refine WQ.next ?_
  refine WC.seq ?_
  refine WC.region ?_
  refine WL.move ?_
  refine WL.move ?_
  refine WL.call (hc := Tryz.call40) (sp := layMake h) (h := ?_)
  rintro _ _ ⟨rfl, rfl⟩
  refine WL.move ?_
  refine WL.extract ?_
  refine WL.extract ?_
  refine WL.alloc z28 fun b6 => ?_
  refine WL.stV ?_ agg28
  refine WL.to (A := pt b6 (.cells p.cells 28 (0, 0))) (A' := pt b6 (.cells p.cells 28 (0, 0))) (fun h hh => hh) ?_
  refine WL.assign ?_
  refine WL.nil ?_
  refine WQ.next ?_
  refine WC.seq ?_
  refine WC.region ?_
  refine WL.move ?_
  refine WL.call (hc := Tryz.call41) (sp := devNew (n := p.n) (by omega) hn2) (h := ?_)
  rintro _ _ ⟨d, rfl, rfl⟩
  refine WL.move ?_
  refine WL.extract ?_
  refine WL.extract ?_
  refine WL.assign ?_
  refine WL.assign ?_
  refine WL.nil ?_
  refine WQ.next ?_
  refine WC.seq ?_
  refine WC.seq ?_
  refine WC.region ?_
  refine WL.move ?_
  refine WL.nei ?_
  refine WL.move ?_
  refine WL.gT ?_
  refine WL.move ?_
  refine WL.gT ?_
  refine WL.nei ?_
  refine WL.pickF ?_
  refine WL.move ?_
  refine WL.gT ?_
  refine WL.move ?_
  refine WL.gT ?_
  refine WL.eqNil ?_ ptr76
  refine WL.pickF ?_
  refine WL.move ?_
  refine WL.gT ?_
  refine WL.move ?_
  refine WL.gT ?_
  refine WL.call (hc := Tryz.call42) (sp := jFormat (n := p.n) (t := 0) (cur := zeroD) h246 (by decide)) (h := ?_)
  rintro _ _ ⟨rfl, rfl⟩
  refine WL.gT ?_
  refine WL.nei ?_
  refine WL.pickF ?_
  refine WL.nil ?_
  refine WQ.next ?_
  refine WC.condF rfl rfl ?_
  refine WC.skip ?_
  refine WQ.next ?_
  refine WC.seq ?_
  refine WC.region ?_
  refine WL.move ?_
  refine WL.call (hc := Tryz.call43) (sp := jOpen (n := p.n) (cur := formatted zeroD) h246 hn2 formatted0 (fun i _ => formattedH _ i)) (h := ?_)
  rintro _ _ ⟨j, rfl, rfl⟩
  refine WL.move ?_
  refine WL.extract ?_
  refine WL.extract ?_
  refine WL.assign ?_
  refine WL.assign ?_
  refine WL.nil ?_
  refine WQ.next ?_
  refine WC.seq ?_
  refine WC.region ?_
  refine WL.move ?_
  refine WL.call (hc := Tryz.call44) (sp := cNew (n := p.n) h246 hn2) (h := ?_)
  rintro _ _ ⟨c, rfl, rfl⟩
  refine WL.shutR (TR.opens c p.n zeroD zeroD [] false) (j, d, ⟨⟨beNat (seg (formatted zeroD 0) 8 8 false), 0, [], formatted zeroD⟩, [], false, false⟩) ⟨rfl, (fun k h1 h2 => formattedK (by omega)), (fun k h1 h2 => formattedK (by omega)), rfl⟩ ?_
  refine WL.assign ?_
  refine WL.nil ?_
  refine WQ.next ?_
  refine WC.seq ?_
  refine WC.region ?_
  refine WL.move ?_
  refine WL.ldA ?_ agg28
  refine WL.call (hc := Tryz.call45) (sp := alNew (p := p)) (h := ?_)
  rintro _ _ ⟨a, rfl, rfl⟩
  refine WL.assign ?_
  refine WL.nil ?_
  refine WQ.next ?_
  refine WC.seq ?_
  refine WC.region ?_
  refine WL.move ?_
  refine WL.move ?_
  refine WL.ldA ?_ agg28
  refine WL.call (hc := Tryz.call46) (sp := inNew (p := p)) (h := ?_)
  rintro _ _ ⟨s, rfl, rfl⟩
  refine WL.assign ?_
  refine WL.nil ?_
  refine WQ.next ?_
  refine WC.seq ?_
  refine WC.seq ?_
  refine WC.region ?_
  refine WL.move ?_
  refine WL.nei ?_
  refine WL.move ?_
  refine WL.gT ?_
  refine WL.move ?_
  refine WL.gT ?_
  refine WL.eqNil ?_ ptr24
  refine WL.pickF ?_
  refine WL.move ?_
  refine WL.gT ?_
  refine WL.move ?_
  refine WL.gT ?_
  refine WL.eqNil ?_ ptr25
  refine WL.pickF ?_
  refine WL.move ?_
  refine WL.gT ?_
  refine WL.move ?_
  refine WL.gT ?_
  refine WL.eqNil ?_ ptr26
  refine WL.pickF ?_
  refine WL.move ?_
  refine WL.gT ?_
  refine WL.move ?_
  refine WL.gT ?_
  refine WL.call (hc := Tryz.call22) (sp := tBegin (n := p.n) (V0 := zeroD) (V := zeroD) (D := [])) (h := ?_)
  rintro _ _ ⟨rfl, rfl⟩
  refine WL.gT ?_
  refine WL.nei ?_
  refine WL.pickF ?_
  refine WL.move ?_
  refine WL.gT ?_
  refine WL.move ?_
  refine WL.gT ?_
  refine WL.call (hc := Tryz.call47) (sp := alFormat (V0 := zeroD) (V := zeroD) h.ok) (h := ?_)
  rintro _ _ ⟨rfl, rfl⟩
  simp only [List.cons_append, List.nil_append]
  refine WL.gT ?_
  refine WL.nei ?_
  refine WL.pickF ?_
  refine WL.move ?_
  refine WL.gT ?_
  refine WL.move ?_
  refine WL.gT ?_
  refine WL.call (hc := Tryz.call48) (sp := inFormat (V0 := zeroD) (V := freshV p) (D := fmtB p []) h.ok (by unfold Room; omega)) (h := ?_)
  rintro _ _ ⟨rfl, rfl⟩
  simp only [List.cons_append, List.nil_append]
  refine WL.gT ?_
  refine WL.nei ?_
  refine WL.pickF ?_
  refine WL.move ?_
  refine WL.gT ?_
  refine WL.move ?_
  refine WL.gT ?_
  refine WL.call (hc := Tryz.call21) (sp := tCommit (n := p.n) (V0 := zeroD) (V := freshW p) (D := insD (fmtB p []) (p.tb + 0 / 8))) (h := ?_)
  rintro _ _ ⟨rfl, rfl⟩
  refine WL.gT ?_
  refine WL.nei ?_
  refine WL.pickF ?_
  refine WL.nil ?_
  refine WQ.next ?_
  refine WC.condF rfl rfl ?_
  refine WC.skip ?_
  refine WQ.next ?_
  refine WC.seq ?_
  refine WC.draw ([pt b6 (.cells p.cells 28 (0, 0))]) [] 10 #[false, false, false, false, false, false, false, false, false, false] mixed (by kernel_rfl) NoPanic.autoJ ?_
  refine WD.take (i := 0) #[true, false, false, false, false, false, false, false, false, false] rfl (by kernel_rfl) (Qt.move ) ?_
  refine WD.take (i := 1) #[true, true, false, false, false, false, false, false, false, false] rfl (by kernel_rfl) (Qt.move ) ?_
  refine WD.take (i := 2) #[true, true, true, false, false, false, false, false, false, false] rfl (by kernel_rfl) (Qt.move ) ?_
  refine WD.take (i := 3) #[true, true, true, true, false, false, false, false, false, false] rfl (by kernel_rfl) (Qt.ldA agg28) ?_
  refine WD.take (i := 4) #[true, true, true, true, true, false, false, false, false, false] rfl (by kernel_rfl) (Qt.build (bdStk _ _ _ _ _ _ _ _ _ _)) ?_
  refine WD.take (i := 5) #[true, true, true, true, true, true, false, false, false, false] rfl (by kernel_rfl) (Qt.move ) ?_
  refine WD.one (i := 6) #[true, true, true, true, true, true, true, false, false, false] rfl (by kernel_rfl) fun hnp => ?_
  refine WL.call (hc := Tryz.call22) (sp := tBegin (n := p.n) (V0 := freshW p) (V := freshW p) (D := [])) (h := ?_)
  rintro _ _ ⟨rfl, rfl⟩
  refine WL.shutR (IN.opens s a c p rootM rootM 0 true) (freshW p, freshW p, []) ⟨fresh_rep h, fresh_rep h, Dk.nil p, Nat.zero_le _⟩ ?_
  refine WL.nil (WQ.wd hnp (.inl Am.auto) ?_)
  refine WD.take (i := 7) #[true, true, true, true, true, true, true, true, false, false] rfl (by kernel_rfl) (Qt.eqi ) ?_
  refine WD.one (i := 8) #[true, true, true, true, true, true, true, true, true, false] rfl (by kernel_rfl) fun hnp => ?_
  refine WL.stV ?_ agg30
  refine WL.nil (WQ.wd hnp (.inl Am.auto) ?_)
  refine WD.take (i := 9) #[true, true, true, true, true, true, true, true, true, true] rfl (by kernel_rfl) (Qt.assign ) ?_
  refine WD.done (by kernel_rfl) ?_
  refine WQ.next ?_
  refine WC.ret (?_)
  exact WQ.ret2 (h2 := .tmp (t := 5) rfl) ⟨_, ⟨c, a, s, rfl, rfl⟩, Am.auto⟩

theorem l8Awake : Spec Tryz.prog 15 #[] [] fun F v M => v = .bool true ∧ M = F := by
  refine Spec.intro Tryz.func15 rfl rfl fun B F => ?_
  simp only [Tryz.ntmps15, List.cons_append, List.nil_append, env0, Nat.reduceAdd]
  have hpn : PlIs (pN 300) := pN_is (by decide) (by decide)
  have ho : PlOk (pN 300) := hpn.ok
  have ht0 : tot rootM (pN 300).ino = 0 := tot_root _
  have ht1 : tot (oneM (1, someB 600 3)) (pN 300).ino = 2 := by rw [tot_one _ (by decide), someB_length, has_600]
  have hdc : (pN 300).dc = 50 := rfl
  refine WC.seq ?_
  refine WC.region ?_
  refine WL.assign ?_
  refine WL.nil ?_
  refine WQ.next ?_
  refine WC.seq ?_
  refine WC.region ?_
  refine WL.call (hc := Tryz.call16) (sp := l8Fresh (pN_is (n := 300) (by decide) (by decide))) (h := ?_)
  rintro _ _ ⟨c, a, s, rfl, rfl⟩
  refine WL.move ?_
  refine WL.extract ?_
  refine WL.extract ?_
  refine WL.alloc z30 fun b1 => ?_
  refine WL.stV ?_ agg30
  refine WL.assign ?_
  refine WL.nil ?_
  refine WQ.next ?_
  refine WC.seq ?_
  refine WC.seq ?_
  refine WC.region ?_
  refine WL.move ?_
  refine WL.not ?_
  refine WL.nil ?_
  refine WQ.next ?_
  refine WC.condF rfl rfl ?_
  refine WC.skip ?_
  refine WQ.next ?_
  refine WC.seq ?_
  refine WC.region ?_
  refine WL.fa ?_ fo30_1
  refine WL.ld ?_ sc25
  refine WL.call (hc := Tryz.call25) (sp := nFree (F0 := rootM) (F := rootM) (W := 0) (op := true) ho) (h := ?_)
  rintro _ _ ⟨rfl, rfl⟩
  refine WL.move ?_
  refine WL.extract ?_
  refine WL.extract ?_
  refine WL.assign ?_
  refine WL.assign ?_
  refine WL.nil ?_
  refine WQ.next ?_
  refine WC.seq ?_
  refine WC.region ?_
  refine WL.fa ?_ fo30_2
  refine WL.ld ?_ sc26
  refine WL.call (hc := Tryz.call17) (sp := nMake (F0 := rootM) (F := rootM) (W := 0) (i := 1) (k := 1) ho (.inl rfl) (.inl (by decide)) (by decide) rfl root_one) (h := ?_)
  rintro _ _ ⟨rfl, rfl⟩
  refine WL.move ?_
  refine WL.extract ?_
  refine WL.extract ?_
  refine WL.assign ?_
  refine WL.assign ?_
  refine WL.nil ?_
  refine WQ.next ?_
  refine WC.seq ?_
  refine WC.seq ?_
  refine WC.draw ([pt b1 (.cells (stkC c a s (pN 300)) 30 (0, 0))]) [] 13 #[false, false, false, false, false, false, false, false, false, false, false, false, false] mixed (by kernel_rfl) NoPanic.autoJ ?_
  refine WD.take (i := 0) #[true, false, false, false, false, false, false, false, false, false, false, false, false] rfl (by kernel_rfl) (Qt.move ) ?_
  refine WD.take (i := 1) #[true, true, false, false, false, false, false, false, false, false, false, false, false] rfl (by kernel_rfl) (Qt.nei ) ?_
  refine WD.take (i := 2) #[true, true, true, false, false, false, false, false, false, false, false, false, false] rfl (by kernel_rfl) (Qt.move ) ?_
  refine WD.takeOn (i := 3) #[true, true, true, true, false, false, false, false, false, false, false, false, false] rfl (by kernel_rfl) (Qt.move ) ?_
  refine WD.takeOn (i := 4) #[true, true, true, true, true, false, false, false, false, false, false, false, false] rfl (by kernel_rfl) (Qt.nei ) ?_
  refine WD.take (i := 5) #[true, true, true, true, true, true, false, false, false, false, false, false, false] rfl (by kernel_rfl) (Qt.pickF ) ?_
  refine WD.take (i := 6) #[true, true, true, true, true, true, true, false, false, false, false, false, false] rfl (by kernel_rfl) (Qt.move ) ?_
  refine WD.takeOn (i := 7) #[true, true, true, true, true, true, true, true, false, false, false, false, false] rfl (by kernel_rfl) (Qt.fa fo30_2) ?_
  refine WD.takeOn (i := 8) #[true, true, true, true, true, true, true, true, true, false, false, false, false] rfl (by kernel_rfl) (Qt.ld sc26) ?_
  refine WD.one (i := 9) #[true, true, true, true, true, true, true, true, true, true, false, false, false] rfl (by kernel_rfl) fun hnp => ?_
  refine WL.gT ?_
  refine WL.call (hc := Tryz.call19) (sp := alikeSome (n := 600) (c := 3) (by decide) (by decide)) (h := ?_)
  rintro _ _ ⟨bs, rfl, rfl⟩
  refine WL.nil (WQ.wd hnp (.inl Am.auto) ?_)
  refine WD.one (i := 10) #[true, true, true, true, true, true, true, true, true, true, true, false, false] rfl (by kernel_rfl) fun hnp => ?_
  refine WL.gT ?_
  refine WL.call (hc := Tryz.call20) (sp := nWrite (F0 := rootM) (F := oneM (1, [])) (W := 1) (i := 1) (at' := 0) (f := (1, [])) (bs := someB 600 3) ho (oneM_at _) (.inl (by decide)) (.inr Reads.buf) (someB_length _ _) (Nat.le_refl _) (by decide) (Nat.zero_le _) (by decide) (by rw [tot_one _ (by decide)]; decide)) (h := ?_)
  rintro _ _ ⟨rfl, rfl⟩
  rw [wrB_nil, one_upd]
  refine WL.nil (WQ.wd hnp (.inl Am.auto) ?_)
  refine WD.takeOn (i := 11) #[true, true, true, true, true, true, true, true, true, true, true, true, false] rfl (by kernel_rfl) (Qt.nei ) ?_
  refine WD.take (i := 12) #[true, true, true, true, true, true, true, true, true, true, true, true, true] rfl (by kernel_rfl) (Qt.pickF ) ?_
  refine WD.done (by kernel_rfl) ?_
  refine WQ.next ?_
  refine WC.condF rfl rfl ?_
  refine WC.skip ?_
  refine WQ.next ?_
  refine WC.seq ?_
  refine WC.region ?_
  refine WL.fa ?_ fo30_1
  refine WL.ld ?_ sc25
  refine WL.call (hc := Tryz.call25) (sp := nFree (F0 := rootM) (F := (oneM (1, someB 600 3))) (W := _) (op := true) ho) (h := ?_)
  rintro _ _ ⟨rfl, rfl⟩
  refine WL.move ?_
  refine WL.extract ?_
  refine WL.extract ?_
  refine WL.assign ?_
  refine WL.assign ?_
  refine WL.nil ?_
  refine WQ.next ?_
  refine WC.seq ?_
  refine WC.region ?_
  refine WL.fa ?_ fo30_2
  refine WL.ld ?_ sc26
  refine WL.call (hc := Tryz.call29) (sp := nStat (F0 := rootM) (F := oneM (1, someB 600 3)) (i := 1) (f := (1, someB 600 3)) ho (oneM_at _)) (h := ?_)
  rintro _ _ ⟨rfl, rfl⟩
  refine WL.move ?_
  refine WL.extract ?_
  refine WL.extract ?_
  refine WL.alloc z55 fun b9 => ?_
  refine WL.stV ?_ agg55
  refine WL.assign ?_
  refine WL.nil ?_
  refine WQ.next ?_
  refine WC.seq ?_
  refine WC.region ?_
  refine WL.move ?_
  refine WL.eqi ?_
  refine WL.move ?_
  refine WL.gT ?_
  refine WL.ldA ?_ agg55
  refine WL.cast (d := 57) (u := .agg (ints [1, 600]).toArray) rfl (by rw [someB_length]; rfl) ?_
  refine WL.gT ?_
  refine WL.build ?_ (bdStat _ _)
  refine WL.gT ?_
  refine WL.eqStr (m := 2) (xs := [1, 600]) (ys := [1, 600]) ?_ statInts
  refine WL.pickT ?_
  refine WL.move ?_
  refine WL.gT ?_
  refine WL.move ?_
  refine WL.gT ?_
  refine WL.move ?_
  refine WL.gT ?_
  refine WL.sub ?_
  refine WL.cast (d := 64) (u := .int .i64 2) rfl (congrArg (Value.int .i64) (by omega)) ?_
  refine WL.gT ?_
  refine WL.eqi ?_
  refine WL.pickT ?_
  refine WL.assign ?_
  refine WL.nil ?_
  refine WQ.next ?_
  refine WC.ret (?_)
  exact WQ.ret1 (h1 := .tmp (t := 0) rfl) ⟨_, ⟨rfl, rfl⟩, Am.auto⟩

end Go.Proofs.YtedmihapieleaaaGreat
