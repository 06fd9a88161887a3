/- Walks of package alloc without a transaction, and of AllocStates. -/
import Derived.Test.YtfmkhhdohfagkaaFa
import Derived.Test.YtfmkhhdohfagkaaWr
import Derived.KernelRfl
set_option linter.unusedVariables false
set_option linter.unusedSimpArgs false
namespace Go.Proofs.Ytfmkhhdohfagkaa
open Go
theorem alTake0 {a c n first many : Nat} {p : Pl} {V0 V : Nat → Bytes} {D : List Nat} : Spec Try.prog 25 #[.pointer (some ⟨a, 0, none⟩), areaV first many] [pt a (alO c p), TR c n V0 V D false] fun F v M => v = .tuple #[.int .i64 0, .int .i64 8] ∧ M = [pt a (alO c p), TR c n V0 V D false] ++ F := by
  refine Spec.intro Try.func25 rfl rfl fun B F => ?_
  simp only [Try.ntmps25, List.cons_append, List.nil_append, env0, Nat.reduceAdd]
  refine WC.seq ?_
  refine WC.region ?_
  refine WL.box fun b2 => ?_
  refine WL.box fun b3 => ?_
  refine WL.alloc z3 fun b4 => ?_
  refine WL.alloc z31 fun b5 => ?_
  refine WL.nil ?_
  refine WQ.next ?_
  refine WC.seq ?_
  refine WC.seq ?_
  refine WC.region ?_
  refine WL.ld ?_ sc25
  refine WL.call (hc := Try.call51) (sp := alReady (n := n) (V0 := V0) (V := V) (D := D) (op := false)) (h := ?_)
  rintro _ _ ⟨rfl, rfl⟩
  refine WL.not ?_
  refine WL.nil ?_
  refine WQ.next ?_
  refine WC.condT rfl rfl ?_
  refine WC.seq ?_
  refine WC.region ?_
  refine WL.st ?_ sc3
  refine WL.st ?_ sc31
  refine WL.nil ?_
  refine WQ.next ?_
  refine WC.ret (WQ.thenRet (?_))
  exact WQ.ret2 ⟨_, ⟨rfl, rfl⟩, Am.auto⟩

theorem alGive0 {a c n first many : Nat} {p : Pl} {V0 V : Nat → Bytes} {D : List Nat} {k : Int} : Spec Try.prog 27 #[.pointer (some ⟨a, 0, none⟩), areaV first many, .int .i64 k] [pt a (alO c p), TR c n V0 V D false] fun F v M => v = .int .i64 8 ∧ M = [pt a (alO c p), TR c n V0 V D false] ++ F := by
  refine Spec.intro Try.func27 rfl rfl fun B F => ?_
  simp only [Try.ntmps27, List.cons_append, List.nil_append, env0, Nat.reduceAdd]
  refine WC.seq ?_
  refine WC.region ?_
  refine WL.box fun b4 => ?_
  refine WL.assign ?_
  refine WL.nil ?_
  refine WQ.next ?_
  refine WC.seq ?_
  refine WC.seq ?_
  refine WC.region ?_
  refine WL.move ?_
  refine WL.call (hc := Try.call51) (sp := alReady (n := n) (V0 := V0) (V := V) (D := D) (op := false)) (h := ?_)
  rintro _ _ ⟨rfl, rfl⟩
  refine WL.not ?_
  refine WL.nil ?_
  refine WQ.next ?_
  refine WC.condT rfl rfl ?_
  refine WC.seq ?_
  refine WC.region ?_
  refine WL.assign ?_
  refine WL.nil ?_
  refine WQ.next ?_
  refine WC.ret (WQ.thenRet (?_))
  exact WQ.ret1 (h1 := .tmp (t := 6) rfl) ⟨_, ⟨rfl, rfl⟩, Am.auto⟩

theorem alTakeBlock0 {a c n : Nat} {p : Pl} {V0 V : Nat → Bytes} {D : List Nat} : Spec Try.prog 9 #[.pointer (some ⟨a, 0, none⟩)] [pt a (alO c p), TR c n V0 V D false] fun F v M => v = .tuple #[.int .i64 0, .int .i64 8] ∧ M = [pt a (alO c p), TR c n V0 V D false] ++ F := by
  refine Spec.intro Try.func9 rfl rfl fun B F => ?_
  simp only [Try.ntmps9, List.cons_append, List.nil_append, env0, Nat.reduceAdd]
  refine WC.seq ?_
  refine WC.region ?_
  refine WL.assign ?_
  refine WL.assign ?_
  refine WL.nil ?_
  refine WQ.next ?_
  refine WC.seq ?_
  refine WC.seq ?_
  refine WC.region ?_
  refine WL.move ?_
  refine WL.eqNil ?_ ptr25
  refine WL.nil ?_
  refine WQ.next ?_
  refine WC.condF rfl rfl ?_
  refine WC.skip ?_
  refine WQ.next ?_
  refine WC.seq ?_
  refine WC.region ?_
  refine WL.move ?_
  refine WL.move ?_
  refine WL.call (hc := Try.call26) (sp := alBlocks) (h := ?_)
  rintro _ _ ⟨rfl, rfl⟩
  refine WL.call (hc := Try.call25) (sp := alTake0 (n := n) (V0 := V0) (V := V) (D := D)) (h := ?_)
  rintro _ _ ⟨rfl, rfl⟩
  simp only [List.cons_append, List.nil_append]
  refine WL.move ?_
  refine WL.extract ?_
  refine WL.extract ?_
  refine WL.assign ?_
  refine WL.assign ?_
  refine WL.nil ?_
  refine WQ.next ?_
  refine WC.seq ?_
  refine WC.seq ?_
  refine WC.region ?_
  refine WL.move ?_
  refine WL.nei ?_
  refine WL.nil ?_
  refine WQ.next ?_
  refine WC.condT rfl rfl ?_
  refine WC.seq ?_
  refine WC.region ?_
  refine WL.move ?_
  refine WL.assign ?_
  refine WL.assign ?_
  refine WL.nil ?_
  refine WQ.next ?_
  refine WC.ret (WQ.thenRet (?_))
  exact WQ.ret2 (h1 := .tmp (t := 2) rfl) (h2 := .tmp (t := 3) rfl) ⟨_, ⟨rfl, rfl⟩, Am.auto⟩

theorem alTakeInode0 {a c n : Nat} {p : Pl} {V0 V : Nat → Bytes} {D : List Nat} : Spec Try.prog 16 #[.pointer (some ⟨a, 0, none⟩)] [pt a (alO c p), TR c n V0 V D false] fun F v M => v = .tuple #[.int .i64 0, .int .i64 8] ∧ M = [pt a (alO c p), TR c n V0 V D false] ++ F := by
  refine Spec.intro Try.func16 rfl rfl fun B F => ?_
  simp only [Try.ntmps16, List.cons_append, List.nil_append, env0, Nat.reduceAdd]
  refine WC.seq ?_
  refine WC.region ?_
  refine WL.assign ?_
  refine WL.assign ?_
  refine WL.nil ?_
  refine WQ.next ?_
  refine WC.seq ?_
  refine WC.seq ?_
  refine WC.region ?_
  refine WL.move ?_
  refine WL.eqNil ?_ ptr25
  refine WL.nil ?_
  refine WQ.next ?_
  refine WC.condF rfl rfl ?_
  refine WC.skip ?_
  refine WQ.next ?_
  refine WC.seq ?_
  refine WC.region ?_
  refine WL.move ?_
  refine WL.move ?_
  refine WL.call (hc := Try.call29) (sp := alInodes) (h := ?_)
  rintro _ _ ⟨rfl, rfl⟩
  refine WL.call (hc := Try.call25) (sp := alTake0 (n := n) (V0 := V0) (V := V) (D := D)) (h := ?_)
  rintro _ _ ⟨rfl, rfl⟩
  simp only [List.cons_append, List.nil_append]
  refine WL.extract ?_
  refine WL.extract ?_
  refine WL.assign ?_
  refine WL.assign ?_
  refine WL.nil ?_
  refine WQ.next ?_
  refine WC.ret (?_)
  exact WQ.ret2 (h1 := .tmp (t := 2) rfl) (h2 := .tmp (t := 3) rfl) ⟨_, ⟨rfl, rfl⟩, Am.auto⟩

theorem alGiveBlock0 {a c n : Nat} {p : Pl} {V0 V : Nat → Bytes} {D : List Nat} {k : Int} (hk : -9223372036854775808 ≤ k ∧ k ≤ 9223372036854775807) (hda : p.da ≤ 65536) : Spec Try.prog 10 #[.pointer (some ⟨a, 0, none⟩), .int .i64 k] [pt a (alO c p), TR c n V0 V D false] fun F v M => v = .int .i64 8 ∧ M = [pt a (alO c p), TR c n V0 V D false] ++ F := by
  refine Spec.intro Try.func10 rfl rfl fun B F => ?_
  simp only [Try.ntmps10, List.cons_append, List.nil_append, env0, Nat.reduceAdd]
  by_cases hlow : k < p.da
  · refine WC.seq ?_
    refine WC.region ?_
    refine WL.assign ?_
    refine WL.nil ?_
    refine WQ.next ?_
    refine WC.seq ?_
    refine WC.seq ?_
    refine WC.region ?_
    refine WL.move ?_
    refine WL.eqNil ?_ ptr25
    refine WL.nil ?_
    refine WQ.next ?_
    refine WC.condF rfl rfl ?_
    refine WC.skip ?_
    refine WQ.next ?_
    refine WC.seq ?_
    refine WC.seq ?_
    refine WC.region ?_
    refine WL.move ?_
    refine WL.move ?_
    refine WL.nilCheck ?_
    refine WL.fa ?_ fo59_1
    refine WL.fa ?_ fo27_5
    refine WL.ld ?_ sc3
    refine WL.lss ?_
    refine WL.nil ?_
    refine WQ.next ?_
    refine WC.condT rfl (congrArg Value.bool (by first | (simp; done) | (simp; omega) | omega)) ?_
    refine WC.region ?_
    refine WL.move ?_
    refine WL.nilCheck ?_
    refine WL.fa ?_ fo59_1
    refine WL.fa ?_ fo27_5
    refine WL.ld ?_ sc3
    refine WL.sub ?_
    refine WL.assign ?_
    refine WL.nil ?_
    refine WQ.next ?_
    refine WC.seq ?_
    refine WC.draw ([pt a (alO c p)]) [] 12 #[false, false, false, false, false, false, false, false, false, false, false, false] mixed (by kernel_rfl) NoPanic.autoJ ?_
    refine WD.take (i := 0) #[true, false, false, false, false, false, false, false, false, false, false, false] rfl (by kernel_rfl) (Qt.move ) ?_
    refine WD.take (i := 1) #[true, true, false, false, false, false, false, false, false, false, false, false] rfl (by kernel_rfl) (Qt.move ) ?_
    refine WD.take (i := 3) #[true, true, false, true, false, false, false, false, false, false, false, false] rfl (by kernel_rfl) (Qt.move ) ?_
    refine WD.take (i := 4) #[true, true, false, true, true, false, false, false, false, false, false, false] rfl (by kernel_rfl) (Qt.move ) ?_
    refine WD.take (i := 5) #[true, true, false, true, true, true, false, false, false, false, false, false] rfl (by kernel_rfl) (Qt.nilCheck ) ?_
    refine WD.take (i := 6) #[true, true, false, true, true, true, true, false, false, false, false, false] rfl (by kernel_rfl) (Qt.fa fo59_1) ?_
    refine WD.take (i := 7) #[true, true, false, true, true, true, true, true, false, false, false, false] rfl (by kernel_rfl) (Qt.fa fo27_5) ?_
    refine WD.take (i := 8) #[true, true, false, true, true, true, true, true, true, false, false, false] rfl (by kernel_rfl) (Qt.ld sc3) ?_
    refine WD.take (i := 9) #[true, true, false, true, true, true, true, true, true, true, false, false] rfl (by kernel_rfl) (Qt.sub ) ?_
    refine WD.one (i := 2) #[true, true, true, true, true, true, true, true, true, true, false, false] rfl (by kernel_rfl) fun hnp => ?_
    refine WL.call (hc := Try.call26) (sp := alBlocks) (h := ?_)
    rintro _ _ ⟨rfl, rfl⟩
    refine WL.nil (WQ.wd hnp (.inl Am.auto) ?_)
    refine WD.one (i := 10) #[true, true, true, true, true, true, true, true, true, true, true, false] rfl (by kernel_rfl) fun hnp => ?_
    refine WL.call (hc := Try.call27) (sp := alGive0 (n := n) (V0 := V0) (V := V) (D := D)) (h := ?_)
    rintro _ _ ⟨rfl, rfl⟩
    simp only [List.cons_append, List.nil_append]
    refine WL.nil (WQ.wd hnp (.inl Am.auto) ?_)
    refine WD.take (i := 11) #[true, true, true, true, true, true, true, true, true, true, true, true] rfl (by kernel_rfl) (Qt.assign ) ?_
    refine WD.done (by kernel_rfl) ?_
    refine WQ.next ?_
    refine WC.ret (?_)
    exact WQ.ret1 (h1 := .tmp (t := 4) rfl) ⟨_, ⟨rfl, rfl⟩, Am.auto⟩
  · refine WC.seq ?_
    refine WC.region ?_
    refine WL.assign ?_
    refine WL.nil ?_
    refine WQ.next ?_
    refine WC.seq ?_
    refine WC.seq ?_
    refine WC.region ?_
    refine WL.move ?_
    refine WL.eqNil ?_ ptr25
    refine WL.nil ?_
    refine WQ.next ?_
    refine WC.condF rfl rfl ?_
    refine WC.skip ?_
    refine WQ.next ?_
    refine WC.seq ?_
    refine WC.seq ?_
    refine WC.region ?_
    refine WL.move ?_
    refine WL.move ?_
    refine WL.nilCheck ?_
    refine WL.fa ?_ fo59_1
    refine WL.fa ?_ fo27_5
    refine WL.ld ?_ sc3
    refine WL.lss ?_
    refine WL.nil ?_
    refine WQ.next ?_
    refine WC.condF rfl (congrArg Value.bool (by first | (simp; done) | (simp; omega) | omega)) ?_
    refine WC.skip ?_
    refine WQ.next ?_
    refine WC.seq ?_
    refine WC.draw ([pt a (alO c p)]) [] 12 #[false, false, false, false, false, false, false, false, false, false, false, false] mixed (by kernel_rfl) NoPanic.autoJ ?_
    refine WD.take (i := 0) #[true, false, false, false, false, false, false, false, false, false, false, false] rfl (by kernel_rfl) (Qt.move ) ?_
    refine WD.take (i := 1) #[true, true, false, false, false, false, false, false, false, false, false, false] rfl (by kernel_rfl) (Qt.move ) ?_
    refine WD.take (i := 3) #[true, true, false, true, false, false, false, false, false, false, false, false] rfl (by kernel_rfl) (Qt.move ) ?_
    refine WD.take (i := 4) #[true, true, false, true, true, false, false, false, false, false, false, false] rfl (by kernel_rfl) (Qt.move ) ?_
    refine WD.take (i := 5) #[true, true, false, true, true, true, false, false, false, false, false, false] rfl (by kernel_rfl) (Qt.nilCheck ) ?_
    refine WD.take (i := 6) #[true, true, false, true, true, true, true, false, false, false, false, false] rfl (by kernel_rfl) (Qt.fa fo59_1) ?_
    refine WD.take (i := 7) #[true, true, false, true, true, true, true, true, false, false, false, false] rfl (by kernel_rfl) (Qt.fa fo27_5) ?_
    refine WD.take (i := 8) #[true, true, false, true, true, true, true, true, true, false, false, false] rfl (by kernel_rfl) (Qt.ld sc3) ?_
    refine WD.take (i := 9) #[true, true, false, true, true, true, true, true, true, true, false, false] rfl (by kernel_rfl) (Qt.sub ) ?_
    refine WD.one (i := 2) #[true, true, true, true, true, true, true, true, true, true, false, false] rfl (by kernel_rfl) fun hnp => ?_
    refine WL.call (hc := Try.call26) (sp := alBlocks) (h := ?_)
    rintro _ _ ⟨rfl, rfl⟩
    refine WL.nil (WQ.wd hnp (.inl Am.auto) ?_)
    refine WD.one (i := 10) #[true, true, true, true, true, true, true, true, true, true, true, false] rfl (by kernel_rfl) fun hnp => ?_
    refine WL.call (hc := Try.call27) (sp := alGive0 (n := n) (V0 := V0) (V := V) (D := D)) (h := ?_)
    rintro _ _ ⟨rfl, rfl⟩
    simp only [List.cons_append, List.nil_append]
    refine WL.nil (WQ.wd hnp (.inl Am.auto) ?_)
    refine WD.take (i := 11) #[true, true, true, true, true, true, true, true, true, true, true, true] rfl (by kernel_rfl) (Qt.assign ) ?_
    refine WD.done (by kernel_rfl) ?_
    refine WQ.next ?_
    refine WC.ret (?_)
    exact WQ.ret1 (h1 := .tmp (t := 4) rfl) ⟨_, ⟨rfl, rfl⟩, Am.auto⟩

theorem alGiveInode0 {a c n : Nat} {p : Pl} {V0 V : Nat → Bytes} {D : List Nat} {k : Int} : Spec Try.prog 17 #[.pointer (some ⟨a, 0, none⟩), .int .i64 k] [pt a (alO c p), TR c n V0 V D false] fun F v M => v = .int .i64 8 ∧ M = [pt a (alO c p), TR c n V0 V D false] ++ F := by
  refine Spec.intro Try.func17 rfl rfl fun B F => ?_
  simp only [Try.ntmps17, List.cons_append, List.nil_append, env0, Nat.reduceAdd]
  by_cases hz : k = 0
  · refine WC.seq ?_
    refine WC.region ?_
    refine WL.assign ?_
    refine WL.nil ?_
    refine WQ.next ?_
    refine WC.seq ?_
    refine WC.seq ?_
    refine WC.region ?_
    refine WL.move ?_
    refine WL.eqNil ?_ ptr25
    refine WL.nil ?_
    refine WQ.next ?_
    refine WC.condF rfl rfl ?_
    refine WC.skip ?_
    refine WQ.next ?_
    refine WC.seq ?_
    refine WC.seq ?_
    refine WC.region ?_
    refine WL.move ?_
    refine WL.eqi ?_
    refine WL.nil ?_
    refine WQ.next ?_
    refine WC.condT rfl (congrArg Value.bool (by first | (simp; done) | (simp; omega) | omega)) ?_
    refine WC.region ?_
    refine WL.assign ?_
    refine WL.nil ?_
    refine WQ.next ?_
    refine WC.seq ?_
    refine WC.region ?_
    refine WL.move ?_
    refine WL.move ?_
    refine WL.call (hc := Try.call29) (sp := alInodes) (h := ?_)
    rintro _ _ ⟨rfl, rfl⟩
    refine WL.move ?_
    refine WL.call (hc := Try.call27) (sp := alGive0 (n := n) (V0 := V0) (V := V) (D := D)) (h := ?_)
    rintro _ _ ⟨rfl, rfl⟩
    simp only [List.cons_append, List.nil_append]
    refine WL.assign ?_
    refine WL.nil ?_
    refine WQ.next ?_
    refine WC.ret (?_)
    exact WQ.ret1 (h1 := .tmp (t := 4) rfl) ⟨_, ⟨rfl, rfl⟩, Am.auto⟩
  · refine WC.seq ?_
    refine WC.region ?_
    refine WL.assign ?_
    refine WL.nil ?_
    refine WQ.next ?_
    refine WC.seq ?_
    refine WC.seq ?_
    refine WC.region ?_
    refine WL.move ?_
    refine WL.eqNil ?_ ptr25
    refine WL.nil ?_
    refine WQ.next ?_
    refine WC.condF rfl rfl ?_
    refine WC.skip ?_
    refine WQ.next ?_
    refine WC.seq ?_
    refine WC.seq ?_
    refine WC.region ?_
    refine WL.move ?_
    refine WL.eqi ?_
    refine WL.nil ?_
    refine WQ.next ?_
    refine WC.condF rfl (congrArg Value.bool (by first | (simp; done) | (simp; omega) | omega)) ?_
    refine WC.skip ?_
    refine WQ.next ?_
    refine WC.seq ?_
    refine WC.region ?_
    refine WL.move ?_
    refine WL.move ?_
    refine WL.call (hc := Try.call29) (sp := alInodes) (h := ?_)
    rintro _ _ ⟨rfl, rfl⟩
    refine WL.move ?_
    refine WL.call (hc := Try.call27) (sp := alGive0 (n := n) (V0 := V0) (V := V) (D := D)) (h := ?_)
    rintro _ _ ⟨rfl, rfl⟩
    simp only [List.cons_append, List.nil_append]
    refine WL.assign ?_
    refine WL.nil ?_
    refine WQ.next ?_
    refine WC.ret (?_)
    exact WQ.ret1 (h1 := .tmp (t := 4) rfl) ⟨_, ⟨rfl, rfl⟩, Am.auto⟩

theorem alTakeNil : Spec Try.prog 9 #[.pointer none] [] fun F v M => v = .tuple #[.int .i64 0, .int .i64 8] ∧ M = F := by
  refine Spec.intro Try.func9 rfl rfl fun B F => ?_
  simp only [Try.ntmps9, List.cons_append, List.nil_append, env0, Nat.reduceAdd]
  refine WC.seq ?_
  refine WC.region ?_
  refine WL.assign ?_
  refine WL.assign ?_
  refine WL.nil ?_
  refine WQ.next ?_
  refine WC.seq ?_
  refine WC.seq ?_
  refine WC.region ?_
  refine WL.move ?_
  refine WL.eqNil ?_ ptr25
  refine WL.nil ?_
  refine WQ.next ?_
  refine WC.condT rfl rfl ?_
  refine WC.seq ?_
  refine WC.region ?_
  refine WL.assign ?_
  refine WL.assign ?_
  refine WL.nil ?_
  refine WQ.next ?_
  refine WC.ret (WQ.thenRet (?_))
  exact WQ.ret2 (h1 := .tmp (t := 2) rfl) (h2 := .tmp (t := 3) rfl) ⟨_, ⟨rfl, rfl⟩, Am.auto⟩

theorem alFreeNil : Spec Try.prog 12 #[.pointer none] [] fun F v M => v = .tuple #[.int .i64 0, .int .i64 0] ∧ M = F := by
  refine Spec.intro Try.func12 rfl rfl fun B F => ?_
  simp only [Try.ntmps12, List.cons_append, List.nil_append, env0, Nat.reduceAdd]
  refine WC.seq ?_
  refine WC.region ?_
  refine WL.assign ?_
  refine WL.assign ?_
  refine WL.nil ?_
  refine WQ.next ?_
  refine WC.seq ?_
  refine WC.seq ?_
  refine WC.region ?_
  refine WL.move ?_
  refine WL.eqNil ?_ ptr25
  refine WL.nil ?_
  refine WQ.next ?_
  refine WC.condT rfl rfl ?_
  refine WC.seq ?_
  refine WC.region ?_
  refine WL.assign ?_
  refine WL.assign ?_
  refine WL.nil ?_
  refine WQ.next ?_
  refine WC.ret (WQ.thenRet (?_))
  exact WQ.ret2 (h1 := .tmp (t := 2) rfl) (h2 := .tmp (t := 3) rfl) ⟨_, ⟨rfl, rfl⟩, Am.auto⟩


variable {a c : Nat} {p : Pl} {bk0 ik0 bk ik : Nat → Bool} {op : Bool}

theorem aTakeBlock0  : Spec Try.prog 9 #[.pointer (some ⟨a, 0, none⟩)] [AL a c p bk0 ik0 bk ik false] fun F v M => v = .tuple #[.int .i64 0, .int .i64 8] ∧ M = AL a c p bk0 ik0 bk ik false :: F := by
  refine Spec.opens (AL.opens a c p bk0 ik0 bk ik false) fun y hy => (alTakeBlock0 (a := a) (c := c) (n := p.n) (p := p) (V0 := y.1) (V := y.2.1) (D := y.2.2)).post ?_
  rintro F v M ⟨rfl, rfl⟩
  exact ⟨_, ⟨rfl, rfl⟩, Wk.shutR (M := F) (AL.opens a c p bk0 ik0 bk ik false) y hy⟩

theorem aTakeInode0  : Spec Try.prog 16 #[.pointer (some ⟨a, 0, none⟩)] [AL a c p bk0 ik0 bk ik false] fun F v M => v = .tuple #[.int .i64 0, .int .i64 8] ∧ M = AL a c p bk0 ik0 bk ik false :: F := by
  refine Spec.opens (AL.opens a c p bk0 ik0 bk ik false) fun y hy => (alTakeInode0 (a := a) (c := c) (n := p.n) (p := p) (V0 := y.1) (V := y.2.1) (D := y.2.2)).post ?_
  rintro F v M ⟨rfl, rfl⟩
  exact ⟨_, ⟨rfl, rfl⟩, Wk.shutR (M := F) (AL.opens a c p bk0 ik0 bk ik false) y hy⟩

theorem aGiveBlock0 {k : Int} (hk : -9223372036854775808 ≤ k ∧ k ≤ 9223372036854775807) (hda : p.da ≤ 65536) : Spec Try.prog 10 #[.pointer (some ⟨a, 0, none⟩), .int .i64 k] [AL a c p bk0 ik0 bk ik false] fun F v M => v = .int .i64 8 ∧ M = AL a c p bk0 ik0 bk ik false :: F := by
  refine Spec.opens (AL.opens a c p bk0 ik0 bk ik false) fun y hy => (alGiveBlock0 (a := a) (c := c) (n := p.n) (p := p) (V0 := y.1) (V := y.2.1) (D := y.2.2) hk hda).post ?_
  rintro F v M ⟨rfl, rfl⟩
  exact ⟨_, ⟨rfl, rfl⟩, Wk.shutR (M := F) (AL.opens a c p bk0 ik0 bk ik false) y hy⟩

theorem aGiveInode0 {k : Int} : Spec Try.prog 17 #[.pointer (some ⟨a, 0, none⟩), .int .i64 k] [AL a c p bk0 ik0 bk ik false] fun F v M => v = .int .i64 8 ∧ M = AL a c p bk0 ik0 bk ik false :: F := by
  refine Spec.opens (AL.opens a c p bk0 ik0 bk ik false) fun y hy => (alGiveInode0 (a := a) (c := c) (n := p.n) (p := p) (V0 := y.1) (V := y.2.1) (D := y.2.2)).post ?_
  rintro F v M ⟨rfl, rfl⟩
  exact ⟨_, ⟨rfl, rfl⟩, Wk.shutR (M := F) (AL.opens a c p bk0 ik0 bk ik false) y hy⟩

theorem rootB_upto : rootB = upto 1 := by
  funext i
  unfold rootB upto
  congr 1
  rw [eq_iff_iff]
  constructor <;> intro h <;> omega

theorem lawStates {k : Int} (hk : -9223372036854775808 ≤ k ∧ k ≤ 9223372036854775807) : Spec Try.prog 6 #[.int .i64 k] [] fun F v M => v = .bool true ∧ M = F := by
  refine Spec.intro Try.func6 rfl rfl fun B F => ?_
  simp only [Try.ntmps6, List.cons_append, List.nil_append, env0, Nat.reduceAdd]
  have hc1 : ((p300.dc : Int) - cntB noneB p300.dc) = 50 := by rw [upto_zero, cntB_upto]; rfl
  have hc2 : ((p300.ino : Int) - cntB rootB p300.ino) = 15 := by rw [rootB_upto, cntB_upto]; rfl
  refine WC.seq ?_
  refine WC.region ?_
  refine WL.assign ?_
  refine WL.nil ?_
  refine WQ.next ?_
  refine WC.seq ?_
  refine WC.region ?_
  refine WL.call (hc := Try.call8) (sp := aFresh p300_is) (h := ?_)
  rintro _ _ ⟨c, a, rfl, rfl⟩
  refine WL.move ?_
  refine WL.extract ?_
  refine WL.extract ?_
  refine WL.extract ?_
  refine WL.extract ?_
  refine WL.alloc z27 fun b5 => ?_
  refine WL.assign ?_
  refine WL.assign ?_
  refine WL.stV ?_ agg27
  refine WL.assign ?_
  refine WL.nil ?_
  refine WQ.next ?_
  refine WC.seq ?_
  refine WC.seq ?_
  refine WC.region ?_
  refine WL.move ?_
  refine WL.not ?_
  refine WL.move ?_
  refine WL.gT ?_
  refine WL.move ?_
  refine WL.gT ?_
  refine WL.call (hc := Try.call15) (sp := aAbort (a := a) (p := p300) (bk0 := noneB) (ik0 := rootB) (bk := noneB) (ik := rootB)) (h := ?_)
  rintro _ _ ⟨rfl, rfl⟩
  refine WL.gT ?_
  refine WL.nei ?_
  refine WL.pickF ?_
  refine WL.nil ?_
  refine WQ.next ?_
  refine WC.condF rfl rfl ?_
  refine WC.skip ?_
  refine WQ.next ?_
  refine WC.seq ?_
  refine WC.region ?_
  refine WL.move ?_
  refine WL.call (hc := Try.call9) (sp := aTakeBlock0 (a := a) (c := c) (p := p300) (bk0 := noneB) (ik0 := rootB) (bk := noneB) (ik := rootB)) (h := ?_)
  rintro _ _ ⟨rfl, rfl⟩
  refine WL.move ?_
  refine WL.extract ?_
  refine WL.extract ?_
  refine WL.assign ?_
  refine WL.assign ?_
  refine WL.nil ?_
  refine WQ.next ?_
  refine WC.seq ?_
  refine WC.region ?_
  refine WL.move ?_
  refine WL.call (hc := Try.call16) (sp := aTakeInode0 (a := a) (c := c) (p := p300) (bk0 := noneB) (ik0 := rootB) (bk := noneB) (ik := rootB)) (h := ?_)
  rintro _ _ ⟨rfl, rfl⟩
  refine WL.move ?_
  refine WL.extract ?_
  refine WL.extract ?_
  refine WL.assign ?_
  refine WL.assign ?_
  refine WL.nil ?_
  refine WQ.next ?_
  refine WC.seq ?_
  refine WC.region ?_
  refine WL.move ?_
  refine WL.call (hc := Try.call12) (sp := aFree (a := a) (c := c) (p := p300) (bk0 := noneB) (ik0 := rootB) (bk := noneB) (ik := rootB) (op := false) p300_is) (h := ?_)
  rintro _ _ ⟨rfl, rfl⟩
  refine WL.move ?_
  refine WL.extract ?_
  refine WL.cast (d := 44) (u := .int .i64 50) rfl (congrArg (Value.int .i64) hc1) ?_
  refine WL.extract ?_
  refine WL.cast (d := 45) (u := .int .i64 15) rfl (congrArg (Value.int .i64) hc2) ?_
  refine WL.assign ?_
  refine WL.assign ?_
  refine WL.nil ?_
  refine WQ.next ?_
  refine WC.seq ?_
  refine WC.region ?_
  refine WL.assign ?_
  refine WL.nil ?_
  refine WQ.next ?_
  refine WC.seq ?_
  refine WC.region ?_
  refine WL.move ?_
  refine WL.call (hc := Try.call9) (sp := alTakeNil) (h := ?_)
  rintro _ _ ⟨rfl, rfl⟩
  refine WL.move ?_
  refine WL.extract ?_
  refine WL.extract ?_
  refine WL.assign ?_
  refine WL.assign ?_
  refine WL.nil ?_
  refine WQ.next ?_
  refine WC.seq ?_
  refine WC.region ?_
  refine WL.move ?_
  refine WL.call (hc := Try.call12) (sp := alFreeNil) (h := ?_)
  rintro _ _ ⟨rfl, rfl⟩
  refine WL.move ?_
  refine WL.extract ?_
  refine WL.extract ?_
  refine WL.assign ?_
  refine WL.assign ?_
  refine WL.nil ?_
  refine WQ.next ?_
  refine WC.seq ?_
  refine WC.region ?_
  refine WL.move ?_
  refine WL.eqi ?_
  refine WL.move ?_
  refine WL.gT ?_
  refine WL.move ?_
  refine WL.gT ?_
  refine WL.eqi ?_
  refine WL.pickT ?_
  refine WL.move ?_
  refine WL.gT ?_
  refine WL.move ?_
  refine WL.gT ?_
  refine WL.move ?_
  refine WL.gT ?_
  refine WL.call (hc := Try.call10) (sp := aGiveBlock0 (a := a) (c := c) (p := p300) (bk0 := noneB) (ik0 := rootB) (bk := noneB) (ik := rootB) hk (by decide)) (h := ?_)
  rintro _ _ ⟨rfl, rfl⟩
  refine WL.gT ?_
  refine WL.eqi ?_
  refine WL.pickT ?_
  refine WL.move ?_
  refine WL.gT ?_
  refine WL.move ?_
  refine WL.gT ?_
  refine WL.move ?_
  refine WL.gT ?_
  refine WL.call (hc := Try.call17) (sp := aGiveInode0 (a := a) (c := c) (p := p300) (bk0 := noneB) (ik0 := rootB) (bk := noneB) (ik := rootB)) (h := ?_)
  rintro _ _ ⟨rfl, rfl⟩
  refine WL.gT ?_
  refine WL.eqi ?_
  refine WL.pickT ?_
  refine WL.move ?_
  refine WL.gT ?_
  refine WL.move ?_
  refine WL.gT ?_
  refine WL.eqi ?_
  refine WL.pickT ?_
  refine WL.move ?_
  refine WL.gT ?_
  refine WL.move ?_
  refine WL.gT ?_
  refine WL.eqi ?_
  refine WL.pickT ?_
  refine WL.move ?_
  refine WL.gT ?_
  refine WL.move ?_
  refine WL.gT ?_
  refine WL.eqi ?_
  refine WL.pickT ?_
  refine WL.move ?_
  refine WL.gT ?_
  refine WL.move ?_
  refine WL.gT ?_
  refine WL.eqi ?_
  refine WL.pickT ?_
  refine WL.move ?_
  refine WL.gT ?_
  refine WL.move ?_
  refine WL.gT ?_
  refine WL.eqi ?_
  refine WL.pickT ?_
  refine WL.move ?_
  refine WL.gT ?_
  refine WL.call (hc := Try.call7) (sp := lawAwake) (h := ?_)
  rintro _ _ ⟨rfl, rfl⟩
  refine WL.pickT ?_
  refine WL.assign ?_
  refine WL.nil ?_
  refine WQ.next ?_
  refine WC.ret (?_)
  exact WQ.ret1 (h1 := .tmp (t := 2) rfl) ⟨_, ⟨rfl, rfl⟩, Am.auto⟩

end Go.Proofs.Ytfmkhhdohfagkaa
