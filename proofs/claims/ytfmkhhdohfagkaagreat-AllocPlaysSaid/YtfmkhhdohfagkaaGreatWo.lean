/- Walks of the laws' helpers: fresh, awake. -/
import Derived.Test.YtfmkhhdohfagkaaGreatFa
import Derived.Test.YtfmkhhdohfagkaaGreatWn
import Derived.KernelRfl
set_option linter.unusedVariables false
set_option linter.unusedSimpArgs false
namespace Go.Proofs.YtfmkhhdohfagkaaGreat
open Go

theorem putN_take (xs : Bytes) (p size : Nat) (big : Bool) (v : Nat) {k : Nat} (hk : k ≤ p) : ∀ i, (putN xs p size big v i).take k = xs.take k
  | 0 => rfl
  | i + 1 => by
    rw [putN, List.take_set_of_le (by omega)]
    exact putN_take xs p size big v hk i
theorem laidN_take {ys : Bytes} (hy : ys.length = 8) (nums : List Nat) : ∀ i, (laidN ys nums i).take 8 = ys
  | 0 => by rw [laidN, List.take_append_of_le_length (by omega), List.take_of_length_le (by omega)]
  | i + 1 => by
    rw [laidN, put, putN_take _ _ _ _ _ (by omega)]
    exact laidN_take hy nums i
def zeroD : Nat → Bytes := fun _ => zeros
theorem clear_at (k : Nat) (i : Nat) : clearH zeroD i k = zeros := by
  induction i with
  | zero => rfl
  | succ i ih => show wr (clearH zeroD i) (slotAt i 0) zeros k = zeros; unfold wr; split; rfl; exact ih
theorem zeros_take : zeros.take 8 = [0, 0, 0, 0, 0, 0, 0, 0] := by
  unfold zeros
  rw [List.take_replicate]
  rfl
theorem formatted0 : (formatted zeroD 0).take 8 = magicJ := by
  unfold formatted
  show (laidB magicJ _).take 8 = magicJ
  exact laidN_take (ys := magicJ) rfl _ _
theorem formattedK {k : Nat} (hk : k ≠ 0) : formatted zeroD k = zeros := by
  unfold formatted
  have hno : ¬ (zeroD 0).take 8 = magicJ := by
    rw [show (zeroD 0).take 8 = zeros.take 8 from rfl, zeros_take]
    decide
  rw [if_neg hno]
  show wr (clearH zeroD 4) 0 _ k = zeros
  unfold wr
  rw [if_neg hk]
  exact clear_at k 4
theorem formattedH (g i : Nat) : NoHead g (formatted zeroD (slotAt i 0)) := by
  left
  rw [formattedK (by unfold slotAt; omega), zeros_take]
  decide
/-- The blocks behind 'fresh'. -/
def freshV (p : Pl) : Nat → Bytes := fmtA p zeroD
theorem tb_zeros (k : Nat) : tb zeros k = false := by
  unfold tb zeros
  have : (List.replicate 512 (0 : UInt8)).getD (k / 8) 0 = 0 := by
    rw [List.getD_eq_getElem?_getD, List.getElem?_replicate]
    split <;> rfl
  rw [this]
  exact Nat.zero_testBit _
theorem tb_one0 (k : Nat) : tb one0 k = decide (k = 0) := by
  unfold tb one0
  by_cases h : k / 8 = 0
  · rw [h]
    have : (zeros.set 0 (1 : UInt8)).getD 0 0 = 1 := by
      rw [List.getD_eq_getElem?_getD, List.getElem?_set_self (by rw [zeros_length]; decide)]
      rfl
    rw [this]
    have hk : k < 8 := by omega
    rcases Nat.eq_zero_or_pos k with rfl | hp
    · rfl
    · rw [Nat.mod_eq_of_lt hk]
      have : (1 : UInt8).toNat = 2 ^ 0 := rfl
      rw [this, Nat.testBit_two_pow]
      congr 1
      rw [eq_iff_iff]
      constructor <;> intro h <;> omega
  · have h2 : (zeros.set 0 (1 : UInt8)).getD (k / 8) 0 = zeros.getD (k / 8) 0 := by
      rw [List.getD_eq_getElem?_getD, List.getElem?_set_ne (by omega), List.getD_eq_getElem?_getD]
    rw [h2, show (zeros.getD (k / 8) 0).toNat.testBit (k % 8) = tb zeros k from rfl, tb_zeros]
    symm
    exact decide_eq_false (by omega)
theorem fresh_bm {p : Pl} (h : PlIs p) {k : Nat} (hk : k < p.dc) : dig (freshV p) p.bm k = false := by
  have h2 := h.bm; have h3 := h.i1; have h4 := h.im
  unfold dig freshV fmtA
  rw [fmtV_at, if_pos (by omega)]
  unfold fmtZ
  rw [if_neg (by omega)]
  exact tb_zeros _
theorem fresh_im {p : Pl} (h : PlIs p) {k : Nat} (hk : k < p.ino) : dig (freshV p) p.im k = decide (k = 0) := by
  have h2 := h.bm; have h3 := h.i2; have h4 := h.im
  unfold dig freshV fmtA
  rw [fmtV_at, if_neg (by omega), fmtV_at, if_pos (by omega)]
  unfold fmtZ
  rw [if_pos ⟨rfl, rfl⟩, tb_one0]
  congr 1
  rw [eq_iff_iff]
  constructor <;> intro h <;> omega

theorem lawFresh {p : Pl} (h : PlIs p) : Spec Tryz.prog 6 #[.int .i64 (p.n : Int), .int .i64 (p.ino : Int)] [] fun F v M => ∃ c a, v = .tuple #[.pointer (some ⟨c, 0, none⟩), .pointer (some ⟨a, 0, none⟩), .agg p.cells, .bool true] ∧ M = [pt a (alO c p), TR c p.n (freshV p) (freshV p) [] true] ++ F := by
  refine Spec.intro Tryz.func6 rfl rfl fun B F => ?_
  simp only [Tryz.ntmps6, List.cons_append, List.nil_append, env0, Nat.reduceAdd]
  have hn2 := h.n2
  have h246 : 246 ≤ p.n := by have := h.bm; have := h.m1; have := h.da; have := h.dc; have := h.d1; omega
  refine WC.seq ?_
  refine WC.region ?_
  refine WL.assign ?_
  refine WL.assign ?_
  refine WL.alloc z25 fun b6 => ?_
  refine WL.assign ?_
  refine WL.nil ?_
  refine WQ.next ?_
  refine WC.seq ?_
  refine WC.region ?_
  refine WL.move ?_
  refine WL.move ?_
  refine WL.call (hc := Tryz.call22) (sp := layMake h) (h := ?_)
  rintro _ _ ⟨rfl, rfl⟩
  refine WL.move ?_
  refine WL.extract ?_
  refine WL.extract ?_
  refine WL.alloc z25 fun b8 => ?_
  refine WL.stV ?_ agg25
  refine WL.to (A := pt b8 (.cells p.cells 25 (0, 0))) (A' := pt b8 (.cells p.cells 25 (0, 0))) (fun h hh => hh) ?_
  refine WL.assign ?_
  refine WL.nil ?_
  refine WQ.next ?_
  refine WC.seq ?_
  refine WC.region ?_
  refine WL.move ?_
  refine WL.call (hc := Tryz.call23) (sp := devNew (n := p.n) (by omega) hn2) (h := ?_)
  rintro _ _ ⟨d, rfl, rfl⟩
  refine WL.move ?_
  refine WL.extract ?_
  refine WL.extract ?_
  refine WL.assign ?_
  refine WL.assign ?_
  refine WL.nil ?_
  refine WQ.next ?_
  refine WC.seq ?_
  refine WC.seq ?_
  refine WC.region ?_
  refine WL.move ?_
  refine WL.nei ?_
  refine WL.move ?_
  refine WL.gT ?_
  refine WL.move ?_
  refine WL.gT ?_
  refine WL.nei ?_
  refine WL.pickF ?_
  refine WL.move ?_
  refine WL.gT ?_
  refine WL.move ?_
  refine WL.gT ?_
  refine WL.eqNil ?_ ptr48
  refine WL.pickF ?_
  refine WL.move ?_
  refine WL.gT ?_
  refine WL.move ?_
  refine WL.gT ?_
  refine WL.call (hc := Tryz.call24) (sp := jFormat (n := p.n) (t := 0) (cur := zeroD) h246 (by decide)) (h := ?_)
  rintro _ _ ⟨rfl, rfl⟩
  refine WL.gT ?_
  refine WL.nei ?_
  refine WL.pickF ?_
  refine WL.nil ?_
  refine WQ.next ?_
  refine WC.condF rfl rfl ?_
  refine WC.skip ?_
  refine WQ.next ?_
  refine WC.seq ?_
  refine WC.region ?_
  refine WL.move ?_
  refine WL.call (hc := Tryz.call25) (sp := jOpen (n := p.n) (cur := formatted zeroD) h246 hn2 formatted0 (fun i _ => formattedH _ i)) (h := ?_)
  rintro _ _ ⟨j, rfl, rfl⟩
  refine WL.move ?_
  refine WL.extract ?_
  refine WL.extract ?_
  refine WL.assign ?_
  refine WL.assign ?_
  refine WL.nil ?_
  refine WQ.next ?_
  refine WC.seq ?_
  refine WC.region ?_
  refine WL.move ?_
  refine WL.call (hc := Tryz.call26) (sp := cNew (n := p.n) h246 hn2) (h := ?_)
  rintro _ _ ⟨c, rfl, rfl⟩
  refine WL.shutR (TR.opens c p.n zeroD zeroD [] false) (j, d, ⟨⟨beNat (seg (formatted zeroD 0) 8 8 false), 0, [], formatted zeroD⟩, [], false, false⟩) ⟨rfl, (fun k h1 h2 => formattedK (by omega)), (fun k h1 h2 => formattedK (by omega)), rfl⟩ ?_
  refine WL.assign ?_
  refine WL.nil ?_
  refine WQ.next ?_
  refine WC.seq ?_
  refine WC.region ?_
  refine WL.move ?_
  refine WL.ldA ?_ agg25
  refine WL.call (hc := Tryz.call27) (sp := alNew (p := p)) (h := ?_)
  rintro _ _ ⟨a, rfl, rfl⟩
  refine WL.assign ?_
  refine WL.nil ?_
  refine WQ.next ?_
  refine WC.seq ?_
  refine WC.seq ?_
  refine WC.region ?_
  refine WL.move ?_
  refine WL.nei ?_
  refine WL.move ?_
  refine WL.gT ?_
  refine WL.move ?_
  refine WL.gT ?_
  refine WL.eqNil ?_ ptr28
  refine WL.pickF ?_
  refine WL.move ?_
  refine WL.gT ?_
  refine WL.move ?_
  refine WL.gT ?_
  refine WL.eqNil ?_ ptr29
  refine WL.pickF ?_
  refine WL.move ?_
  refine WL.gT ?_
  refine WL.move ?_
  refine WL.gT ?_
  refine WL.call (hc := Tryz.call18) (sp := tBegin (n := p.n) (V0 := zeroD) (V := zeroD) (D := [])) (h := ?_)
  rintro _ _ ⟨rfl, rfl⟩
  refine WL.gT ?_
  refine WL.nei ?_
  refine WL.pickF ?_
  refine WL.move ?_
  refine WL.gT ?_
  refine WL.move ?_
  refine WL.gT ?_
  refine WL.call (hc := Tryz.call28) (sp := alFormat (V0 := zeroD) (V := zeroD) h.ok) (h := ?_)
  rintro _ _ ⟨rfl, rfl⟩
  simp only [List.cons_append, List.nil_append]
  refine WL.gT ?_
  refine WL.nei ?_
  refine WL.pickF ?_
  refine WL.move ?_
  refine WL.gT ?_
  refine WL.move ?_
  refine WL.gT ?_
  refine WL.call (hc := Tryz.call17) (sp := tCommit (n := p.n) (V0 := zeroD) (V := freshV p) (D := fmtB p [])) (h := ?_)
  rintro _ _ ⟨rfl, rfl⟩
  refine WL.gT ?_
  refine WL.nei ?_
  refine WL.pickF ?_
  refine WL.nil ?_
  refine WQ.next ?_
  refine WC.condF rfl rfl ?_
  refine WC.skip ?_
  refine WQ.next ?_
  refine WC.seq ?_
  refine WC.draw ([pt b8 (.cells p.cells 25 (0, 0))]) [] 10 #[false, false, false, false, false, false, false, false, false, false] mixed (by kernel_rfl) NoPanic.autoJ ?_
  refine WD.take (i := 0) #[true, false, false, false, false, false, false, false, false, false] rfl (by kernel_rfl) (Qt.move ) ?_
  refine WD.take (i := 1) #[true, true, false, false, false, false, false, false, false, false] rfl (by kernel_rfl) (Qt.move ) ?_
  refine WD.take (i := 2) #[true, true, true, false, false, false, false, false, false, false] rfl (by kernel_rfl) (Qt.ldA agg25) ?_
  refine WD.take (i := 3) #[true, true, true, true, false, false, false, false, false, false] rfl (by kernel_rfl) (Qt.move ) ?_
  refine WD.one (i := 4) #[true, true, true, true, true, false, false, false, false, false] rfl (by kernel_rfl) fun hnp => ?_
  refine WL.call (hc := Tryz.call18) (sp := tBegin (n := p.n) (V0 := freshV p) (V := freshV p) (D := [])) (h := ?_)
  rintro _ _ ⟨rfl, rfl⟩
  refine WL.nil (WQ.wd hnp (.inl Am.auto) ?_)
  refine WD.take (i := 5) #[true, true, true, true, true, true, false, false, false, false] rfl (by kernel_rfl) (Qt.eqi ) ?_
  refine WD.take (i := 6) #[true, true, true, true, true, true, true, false, false, false] rfl (by kernel_rfl) (Qt.assign ) ?_
  refine WD.take (i := 7) #[true, true, true, true, true, true, true, true, false, false] rfl (by kernel_rfl) (Qt.assign ) ?_
  refine WD.one (i := 8) #[true, true, true, true, true, true, true, true, true, false] rfl (by kernel_rfl) fun hnp => ?_
  refine WL.stV ?_ agg25
  refine WL.nil (WQ.wd hnp (.inl Am.auto) ?_)
  refine WD.take (i := 9) #[true, true, true, true, true, true, true, true, true, true] rfl (by kernel_rfl) (Qt.assign ) ?_
  refine WD.done (by kernel_rfl) ?_
  refine WQ.next ?_
  refine WC.ret (?_)
  exact WQ.ret4 (h1 := .tmp (t := 4) rfl) (h2 := .tmp (t := 5) rfl) (h4 := .tmp (t := 7) rfl) ⟨_, ⟨c, a, rfl, rfl⟩, Am.auto⟩

end Go.Proofs.YtfmkhhdohfagkaaGreat
