/- Walks of package alloc: Free, Format. -/
import Derived.Test.YtedmihapieleaaaGreatFa
import Derived.Test.YtedmihapieleaaaGreatWl
import Derived.KernelRfl
set_option linter.unusedVariables false
set_option linter.unusedSimpArgs false
namespace Go.Proofs.YtedmihapieleaaaGreat
open Go

theorem bsArea2 (a b c d : Int) : BuildSOk Tryz.prog 155 2 [(0, .agg #[.int .i64 a, .int .i64 b]), (1, .agg #[.int .i64 c, .int .i64 d])] 114 #[.int .i64 a, .int .i64 b, .int .i64 c, .int .i64 d] := fun w => by kernel_rfl
theorem areaInts : intsOk Tryz.prog 114 2 = true := by kernel_rfl
/-- How many digits are 1. -/
def cnt (V : Nat → Bytes) (first m : Nat) : Nat := ((List.range m).filter fun k => dig V first k).length
theorem cnt_succ (V : Nat → Bytes) (first m : Nat) : cnt V first (m + 1) = cnt V first m + (if dig V first m then 1 else 0) := by
  unfold cnt
  rw [List.range_succ, List.filter_append, List.length_append]
  cases h : dig V first m <;> simp [h]
theorem cnt_le (V : Nat → Bytes) (first m : Nat) : cnt V first m ≤ m := by
  unfold cnt
  have := List.length_filter_le (fun k => dig V first k) (List.range m)
  rw [List.length_range] at this
  exact this
theorem cnt_block (V : Nat → Bytes) (first j : Nat) : ∀ m, m ≤ 4096 → cnt V first (4096 * j + m) = cnt V first (4096 * j) + count1 (V (first + j)) m
  | 0, _ => by rw [count1_zero]; rfl
  | m + 1, h => by
    rw [show 4096 * j + (m + 1) = 4096 * j + m + 1 from by omega, cnt_succ, cnt_block V first j m (by omega), count1_succ, dig_at V first j m (by omega)]
    omega

theorem alFree1 {a c n b2 b5 blk mj : Nat} {fr x : Int} {p : Pl} {V0 V : Nat → Bytes} {D : List Nat} {op : Bool} (h5 : 245 ≤ blk) (hk : blk < n) (hm : mj ≤ 4096) (hx : 0 ≤ x ∧ x ≤ 1000000) :
    Spec Tryz.prog 111 #[.int .i64 (blk : Int), .int .i64 fr, .int .i64 (mj : Int), .pointer (some ⟨b2, 0, none⟩), .pointer (some ⟨b5, 0, none⟩)] [boxA b2 a, intC b5 x, pt a (alO c p), TR c n V0 V D op] fun F v M => v = .bool true ∧ M = [boxA b2 a, intC b5 (x - count1 (V blk) mj), pt a (alO c p), TR c n V0 V D op] ++ F := by
  refine Spec.intro Tryz.func111 rfl rfl fun B F => ?_
  simp only [Tryz.ntmps111, List.cons_append, List.nil_append, env0, Nat.reduceAdd]
  simp only [boxA, intC]
  have hcl := count1_le (V blk) mj
  refine WC.seq ?_
  refine WC.region ?_
  refine WL.assign ?_
  refine WL.nil ?_
  refine WQ.next ?_
  refine WC.seq ?_
  refine WC.region ?_
  refine WL.ld ?_ sc25
  refine WL.nilCheck ?_
  refine WL.fa ?_ fo154_0
  refine WL.ld ?_ sc24
  refine WL.move ?_
  refine WL.call (hc := Tryz.call63) (sp := tRead (n := n) (V0 := V0) (V := V) (D := D) (op := op) h5 hk) (h := ?_)
  rintro _ _ ⟨gb, q, el, rfl, ⟨hq1, hq2, hl5⟩, rfl⟩
  refine WL.move ?_
  refine WL.extract ?_
  refine WL.extract ?_
  refine WL.assign ?_
  refine WL.assign ?_
  refine WL.nil ?_
  refine WQ.next ?_
  refine WC.seq ?_
  refine WC.draw ([pt b5 (.cells #[.int .i64 x] 3 (0, 0))]) [5] 6 #[false, false, false, false, false, false] mixed (by kernel_rfl) NoPanic.autoJ ?_
  refine WD.take (i := 0) #[true, false, false, false, false, false] rfl (by kernel_rfl) (Qt.ld sc3) ?_
  refine WD.take (i := 1) #[true, true, false, false, false, false] rfl (by kernel_rfl) (Qt.move ) ?_
  refine WD.take (i := 2) #[true, true, true, false, false, false] rfl (by kernel_rfl) (Qt.move ) ?_
  refine WD.one (i := 3) #[true, true, true, true, false, false] rfl (by kernel_rfl) fun hnp => ?_
  refine WL.call (hc := Tryz.call112) (sp := bitsCount Reads.buf hl5 (by decide) (m := (mj : Int)) (by omega)) (h := ?_)
  rintro _ _ ⟨rfl, rfl⟩
  rw [Int.toNat_natCast]
  refine WL.nil (WQ.wd hnp (.inl Am.auto) ?_)
  refine WD.take (i := 4) #[true, true, true, true, true, false] rfl (by kernel_rfl) (Qt.sub ) ?_
  refine WD.one (i := 5) #[true, true, true, true, true, true] rfl (by kernel_rfl) fun hnp => ?_
  refine WL.st ?_ sc3
  refine WL.nil (WQ.wd hnp (.inr rfl) ?_)
  refine WD.done (by kernel_rfl) ?_
  refine WQ.next ?_
  refine WC.seq ?_
  refine WC.region ?_
  refine WL.assign ?_
  refine WL.nil ?_
  refine WQ.next ?_
  refine WC.ret (?_)
  exact WQ.ret1 (h1 := .tmp (t := 8) rfl) ⟨_, ⟨rfl, rfl⟩, Am.auto⟩


theorem freeEach {a c n b2 b5 first many : Nat} {p : Pl} {V0 V : Nat → Bytes} {D : List Nat} {op : Bool} (h : AreaOk n first many) :
    Spec Tryz.prog 94 #[areaV first many, .func (.func 111) #[] #[.pointer (some ⟨b2, 0, none⟩), .pointer (some ⟨b5, 0, none⟩)]] [boxA b2 a, intC b5 (many : Int), pt a (alO c p), TR c n V0 V D op]
      fun F v M => v = .tuple #[] ∧ M = [boxA b2 a, intC b5 ((many : Int) - cnt V first many), pt a (alO c p), TR c n V0 V D op] ++ F := by
  have hfew := h.few
  have key := areaEach (f := 111) (first := first) (many := many) (cap := #[.pointer (some ⟨b2, 0, none⟩), .pointer (some ⟨b5, 0, none⟩)]) (fun j => [boxA b2 a, intC b5 ((many : Int) - cnt V first (min (4096 * j) many)), pt a (alO c p), TR c n V0 V D op]) (fun _ => True) (fun _ => False) Tryz.call111 h.few (by have := h.hi; have := h.n2; omega) trivial fun j hj _ => ?_
  · have e0 : ((many : Int) - cnt V first (min (4096 * 0) many)) = many := by
      rw [show min (4096 * 0) many = 0 from by omega]; rfl
    simp only [e0] at key
    refine Spec.weak key ?_
    rintro F v M ⟨rfl, (⟨j, hj, _, rfl⟩ | ⟨Q, hQ, _⟩)⟩
    · rw [show min (4096 * j) many = many from by omega]
      exact ⟨_, ⟨rfl, rfl⟩, .refl⟩
    · exact hQ.elim
  · have hb := h.blk hj
    have hcl := cnt_le V first (min (4096 * j) many)
    have hs := alFree1 (a := a) (c := c) (b2 := b2) (b5 := b5) (fr := ((4096 * j : Nat) : Int)) (mj := min (many - 4096 * j) 4096) (x := (many : Int) - cnt V first (min (4096 * j) many)) (p := p) (V0 := V0) (V := V) (D := D) (op := op) hb.1 hb.2 (by omega) (by omega)
    refine Spec.weak hs ?_
    rintro F v M ⟨rfl, rfl⟩
    refine ⟨_, .inl ⟨rfl, trivial, rfl⟩, ?_⟩
    have hc := cnt_block V first j (min (many - 4096 * j) 4096) (by omega)
    rw [show 4096 * j + min (many - 4096 * j) 4096 = min (4096 * (j + 1)) many from by omega] at hc
    rw [show min (4096 * j) many = 4096 * j from by omega]
    rw [show ((many : Int) - cnt V first (min (4096 * (j + 1)) many)) = (many : Int) - cnt V first (4096 * j) - count1 (V (first + j)) (min (many - 4096 * j) 4096) from by omega]
    exact .refl

theorem alFree0 {a c n first many : Nat} {p : Pl} {V0 V : Nat → Bytes} {D : List Nat} {op : Bool} (h : AreaOk n first many) : Spec Tryz.prog 64 #[.pointer (some ⟨a, 0, none⟩), areaV first many] [pt a (alO c p), TR c n V0 V D op] fun F v M => v = .int .i64 ((many : Int) - cnt V first many) ∧ M = [pt a (alO c p), TR c n V0 V D op] ++ F := by
  refine Spec.intro Tryz.func64 rfl rfl fun B F => ?_
  simp only [Tryz.ntmps64, List.cons_append, List.nil_append, env0, Nat.reduceAdd]
  refine WC.seq ?_
  refine WC.region ?_
  refine WL.box fun b2 => ?_
  refine WL.box fun b3 => ?_
  refine WL.assign ?_
  refine WL.nil ?_
  refine WQ.next ?_
  refine WC.seq ?_
  refine WC.region ?_
  refine WL.fa ?_ fo114_1
  refine WL.ld ?_ sc3
  refine WL.alloc z3 fun b5 => ?_
  refine WL.st ?_ sc3
  refine WL.nil ?_
  refine WQ.next ?_
  refine WC.seq ?_
  refine WC.region ?_
  refine WL.ldA ?_ agg114
  refine WL.makeFuncB ?_
  refine WL.call (hc := Tryz.call94) (sp := freeEach (a := a) (c := c) (b2 := b2) (b5 := b5) (p := p) (V0 := V0) (V := V) (D := D) (op := op) h) (h := ?_)
  rintro _ _ ⟨rfl, rfl⟩
  simp only [List.cons_append, List.nil_append, intC]
  refine WL.nil ?_
  refine WQ.next ?_
  refine WC.seq ?_
  refine WC.region ?_
  refine WL.ld ?_ sc3
  refine WL.assign ?_
  refine WL.nil ?_
  refine WQ.next ?_
  refine WC.ret (?_)
  exact WQ.ret1 (h1 := .tmp (t := 4) rfl) ⟨_, ⟨rfl, rfl⟩, Am.auto⟩

theorem alFree {a c : Nat} {p : Pl} {V0 V : Nat → Bytes} {D : List Nat} {op : Bool} (h : PlOk p) : Spec Tryz.prog 25 #[.pointer (some ⟨a, 0, none⟩)] [pt a (alO c p), TR c p.n V0 V D op] fun F v M => v = .tuple #[.int .i64 ((p.dc : Int) - cnt V p.bm p.dc), .int .i64 ((p.ino : Int) - cnt V p.im p.ino)] ∧ M = [pt a (alO c p), TR c p.n V0 V D op] ++ F := by
  refine Spec.intro Tryz.func25 rfl rfl fun B F => ?_
  simp only [Tryz.ntmps25, List.cons_append, List.nil_append, env0, Nat.reduceAdd]
  refine WC.seq ?_
  refine WC.region ?_
  refine WL.assign ?_
  refine WL.assign ?_
  refine WL.nil ?_
  refine WQ.next ?_
  refine WC.seq ?_
  refine WC.seq ?_
  refine WC.region ?_
  refine WL.move ?_
  refine WL.eqNil ?_ ptr25
  refine WL.nil ?_
  refine WQ.next ?_
  refine WC.condF rfl rfl ?_
  refine WC.skip ?_
  refine WQ.next ?_
  refine WC.seq ?_
  refine WC.region ?_
  refine WL.move ?_
  refine WL.move ?_
  refine WL.call (hc := Tryz.call65) (sp := alBlocks) (h := ?_)
  rintro _ _ ⟨rfl, rfl⟩
  refine WL.call (hc := Tryz.call64) (sp := alFree0 (n := p.n) (p := p) (V0 := V0) (V := V) (D := D) (op := op) h.aB) (h := ?_)
  rintro _ _ ⟨rfl, rfl⟩
  simp only [List.cons_append, List.nil_append]
  refine WL.move ?_
  refine WL.move ?_
  refine WL.call (hc := Tryz.call66) (sp := alInodes) (h := ?_)
  rintro _ _ ⟨rfl, rfl⟩
  refine WL.call (hc := Tryz.call64) (sp := alFree0 (n := p.n) (p := p) (V0 := V0) (V := V) (D := D) (op := op) h.aI) (h := ?_)
  rintro _ _ ⟨rfl, rfl⟩
  simp only [List.cons_append, List.nil_append]
  refine WL.assign ?_
  refine WL.assign ?_
  refine WL.nil ?_
  refine WQ.next ?_
  refine WC.ret (?_)
  exact WQ.ret2 (h1 := .tmp (t := 2) rfl) (h2 := .tmp (t := 3) rfl) ⟨_, ⟨rfl, rfl⟩, Am.auto⟩


def one0 : Bytes := zeros.set 0 1
theorem one0_length : one0.length = 512 := by unfold one0; rw [List.length_set]; exact zeros_length
def fmtV (V : Nat → Bytes) (first : Nat) (z : Bytes) : Nat → Nat → Bytes
  | 0 => V
  | j + 1 => wr (fmtV V first z j) (first + j) z
def fmtD (D : List Nat) (first : Nat) : Nat → List Nat
  | 0 => D
  | j + 1 => insD (fmtD D first j) (first + j)
theorem insD_length (D : List Nat) (k : Nat) : (insD D k).length ≤ D.length + 1 := by unfold insD; split <;> simp
theorem fmtD_length (D : List Nat) (first : Nat) : ∀ j, (fmtD D first j).length ≤ D.length + j
  | 0 => Nat.le_refl _
  | j + 1 => by
    have := fmtD_length D first j
    have := insD_length (fmtD D first j) (first + j)
    show (insD _ _).length ≤ _
    omega
theorem fmtV_at (V : Nat → Bytes) (first : Nat) (z : Bytes) (k : Nat) : ∀ j, fmtV V first z j k = if first ≤ k ∧ k < first + j then z else V k
  | 0 => by rw [if_neg (by omega)]; rfl
  | j + 1 => by
    show wr (fmtV V first z j) (first + j) z k = _
    unfold wr
    rw [fmtV_at V first z k j]
    by_cases h : k = first + j
    · rw [if_pos h, if_pos (by omega)]
    · rw [if_neg h]
      by_cases h2 : first ≤ k ∧ k < first + j
      · rw [if_pos h2, if_pos (by omega)]
      · rw [if_neg h2, if_neg (by omega)]
def fmtZ (p : Pl) (first many : Nat) : Bytes := if first = p.im ∧ many = p.ino then one0 else zeros
theorem fmtZ_length (p : Pl) (first many : Nat) : (fmtZ p first many).length = 512 := by unfold fmtZ; split; exact one0_length; exact zeros_length
def arC (b first many : Nat) : HP := pt b (.cells #[.int .i64 (first : Int), .int .i64 (many : Int)] 114 (0, 0))

theorem alFormat1 {a c n b1 b3 b5 blk first many : Nat} {x y : Int} {p : Pl} {V0 V : Nat → Bytes} {D : List Nat} (h5 : 245 ≤ blk) (hk : blk < n) (hroom : blk ∈ D ∨ D.length < 60) :
    Spec Tryz.prog 95 #[.int .i64 (blk : Int), .int .i64 x, .int .i64 y, .pointer (some ⟨b5, 0, none⟩), .pointer (some ⟨b1, 0, none⟩), .pointer (some ⟨b3, 0, none⟩)] [arC b5 first many, boxA b1 a, errC b3 0, pt a (alO c p), TR c n V0 V D true] fun F v M => v = .bool true ∧ M = [arC b5 first many, boxA b1 a, errC b3 0, pt a (alO c p), TR c n V0 (wr V blk (fmtZ p first many)) (insD D blk) true] ++ F := by
  refine Spec.intro Tryz.func95 rfl rfl fun B F => ?_
  simp only [Tryz.ntmps95, List.cons_append, List.nil_append, env0, Nat.reduceAdd]
  simp only [arC, boxA, errC]
  refine WC.seq ?_
  refine WC.region ?_
  refine WL.assign ?_
  refine WL.nil ?_
  refine WQ.next ?_
  refine WC.seq ?_
  refine WC.region ?_
  refine WL.mkSN 512 z5 so33 (by decide) (by decide) fun b11 => ?_
  refine WL.to (r := .here) (A' := buf b11 5 512 (bvs zeros)) (fun h hh => by unfold zeros; rw [bvs_replicate]; exact hh) ?_
  refine WL.assign ?_
  refine WL.nil ?_
  refine WQ.next ?_
  refine WC.seq ?_
  refine WC.seq ?_
  refine WC.draw ([pt b5 (.cells #[.int .i64 (first : Int), .int .i64 (many : Int)] 114 (0, 0)), pt b1 (.cells #[.pointer (some ⟨a, 0, none⟩)] 25 (0, 0))]) [] 4 #[false, false, false, false] mixed (by kernel_rfl) NoPanic.autoJ ?_
  refine WD.take (i := 0) #[true, false, false, false] rfl (by kernel_rfl) (Qt.ldA agg114) ?_
  refine WD.take (i := 1) #[true, true, false, false] rfl (by kernel_rfl) (Qt.ld sc25) ?_
  refine WD.one (i := 2) #[true, true, true, false] rfl (by kernel_rfl) fun hnp => ?_
  refine WL.call (hc := Tryz.call66) (sp := alInodes) (h := ?_)
  rintro _ _ ⟨rfl, rfl⟩
  refine WL.nil (WQ.wd hnp (.inl Am.auto) ?_)
  refine WD.take (i := 3) #[true, true, true, true] rfl (by kernel_rfl) (Qt.eqStr (xs := [(first : Int), (many : Int)]) (ys := [(p.im : Int), (p.ino : Int)]) areaInts) ?_
  refine WD.done (by kernel_rfl) ?_
  refine WQ.next ?_
  refine WC.cond rfl (fun hb => ?_) (fun hb => ?_)
  · have hz : fmtZ p first many = one0 := by
      have := of_decide_eq_true hb
      simp only [List.cons.injEq, and_true] at this
      unfold fmtZ; rw [if_pos (by omega)]
    refine WC.region ?_
    refine WL.move ?_
    refine WL.idx1 ?_ so33
    refine WL.stB (i := 0) ?_ sc5 (by rw [bvs_length, zeros_length]; decide)
    refine WL.to (r := .here) (A' := buf b11 5 512 (bvs (fmtZ p first many))) (fun h hh => by rw [hz]; unfold one0; rw [bvs_set]; exact hh) ?_
    refine WL.nil ?_
    refine WQ.next ?_
    refine WC.seq ?_
    refine WC.seq ?_
    refine WC.region ?_
    refine WL.ld ?_ sc35
    refine WL.eqi ?_
    refine WL.nil ?_
    refine WQ.next ?_
    refine WC.condT rfl rfl ?_
    refine WC.region ?_
    refine WL.ld ?_ sc25
    refine WL.nilCheck ?_
    refine WL.fa ?_ fo154_0
    refine WL.ld ?_ sc24
    refine WL.move ?_
    refine WL.move ?_
    refine WL.call (hc := Tryz.call96) (sp := tWrite (n := n) (V0 := V0) (V := V) (D := D) h5 hk Reads.buf (xs := fmtZ p first many) (fmtZ_length _ _ _) rfl hroom) (h := ?_)
    rintro _ _ ⟨rfl, rfl⟩
    refine WL.st ?_ sc35
    refine WL.nil ?_
    refine WQ.next ?_
    refine WC.seq ?_
    refine WC.region ?_
    refine WL.ld ?_ sc35
    refine WL.eqi ?_
    refine WL.assign ?_
    refine WL.nil ?_
    refine WQ.next ?_
    refine WC.ret (?_)
    exact WQ.ret1 (h1 := .tmp (t := 9) rfl) ⟨_, ⟨rfl, rfl⟩, Am.auto⟩
  · have hz : fmtZ p first many = zeros := by
      have := of_decide_eq_false hb
      unfold fmtZ; rw [if_neg (fun h => this (by rw [h.1, h.2]))]
    refine WC.to (A := buf b11 5 512 (bvs zeros)) (A' := buf b11 5 512 (bvs (fmtZ p first many))) (fun h hh => by rw [hz]; exact hh) ?_
    refine WC.skip ?_
    refine WQ.next ?_
    refine WC.seq ?_
    refine WC.seq ?_
    refine WC.region ?_
    refine WL.ld ?_ sc35
    refine WL.eqi ?_
    refine WL.nil ?_
    refine WQ.next ?_
    refine WC.condT rfl rfl ?_
    refine WC.region ?_
    refine WL.ld ?_ sc25
    refine WL.nilCheck ?_
    refine WL.fa ?_ fo154_0
    refine WL.ld ?_ sc24
    refine WL.move ?_
    refine WL.move ?_
    refine WL.call (hc := Tryz.call96) (sp := tWrite (n := n) (V0 := V0) (V := V) (D := D) h5 hk Reads.buf (xs := fmtZ p first many) (fmtZ_length _ _ _) rfl hroom) (h := ?_)
    rintro _ _ ⟨rfl, rfl⟩
    refine WL.st ?_ sc35
    refine WL.nil ?_
    refine WQ.next ?_
    refine WC.seq ?_
    refine WC.region ?_
    refine WL.ld ?_ sc35
    refine WL.eqi ?_
    refine WL.assign ?_
    refine WL.nil ?_
    refine WQ.next ?_
    refine WC.ret (?_)
    exact WQ.ret1 (h1 := .tmp (t := 9) rfl) ⟨_, ⟨rfl, rfl⟩, Am.auto⟩


theorem fmtEach {a c n b1 b3 b5 first many : Nat} {p : Pl} {V0 V : Nat → Bytes} {D : List Nat} (h : AreaOk n first many) (hroom : D.length + (many + 4095) / 4096 ≤ 60) :
    Spec Tryz.prog 94 #[areaV first many, .func (.func 95) #[] #[.pointer (some ⟨b5, 0, none⟩), .pointer (some ⟨b1, 0, none⟩), .pointer (some ⟨b3, 0, none⟩)]] [arC b5 first many, boxA b1 a, errC b3 0, pt a (alO c p), TR c n V0 V D true]
      fun F v M => v = .tuple #[] ∧ M = [arC b5 first many, boxA b1 a, errC b3 0, pt a (alO c p), TR c n V0 (fmtV V first (fmtZ p first many) ((many + 4095) / 4096)) (fmtD D first ((many + 4095) / 4096)) true] ++ F := by
  have key := areaEach (f := 95) (first := first) (many := many) (cap := #[.pointer (some ⟨b5, 0, none⟩), .pointer (some ⟨b1, 0, none⟩), .pointer (some ⟨b3, 0, none⟩)]) (fun j => [arC b5 first many, boxA b1 a, errC b3 0, pt a (alO c p), TR c n V0 (fmtV V first (fmtZ p first many) j) (fmtD D first j) true]) (fun j => j ≤ (many + 4095) / 4096) (fun _ => False) Tryz.call95 h.few (by have := h.hi; have := h.n2; omega) (Nat.zero_le _) fun j hj _ => ?_
  · refine Spec.weak key ?_
    rintro F v M ⟨rfl, (⟨j, hj, hjl, rfl⟩ | ⟨Q, hQ, _⟩)⟩
    · rw [show j = (many + 4095) / 4096 from by omega]
      exact ⟨_, ⟨rfl, rfl⟩, .refl⟩
    · exact hQ.elim
  · have hb := h.blk hj
    have hl := fmtD_length D first j
    have hs := alFormat1 (a := a) (c := c) (b1 := b1) (b3 := b3) (b5 := b5) (first := first) (many := many) (x := ((4096 * j : Nat) : Int)) (y := ((min (many - 4096 * j) 4096 : Nat) : Int)) (p := p) (V0 := V0) (V := fmtV V first (fmtZ p first many) j) (D := fmtD D first j) hb.1 hb.2 (.inr (by omega))
    refine Spec.weak hs ?_
    rintro F v M ⟨rfl, rfl⟩
    exact ⟨_, .inl ⟨rfl, by omega, rfl⟩, .refl⟩
/-- What Format makes of the blocks. -/
def fmtA (p : Pl) (V : Nat → Bytes) : Nat → Bytes := fmtV (fmtV V p.im (fmtZ p p.im p.ino) ((p.ino + 4095) / 4096)) p.bm (fmtZ p p.bm p.dc) ((p.dc + 4095) / 4096)
def fmtB (p : Pl) (D : List Nat) : List Nat := fmtD (fmtD D p.im ((p.ino + 4095) / 4096)) p.bm ((p.dc + 4095) / 4096)

theorem alFormat {a c : Nat} {p : Pl} {V0 V : Nat → Bytes} (h : PlOk p) : Spec Tryz.prog 47 #[.pointer (some ⟨a, 0, none⟩)] [pt a (alO c p), TR c p.n V0 V [] true] fun F v M => v = .int .i64 0 ∧ M = [pt a (alO c p), TR c p.n V0 (fmtA p V) (fmtB p []) true] ++ F := by
  refine Spec.intro Tryz.func47 rfl rfl fun B F => ?_
  simp only [Tryz.ntmps47, List.cons_append, List.nil_append, env0, Nat.reduceAdd]
  have h4 := h.i2
  have h6 := h.aB.few
  refine WC.seq ?_
  refine WC.region ?_
  refine WL.box fun b1 => ?_
  refine WL.assign ?_
  refine WL.nil ?_
  refine WQ.next ?_
  refine WC.seq ?_
  refine WC.seq ?_
  refine WC.region ?_
  refine WL.ld ?_ sc25
  refine WL.call (hc := Tryz.call93) (sp := alReady (n := p.n) (V0 := V0) (V := V) (D := []) (op := true)) (h := ?_)
  rintro _ _ ⟨rfl, rfl⟩
  refine WL.not ?_
  refine WL.nil ?_
  refine WQ.next ?_
  refine WC.condF rfl rfl ?_
  refine WC.skip ?_
  refine WQ.next ?_
  refine WC.seq ?_
  refine WC.region ?_
  refine WL.alloc z35 fun b3 => ?_
  refine WL.st ?_ sc35
  refine WL.nil ?_
  refine WQ.next ?_
  refine WC.seq ?_
  refine WC.seq ?_
  refine WC.draw ([boxA b1 a]) [] 7 #[false, false, false, false, false, false, false] mixed (by kernel_rfl) NoPanic.autoJ ?_
  refine WD.take (i := 0) #[true, false, false, false, false, false, false] rfl (by kernel_rfl) (Qt.ld sc25) ?_
  refine WD.take (i := 2) #[true, false, true, false, false, false, false] rfl (by kernel_rfl) (Qt.ld sc25) ?_
  refine WD.take (i := 6) #[true, false, true, false, false, false, true] rfl (by kernel_rfl) (Qt.move ) ?_
  refine WD.one (i := 1) #[true, true, true, false, false, false, true] rfl (by kernel_rfl) fun hnp => ?_
  refine WL.call (hc := Tryz.call66) (sp := alInodes) (h := ?_)
  rintro _ _ ⟨rfl, rfl⟩
  refine WL.nil (WQ.wd hnp (.inl Am.auto) ?_)
  refine WD.one (i := 3) #[true, true, true, true, false, false, true] rfl (by kernel_rfl) fun hnp => ?_
  refine WL.call (hc := Tryz.call65) (sp := alBlocks) (h := ?_)
  rintro _ _ ⟨rfl, rfl⟩
  refine WL.nil (WQ.wd hnp (.inl Am.auto) ?_)
  refine WD.one (i := 4) #[true, true, true, true, true, false, true] rfl (by kernel_rfl) fun hnp => ?_
  refine WL.buildS (fun b13 => ?_) (bsArea2 _ _ _ _)
  refine WL.nil (WQ.wd hnp (.inl Am.auto) ?_)
  refine WD.take (i := 5) #[true, true, true, true, true, true, true] rfl (by kernel_rfl) (Qt.lenS sl155) ?_
  refine WD.done (by kernel_rfl) ?_
  refine WQ.next ?_
  refine WC.block ?_
  refine WC.loopN 3 (RC.succ ?_)
  refine WC.seq ?_
  refine WC.region ?_
  refine WL.lss ?_
  refine WL.nil ?_
  refine WQ.next ?_
  refine WC.seq ?_
  refine WC.condT rfl (congrArg Value.bool (by first | (simp; done) | (simp; omega) | omega)) ?_
  refine WC.skip ?_
  refine WQ.next ?_
  refine WC.seq ?_
  refine WC.block ?_
  refine WC.seq ?_
  refine WC.region ?_
  refine WL.idx ?_ so155
  refine WL.ldAR (i := 0) (us := [.int .i64 (p.im : Int), .int .i64 (p.ino : Int)]) ?_ agg114 Reads.pt rfl (Nat.le_of_ble_eq_true rfl) (R := pt b13 (.cells #[.int .i64 (p.im : Int), .int .i64 (p.ino : Int), .int .i64 (p.bm : Int), .int .i64 (p.dc : Int)] 114 (0, 0)))
  refine WL.alloc z114 fun b5_0 => ?_
  refine WL.stV ?_ agg114
  refine WL.nil ?_
  refine WQ.next ?_
  refine WC.region ?_
  refine WL.ldA ?_ agg114
  refine WL.makeFuncB ?_
  refine WL.call (hc := Tryz.call94) (sp := fmtEach (a := a) (c := c) (b1 := b1) (b3 := b3) (b5 := b5_0) (p := p) (V0 := V0) (V := V) (D := []) h.aI (by show 0 + (p.ino + 4095) / 4096 ≤ 60; omega)) (h := ?_)
  rintro _ _ ⟨rfl, rfl⟩
  simp only [List.cons_append, List.nil_append]
  refine WL.nil ?_
  refine WQ.blockNormal ?_
  refine WQ.next ?_
  refine WC.region ?_
  refine WL.add ?_
  refine WL.move ?_
  refine WL.nil ?_
  refine WQ.again (RC.succ ?_)
  refine WC.seq ?_
  refine WC.region ?_
  refine WL.lss ?_
  refine WL.nil ?_
  refine WQ.next ?_
  refine WC.seq ?_
  refine WC.condT rfl (congrArg Value.bool (by first | (simp; done) | (simp; omega) | omega)) ?_
  refine WC.skip ?_
  refine WQ.next ?_
  refine WC.seq ?_
  refine WC.block ?_
  refine WC.seq ?_
  refine WC.region ?_
  refine WL.idx ?_ so155
  refine WL.ldAR (i := 2) (us := [.int .i64 (p.bm : Int), .int .i64 (p.dc : Int)]) ?_ agg114 Reads.pt rfl (Nat.le_of_ble_eq_true rfl) (R := pt b13 (.cells #[.int .i64 (p.im : Int), .int .i64 (p.ino : Int), .int .i64 (p.bm : Int), .int .i64 (p.dc : Int)] 114 (0, 0)))
  refine WL.alloc z114 fun b5_1 => ?_
  refine WL.stV ?_ agg114
  refine WL.nil ?_
  refine WQ.next ?_
  refine WC.region ?_
  refine WL.ldA ?_ agg114
  refine WL.makeFuncB ?_
  refine WL.call (hc := Tryz.call94) (sp := fmtEach (a := a) (c := c) (b1 := b1) (b3 := b3) (b5 := b5_1) (p := p) (V0 := V0) (V := fmtV V p.im (fmtZ p p.im p.ino) ((p.ino + 4095) / 4096)) (D := fmtD [] p.im ((p.ino + 4095) / 4096)) h.aB (by have := fmtD_length [] p.im ((p.ino + 4095) / 4096); simp only [List.length_nil] at this; omega)) (h := ?_)
  rintro _ _ ⟨rfl, rfl⟩
  simp only [List.cons_append, List.nil_append]
  refine WL.nil ?_
  refine WQ.blockNormal ?_
  refine WQ.next ?_
  refine WC.region ?_
  refine WL.add ?_
  refine WL.move ?_
  refine WL.nil ?_
  refine WQ.again (RC.succ ?_)
  refine WC.seq ?_
  refine WC.region ?_
  refine WL.lss ?_
  refine WL.nil ?_
  refine WQ.next ?_
  refine WC.seq ?_
  refine WC.condF rfl (congrArg Value.bool (by first | (simp; done) | (simp; omega) | omega)) ?_
  refine WC.exit (WQ.thenExit (WQ.thenExit (WQ.blockExit (?_))))
  refine WQ.next ?_
  refine WC.seq ?_
  refine WC.region ?_
  refine WL.ld ?_ sc35
  refine WL.assign ?_
  refine WL.nil ?_
  refine WQ.next ?_
  refine WC.ret (?_)
  exact WQ.ret1 (h1 := .tmp (t := 2) rfl) ⟨_, ⟨rfl, rfl⟩, Am.auto⟩

end Go.Proofs.YtedmihapieleaaaGreat
