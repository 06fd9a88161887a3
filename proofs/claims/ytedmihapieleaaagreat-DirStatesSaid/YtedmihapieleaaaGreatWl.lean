/- Walks of package alloc. -/
import Derived.Test.YtedmihapieleaaaGreatFa
import Derived.Test.YtedmihapieleaaaGreatWk
import Derived.KernelRfl
set_option linter.unusedVariables false
set_option linter.unusedSimpArgs false
namespace Go.Proofs.YtedmihapieleaaaGreat
open Go

theorem bdArea (a b : Int) : BuildOk Tryz.prog 114 [(0, .int .i64 a), (1, .int .i64 b)] #[.int .i64 a, .int .i64 b] := fun w => by kernel_rfl
/-- A plan's numbers. -/
structure Pl where
  n : Nat
  ino : Nat
  im : Nat
  bm : Nat
  tb : Nat
  da : Nat
  dc : Nat
def Pl.cells (p : Pl) : Array Value := #[.int .i64 (p.n : Int), .int .i64 (p.ino : Int), .int .i64 (p.im : Int), .int .i64 (p.bm : Int), .int .i64 (p.tb : Int), .int .i64 (p.da : Int), .int .i64 (p.dc : Int)]
def alO (c : Nat) (p : Pl) : Obj := .cells #[.pointer (some ⟨c, 0, none⟩), .int .i64 (p.n : Int), .int .i64 (p.ino : Int), .int .i64 (p.im : Int), .int .i64 (p.bm : Int), .int .i64 (p.tb : Int), .int .i64 (p.da : Int), .int .i64 (p.dc : Int)] 154 (0, 0)
theorem bdAlloc (c : Nat) (a b cc d e f gg : Int) : BuildOk Tryz.prog 154 [(0, .pointer (some ⟨c, 0, none⟩)), (1, .agg #[.int .i64 a, .int .i64 b, .int .i64 cc, .int .i64 d, .int .i64 e, .int .i64 f, .int .i64 gg])] #[.pointer (some ⟨c, 0, none⟩), .int .i64 a, .int .i64 b, .int .i64 cc, .int .i64 d, .int .i64 e, .int .i64 f, .int .i64 gg] := fun w => by kernel_rfl
def areaV (first many : Nat) : Value := .agg #[.int .i64 (first : Int), .int .i64 (many : Int)]

theorem alNew {c : Nat} {p : Pl} : Spec Tryz.prog 45 #[.pointer (some ⟨c, 0, none⟩), .agg p.cells] [] fun F v M => ∃ a, v = .pointer (some ⟨a, 0, none⟩) ∧ M = pt a (alO c p) :: F := by
  refine Spec.intro Tryz.func45 rfl rfl fun B F => ?_
  simp only [Tryz.ntmps45, List.cons_append, List.nil_append, env0, Nat.reduceAdd]
  refine WC.seq ?_
  refine WC.region ?_
  refine WL.box fun b3 => ?_
  refine WL.assign ?_
  refine WL.nil ?_
  refine WQ.next ?_
  refine WC.seq ?_
  refine WC.region ?_
  refine WL.move ?_
  refine WL.ldA ?_ agg28
  refine WL.build ?_ (bdAlloc _ _ _ _ _ _ _ _)
  refine WL.box fun b8 => ?_
  refine WL.assign ?_
  refine WL.nil ?_
  refine WQ.next ?_
  refine WC.ret (?_)
  exact WQ.ret1 (h1 := .tmp (t := 4) rfl) ⟨_, ⟨_, rfl, rfl⟩, Am.auto⟩

theorem alBlocks {a c : Nat} {p : Pl} : Spec Tryz.prog 65 #[.pointer (some ⟨a, 0, none⟩)] [pt a (alO c p)] fun F v M => v = areaV p.bm p.dc ∧ M = pt a (alO c p) :: F := by
  refine Spec.intro Tryz.func65 rfl rfl fun B F => ?_
  simp only [Tryz.ntmps65, List.cons_append, List.nil_append, env0, Nat.reduceAdd]
  refine WC.seq ?_
  refine WC.region ?_
  refine WL.alloc z114 fun b2 => ?_
  refine WL.nil ?_
  refine WQ.next ?_
  refine WC.seq ?_
  refine WC.draw ([pt a (alO c p)]) [11] 12 #[false, false, false, false, false, false, false, false, false, false, false, false] mixed (by kernel_rfl) NoPanic.autoJ ?_
  refine WD.take (i := 0) #[true, false, false, false, false, false, false, false, false, false, false, false] rfl (by kernel_rfl) (Qt.move ) ?_
  refine WD.take (i := 1) #[true, true, false, false, false, false, false, false, false, false, false, false] rfl (by kernel_rfl) (Qt.nilCheck ) ?_
  refine WD.take (i := 2) #[true, true, true, false, false, false, false, false, false, false, false, false] rfl (by kernel_rfl) (Qt.fa fo154_1) ?_
  refine WD.take (i := 3) #[true, true, true, true, false, false, false, false, false, false, false, false] rfl (by kernel_rfl) (Qt.fa fo28_3) ?_
  refine WD.take (i := 4) #[true, true, true, true, true, false, false, false, false, false, false, false] rfl (by kernel_rfl) (Qt.ld sc3) ?_
  refine WD.take (i := 5) #[true, true, true, true, true, true, false, false, false, false, false, false] rfl (by kernel_rfl) (Qt.move ) ?_
  refine WD.take (i := 6) #[true, true, true, true, true, true, true, false, false, false, false, false] rfl (by kernel_rfl) (Qt.nilCheck ) ?_
  refine WD.take (i := 7) #[true, true, true, true, true, true, true, true, false, false, false, false] rfl (by kernel_rfl) (Qt.fa fo154_1) ?_
  refine WD.take (i := 8) #[true, true, true, true, true, true, true, true, true, false, false, false] rfl (by kernel_rfl) (Qt.fa fo28_6) ?_
  refine WD.take (i := 9) #[true, true, true, true, true, true, true, true, true, true, false, false] rfl (by kernel_rfl) (Qt.ld sc3) ?_
  refine WD.take (i := 10) #[true, true, true, true, true, true, true, true, true, true, true, false] rfl (by kernel_rfl) (Qt.build (bdArea _ _)) ?_
  refine WD.one (i := 11) #[true, true, true, true, true, true, true, true, true, true, true, true] rfl (by kernel_rfl) fun hnp => ?_
  refine WL.stV ?_ agg114
  refine WL.nil (WQ.wd hnp (.inr rfl) ?_)
  refine WD.done (by kernel_rfl) ?_
  refine WQ.next ?_
  refine WC.ret (?_)
  exact WQ.ret1 ⟨_, ⟨rfl, rfl⟩, Am.auto⟩

theorem alInodes {a c : Nat} {p : Pl} : Spec Tryz.prog 66 #[.pointer (some ⟨a, 0, none⟩)] [pt a (alO c p)] fun F v M => v = areaV p.im p.ino ∧ M = pt a (alO c p) :: F := by
  refine Spec.intro Tryz.func66 rfl rfl fun B F => ?_
  simp only [Tryz.ntmps66, List.cons_append, List.nil_append, env0, Nat.reduceAdd]
  refine WC.seq ?_
  refine WC.region ?_
  refine WL.alloc z114 fun b2 => ?_
  refine WL.nil ?_
  refine WQ.next ?_
  refine WC.seq ?_
  refine WC.draw ([pt a (alO c p)]) [11] 12 #[false, false, false, false, false, false, false, false, false, false, false, false] mixed (by kernel_rfl) NoPanic.autoJ ?_
  refine WD.take (i := 0) #[true, false, false, false, false, false, false, false, false, false, false, false] rfl (by kernel_rfl) (Qt.move ) ?_
  refine WD.take (i := 1) #[true, true, false, false, false, false, false, false, false, false, false, false] rfl (by kernel_rfl) (Qt.nilCheck ) ?_
  refine WD.take (i := 2) #[true, true, true, false, false, false, false, false, false, false, false, false] rfl (by kernel_rfl) (Qt.fa fo154_1) ?_
  refine WD.take (i := 3) #[true, true, true, true, false, false, false, false, false, false, false, false] rfl (by kernel_rfl) (Qt.fa fo28_2) ?_
  refine WD.take (i := 4) #[true, true, true, true, true, false, false, false, false, false, false, false] rfl (by kernel_rfl) (Qt.ld sc3) ?_
  refine WD.take (i := 5) #[true, true, true, true, true, true, false, false, false, false, false, false] rfl (by kernel_rfl) (Qt.move ) ?_
  refine WD.take (i := 6) #[true, true, true, true, true, true, true, false, false, false, false, false] rfl (by kernel_rfl) (Qt.nilCheck ) ?_
  refine WD.take (i := 7) #[true, true, true, true, true, true, true, true, false, false, false, false] rfl (by kernel_rfl) (Qt.fa fo154_1) ?_
  refine WD.take (i := 8) #[true, true, true, true, true, true, true, true, true, false, false, false] rfl (by kernel_rfl) (Qt.fa fo28_1) ?_
  refine WD.take (i := 9) #[true, true, true, true, true, true, true, true, true, true, false, false] rfl (by kernel_rfl) (Qt.ld sc3) ?_
  refine WD.take (i := 10) #[true, true, true, true, true, true, true, true, true, true, true, false] rfl (by kernel_rfl) (Qt.build (bdArea _ _)) ?_
  refine WD.one (i := 11) #[true, true, true, true, true, true, true, true, true, true, true, true] rfl (by kernel_rfl) fun hnp => ?_
  refine WL.stV ?_ agg114
  refine WL.nil (WQ.wd hnp (.inr rfl) ?_)
  refine WD.done (by kernel_rfl) ?_
  refine WQ.next ?_
  refine WC.ret (?_)
  exact WQ.ret1 ⟨_, ⟨rfl, rfl⟩, Am.auto⟩

theorem alReady {a c n : Nat} {p : Pl} {V0 V : Nat → Bytes} {D : List Nat} {op : Bool} : Spec Tryz.prog 93 #[.pointer (some ⟨a, 0, none⟩)] [pt a (alO c p), TR c n V0 V D op] fun F v M => v = .bool op ∧ M = pt a (alO c p) :: TR c n V0 V D op :: F := by
  refine Spec.intro Tryz.func93 rfl rfl fun B F => ?_
  simp only [Tryz.ntmps93, List.cons_append, List.nil_append, env0, Nat.reduceAdd]
  refine WC.seq ?_
  refine WC.region ?_
  refine WL.assign ?_
  refine WL.nil ?_
  refine WQ.next ?_
  refine WC.seq ?_
  refine WC.region ?_
  refine WL.move ?_
  refine WL.neNil ?_ ptr25
  refine WL.move ?_
  refine WL.gT ?_
  refine WL.move ?_
  refine WL.gT ?_
  refine WL.nilCheck ?_
  refine WL.gT ?_
  refine WL.fa ?_ fo154_0
  refine WL.gT ?_
  refine WL.ld ?_ sc24
  refine WL.gT ?_
  refine WL.call (hc := Tryz.call55) (sp := tOpen (n := n) (V0 := V0) (V := V) (D := D) (op := op)) (h := ?_)
  rintro _ _ ⟨rfl, rfl⟩
  refine WL.pickT ?_
  refine WL.assign ?_
  refine WL.nil ?_
  refine WQ.next ?_
  refine WC.ret (?_)
  exact WQ.ret1 (h1 := .tmp (t := 2) rfl) ⟨_, ⟨rfl, rfl⟩, Am.auto⟩

theorem areaEach {f first many : Nat} {cap : Array Value} (I : Nat → List HP) (H : Nat → Prop) (K : List HP → Prop) (hc : ∀ args w, (callFunc f args).run Tryz.prog w = .ok (.enter f args) w) (hm : many ≤ 65536) (hf : first ≤ 65536) (h0 : H 0)
    (hs : ∀ j : Nat, 4096 * j < many → H j → Spec Tryz.prog f (#[.int .i64 ((first + j : Nat) : Int), .int .i64 ((4096 * j : Nat) : Int), .int .i64 ((min (many - 4096 * j) 4096 : Nat) : Int)] ++ cap) (I j) fun F v M => (v = .bool true ∧ H (j + 1) ∧ M = I (j + 1) ++ F) ∨ (v = .bool false ∧ ∃ Q, K Q ∧ M = Q ++ F)) :
    Spec Tryz.prog 94 #[areaV first many, .func (.func f) #[] cap] (I 0) fun F v M => v = .tuple #[] ∧ ((∃ j, many ≤ 4096 * j ∧ H j ∧ M = I j ++ F) ∨ ∃ Q, K Q ∧ M = Q ++ F) := by
  refine Spec.intro Tryz.func94 rfl rfl fun B F => ?_
  simp only [Tryz.ntmps94, List.cons_append, List.nil_append, env0, Nat.reduceAdd]
  refine WC.seq ?_
  refine WC.region ?_
  refine WL.box fun b2 => ?_
  refine WL.nil ?_
  refine WQ.next ?_
  refine WC.seq ?_
  refine WC.region ?_
  refine WL.assign ?_
  refine WL.nil ?_
  refine WQ.next ?_
  refine WC.block ?_
  refine WC.loopA (σ := Nat) (fun j => [(1, .func (.func f) #[] cap), (2, .pointer (some ⟨b2, 0, none⟩)), (4, .int .i64 ((4096 * j : Nat) : Int))]) (fun j => I j ++ (pt b2 (.cells #[.int .i64 (first : Int), .int .i64 (many : Int)] 114 (0, 0)) :: F)) (fun j => H j) (fun j => many - 4096 * j) 0 h0 ?_ (hI := Am.toMid)
  rintro j hp
  refine WC.seq ?_
  refine WC.seq ?_
  refine WC.region ?_
  refine WL.move ?_
  refine WL.fa ?_ fo114_1
  refine WL.ld ?_ sc3 (hm := Mem.mid)
  refine WL.lss ?_
  refine WL.nil ?_
  refine WQ.next ?_
  refine WC.cond rfl (fun hb => ?_) (fun hb => ?_)
  · have hlt : 4096 * j < many := by have := of_decide_eq_true hb; omega
    refine WC.skip ?_
    refine WQ.next ?_
    refine WC.seq ?_
    refine WC.block ?_
    refine WC.seq ?_
    refine WC.region ?_
    refine WL.move ?_
    refine WL.fa ?_ fo114_0
    refine WL.ld ?_ sc3 (hm := Mem.mid)
    refine WL.move ?_
    refine WL.quo ?_
    refine WL.add ?_
    refine WL.cast (d := 16) (u := .int .i64 ((first + j : Nat) : Int)) rfl (congrArg (Value.int .i64) (by omega)) ?_
    refine WL.move ?_
    refine WL.fa ?_ fo114_1
    refine WL.ld ?_ sc3 (hm := Mem.mid)
    refine WL.move ?_
    refine WL.sub ?_
    refine WL.minI ?_
    refine WL.cast (d := 22) (u := .int .i64 ((min (many - 4096 * j) 4096 : Nat) : Int)) rfl (congrArg (Value.int .i64) (by split <;> omega)) ?_
    refine WL.callF (t := 11) (vs := [.int .i64 ((first + j : Nat) : Int), .int .i64 ((4096 * j : Nat) : Int), .int .i64 ((min (many - 4096 * j) 4096 : Nat) : Int)]) rfl rfl hc (by simpa using hs j hlt hp) ?_ Tk.app
    rintro v M (⟨rfl, hH, rfl⟩ | ⟨rfl, Q, hQ, rfl⟩)
    · refine WL.not ?_
      refine WL.nil ?_
      refine WQ.next ?_
      refine WC.condF rfl rfl ?_
      refine WC.skip ?_
      refine WQ.blockNormal ?_
      refine WQ.next ?_
      refine WC.region ?_
      refine WL.move ?_
      refine WL.add ?_
      refine WL.assign ?_
      refine WL.nil ?_
      refine WQ.cast (d := 4) (u := .int .i64 ((4096 * (j + 1) : Nat) : Int)) rfl (congrArg (Value.int .i64) (by omega)) ?_
      exact WQ.back (j + 1) hH (by omega) (hI := .refl)
    · refine WL.not ?_
      refine WL.nil ?_
      refine WQ.next ?_
      refine WC.condT rfl rfl ?_
      refine WC.ret (WQ.blockRet (WQ.thenRet (WQ.thenRet (WQ.blockRet (?_)))))
      exact WQ.ret0 ⟨_, ⟨rfl, .inr ⟨Q, hQ, rfl⟩⟩, Am.trans_mid⟩
  · have hge : ¬ 4096 * j < many := by have := of_decide_eq_false hb; omega
    refine WC.exit (WQ.thenExit (WQ.thenExit (WQ.blockExit (?_))))
    exact WQ.ret0 ⟨_, ⟨rfl, .inl ⟨j, by omega, hp, rfl⟩⟩, Am.trans_mid⟩


/-- Digit k of the maps that begin at a block. -/
def dig (V : Nat → Bytes) (first k : Nat) : Bool := tb (V (first + k / 4096)) (k % 4096)
theorem dig_at (V : Nat → Bytes) (first j i : Nat) (hi : i < 4096) : dig V first (4096 * j + i) = tb (V (first + j)) i := by
  unfold dig
  rw [show (4096 * j + i) / 4096 = j from by omega, show (4096 * j + i) % 4096 = i from by omega]
theorem tb_cases (xs : Bytes) : ∀ n : Nat, (∀ i < n, tb xs i = true) ∨ ∃ i < n, tb xs i = false ∧ ∀ j < i, tb xs j = true
  | 0 => .inl fun i hi => by omega
  | n + 1 => by
    rcases tb_cases xs n with h | ⟨i, hi, h1, h2⟩
    · cases hn : tb xs n with
      | true =>
        refine .inl fun i hi => ?_
        by_cases hin : i = n
        · subst hin; exact hn
        · exact h i (by omega)
      | false => exact .inr ⟨n, by omega, hn, h⟩
    · exact .inr ⟨i, by omega, h1, h2⟩
def boxA (b a : Nat) : HP := pt b (.cells #[.pointer (some ⟨a, 0, none⟩)] 25 (0, 0))
def errC (b : Nat) (e : Int) : HP := pt b (.cells #[.int .i64 e] 35 (0, 0))
def intC (b : Nat) (i : Int) : HP := pt b (.cells #[.int .i64 i] 3 (0, 0))

theorem alTake1 {a c n b2 b4 b5 blk fr mj : Nat} {p : Pl} {V0 V : Nat → Bytes} {D : List Nat} (h5 : 245 ≤ blk) (hk : blk < n) (hm : mj ≤ 4096) (hfr : fr ≤ 65536) (hroom : blk ∈ D ∨ D.length < 60) :
    Spec Tryz.prog 125 #[.int .i64 (blk : Int), .int .i64 (fr : Int), .int .i64 (mj : Int), .pointer (some ⟨b2, 0, none⟩), .pointer (some ⟨b5, 0, none⟩), .pointer (some ⟨b4, 0, none⟩)] [boxA b2 a, errC b5 3, intC b4 (-1), pt a (alO c p), TR c n V0 V D true] fun F v M =>
      (v = .bool true ∧ (∀ i < mj, tb (V blk) i = true) ∧ M = [boxA b2 a, errC b5 3, intC b4 (-1), pt a (alO c p), TR c n V0 V D true] ++ F) ∨
      (v = .bool false ∧ ∃ i, i < mj ∧ tb (V blk) i = false ∧ (∀ j < i, tb (V blk) j = true) ∧ M = [boxA b2 a, errC b5 0, intC b4 ((fr + i : Nat) : Int), pt a (alO c p), TR c n V0 (wr V blk (setDigit (V blk) i true)) (insD D blk) true] ++ F) := by
  refine Spec.intro Tryz.func125 rfl rfl fun B F => ?_
  simp only [Tryz.ntmps125, List.cons_append, List.nil_append, env0, Nat.reduceAdd]
  simp only [boxA, errC, intC]
  refine WC.seq ?_
  refine WC.region ?_
  refine WL.assign ?_
  refine WL.nil ?_
  refine WQ.next ?_
  refine WC.seq ?_
  refine WC.region ?_
  refine WL.ld ?_ sc25
  refine WL.nilCheck ?_
  refine WL.fa ?_ fo154_0
  refine WL.ld ?_ sc24
  refine WL.move ?_
  refine WL.call (hc := Tryz.call63) (sp := tRead (n := n) (V0 := V0) (V := V) (D := D) (op := true) h5 hk) (h := ?_)
  rintro _ _ ⟨gb, q, el, rfl, ⟨hq1, hq2, hl5⟩, rfl⟩
  refine WL.move ?_
  refine WL.extract ?_
  refine WL.extract ?_
  refine WL.assign ?_
  refine WL.assign ?_
  refine WL.nil ?_
  refine WQ.next ?_
  refine WC.seq ?_
  refine WC.seq ?_
  refine WC.region ?_
  refine WL.move ?_
  refine WL.nei ?_
  refine WL.nil ?_
  refine WQ.next ?_
  refine WC.condF rfl rfl ?_
  refine WC.skip ?_
  refine WQ.next ?_
  refine WC.seq ?_
  refine WC.region ?_
  refine WL.move ?_
  refine WL.move ?_
  refine WL.call (hc := Tryz.call126) (sp := bitsFirst Reads.buf hl5 (by decide) (m := (mj : Int)) (by omega)) (h := ?_)
  rintro _ _ ⟨rfl, rfl⟩
  refine WL.assign ?_
  refine WL.nil ?_
  refine WQ.next ?_
  refine WC.seq ?_
  refine WC.seq ?_
  refine WC.region ?_
  refine WL.move ?_
  refine WL.lss ?_
  refine WL.nil ?_
  refine WQ.next ?_
  rcases tb_cases (V blk) mj with hall | ⟨i, hi, hi0, hib⟩
  · have hf0 : first0 (V blk) mj = none := first0_none hall
    refine WC.cast (d := 29) (u := .bool true) rfl (congrArg Value.bool (by rw [Int.toNat_natCast, hf0]; rfl)) ?_
    refine WC.condT rfl rfl ?_
    refine WC.seq ?_
    refine WC.region ?_
    refine WL.assign ?_
    refine WL.nil ?_
    refine WQ.next ?_
    refine WC.ret (WQ.thenRet (?_))
    exact WQ.ret1 (h1 := .tmp (t := 9) rfl) ⟨_, .inl ⟨rfl, hall, rfl⟩, Am.auto⟩
  · have hf0 : first0 (V blk) mj = some i := first0_some hi hi0 hib
    refine WC.cast (d := 29) (u := .bool false) rfl (congrArg Value.bool (by rw [Int.toNat_natCast, hf0]; exact decide_eq_false (by simp only; omega))) ?_
    refine WC.cast (d := 12) (u := .int .i64 (i : Int)) rfl (congrArg (Value.int .i64) (by rw [Int.toNat_natCast, hf0])) ?_
    refine WC.condF rfl rfl ?_
    refine WC.skip ?_
    refine WQ.next ?_
    refine WC.seq ?_
    refine WC.draw ([pt b2 (.cells #[.pointer (some ⟨a, 0, none⟩)] 25 (0, 0)), pt a (alO c p)]) [13] 14 #[false, false, false, false, false, false, false, false, false, false, false, false, false, false] mixed (by kernel_rfl) NoPanic.autoJ ?_
    refine WD.take (i := 0) #[true, false, false, false, false, false, false, false, false, false, false, false, false, false] rfl (by kernel_rfl) (Qt.move ) ?_
    refine WD.take (i := 1) #[true, true, false, false, false, false, false, false, false, false, false, false, false, false] rfl (by kernel_rfl) (Qt.move ) ?_
    refine WD.take (i := 2) #[true, true, true, false, false, false, false, false, false, false, false, false, false, false] rfl (by kernel_rfl) (Qt.add ) ?_
    refine WD.take (i := 3) #[true, true, true, true, false, false, false, false, false, false, false, false, false, false] rfl (by kernel_rfl) (Qt.ld sc25) ?_
    refine WD.take (i := 4) #[true, true, true, true, true, false, false, false, false, false, false, false, false, false] rfl (by kernel_rfl) (Qt.nilCheck ) ?_
    refine WD.take (i := 5) #[true, true, true, true, true, true, false, false, false, false, false, false, false, false] rfl (by kernel_rfl) (Qt.fa fo154_0) ?_
    refine WD.take (i := 6) #[true, true, true, true, true, true, true, false, false, false, false, false, false, false] rfl (by kernel_rfl) (Qt.ld sc24) ?_
    refine WD.take (i := 7) #[true, true, true, true, true, true, true, true, false, false, false, false, false, false] rfl (by kernel_rfl) (Qt.move ) ?_
    refine WD.take (i := 8) #[true, true, true, true, true, true, true, true, true, false, false, false, false, false] rfl (by kernel_rfl) (Qt.move ) ?_
    refine WD.take (i := 9) #[true, true, true, true, true, true, true, true, true, true, false, false, false, false] rfl (by kernel_rfl) (Qt.move ) ?_
    refine WD.one (i := 10) #[true, true, true, true, true, true, true, true, true, true, true, false, false, false] rfl (by kernel_rfl) fun hnp => ?_
    refine WL.call (hc := Tryz.call127) (sp := bitsSet Reads.buf hl5 (by decide) (k := (i : Int)) (by omega) (by omega)) (h := ?_)
    rintro _ _ ⟨gc, kc, ⟨rfl, hc1, hc2⟩, rfl⟩
    rw [Int.toNat_natCast]
    refine WL.nil (WQ.wd hnp (.inl Am.auto) ?_)
    refine WD.one (i := 11) #[true, true, true, true, true, true, true, true, true, true, true, true, false, false] rfl (by kernel_rfl) fun hnp => ?_
    refine WL.call (hc := Tryz.call96) (sp := tWrite (n := n) (V0 := V0) (V := V) (D := D) h5 hk Reads.buf ((setDigit_length _ _ _).trans hl5) rfl hroom) (h := ?_)
    rintro _ _ ⟨rfl, rfl⟩
    refine WL.nil (WQ.wd hnp (.inl Am.auto) ?_)
    refine WD.one (i := 12) #[true, true, true, true, true, true, true, true, true, true, true, true, true, false] rfl (by kernel_rfl) fun hnp => ?_
    refine WL.st ?_ sc3
    refine WL.nil (WQ.wd hnp (.inl Am.auto) ?_)
    refine WD.one (i := 13) #[true, true, true, true, true, true, true, true, true, true, true, true, true, true] rfl (by kernel_rfl) fun hnp => ?_
    refine WL.st ?_ sc35
    refine WL.nil (WQ.wd hnp (.inr rfl) ?_)
    refine WD.done (by kernel_rfl) ?_
    refine WQ.next ?_
    refine WC.seq ?_
    refine WC.region ?_
    refine WL.assign ?_
    refine WL.nil ?_
    refine WQ.next ?_
    refine WC.ret (?_)
    exact WQ.ret1 (h1 := .tmp (t := 9) rfl) ⟨_, .inr ⟨rfl, i, hi, hi0, hib, rfl⟩, Am.auto⟩


/-- Digit k is turned. -/
def setD (V : Nat → Bytes) (first k : Nat) (on : Bool) : Nat → Bytes := wr V (first + k / 4096) (setDigit (V (first + k / 4096)) (k % 4096) on)
structure AreaOk (n first many : Nat) : Prop where
  lo : 245 ≤ first
  hi : first + (many + 4095) / 4096 ≤ n
  few : many ≤ 65536
  n2 : n ≤ 65536
theorem AreaOk.blk {n first many : Nat} (h : AreaOk n first many) {j : Nat} (hj : 4096 * j < many) : 245 ≤ first + j ∧ first + j < n := by
  have := h.lo
  have := h.hi
  omega
def takeI (a c n b2 b4 b5 : Nat) (p : Pl) (V0 V : Nat → Bytes) (D : List Nat) : List HP := [boxA b2 a, errC b5 3, intC b4 (-1), pt a (alO c p), TR c n V0 V D true]
def takeK (a c n b2 b4 b5 first many : Nat) (p : Pl) (V0 V : Nat → Bytes) (D : List Nat) (Q : List HP) : Prop := ∃ k, k < many ∧ dig V first k = false ∧ (∀ i < k, dig V first i = true) ∧ Q = [boxA b2 a, errC b5 0, intC b4 (k : Int), pt a (alO c p), TR c n V0 (setD V first k true) (insD D (first + k / 4096)) true]
def takeH (V : Nat → Bytes) (first many j : Nat) : Prop := ∀ i, i < 4096 * j → i < many → dig V first i = true
theorem takeEach {a c n b2 b4 b5 first many : Nat} {p : Pl} {V0 V : Nat → Bytes} {D : List Nat} (h : AreaOk n first many) (hroom : ∀ j, 4096 * j < many → first + j ∈ D ∨ D.length < 60) :
    Spec Tryz.prog 94 #[areaV first many, .func (.func 125) #[] #[.pointer (some ⟨b2, 0, none⟩), .pointer (some ⟨b5, 0, none⟩), .pointer (some ⟨b4, 0, none⟩)]] (takeI a c n b2 b4 b5 p V0 V D)
      fun F v M => v = .tuple #[] ∧ ((∃ j, many ≤ 4096 * j ∧ takeH V first many j ∧ M = takeI a c n b2 b4 b5 p V0 V D ++ F) ∨ ∃ Q, takeK a c n b2 b4 b5 first many p V0 V D Q ∧ M = Q ++ F) := by
  refine areaEach (fun _ => takeI a c n b2 b4 b5 p V0 V D) (takeH V first many) (takeK a c n b2 b4 b5 first many p V0 V D) Tryz.call125 h.few (by have := h.hi; have := h.n2; omega) (fun i hi => by omega) fun j hj hH => ?_
  have hb := h.blk hj
  have hs := alTake1 (a := a) (c := c) (b2 := b2) (b4 := b4) (b5 := b5) (fr := 4096 * j) (mj := min (many - 4096 * j) 4096) (p := p) (V0 := V0) (V := V) hb.1 hb.2 (by omega) (by have := h.few; omega) (hroom j hj)
  refine Spec.weak hs ?_
  rintro F v M (⟨rfl, hall, rfl⟩ | ⟨rfl, i, hi, hi0, hib, rfl⟩)
  · refine ⟨_, .inl ⟨rfl, fun k hk hkm => ?_, rfl⟩, .refl⟩
    by_cases hkj : k < 4096 * j
    · exact hH k hkj hkm
    · have := dig_at V first j (k - 4096 * j) (by omega)
      rw [show 4096 * j + (k - 4096 * j) = k from by omega] at this
      rw [this]
      exact hall _ (by omega)
  · refine ⟨_, .inr ⟨rfl, _, ⟨4096 * j + i, by omega, ?_, fun k hk => ?_, rfl⟩, ?_⟩, .refl⟩
    · rw [dig_at V first j i (by omega)]; exact hi0
    · by_cases hkj : k < 4096 * j
      · exact hH k hkj (by omega)
      · have := dig_at V first j (k - 4096 * j) (by omega)
        rw [show 4096 * j + (k - 4096 * j) = k from by omega] at this
        rw [this]
        exact hib _ (by omega)
    · unfold setD
      rw [show (4096 * j + i) / 4096 = j from by omega, show (4096 * j + i) % 4096 = i from by omega]

theorem alTake {a c n first many : Nat} {p : Pl} {V0 V : Nat → Bytes} {D : List Nat} (h : AreaOk n first many) (hroom : ∀ j, 4096 * j < many → first + j ∈ D ∨ D.length < 60) :
    Spec Tryz.prog 97 #[.pointer (some ⟨a, 0, none⟩), areaV first many] [pt a (alO c p), TR c n V0 V D true] fun F v M =>
      (∃ k, k < many ∧ dig V first k = false ∧ (∀ i < k, dig V first i = true) ∧ v = .tuple #[.int .i64 (k : Int), .int .i64 0] ∧ M = [pt a (alO c p), TR c n V0 (setD V first k true) (insD D (first + k / 4096)) true] ++ F) ∨
      ((∀ i < many, dig V first i = true) ∧ v = .tuple #[.int .i64 0, .int .i64 3] ∧ M = [pt a (alO c p), TR c n V0 V D true] ++ F) := by
  refine Spec.intro Tryz.func97 rfl rfl fun B F => ?_
  simp only [Tryz.ntmps97, List.cons_append, List.nil_append, env0, Nat.reduceAdd]
  refine WC.seq ?_
  refine WC.region ?_
  refine WL.box fun b2 => ?_
  refine WL.box fun b3 => ?_
  refine WL.alloc z3 fun b4 => ?_
  refine WL.alloc z35 fun b5 => ?_
  refine WL.nil ?_
  refine WQ.next ?_
  refine WC.seq ?_
  refine WC.seq ?_
  refine WC.region ?_
  refine WL.ld ?_ sc25
  refine WL.call (hc := Tryz.call93) (sp := alReady (n := n) (V0 := V0) (V := V) (D := D) (op := true)) (h := ?_)
  rintro _ _ ⟨rfl, rfl⟩
  refine WL.not ?_
  refine WL.nil ?_
  refine WQ.next ?_
  refine WC.condF rfl rfl ?_
  refine WC.skip ?_
  refine WQ.next ?_
  refine WC.seq ?_
  refine WC.region ?_
  refine WL.st ?_ sc3
  refine WL.st ?_ sc35
  refine WL.nil ?_
  refine WQ.next ?_
  refine WC.seq ?_
  refine WC.region ?_
  refine WL.ldA ?_ agg114
  refine WL.makeFuncB ?_
  refine WL.call (hc := Tryz.call94) (sp := takeEach (a := a) (c := c) (b2 := b2) (b4 := b4) (b5 := b5) (p := p) (V0 := V0) (V := V) (D := D) h hroom) (h := ?_)
  rintro _ _ ⟨rfl, (⟨j, hj, hH, rfl⟩ | ⟨Q, ⟨k, hk, hk0, hkb, rfl⟩, rfl⟩)⟩ <;> simp only [takeI, List.cons_append, List.nil_append, errC, intC]
  · refine WL.nil ?_
    refine WQ.next ?_
    refine WC.seq ?_
    refine WC.seq ?_
    refine WC.region ?_
    refine WL.ld ?_ sc35
    refine WL.nei ?_
    refine WL.nil ?_
    refine WQ.next ?_
    refine WC.condT rfl rfl ?_
    refine WC.seq ?_
    refine WC.draw ([errC b5 3]) [2] 3 #[false, false, false] mixed (by kernel_rfl) NoPanic.autoJ ?_
    refine WD.take (i := 0) #[true, false, false] rfl (by kernel_rfl) (Qt.ld sc35) ?_
    refine WD.one (i := 1) #[true, true, false] rfl (by kernel_rfl) fun hnp => ?_
    refine WL.st ?_ sc3
    refine WL.nil (WQ.wd hnp (.inl Am.auto) ?_)
    refine WD.one (i := 2) #[true, true, true] rfl (by kernel_rfl) fun hnp => ?_
    refine WL.st ?_ sc35
    refine WL.nil (WQ.wd hnp (.inr rfl) ?_)
    refine WD.done (by kernel_rfl) ?_
    refine WQ.next ?_
    refine WC.ret (WQ.thenRet (?_))
    exact WQ.ret2 ⟨_, .inr ⟨fun i hi => hH i (by omega) hi, rfl, rfl⟩, Am.auto⟩
  · refine WL.nil ?_
    refine WQ.next ?_
    refine WC.seq ?_
    refine WC.seq ?_
    refine WC.region ?_
    refine WL.ld ?_ sc35
    refine WL.nei ?_
    refine WL.nil ?_
    refine WQ.next ?_
    refine WC.condF rfl rfl ?_
    refine WC.skip ?_
    refine WQ.next ?_
    refine WC.seq ?_
    refine WC.region ?_
    refine WL.ld ?_ sc3
    refine WL.st ?_ sc3
    refine WL.st ?_ sc35
    refine WL.nil ?_
    refine WQ.next ?_
    refine WC.ret (?_)
    exact WQ.ret2 ⟨_, .inl ⟨k, hk, hk0, hkb, rfl, rfl⟩, Am.auto⟩

theorem alGiveNo {a c n first many : Nat} {k : Int} {p : Pl} {V0 V : Nat → Bytes} {D : List Nat} (h : AreaOk n first many) (hk : k < 0 ∨ (many : Int) ≤ k ∨ (0 ≤ k ∧ k < many ∧ dig V first k.toNat = false)) :
    Spec Tryz.prog 114 #[.pointer (some ⟨a, 0, none⟩), areaV first many, .int .i64 k] [pt a (alO c p), TR c n V0 V D true] fun F v M => v = .int .i64 1 ∧ M = [pt a (alO c p), TR c n V0 V D true] ++ F := by
  refine Spec.intro Tryz.func114 rfl rfl fun B F => ?_
  simp only [Tryz.ntmps114, List.cons_append, List.nil_append, env0, Nat.reduceAdd]
  have hfew := h.few
  have hn2 := h.n2
  have hhi := h.hi
  have hlo := h.lo
  refine WC.seq ?_
  refine WC.region ?_
  refine WL.box fun b4 => ?_
  refine WL.assign ?_
  refine WL.nil ?_
  refine WQ.next ?_
  refine WC.seq ?_
  refine WC.seq ?_
  refine WC.region ?_
  refine WL.move ?_
  refine WL.call (hc := Tryz.call93) (sp := alReady (n := n) (V0 := V0) (V := V) (D := D) (op := true)) (h := ?_)
  rintro _ _ ⟨rfl, rfl⟩
  refine WL.not ?_
  refine WL.nil ?_
  refine WQ.next ?_
  refine WC.condF rfl rfl ?_
  refine WC.skip ?_
  refine WQ.next ?_
  refine WC.seq ?_
  refine WC.seq ?_
  refine WC.region ?_
  refine WL.move ?_
  refine WL.lss ?_
  refine WL.move ?_
  rcases hk with hk | hk | ⟨hk1, hk2, hk3⟩
  · refine WL.cast (d := 15) (u := .bool true) rfl (congrArg Value.bool (by first | (simp; done) | (simp; omega) | omega)) ?_
    refine WL.gF ?_
    refine WL.gF ?_
    refine WL.gF ?_
    refine WL.gF ?_
    refine WL.pickT ?_
    refine WL.nil ?_
    refine WQ.next ?_
    refine WC.condT rfl rfl ?_
    refine WC.seq ?_
    refine WC.region ?_
    refine WL.assign ?_
    refine WL.nil ?_
    refine WQ.next ?_
    refine WC.ret (WQ.thenRet (?_))
    exact WQ.ret1 (h1 := .tmp (t := 6) rfl) ⟨_, ⟨rfl, rfl⟩, Am.auto⟩
  · by_cases hneg : k < 0
    · refine WL.cast (d := 15) (u := .bool true) rfl (congrArg Value.bool (by first | (simp; done) | (simp; omega) | omega)) ?_
      refine WL.gF ?_
      refine WL.gF ?_
      refine WL.gF ?_
      refine WL.gF ?_
      refine WL.pickT ?_
      refine WL.nil ?_
      refine WQ.next ?_
      refine WC.condT rfl rfl ?_
      refine WC.seq ?_
      refine WC.region ?_
      refine WL.assign ?_
      refine WL.nil ?_
      refine WQ.next ?_
      refine WC.ret (WQ.thenRet (?_))
      exact WQ.ret1 (h1 := .tmp (t := 6) rfl) ⟨_, ⟨rfl, rfl⟩, Am.auto⟩
    · refine WL.cast (d := 15) (u := .bool false) rfl (congrArg Value.bool (by first | (simp; done) | (simp; omega) | omega)) ?_
      refine WL.gT ?_
      refine WL.move ?_
      refine WL.gT ?_
      refine WL.fa ?_ fo114_1
      refine WL.gT ?_
      refine WL.ld ?_ sc3
      refine WL.gT ?_
      refine WL.geq ?_
      refine WL.pickF ?_
      refine WL.nil ?_
      refine WQ.next ?_
      refine WC.condT rfl (congrArg Value.bool (by first | (simp; done) | (simp; omega) | omega)) ?_
      refine WC.seq ?_
      refine WC.region ?_
      refine WL.assign ?_
      refine WL.nil ?_
      refine WQ.next ?_
      refine WC.ret (WQ.thenRet (?_))
      exact WQ.ret1 (h1 := .tmp (t := 6) rfl) ⟨_, ⟨rfl, rfl⟩, Am.auto⟩
  · refine WL.cast (d := 15) (u := .bool false) rfl (congrArg Value.bool (by first | (simp; done) | (simp; omega) | omega)) ?_
    refine WL.gT ?_
    refine WL.move ?_
    refine WL.gT ?_
    refine WL.fa ?_ fo114_1
    refine WL.gT ?_
    refine WL.ld ?_ sc3
    refine WL.gT ?_
    refine WL.geq ?_
    refine WL.pickF ?_
    refine WL.nil ?_
    refine WQ.next ?_
    refine WC.condF rfl (congrArg Value.bool (by first | (simp; done) | (simp; omega) | omega)) ?_
    refine WC.skip ?_
    refine WQ.next ?_
    refine WC.seq ?_
    refine WC.region ?_
    refine WL.fa ?_ fo114_0
    refine WL.ld ?_ sc3
    refine WL.move ?_
    refine WL.quo ?_
    refine WL.add ?_
    refine WL.cast (d := 25) (u := .int .i64 ((first + k.toNat / 4096 : Nat) : Int)) rfl (congrArg (Value.int .i64) (by omega)) ?_
    refine WL.assign ?_
    refine WL.nil ?_
    refine WQ.next ?_
    refine WC.seq ?_
    refine WC.region ?_
    refine WL.move ?_
    refine WL.nilCheck ?_
    refine WL.fa ?_ fo154_0
    refine WL.ld ?_ sc24
    refine WL.move ?_
    refine WL.call (hc := Tryz.call63) (sp := tRead (n := n) (V0 := V0) (V := V) (D := D) (op := true) (k := first + k.toNat / 4096) (by omega) (by omega)) (h := ?_)
    rintro _ _ ⟨gb, q, el, rfl, ⟨hq1, hq2, hl5⟩, rfl⟩
    refine WL.move ?_
    refine WL.extract ?_
    refine WL.extract ?_
    refine WL.assign ?_
    refine WL.assign ?_
    refine WL.nil ?_
    refine WQ.next ?_
    refine WC.seq ?_
    refine WC.seq ?_
    refine WC.region ?_
    refine WL.move ?_
    refine WL.nei ?_
    refine WL.nil ?_
    refine WQ.next ?_
    refine WC.condF rfl rfl ?_
    refine WC.skip ?_
    refine WQ.next ?_
    refine WC.seq ?_
    refine WC.seq ?_
    refine WC.region ?_
    refine WL.move ?_
    refine WL.move ?_
    refine WL.rem ?_
    refine WL.call (hc := Tryz.call133) (sp := bitsTest Reads.buf hl5 (by decide) (by omega)) (h := ?_)
    rintro _ _ ⟨rfl, rfl⟩
    refine WL.cast (d := 41) (u := .bool false) rfl (congrArg Value.bool (by unfold dig at hk3; rw [← hk3]; congr 1; omega)) ?_
    refine WL.not ?_
    refine WL.nil ?_
    refine WQ.next ?_
    refine WC.condT rfl rfl ?_
    refine WC.seq ?_
    refine WC.region ?_
    refine WL.assign ?_
    refine WL.nil ?_
    refine WQ.next ?_
    refine WC.ret (WQ.thenRet (?_))
    exact WQ.ret1 (h1 := .tmp (t := 6) rfl) ⟨_, ⟨rfl, rfl⟩, Am.auto⟩

theorem alGive {a c n first many : Nat} {k : Nat} {p : Pl} {V0 V : Nat → Bytes} {D : List Nat} (h : AreaOk n first many) (hk : k < many) (hd : dig V first k = true) (hroom : first + k / 4096 ∈ D ∨ D.length < 60) :
    Spec Tryz.prog 114 #[.pointer (some ⟨a, 0, none⟩), areaV first many, .int .i64 (k : Int)] [pt a (alO c p), TR c n V0 V D true] fun F v M => v = .int .i64 0 ∧ M = [pt a (alO c p), TR c n V0 (setD V first k false) (insD D (first + k / 4096)) true] ++ F := by
  refine Spec.intro Tryz.func114 rfl rfl fun B F => ?_
  simp only [Tryz.ntmps114, List.cons_append, List.nil_append, env0, Nat.reduceAdd]
  have hfew := h.few
  have hn2 := h.n2
  have hhi := h.hi
  have hlo := h.lo
  refine WC.seq ?_
  refine WC.region ?_
  refine WL.box fun b4 => ?_
  refine WL.assign ?_
  refine WL.nil ?_
  refine WQ.next ?_
  refine WC.seq ?_
  refine WC.seq ?_
  refine WC.region ?_
  refine WL.move ?_
  refine WL.call (hc := Tryz.call93) (sp := alReady (n := n) (V0 := V0) (V := V) (D := D) (op := true)) (h := ?_)
  rintro _ _ ⟨rfl, rfl⟩
  refine WL.not ?_
  refine WL.nil ?_
  refine WQ.next ?_
  refine WC.condF rfl rfl ?_
  refine WC.skip ?_
  refine WQ.next ?_
  refine WC.seq ?_
  refine WC.seq ?_
  refine WC.region ?_
  refine WL.move ?_
  refine WL.lss ?_
  refine WL.move ?_
  refine WL.cast (d := 15) (u := .bool false) rfl (congrArg Value.bool (by first | (simp; done) | (simp; omega) | omega)) ?_
  refine WL.gT ?_
  refine WL.move ?_
  refine WL.gT ?_
  refine WL.fa ?_ fo114_1
  refine WL.gT ?_
  refine WL.ld ?_ sc3
  refine WL.gT ?_
  refine WL.geq ?_
  refine WL.pickF ?_
  refine WL.nil ?_
  refine WQ.next ?_
  refine WC.condF rfl (congrArg Value.bool (by first | (simp; done) | (simp; omega) | omega)) ?_
  refine WC.skip ?_
  refine WQ.next ?_
  refine WC.seq ?_
  refine WC.region ?_
  refine WL.fa ?_ fo114_0
  refine WL.ld ?_ sc3
  refine WL.move ?_
  refine WL.quo ?_
  refine WL.add ?_
  refine WL.cast (d := 25) (u := .int .i64 ((first + k / 4096 : Nat) : Int)) rfl (congrArg (Value.int .i64) (by omega)) ?_
  refine WL.assign ?_
  refine WL.nil ?_
  refine WQ.next ?_
  refine WC.seq ?_
  refine WC.region ?_
  refine WL.move ?_
  refine WL.nilCheck ?_
  refine WL.fa ?_ fo154_0
  refine WL.ld ?_ sc24
  refine WL.move ?_
  refine WL.call (hc := Tryz.call63) (sp := tRead (n := n) (V0 := V0) (V := V) (D := D) (op := true) (k := first + k / 4096) (by omega) (by omega)) (h := ?_)
  rintro _ _ ⟨gb, q, el, rfl, ⟨hq1, hq2, hl5⟩, rfl⟩
  refine WL.move ?_
  refine WL.extract ?_
  refine WL.extract ?_
  refine WL.assign ?_
  refine WL.assign ?_
  refine WL.nil ?_
  refine WQ.next ?_
  refine WC.seq ?_
  refine WC.seq ?_
  refine WC.region ?_
  refine WL.move ?_
  refine WL.nei ?_
  refine WL.nil ?_
  refine WQ.next ?_
  refine WC.condF rfl rfl ?_
  refine WC.skip ?_
  refine WQ.next ?_
  refine WC.seq ?_
  refine WC.seq ?_
  refine WC.region ?_
  refine WL.move ?_
  refine WL.move ?_
  refine WL.rem ?_
  refine WL.call (hc := Tryz.call133) (sp := bitsTest Reads.buf hl5 (by decide) (by omega)) (h := ?_)
  rintro _ _ ⟨rfl, rfl⟩
  refine WL.cast (d := 41) (u := .bool true) rfl (congrArg Value.bool (by unfold dig at hd; rw [← hd]; rfl)) ?_
  refine WL.not ?_
  refine WL.nil ?_
  refine WQ.next ?_
  refine WC.condF rfl rfl ?_
  refine WC.skip ?_
  refine WQ.next ?_
  refine WC.seq ?_
  refine WC.draw ([pt a (alO c p)]) [] 11 #[false, false, false, false, false, false, false, false, false, false, false] mixed (by kernel_rfl) NoPanic.autoJ ?_
  refine WD.take (i := 0) #[true, false, false, false, false, false, false, false, false, false, false] rfl (by kernel_rfl) (Qt.move ) ?_
  refine WD.take (i := 1) #[true, true, false, false, false, false, false, false, false, false, false] rfl (by kernel_rfl) (Qt.nilCheck ) ?_
  refine WD.take (i := 2) #[true, true, true, false, false, false, false, false, false, false, false] rfl (by kernel_rfl) (Qt.fa fo154_0) ?_
  refine WD.take (i := 3) #[true, true, true, true, false, false, false, false, false, false, false] rfl (by kernel_rfl) (Qt.ld sc24) ?_
  refine WD.take (i := 4) #[true, true, true, true, true, false, false, false, false, false, false] rfl (by kernel_rfl) (Qt.move ) ?_
  refine WD.take (i := 5) #[true, true, true, true, true, true, false, false, false, false, false] rfl (by kernel_rfl) (Qt.move ) ?_
  refine WD.take (i := 6) #[true, true, true, true, true, true, true, false, false, false, false] rfl (by kernel_rfl) (Qt.move ) ?_
  refine WD.take (i := 7) #[true, true, true, true, true, true, true, true, false, false, false] rfl (by kernel_rfl) (Qt.rem ) ?_
  refine WD.one (i := 8) #[true, true, true, true, true, true, true, true, true, false, false] rfl (by kernel_rfl) fun hnp => ?_
  refine WL.call (hc := Tryz.call127) (sp := bitsSet Reads.buf hl5 (by decide) (k := (k : Int) % 4096) (by omega) (by omega)) (h := ?_)
  rintro _ _ ⟨gc, kc, ⟨rfl, hc1, hc2⟩, rfl⟩
  rw [show ((k : Int) % 4096).toNat = k % 4096 from by omega]
  refine WL.nil (WQ.wd hnp (.inl Am.auto) ?_)
  refine WD.one (i := 9) #[true, true, true, true, true, true, true, true, true, true, false] rfl (by kernel_rfl) fun hnp => ?_
  refine WL.call (hc := Tryz.call96) (sp := tWrite (n := n) (V0 := V0) (V := V) (D := D) (k := first + k / 4096) (by omega) (by omega) Reads.buf ((setDigit_length _ _ _).trans hl5) rfl hroom) (h := ?_)
  rintro _ _ ⟨rfl, rfl⟩
  refine WL.nil (WQ.wd hnp (.inl Am.auto) ?_)
  refine WD.take (i := 10) #[true, true, true, true, true, true, true, true, true, true, true] rfl (by kernel_rfl) (Qt.assign ) ?_
  refine WD.done (by kernel_rfl) ?_
  refine WQ.next ?_
  refine WC.ret (?_)
  exact WQ.ret1 (h1 := .tmp (t := 6) rfl) ⟨_, ⟨rfl, rfl⟩, Am.auto⟩


/-- What a plan must be. -/
structure PlOk (p : Pl) : Prop where
  aI : AreaOk p.n p.im p.ino
  aB : AreaOk p.n p.bm p.dc
  i1 : 1 ≤ p.ino
  i2 : p.ino ≤ 4096
  apart : p.im + 1 ≤ p.bm
  tbl : p.bm + (p.dc + 4095) / 4096 ≤ p.tb
  tab : p.tb + (p.ino + 7) / 8 ≤ p.da
  dat : p.da + p.dc = p.n
  d1 : 1 ≤ p.dc
/-- There is room in the transaction for any block of the maps. -/
def Room (D : List Nat) : Prop := D.length < 60

theorem alTakeBlock {a c : Nat} {p : Pl} {V0 V : Nat → Bytes} {D : List Nat} (h : PlOk p) (hroom : Room D) : Spec Tryz.prog 150 #[.pointer (some ⟨a, 0, none⟩)] [pt a (alO c p), TR c p.n V0 V D true] fun F v M =>
      (∃ k, k < p.dc ∧ dig V p.bm k = false ∧ (∀ i < k, dig V p.bm i = true) ∧ v = .tuple #[.int .i64 ((p.da + k : Nat) : Int), .int .i64 0] ∧ M = [pt a (alO c p), TR c p.n V0 (setD V p.bm k true) (insD D (p.bm + k / 4096)) true] ++ F) ∨
      ((∀ i < p.dc, dig V p.bm i = true) ∧ v = .tuple #[.int .i64 0, .int .i64 3] ∧ M = [pt a (alO c p), TR c p.n V0 V D true] ++ F) := by
  refine Spec.intro Tryz.func150 rfl rfl fun B F => ?_
  simp only [Tryz.ntmps150, List.cons_append, List.nil_append, env0, Nat.reduceAdd]
  have hn2 := h.aB.n2
  have hdat := h.dat
  refine WC.seq ?_
  refine WC.region ?_
  refine WL.assign ?_
  refine WL.assign ?_
  refine WL.nil ?_
  refine WQ.next ?_
  refine WC.seq ?_
  refine WC.seq ?_
  refine WC.region ?_
  refine WL.move ?_
  refine WL.eqNil ?_ ptr25
  refine WL.nil ?_
  refine WQ.next ?_
  refine WC.condF rfl rfl ?_
  refine WC.skip ?_
  refine WQ.next ?_
  refine WC.seq ?_
  refine WC.region ?_
  refine WL.move ?_
  refine WL.move ?_
  refine WL.call (hc := Tryz.call65) (sp := alBlocks) (h := ?_)
  rintro _ _ ⟨rfl, rfl⟩
  refine WL.call (hc := Tryz.call97) (sp := alTake (n := p.n) (p := p) (V0 := V0) (V := V) (D := D) h.aB (fun _ _ => .inr hroom)) (h := ?_)
  rintro _ _ (⟨k, hk, hk0, hkb, rfl, rfl⟩ | ⟨hall, rfl, rfl⟩) <;> simp only [List.cons_append, List.nil_append]
  · refine WL.move ?_
    refine WL.extract ?_
    refine WL.extract ?_
    refine WL.assign ?_
    refine WL.assign ?_
    refine WL.nil ?_
    refine WQ.next ?_
    refine WC.seq ?_
    refine WC.seq ?_
    refine WC.region ?_
    refine WL.move ?_
    refine WL.nei ?_
    refine WL.nil ?_
    refine WQ.next ?_
    refine WC.condF rfl rfl ?_
    refine WC.skip ?_
    refine WQ.next ?_
    refine WC.seq ?_
    refine WC.region ?_
    refine WL.move ?_
    refine WL.nilCheck ?_
    refine WL.fa ?_ fo154_1
    refine WL.fa ?_ fo28_5
    refine WL.ld ?_ sc3
    refine WL.move ?_
    refine WL.add ?_
    refine WL.cast (d := 24) (u := .int .i64 ((p.da + k : Nat) : Int)) rfl (congrArg (Value.int .i64) (by omega)) ?_
    refine WL.assign ?_
    refine WL.assign ?_
    refine WL.nil ?_
    refine WQ.next ?_
    refine WC.ret (?_)
    exact WQ.ret2 (h1 := .tmp (t := 2) rfl) (h2 := .tmp (t := 3) rfl) ⟨_, .inl ⟨k, hk, hk0, hkb, rfl, rfl⟩, Am.auto⟩
  · refine WL.move ?_
    refine WL.extract ?_
    refine WL.extract ?_
    refine WL.assign ?_
    refine WL.assign ?_
    refine WL.nil ?_
    refine WQ.next ?_
    refine WC.seq ?_
    refine WC.seq ?_
    refine WC.region ?_
    refine WL.move ?_
    refine WL.nei ?_
    refine WL.nil ?_
    refine WQ.next ?_
    refine WC.condT rfl rfl ?_
    refine WC.seq ?_
    refine WC.region ?_
    refine WL.move ?_
    refine WL.assign ?_
    refine WL.assign ?_
    refine WL.nil ?_
    refine WQ.next ?_
    refine WC.ret (WQ.thenRet (?_))
    exact WQ.ret2 (h1 := .tmp (t := 2) rfl) (h2 := .tmp (t := 3) rfl) ⟨_, .inr ⟨hall, rfl, rfl⟩, Am.auto⟩

theorem alTakeInode {a c : Nat} {p : Pl} {V0 V : Nat → Bytes} {D : List Nat} (h : PlOk p) (hroom : Room D) : Spec Tryz.prog 50 #[.pointer (some ⟨a, 0, none⟩)] [pt a (alO c p), TR c p.n V0 V D true] fun F v M =>
      (∃ k, k < p.ino ∧ dig V p.im k = false ∧ (∀ i < k, dig V p.im i = true) ∧ v = .tuple #[.int .i64 (k : Int), .int .i64 0] ∧ M = [pt a (alO c p), TR c p.n V0 (setD V p.im k true) (insD D (p.im + k / 4096)) true] ++ F) ∨
      ((∀ i < p.ino, dig V p.im i = true) ∧ v = .tuple #[.int .i64 0, .int .i64 3] ∧ M = [pt a (alO c p), TR c p.n V0 V D true] ++ F) := by
  refine Spec.intro Tryz.func50 rfl rfl fun B F => ?_
  simp only [Tryz.ntmps50, List.cons_append, List.nil_append, env0, Nat.reduceAdd]
  refine WC.seq ?_
  refine WC.region ?_
  refine WL.assign ?_
  refine WL.assign ?_
  refine WL.nil ?_
  refine WQ.next ?_
  refine WC.seq ?_
  refine WC.seq ?_
  refine WC.region ?_
  refine WL.move ?_
  refine WL.eqNil ?_ ptr25
  refine WL.nil ?_
  refine WQ.next ?_
  refine WC.condF rfl rfl ?_
  refine WC.skip ?_
  refine WQ.next ?_
  refine WC.seq ?_
  refine WC.region ?_
  refine WL.move ?_
  refine WL.move ?_
  refine WL.call (hc := Tryz.call66) (sp := alInodes) (h := ?_)
  rintro _ _ ⟨rfl, rfl⟩
  refine WL.call (hc := Tryz.call97) (sp := alTake (n := p.n) (p := p) (V0 := V0) (V := V) (D := D) h.aI (fun _ _ => .inr hroom)) (h := ?_)
  rintro _ _ (⟨k, hk, hk0, hkb, rfl, rfl⟩ | ⟨hall, rfl, rfl⟩) <;> simp only [List.cons_append, List.nil_append]
  · refine WL.extract ?_
    refine WL.extract ?_
    refine WL.assign ?_
    refine WL.assign ?_
    refine WL.nil ?_
    refine WQ.next ?_
    refine WC.ret (?_)
    exact WQ.ret2 (h1 := .tmp (t := 2) rfl) (h2 := .tmp (t := 3) rfl) ⟨_, .inl ⟨k, hk, hk0, hkb, rfl, rfl⟩, Am.auto⟩
  · refine WL.extract ?_
    refine WL.extract ?_
    refine WL.assign ?_
    refine WL.assign ?_
    refine WL.nil ?_
    refine WQ.next ?_
    refine WC.ret (?_)
    exact WQ.ret2 (h1 := .tmp (t := 2) rfl) (h2 := .tmp (t := 3) rfl) ⟨_, .inr ⟨hall, rfl, rfl⟩, Am.auto⟩

theorem alGiveBlock {a c k : Nat} {p : Pl} {V0 V : Nat → Bytes} {D : List Nat} (h : PlOk p) (hroom : Room D) (hk : k < p.dc) (hd : dig V p.bm k = true) : Spec Tryz.prog 113 #[.pointer (some ⟨a, 0, none⟩), .int .i64 ((p.da + k : Nat) : Int)] [pt a (alO c p), TR c p.n V0 V D true] fun F v M =>
      v = .int .i64 0 ∧ M = [pt a (alO c p), TR c p.n V0 (setD V p.bm k false) (insD D (p.bm + k / 4096)) true] ++ F := by
  refine Spec.intro Tryz.func113 rfl rfl fun B F => ?_
  simp only [Tryz.ntmps113, List.cons_append, List.nil_append, env0, Nat.reduceAdd]
  have hn2 := h.aB.n2
  have hdat := h.dat
  refine WC.seq ?_
  refine WC.region ?_
  refine WL.assign ?_
  refine WL.nil ?_
  refine WQ.next ?_
  refine WC.seq ?_
  refine WC.seq ?_
  refine WC.region ?_
  refine WL.move ?_
  refine WL.eqNil ?_ ptr25
  refine WL.nil ?_
  refine WQ.next ?_
  refine WC.condF rfl rfl ?_
  refine WC.skip ?_
  refine WQ.next ?_
  refine WC.seq ?_
  refine WC.seq ?_
  refine WC.region ?_
  refine WL.move ?_
  refine WL.move ?_
  refine WL.nilCheck ?_
  refine WL.fa ?_ fo154_1
  refine WL.fa ?_ fo28_5
  refine WL.ld ?_ sc3
  refine WL.lss ?_
  refine WL.nil ?_
  refine WQ.next ?_
  refine WC.condF rfl (congrArg Value.bool (by first | (simp; done) | (simp; omega) | omega)) ?_
  refine WC.skip ?_
  refine WQ.next ?_
  refine WC.seq ?_
  refine WC.draw ([pt a (alO c p)]) [] 12 #[false, false, false, false, false, false, false, false, false, false, false, false] mixed (by kernel_rfl) NoPanic.autoJ ?_
  refine WD.take (i := 0) #[true, false, false, false, false, false, false, false, false, false, false, false] rfl (by kernel_rfl) (Qt.move ) ?_
  refine WD.take (i := 1) #[true, true, false, false, false, false, false, false, false, false, false, false] rfl (by kernel_rfl) (Qt.move ) ?_
  refine WD.take (i := 3) #[true, true, false, true, false, false, false, false, false, false, false, false] rfl (by kernel_rfl) (Qt.move ) ?_
  refine WD.take (i := 4) #[true, true, false, true, true, false, false, false, false, false, false, false] rfl (by kernel_rfl) (Qt.move ) ?_
  refine WD.take (i := 5) #[true, true, false, true, true, true, false, false, false, false, false, false] rfl (by kernel_rfl) (Qt.nilCheck ) ?_
  refine WD.take (i := 6) #[true, true, false, true, true, true, true, false, false, false, false, false] rfl (by kernel_rfl) (Qt.fa fo154_1) ?_
  refine WD.take (i := 7) #[true, true, false, true, true, true, true, true, false, false, false, false] rfl (by kernel_rfl) (Qt.fa fo28_5) ?_
  refine WD.take (i := 8) #[true, true, false, true, true, true, true, true, true, false, false, false] rfl (by kernel_rfl) (Qt.ld sc3) ?_
  refine WD.take (i := 9) #[true, true, false, true, true, true, true, true, true, true, false, false] rfl (by kernel_rfl) ((Qt.sub).eq (v' := .int .i64 (k : Int)) (congrArg (Value.int .i64) (by omega))) ?_
  refine WD.one (i := 2) #[true, true, true, true, true, true, true, true, true, true, false, false] rfl (by kernel_rfl) fun hnp => ?_
  refine WL.call (hc := Tryz.call65) (sp := alBlocks) (h := ?_)
  rintro _ _ ⟨rfl, rfl⟩
  refine WL.nil (WQ.wd hnp (.inl Am.auto) ?_)
  refine WD.one (i := 10) #[true, true, true, true, true, true, true, true, true, true, true, false] rfl (by kernel_rfl) fun hnp => ?_
  refine WL.call (hc := Tryz.call114) (sp := alGive (n := p.n) (p := p) (V0 := V0) (V := V) (D := D) h.aB hk hd (.inr hroom)) (h := ?_)
  rintro _ _ ⟨rfl, rfl⟩
  simp only [List.cons_append, List.nil_append]
  refine WL.nil (WQ.wd hnp (.inl Am.auto) ?_)
  refine WD.take (i := 11) #[true, true, true, true, true, true, true, true, true, true, true, true] rfl (by kernel_rfl) (Qt.assign ) ?_
  refine WD.done (by kernel_rfl) ?_
  refine WQ.next ?_
  refine WC.ret (?_)
  exact WQ.ret1 (h1 := .tmp (t := 4) rfl) ⟨_, ⟨rfl, rfl⟩, Am.auto⟩

theorem alGiveBlockNo {a c : Nat} {k : Int} {p : Pl} {V0 V : Nat → Bytes} {D : List Nat} (h : PlOk p) (hkr : -4611686018427387904 ≤ k - p.da ∨ k < p.da) (hk : k < p.da ∨ (p.n : Int) ≤ k ∨ (p.da ≤ k ∧ k < p.n ∧ dig V p.bm (k - p.da).toNat = false)) (hkb : -9223372036854775808 ≤ k ∧ k ≤ 9223372036854775807) : Spec Tryz.prog 113 #[.pointer (some ⟨a, 0, none⟩), .int .i64 k] [pt a (alO c p), TR c p.n V0 V D true] fun F v M =>
      v = .int .i64 1 ∧ M = [pt a (alO c p), TR c p.n V0 V D true] ++ F := by
  refine Spec.intro Tryz.func113 rfl rfl fun B F => ?_
  simp only [Tryz.ntmps113, List.cons_append, List.nil_append, env0, Nat.reduceAdd]
  have hn2 := h.aB.n2
  have hdat := h.dat
  by_cases hlow : k < p.da
  · refine WC.seq ?_
    refine WC.region ?_
    refine WL.assign ?_
    refine WL.nil ?_
    refine WQ.next ?_
    refine WC.seq ?_
    refine WC.seq ?_
    refine WC.region ?_
    refine WL.move ?_
    refine WL.eqNil ?_ ptr25
    refine WL.nil ?_
    refine WQ.next ?_
    refine WC.condF rfl rfl ?_
    refine WC.skip ?_
    refine WQ.next ?_
    refine WC.seq ?_
    refine WC.seq ?_
    refine WC.region ?_
    refine WL.move ?_
    refine WL.move ?_
    refine WL.nilCheck ?_
    refine WL.fa ?_ fo154_1
    refine WL.fa ?_ fo28_5
    refine WL.ld ?_ sc3
    refine WL.lss ?_
    refine WL.nil ?_
    refine WQ.next ?_
    refine WC.condT rfl (congrArg Value.bool (by first | (simp; done) | (simp; omega) | omega)) ?_
    refine WC.region ?_
    refine WL.move ?_
    refine WL.nilCheck ?_
    refine WL.fa ?_ fo154_1
    refine WL.fa ?_ fo28_5
    refine WL.ld ?_ sc3
    refine WL.sub ?_
    refine WL.assign ?_
    refine WL.nil ?_
    refine WQ.next ?_
    refine WC.seq ?_
    refine WC.draw ([pt a (alO c p)]) [] 12 #[false, false, false, false, false, false, false, false, false, false, false, false] mixed (by kernel_rfl) NoPanic.autoJ ?_
    refine WD.take (i := 0) #[true, false, false, false, false, false, false, false, false, false, false, false] rfl (by kernel_rfl) (Qt.move ) ?_
    refine WD.take (i := 1) #[true, true, false, false, false, false, false, false, false, false, false, false] rfl (by kernel_rfl) (Qt.move ) ?_
    refine WD.take (i := 3) #[true, true, false, true, false, false, false, false, false, false, false, false] rfl (by kernel_rfl) (Qt.move ) ?_
    refine WD.take (i := 4) #[true, true, false, true, true, false, false, false, false, false, false, false] rfl (by kernel_rfl) (Qt.move ) ?_
    refine WD.take (i := 5) #[true, true, false, true, true, true, false, false, false, false, false, false] rfl (by kernel_rfl) (Qt.nilCheck ) ?_
    refine WD.take (i := 6) #[true, true, false, true, true, true, true, false, false, false, false, false] rfl (by kernel_rfl) (Qt.fa fo154_1) ?_
    refine WD.take (i := 7) #[true, true, false, true, true, true, true, true, false, false, false, false] rfl (by kernel_rfl) (Qt.fa fo28_5) ?_
    refine WD.take (i := 8) #[true, true, false, true, true, true, true, true, true, false, false, false] rfl (by kernel_rfl) (Qt.ld sc3) ?_
    refine WD.take (i := 9) #[true, true, false, true, true, true, true, true, true, true, false, false] rfl (by kernel_rfl) (Qt.sub ) ?_
    refine WD.one (i := 2) #[true, true, true, true, true, true, true, true, true, true, false, false] rfl (by kernel_rfl) fun hnp => ?_
    refine WL.call (hc := Tryz.call65) (sp := alBlocks) (h := ?_)
    rintro _ _ ⟨rfl, rfl⟩
    refine WL.nil (WQ.wd hnp (.inl Am.auto) ?_)
    refine WD.one (i := 10) #[true, true, true, true, true, true, true, true, true, true, true, false] rfl (by kernel_rfl) fun hnp => ?_
    refine WL.call (hc := Tryz.call114) (sp := alGiveNo (n := p.n) (p := p) (V0 := V0) (V := V) (D := D) h.aB (.inl (by omega))) (h := ?_)
    rintro _ _ ⟨rfl, rfl⟩
    simp only [List.cons_append, List.nil_append]
    refine WL.nil (WQ.wd hnp (.inl Am.auto) ?_)
    refine WD.take (i := 11) #[true, true, true, true, true, true, true, true, true, true, true, true] rfl (by kernel_rfl) (Qt.assign ) ?_
    refine WD.done (by kernel_rfl) ?_
    refine WQ.next ?_
    refine WC.ret (?_)
    exact WQ.ret1 (h1 := .tmp (t := 4) rfl) ⟨_, ⟨rfl, rfl⟩, Am.auto⟩
  · refine WC.seq ?_
    refine WC.region ?_
    refine WL.assign ?_
    refine WL.nil ?_
    refine WQ.next ?_
    refine WC.seq ?_
    refine WC.seq ?_
    refine WC.region ?_
    refine WL.move ?_
    refine WL.eqNil ?_ ptr25
    refine WL.nil ?_
    refine WQ.next ?_
    refine WC.condF rfl rfl ?_
    refine WC.skip ?_
    refine WQ.next ?_
    refine WC.seq ?_
    refine WC.seq ?_
    refine WC.region ?_
    refine WL.move ?_
    refine WL.move ?_
    refine WL.nilCheck ?_
    refine WL.fa ?_ fo154_1
    refine WL.fa ?_ fo28_5
    refine WL.ld ?_ sc3
    refine WL.lss ?_
    refine WL.nil ?_
    refine WQ.next ?_
    refine WC.condF rfl (congrArg Value.bool (by first | (simp; done) | (simp; omega) | omega)) ?_
    refine WC.skip ?_
    refine WQ.next ?_
    refine WC.seq ?_
    refine WC.draw ([pt a (alO c p)]) [] 12 #[false, false, false, false, false, false, false, false, false, false, false, false] mixed (by kernel_rfl) NoPanic.autoJ ?_
    refine WD.take (i := 0) #[true, false, false, false, false, false, false, false, false, false, false, false] rfl (by kernel_rfl) (Qt.move ) ?_
    refine WD.take (i := 1) #[true, true, false, false, false, false, false, false, false, false, false, false] rfl (by kernel_rfl) (Qt.move ) ?_
    refine WD.take (i := 3) #[true, true, false, true, false, false, false, false, false, false, false, false] rfl (by kernel_rfl) (Qt.move ) ?_
    refine WD.take (i := 4) #[true, true, false, true, true, false, false, false, false, false, false, false] rfl (by kernel_rfl) (Qt.move ) ?_
    refine WD.take (i := 5) #[true, true, false, true, true, true, false, false, false, false, false, false] rfl (by kernel_rfl) (Qt.nilCheck ) ?_
    refine WD.take (i := 6) #[true, true, false, true, true, true, true, false, false, false, false, false] rfl (by kernel_rfl) (Qt.fa fo154_1) ?_
    refine WD.take (i := 7) #[true, true, false, true, true, true, true, true, false, false, false, false] rfl (by kernel_rfl) (Qt.fa fo28_5) ?_
    refine WD.take (i := 8) #[true, true, false, true, true, true, true, true, true, false, false, false] rfl (by kernel_rfl) (Qt.ld sc3) ?_
    refine WD.take (i := 9) #[true, true, false, true, true, true, true, true, true, true, false, false] rfl (by kernel_rfl) (Qt.sub ) ?_
    refine WD.one (i := 2) #[true, true, true, true, true, true, true, true, true, true, false, false] rfl (by kernel_rfl) fun hnp => ?_
    refine WL.call (hc := Tryz.call65) (sp := alBlocks) (h := ?_)
    rintro _ _ ⟨rfl, rfl⟩
    refine WL.nil (WQ.wd hnp (.inl Am.auto) ?_)
    refine WD.one (i := 10) #[true, true, true, true, true, true, true, true, true, true, true, false] rfl (by kernel_rfl) fun hnp => ?_
    refine WL.call (hc := Tryz.call114) (sp := alGiveNo (n := p.n) (p := p) (V0 := V0) (V := V) (D := D) h.aB (.inr (by rcases hk with hk | hk | ⟨h1, h2, h3⟩; omega; exact .inl (by omega); exact .inr ⟨by omega, by omega, h3⟩))) (h := ?_)
    rintro _ _ ⟨rfl, rfl⟩
    simp only [List.cons_append, List.nil_append]
    refine WL.nil (WQ.wd hnp (.inl Am.auto) ?_)
    refine WD.take (i := 11) #[true, true, true, true, true, true, true, true, true, true, true, true] rfl (by kernel_rfl) (Qt.assign ) ?_
    refine WD.done (by kernel_rfl) ?_
    refine WQ.next ?_
    refine WC.ret (?_)
    exact WQ.ret1 (h1 := .tmp (t := 4) rfl) ⟨_, ⟨rfl, rfl⟩, Am.auto⟩

theorem alGiveInode {a c k : Nat} {p : Pl} {V0 V : Nat → Bytes} {D : List Nat} (h : PlOk p) (hroom : Room D) (hk1 : 1 ≤ k) (hk : k < p.ino) (hd : dig V p.im k = true) : Spec Tryz.prog 68 #[.pointer (some ⟨a, 0, none⟩), .int .i64 (k : Int)] [pt a (alO c p), TR c p.n V0 V D true] fun F v M =>
      v = .int .i64 0 ∧ M = [pt a (alO c p), TR c p.n V0 (setD V p.im k false) (insD D (p.im + k / 4096)) true] ++ F := by
  refine Spec.intro Tryz.func68 rfl rfl fun B F => ?_
  simp only [Tryz.ntmps68, List.cons_append, List.nil_append, env0, Nat.reduceAdd]
  refine WC.seq ?_
  refine WC.region ?_
  refine WL.assign ?_
  refine WL.nil ?_
  refine WQ.next ?_
  refine WC.seq ?_
  refine WC.seq ?_
  refine WC.region ?_
  refine WL.move ?_
  refine WL.eqNil ?_ ptr25
  refine WL.nil ?_
  refine WQ.next ?_
  refine WC.condF rfl rfl ?_
  refine WC.skip ?_
  refine WQ.next ?_
  refine WC.seq ?_
  refine WC.seq ?_
  refine WC.region ?_
  refine WL.move ?_
  refine WL.eqi ?_
  refine WL.nil ?_
  refine WQ.next ?_
  refine WC.condF rfl (congrArg Value.bool (by first | (simp; done) | (simp; omega) | omega)) ?_
  refine WC.skip ?_
  refine WQ.next ?_
  refine WC.seq ?_
  refine WC.region ?_
  refine WL.move ?_
  refine WL.move ?_
  refine WL.call (hc := Tryz.call66) (sp := alInodes) (h := ?_)
  rintro _ _ ⟨rfl, rfl⟩
  refine WL.move ?_
  refine WL.call (hc := Tryz.call114) (sp := alGive (n := p.n) (p := p) (V0 := V0) (V := V) (D := D) h.aI hk hd (.inr hroom)) (h := ?_)
  rintro _ _ ⟨rfl, rfl⟩
  simp only [List.cons_append, List.nil_append]
  refine WL.assign ?_
  refine WL.nil ?_
  refine WQ.next ?_
  refine WC.ret (?_)
  exact WQ.ret1 (h1 := .tmp (t := 4) rfl) ⟨_, ⟨rfl, rfl⟩, Am.auto⟩

theorem alGiveInodeNo {a c : Nat} {k : Int} {p : Pl} {V0 V : Nat → Bytes} {D : List Nat} (h : PlOk p) (hk : k ≤ 0 ∨ (p.ino : Int) ≤ k ∨ (0 ≤ k ∧ k < p.ino ∧ dig V p.im k.toNat = false)) : Spec Tryz.prog 68 #[.pointer (some ⟨a, 0, none⟩), .int .i64 k] [pt a (alO c p), TR c p.n V0 V D true] fun F v M =>
      v = .int .i64 1 ∧ M = [pt a (alO c p), TR c p.n V0 V D true] ++ F := by
  refine Spec.intro Tryz.func68 rfl rfl fun B F => ?_
  simp only [Tryz.ntmps68, List.cons_append, List.nil_append, env0, Nat.reduceAdd]
  by_cases hz : k = 0
  · refine WC.seq ?_
    refine WC.region ?_
    refine WL.assign ?_
    refine WL.nil ?_
    refine WQ.next ?_
    refine WC.seq ?_
    refine WC.seq ?_
    refine WC.region ?_
    refine WL.move ?_
    refine WL.eqNil ?_ ptr25
    refine WL.nil ?_
    refine WQ.next ?_
    refine WC.condF rfl rfl ?_
    refine WC.skip ?_
    refine WQ.next ?_
    refine WC.seq ?_
    refine WC.seq ?_
    refine WC.region ?_
    refine WL.move ?_
    refine WL.eqi ?_
    refine WL.nil ?_
    refine WQ.next ?_
    refine WC.condT rfl (congrArg Value.bool (by first | (simp; done) | (simp; omega) | omega)) ?_
    refine WC.region ?_
    refine WL.assign ?_
    refine WL.nil ?_
    refine WQ.next ?_
    refine WC.seq ?_
    refine WC.region ?_
    refine WL.move ?_
    refine WL.move ?_
    refine WL.call (hc := Tryz.call66) (sp := alInodes) (h := ?_)
    rintro _ _ ⟨rfl, rfl⟩
    refine WL.move ?_
    refine WL.call (hc := Tryz.call114) (sp := alGiveNo (n := p.n) (p := p) (V0 := V0) (V := V) (D := D) h.aI (.inl (by omega))) (h := ?_)
    rintro _ _ ⟨rfl, rfl⟩
    simp only [List.cons_append, List.nil_append]
    refine WL.assign ?_
    refine WL.nil ?_
    refine WQ.next ?_
    refine WC.ret (?_)
    exact WQ.ret1 (h1 := .tmp (t := 4) rfl) ⟨_, ⟨rfl, rfl⟩, Am.auto⟩
  · refine WC.seq ?_
    refine WC.region ?_
    refine WL.assign ?_
    refine WL.nil ?_
    refine WQ.next ?_
    refine WC.seq ?_
    refine WC.seq ?_
    refine WC.region ?_
    refine WL.move ?_
    refine WL.eqNil ?_ ptr25
    refine WL.nil ?_
    refine WQ.next ?_
    refine WC.condF rfl rfl ?_
    refine WC.skip ?_
    refine WQ.next ?_
    refine WC.seq ?_
    refine WC.seq ?_
    refine WC.region ?_
    refine WL.move ?_
    refine WL.eqi ?_
    refine WL.nil ?_
    refine WQ.next ?_
    refine WC.condF rfl (congrArg Value.bool (by first | (simp; done) | (simp; omega) | omega)) ?_
    refine WC.skip ?_
    refine WQ.next ?_
    refine WC.seq ?_
    refine WC.region ?_
    refine WL.move ?_
    refine WL.move ?_
    refine WL.call (hc := Tryz.call66) (sp := alInodes) (h := ?_)
    rintro _ _ ⟨rfl, rfl⟩
    refine WL.move ?_
    refine WL.call (hc := Tryz.call114) (sp := alGiveNo (n := p.n) (p := p) (V0 := V0) (V := V) (D := D) h.aI (by rcases hk with hk | hk | hk; exact .inl (by omega); exact .inr (.inl hk); exact .inr (.inr hk))) (h := ?_)
    rintro _ _ ⟨rfl, rfl⟩
    simp only [List.cons_append, List.nil_append]
    refine WL.assign ?_
    refine WL.nil ?_
    refine WQ.next ?_
    refine WC.ret (?_)
    exact WQ.ret1 (h1 := .tmp (t := 4) rfl) ⟨_, ⟨rfl, rfl⟩, Am.auto⟩

end Go.Proofs.YtedmihapieleaaaGreat
