/- A part of the proof of lawPNothing: texts of this work put together. -/
import Derived.Test.YtdmjkjeoamiedaaGreatDoorQj4
import Derived.KernelRfl
set_option linter.unusedVariables false
set_option linter.unusedSimpArgs false
set_option linter.unusedSectionVars false
section
namespace Go.Proofs.YtdmjkjeoamiedaaGreatDoor
open Go
theorem ptr24 : ptrOk Tryz.prog 24 = true := by kernel_rfl
theorem fo118_0 : fieldOk Tryz.prog 118 0 0 = true := by kernel_rfl
theorem zv121 : zvOf Tryz.prog 121 = some (.agg (#[.int .i64 0, .int .i64 0, .int .i64 0])) := by kernel_rfl
theorem fo118_2 : fieldOk Tryz.prog 118 2 2 = true := by kernel_rfl
theorem sc116 : scalarOk Tryz.prog 116 = true := by kernel_rfl
theorem z121 : zeroOf Tryz.prog 121 = some (#[.int .i64 0, .int .i64 0, .int .i64 0]) := by kernel_rfl
theorem agg121 : aggOk Tryz.prog 121 3 = true := by kernel_rfl
theorem mp116 : mapOk Tryz.prog 116 3 121 = true := by kernel_rfl
theorem fo121_0 : fieldOk Tryz.prog 121 0 0 = true := by kernel_rfl
theorem fo121_1 : fieldOk Tryz.prog 121 1 1 = true := by kernel_rfl
theorem fo121_2 : fieldOk Tryz.prog 121 2 2 = true := by kernel_rfl
theorem fo118_1 : fieldOk Tryz.prog 118 1 1 = true := by kernel_rfl
theorem bdPr (f m : Nat) (s : ByteArray) : BuildOk Tryz.prog 118 [(0, .pointer (some ⟨f, 0, none⟩)), (1, .string s), (2, .map (some m))] #[.pointer (some ⟨f, 0, none⟩), .string s, .map (some m)] := fun w => by kernel_rfl
theorem bdKn (a b c : Int) : BuildOk Tryz.prog 121 [(0, .int .i64 a), (1, .int .i64 b), (2, .int .i64 c)] #[.int .i64 a, .int .i64 b, .int .i64 c] := fun w => by kernel_rfl
theorem bsI3 (a b c : Int) : BuildSOk Tryz.prog 80 3 [(0, .int .i64 a), (1, .int .i64 b), (2, .int .i64 c)] 3 #[.int .i64 a, .int .i64 b, .int .i64 c] := fun w => by kernel_rfl
def pO (f : Nat) (path : Bytes) (mp : Nat) : Obj := .cells #[.pointer (some ⟨f, 0, none⟩), sv path, .map (some mp)] 118 (0, 0)
structure PDP (L : List Prd) (y : Nat × Array MapEntry × Nat × List (Int × Value)) : Prop where
  hm : MapIs intE y.2.1 y.2.2.1 y.2.2.2
  pm : PMap L y.2.2.2
  ok : POk L
def pdLs (pr f : Nat) (path : Bytes) (y : Nat × Array MapEntry × Nat × List (Int × Value)) : List HP := [pt pr (pO f path y.1), pt y.1 (.map y.2.1 y.2.2.1)]
def PD (pr f : Nat) (path : Bytes) (L : List Prd) : HP := fun h => ∃ y, PDP L y ∧ star (pdLs pr f path y) h
theorem PD.opens (pr f : Nat) (path : Bytes) (L : List Prd) : Opens (PD pr f path L) (PDP L) (pdLs pr f path) := ⟨fun h hh => hh, fun x hp h hh => ⟨x, hp, hh⟩⟩
attribute [irreducible] PD
theorem prReady {pr f mp : Nat} {path : Bytes} : Spec Tryz.prog 72 #[.pointer (some ⟨pr, 0, none⟩)] [pt pr (pO f path mp)] fun F v M => v = .bool true ∧ M = pt pr (pO f path mp) :: F := by
  refine Spec.intro Tryz.func72 rfl rfl fun B F => ?_
  simp only [Tryz.ntmps72, List.cons_append, List.nil_append, env0, Nat.reduceAdd]
  refine .sr (.assign (.x (.move ?_)))
  refine .neNil ?_ ptr24
  refine .move ?_
  refine .gT ?_
  refine .move ?_
  refine .gT ?_
  refine .nilCheck ?_
  refine .gT ?_
  refine .fa ?_ fo118_0
  refine .gT ?_
  refine .ld ?_ sc23
  refine .gT ?_
  refine .neNil ?_ ptr23
  refine .pickT ?_
  refine .assign (.z ?_)
  refine .ret (?_)
  exact .ret1 (h1 := .tmp (t := 2) rfl) ⟨_, ⟨rfl, rfl⟩, Am.auto⟩
theorem prReadyNil : Spec Tryz.prog 72 #[.pointer none] [] fun F v M => v = .bool false ∧ M = F := by
  refine Spec.intro Tryz.func72 rfl rfl fun B F => ?_
  simp only [Tryz.ntmps72, List.cons_append, List.nil_append, env0, Nat.reduceAdd]
  refine .sr (.assign (.x (.move ?_)))
  refine .neNil ?_ ptr24
  refine .move ?_
  refine .gF ?_
  refine .gF ?_
  refine .gF ?_
  refine .gF ?_
  refine .gF ?_
  refine .pickF ?_
  refine .assign (.z ?_)
  refine .ret (?_)
  exact .ret1 (h1 := .tmp (t := 2) rfl) ⟨_, ⟨rfl, rfl⟩, Am.auto⟩
theorem prMay {a b c : Int} (h : 1 ≤ a ∧ 0 ≤ b ∧ 0 ≤ c ∧ c ≤ 1125899906842624) : Spec Tryz.prog 67 #[.int .i64 a, .int .i64 b, .int .i64 c] [] fun F v M => v = .bool true ∧ M = F := by
  refine Spec.intro Tryz.func67 rfl rfl fun B F => ?_
  simp only [Tryz.ntmps67, List.cons_append, List.nil_append, env0, Nat.reduceAdd]
  refine .sr (.assign (.x (.move ?_)))
  refine .geq ?_
  refine .move ?_
  refine .cast (d := 9) (u := .bool true) rfl (congrArg Value.bool (by first | (simp; done) | (simp; omega) | omega)) ?_
  refine .gT ?_
  refine .move ?_
  refine .gT ?_
  refine .geq ?_
  refine .pickT ?_
  refine .move ?_
  refine .cast (d := 13) (u := .bool true) rfl (congrArg Value.bool (by first | (simp; done) | (simp; omega) | omega)) ?_
  refine .gT ?_
  refine .move ?_
  refine .gT ?_
  refine .geq ?_
  refine .pickT ?_
  refine .move ?_
  refine .cast (d := 17) (u := .bool true) rfl (congrArg Value.bool (by first | (simp; done) | (simp; omega) | omega)) ?_
  refine .gT ?_
  refine .move ?_
  refine .gT ?_
  refine .leq ?_
  refine .cast (d := 19) (u := .bool true) rfl (congrArg Value.bool (by first | (simp; done) | (simp; omega) | omega)) ?_
  refine .pickT ?_
  refine .assign (.z ?_)
  refine .ret (?_)
  exact .ret1 (h1 := .tmp (t := 6) rfl) ⟨_, ⟨rfl, rfl⟩, Am.auto⟩
theorem prFullN {pr f mp : Nat} {path : Bytes} {L : List Prd} {es : Array MapEntry} {c : Nat} {kv : List (Int × Value)} {id : Int} (hy : PDP L (mp, es, c, kv)) (hl : lookP L id = none) : Spec Tryz.prog 73 #[.pointer (some ⟨pr, 0, none⟩), .int .i64 id] [pt pr (pO f path mp), pt mp (.map es c)] fun F v M => v = .bool (decide (60 ≤ L.length)) ∧ M = pt pr (pO f path mp) :: pt mp (.map es c) :: F := by
  refine Spec.intro Tryz.func73 rfl rfl fun B F => ?_
  simp only [Tryz.ntmps73, List.cons_append, List.nil_append, env0, Nat.reduceAdd]
  have hsz : es.size = L.length := hy.hm.length.trans hy.pm.len
  refine .sr (.assign (.x (.move ?_)))
  refine .nilCheck ?_
  refine .fa ?_ fo118_2
  refine .ld ?_ sc116
  refine .move ?_
  refine .lookOk (k := id) klF hy.hm mp116 zv121 ?_
  refine .cast (d := 13) (u := .tuple #[.agg #[.int .i64 0, .int .i64 0, .int .i64 0], .bool false]) rfl (by rw [hy.pm.get, hl]; rfl) ?_
  refine .move ?_
  refine .extract ?_
  refine .extract ?_
  refine .alloc z121 fun b5 => ?_
  refine .stV ?_ agg121
  refine .assign (.x (.move ?_))
  refine .not ?_
  refine .move ?_
  refine .gT ?_
  refine .move ?_
  refine .gT ?_
  refine .nilCheck ?_
  refine .gT ?_
  refine .fa ?_ fo118_2
  refine .gT ?_
  refine .ld ?_ sc116
  refine .gT ?_
  refine .lenM ?_ mp116
  refine .gT ?_
  refine .geq ?_
  refine .cast (d := 24) (u := .bool (decide (60 ≤ L.length))) rfl (congrArg Value.bool (by rw [hsz]; simp only [ge_iff_le, decide_eq_decide]; omega)) ?_
  refine .pickT ?_
  refine .assign (.z ?_)
  refine .ret (?_)
  exact .ret1 (h1 := .tmp (t := 4) rfl) ⟨_, ⟨rfl, rfl⟩, Am.auto⟩
theorem prFullS {pr f mp : Nat} {path : Bytes} {L : List Prd} {es : Array MapEntry} {c : Nat} {kv : List (Int × Value)} {id : Int} (hy : PDP L (mp, es, c, kv)) {q : Nat} (hl : lookP L id = some q) : Spec Tryz.prog 73 #[.pointer (some ⟨pr, 0, none⟩), .int .i64 id] [pt pr (pO f path mp), pt mp (.map es c)] fun F v M => v = .bool false ∧ M = pt pr (pO f path mp) :: pt mp (.map es c) :: F := by
  refine Spec.intro Tryz.func73 rfl rfl fun B F => ?_
  simp only [Tryz.ntmps73, List.cons_append, List.nil_append, env0, Nat.reduceAdd]
  refine .sr (.assign (.x (.move ?_)))
  refine .nilCheck ?_
  refine .fa ?_ fo118_2
  refine .ld ?_ sc116
  refine .move ?_
  refine .lookOk (k := id) klF hy.hm mp116 zv121 ?_
  refine .cast (d := 13) (u := .tuple #[knV (L.getD q (0, 0, 0)) q, .bool true]) rfl (by rw [hy.pm.get, hl]; rfl) ?_
  refine .move ?_
  refine .extract ?_
  refine .extract ?_
  refine .alloc z121 fun b5 => ?_
  refine .stV ?_ agg121
  refine .assign (.x (.move ?_))
  refine .not ?_
  refine .move ?_
  refine .gF ?_
  refine .gF ?_
  refine .gF ?_
  refine .gF ?_
  refine .gF ?_
  refine .gF ?_
  refine .pickF ?_
  refine .assign (.z ?_)
  refine .ret (?_)
  exact .ret1 (h1 := .tmp (t := 4) rfl) ⟨_, ⟨rfl, rfl⟩, Am.auto⟩
theorem prCheck {pr f : Nat} {path : Bytes} {L : List Prd} {id seq : Int} (hs : seq ≤ 9223372036854775807) : Spec Tryz.prog 20 #[.pointer (some ⟨pr, 0, none⟩), .int .i64 id, .int .i64 seq] [PD pr f path L] fun F v M => v = .tuple #[.int .i64 (chkP L id seq).1, .bool (chkP L id seq).2.1, .int .i64 (chkP L id seq).2.2] ∧ M = PD pr f path L :: F := by
  refine Spec.intro Tryz.func20 rfl rfl fun B F => ?_
  simp only [Tryz.ntmps20, List.cons_append, List.nil_append, env0, Nat.reduceAdd]
  refine .openR (PD.opens pr f path L) fun y hy => ?_
  obtain ⟨mp, es, c, kv⟩ := y
  simp only [pdLs, List.cons_append, List.nil_append]
  by_cases hi : id < 1
  · have hch : chkP L id seq = (0, false, 1) := by unfold chkP; rw [if_pos (.inl hi)]
    refine .sr (.assign (.assign (.assign (.z (.seq (.sr (.move ?_)))))))
    refine .call (hc := Tryz.call72) (sp := prReady (pr := pr) (f := f) (mp := mp) (path := path)) (h := ?_)
    rintro _ _ ⟨rfl, rfl⟩
    refine .not ?_
    refine .z ?_
    refine .condF rfl rfl ?_
    refine .skip (.next (.seq (.sr (.move ?_))))
    refine .lss ?_
    refine .move ?_
    refine .cast (d := 16) (u := .bool true) rfl (congrArg Value.bool (by first | (simp; done) | (simp; omega) | omega)) ?_
    refine .gF ?_
    refine .gF ?_
    refine .pickT ?_
    refine .z ?_
    refine .condT rfl rfl ?_
    refine .sr (.assign (.assign (.assign (.z ?_))))
    refine .ret (.thenRet (?_))
    refine .shutR (PD.opens pr f path (L)) (mp, es, c, kv) hy ?_
    exact .ret3 (h1 := .tmp (t := 6) rfl) (h2 := .tmp (t := 7) rfl) (h3 := .tmp (t := 8) rfl) ⟨_, ⟨by rw [hch]; try rfl, rfl⟩, Am.auto⟩
  · by_cases hq0 : seq < 0
    · have hch : chkP L id seq = (0, false, 1) := by unfold chkP; rw [if_pos (.inr hq0)]
      refine .sr (.assign (.assign (.assign (.z (.seq (.sr (.move ?_)))))))
      refine .call (hc := Tryz.call72) (sp := prReady (pr := pr) (f := f) (mp := mp) (path := path)) (h := ?_)
      rintro _ _ ⟨rfl, rfl⟩
      refine .not ?_
      refine .z ?_
      refine .condF rfl rfl ?_
      refine .skip (.next (.seq (.sr (.move ?_))))
      refine .lss ?_
      refine .move ?_
      refine .cast (d := 16) (u := .bool false) rfl (congrArg Value.bool (by first | (simp; done) | (simp; omega) | omega)) ?_
      refine .gT ?_
      refine .move ?_
      refine .gT ?_
      refine .lss ?_
      refine .pickF ?_
      refine .z ?_
      refine .condT rfl (congrArg Value.bool (by first | (simp; done) | (simp; omega) | omega)) ?_
      refine .sr (.assign (.assign (.assign (.z ?_))))
      refine .ret (.thenRet (?_))
      refine .shutR (PD.opens pr f path (L)) (mp, es, c, kv) hy ?_
      exact .ret3 (h1 := .tmp (t := 6) rfl) (h2 := .tmp (t := 7) rfl) (h3 := .tmp (t := 8) rfl) ⟨_, ⟨by rw [hch]; try rfl, rfl⟩, Am.auto⟩
    · have hno : ¬ (id < 1 ∨ seq < 0) := by omega
      cases hl : lookP L id with
      | none =>
        by_cases h60 : 60 ≤ L.length
        · have hch : chkP L id seq = (0, false, 2) := by unfold chkP; rw [if_neg hno, hl]; simp only; rw [if_pos h60]
          refine .sr (.assign (.assign (.assign (.z (.seq (.sr (.move ?_)))))))
          refine .call (hc := Tryz.call72) (sp := prReady (pr := pr) (f := f) (mp := mp) (path := path)) (h := ?_)
          rintro _ _ ⟨rfl, rfl⟩
          refine .not ?_
          refine .z ?_
          refine .condF rfl rfl ?_
          refine .skip (.next (.seq (.sr (.move ?_))))
          refine .lss ?_
          refine .move ?_
          refine .cast (d := 16) (u := .bool false) rfl (congrArg Value.bool (by first | (simp; done) | (simp; omega) | omega)) ?_
          refine .gT ?_
          refine .move ?_
          refine .gT ?_
          refine .lss ?_
          refine .pickF ?_
          refine .z ?_
          refine .condF rfl (congrArg Value.bool (by first | (simp; done) | (simp; omega) | omega)) ?_
          refine .skip (.next (.sr (.move ?_)))
          refine .nilCheck ?_
          refine .fa ?_ fo118_2
          refine .ld ?_ sc116
          refine .move ?_
          refine .lookOk (k := id) klF hy.hm mp116 zv121 ?_
          refine .cast (d := 26) (u := .tuple #[.agg #[.int .i64 0, .int .i64 0, .int .i64 0], .bool false]) rfl (by rw [hy.pm.get, hl]; rfl) ?_
          refine .move ?_
          refine .extract ?_
          refine .extract ?_
          refine .alloc z121 fun b9 => ?_
          refine .stV ?_ agg121
          refine .assign (.z (.seq (.block (.sr (.move (.move ?_))))))
          refine .call (hc := Tryz.call73) (sp := prFullN hy hl) (h := ?_)
          rintro _ _ ⟨rfl, rfl⟩
          refine .assign (.z ?_)
          refine .condT rfl (congrArg Value.bool (by first | (simp; done) | (simp; omega) | omega)) ?_
          refine .sr (.assign (.assign (.assign (.z ?_))))
          refine .ret (.blockRet (.thenRet (?_)))
          refine .shutR (PD.opens pr f path (L)) (mp, es, c, kv) hy ?_
          exact .ret3 (h1 := .tmp (t := 6) rfl) (h2 := .tmp (t := 7) rfl) (h3 := .tmp (t := 8) rfl) ⟨_, ⟨by rw [hch]; try rfl, rfl⟩, Am.auto⟩
        · by_cases hs0 : seq = 0
          · have hch : chkP L id seq = (0, false, 0) := by unfold chkP; rw [if_neg hno, hl]; simp only; rw [if_neg h60, if_pos hs0]
            refine .sr (.assign (.assign (.assign (.z (.seq (.sr (.move ?_)))))))
            refine .call (hc := Tryz.call72) (sp := prReady (pr := pr) (f := f) (mp := mp) (path := path)) (h := ?_)
            rintro _ _ ⟨rfl, rfl⟩
            refine .not ?_
            refine .z ?_
            refine .condF rfl rfl ?_
            refine .skip (.next (.seq (.sr (.move ?_))))
            refine .lss ?_
            refine .move ?_
            refine .cast (d := 16) (u := .bool false) rfl (congrArg Value.bool (by first | (simp; done) | (simp; omega) | omega)) ?_
            refine .gT ?_
            refine .move ?_
            refine .gT ?_
            refine .lss ?_
            refine .pickF ?_
            refine .z ?_
            refine .condF rfl (congrArg Value.bool (by first | (simp; done) | (simp; omega) | omega)) ?_
            refine .skip (.next (.sr (.move ?_)))
            refine .nilCheck ?_
            refine .fa ?_ fo118_2
            refine .ld ?_ sc116
            refine .move ?_
            refine .lookOk (k := id) klF hy.hm mp116 zv121 ?_
            refine .cast (d := 26) (u := .tuple #[.agg #[.int .i64 0, .int .i64 0, .int .i64 0], .bool false]) rfl (by rw [hy.pm.get, hl]; rfl) ?_
            refine .move ?_
            refine .extract ?_
            refine .extract ?_
            refine .alloc z121 fun b9 => ?_
            refine .stV ?_ agg121
            refine .assign (.z (.seq (.block (.sr (.move (.move ?_))))))
            refine .call (hc := Tryz.call73) (sp := prFullN hy hl) (h := ?_)
            rintro _ _ ⟨rfl, rfl⟩
            refine .assign (.z ?_)
            refine .condF rfl (congrArg Value.bool (by first | (simp; done) | (simp; omega) | omega)) ?_
            refine .sr (.move (.move ?_))
            refine .gF ?_
            refine .gF ?_
            refine .gF ?_
            refine .gF ?_
            refine .pickF ?_
            refine .assign (.z ?_)
            refine .condF rfl rfl ?_
            refine .seq (.sr (.move (.move ?_)))
            refine .gF ?_
            refine .gF ?_
            refine .gF ?_
            refine .gF ?_
            refine .gF ?_
            refine .pickF ?_
            refine .assign (.z ?_)
            refine .condF rfl rfl ?_
            refine .region (.move ?_)
            refine .not ?_
            refine .move ?_
            refine .gT ?_
            refine .move ?_
            refine .gT ?_
            refine .eqi ?_
            refine .pickT ?_
            refine .assign (.z ?_)
            refine .condT rfl (congrArg Value.bool (by first | (simp; done) | (simp; omega) | omega)) ?_
            refine .sr (.assign (.assign (.assign (.z ?_))))
            refine .ret (.blockRet (.thenRet (?_)))
            refine .shutR (PD.opens pr f path (L)) (mp, es, c, kv) hy ?_
            exact .ret3 (h1 := .tmp (t := 6) rfl) (h2 := .tmp (t := 7) rfl) (h3 := .tmp (t := 8) rfl) ⟨_, ⟨by rw [hch]; try rfl, rfl⟩, Am.auto⟩
          · have hch : chkP L id seq = (0, false, 11) := by unfold chkP; rw [if_neg hno, hl]; simp only; rw [if_neg h60, if_neg hs0]
            refine .sr (.assign (.assign (.assign (.z (.seq (.sr (.move ?_)))))))
            refine .call (hc := Tryz.call72) (sp := prReady (pr := pr) (f := f) (mp := mp) (path := path)) (h := ?_)
            rintro _ _ ⟨rfl, rfl⟩
            refine .not ?_
            refine .z ?_
            refine .condF rfl rfl ?_
            refine .skip (.next (.seq (.sr (.move ?_))))
            refine .lss ?_
            refine .move ?_
            refine .cast (d := 16) (u := .bool false) rfl (congrArg Value.bool (by first | (simp; done) | (simp; omega) | omega)) ?_
            refine .gT ?_
            refine .move ?_
            refine .gT ?_
            refine .lss ?_
            refine .pickF ?_
            refine .z ?_
            refine .condF rfl (congrArg Value.bool (by first | (simp; done) | (simp; omega) | omega)) ?_
            refine .skip (.next (.sr (.move ?_)))
            refine .nilCheck ?_
            refine .fa ?_ fo118_2
            refine .ld ?_ sc116
            refine .move ?_
            refine .lookOk (k := id) klF hy.hm mp116 zv121 ?_
            refine .cast (d := 26) (u := .tuple #[.agg #[.int .i64 0, .int .i64 0, .int .i64 0], .bool false]) rfl (by rw [hy.pm.get, hl]; rfl) ?_
            refine .move ?_
            refine .extract ?_
            refine .extract ?_
            refine .alloc z121 fun b9 => ?_
            refine .stV ?_ agg121
            refine .assign (.z (.seq (.block (.sr (.move (.move ?_))))))
            refine .call (hc := Tryz.call73) (sp := prFullN hy hl) (h := ?_)
            rintro _ _ ⟨rfl, rfl⟩
            refine .assign (.z ?_)
            refine .condF rfl (congrArg Value.bool (by first | (simp; done) | (simp; omega) | omega)) ?_
            refine .sr (.move (.move ?_))
            refine .gF ?_
            refine .gF ?_
            refine .gF ?_
            refine .gF ?_
            refine .pickF ?_
            refine .assign (.z ?_)
            refine .condF rfl rfl ?_
            refine .seq (.sr (.move (.move ?_)))
            refine .gF ?_
            refine .gF ?_
            refine .gF ?_
            refine .gF ?_
            refine .gF ?_
            refine .pickF ?_
            refine .assign (.z ?_)
            refine .condF rfl rfl ?_
            refine .region (.move ?_)
            refine .not ?_
            refine .move ?_
            refine .gT ?_
            refine .move ?_
            refine .gT ?_
            refine .eqi ?_
            refine .pickT ?_
            refine .assign (.z ?_)
            refine .condF rfl (congrArg Value.bool (by first | (simp; done) | (simp; omega) | omega)) ?_
            refine .skip (.blockNormal (.next (.sr (.assign (.assign (.assign (.z ?_)))))))
            refine .ret (?_)
            refine .shutR (PD.opens pr f path (L)) (mp, es, c, kv) hy ?_
            exact .ret3 (h1 := .tmp (t := 6) rfl) (h2 := .tmp (t := 7) rfl) (h3 := .tmp (t := 8) rfl) ⟨_, ⟨by rw [hch]; try rfl, rfl⟩, Am.auto⟩
      | some q =>
        obtain ⟨r, hr⟩ : ∃ r, L.getD q (0, 0, 0) = r := ⟨_, rfl⟩
        by_cases hs0 : seq = (r.2.1 : Int)
        · have hch : chkP L id seq = ((r.2.2 : Int), true, 0) := by unfold chkP; rw [if_neg hno, hl]; simp only [hr]; rw [if_pos hs0]
          refine .sr (.assign (.assign (.assign (.z (.seq (.sr (.move ?_)))))))
          refine .call (hc := Tryz.call72) (sp := prReady (pr := pr) (f := f) (mp := mp) (path := path)) (h := ?_)
          rintro _ _ ⟨rfl, rfl⟩
          refine .not ?_
          refine .z ?_
          refine .condF rfl rfl ?_
          refine .skip (.next (.seq (.sr (.move ?_))))
          refine .lss ?_
          refine .move ?_
          refine .cast (d := 16) (u := .bool false) rfl (congrArg Value.bool (by first | (simp; done) | (simp; omega) | omega)) ?_
          refine .gT ?_
          refine .move ?_
          refine .gT ?_
          refine .lss ?_
          refine .pickF ?_
          refine .z ?_
          refine .condF rfl (congrArg Value.bool (by first | (simp; done) | (simp; omega) | omega)) ?_
          refine .skip (.next (.sr (.move ?_)))
          refine .nilCheck ?_
          refine .fa ?_ fo118_2
          refine .ld ?_ sc116
          refine .move ?_
          refine .lookOk (k := id) klF hy.hm mp116 zv121 ?_
          refine .cast (d := 26) (u := .tuple #[.agg #[nI r.2.1, nI r.2.2, nI q], .bool true]) rfl (by rw [hy.pm.get, hl]; simp only [Option.map_some, hr]; rfl) ?_
          refine .move ?_
          refine .extract ?_
          refine .extract ?_
          refine .alloc z121 fun b9 => ?_
          refine .stV ?_ agg121
          refine .assign (.z (.seq (.block (.sr (.move (.move ?_))))))
          refine .call (hc := Tryz.call73) (sp := prFullS hy hl) (h := ?_)
          rintro _ _ ⟨rfl, rfl⟩
          refine .assign (.z ?_)
          refine .condF rfl rfl ?_
          refine .sr (.move (.move ?_))
          refine .gT ?_
          refine .move ?_
          refine .gT ?_
          refine .fa ?_ fo121_0
          refine .gT ?_
          refine .ld ?_ sc3
          refine .gT ?_
          refine .eqi ?_
          refine .pickT ?_
          refine .assign (.z ?_)
          refine .condT rfl (congrArg Value.bool (by first | (simp; done) | (simp; omega) | omega)) ?_
          refine .sr ?_
          refine .fa ?_ fo121_1
          refine .ld ?_ sc3
          refine .assign (.assign (.assign (.z ?_)))
          refine .ret (.blockRet (.thenRet (?_)))
          refine .shutR (PD.opens pr f path (L)) (mp, es, c, kv) hy ?_
          exact .ret3 (h1 := .tmp (t := 6) rfl) (h2 := .tmp (t := 7) rfl) (h3 := .tmp (t := 8) rfl) ⟨_, ⟨by rw [hch]; try rfl, rfl⟩, Am.auto⟩
        · by_cases hs1 : seq - 1 = (r.2.1 : Int)
          · have hch : chkP L id seq = (0, false, 0) := by unfold chkP; rw [if_neg hno, hl]; simp only [hr]; rw [if_neg hs0, if_pos hs1]
            refine .sr (.assign (.assign (.assign (.z (.seq (.sr (.move ?_)))))))
            refine .call (hc := Tryz.call72) (sp := prReady (pr := pr) (f := f) (mp := mp) (path := path)) (h := ?_)
            rintro _ _ ⟨rfl, rfl⟩
            refine .not ?_
            refine .z ?_
            refine .condF rfl rfl ?_
            refine .skip (.next (.seq (.sr (.move ?_))))
            refine .lss ?_
            refine .move ?_
            refine .cast (d := 16) (u := .bool false) rfl (congrArg Value.bool (by first | (simp; done) | (simp; omega) | omega)) ?_
            refine .gT ?_
            refine .move ?_
            refine .gT ?_
            refine .lss ?_
            refine .pickF ?_
            refine .z ?_
            refine .condF rfl (congrArg Value.bool (by first | (simp; done) | (simp; omega) | omega)) ?_
            refine .skip (.next (.sr (.move ?_)))
            refine .nilCheck ?_
            refine .fa ?_ fo118_2
            refine .ld ?_ sc116
            refine .move ?_
            refine .lookOk (k := id) klF hy.hm mp116 zv121 ?_
            refine .cast (d := 26) (u := .tuple #[.agg #[nI r.2.1, nI r.2.2, nI q], .bool true]) rfl (by rw [hy.pm.get, hl]; simp only [Option.map_some, hr]; rfl) ?_
            refine .move ?_
            refine .extract ?_
            refine .extract ?_
            refine .alloc z121 fun b9 => ?_
            refine .stV ?_ agg121
            refine .assign (.z (.seq (.block (.sr (.move (.move ?_))))))
            refine .call (hc := Tryz.call73) (sp := prFullS hy hl) (h := ?_)
            rintro _ _ ⟨rfl, rfl⟩
            refine .assign (.z ?_)
            refine .condF rfl rfl ?_
            refine .sr (.move (.move ?_))
            refine .gT ?_
            refine .move ?_
            refine .gT ?_
            refine .fa ?_ fo121_0
            refine .gT ?_
            refine .ld ?_ sc3
            refine .gT ?_
            refine .eqi ?_
            refine .pickT ?_
            refine .assign (.z ?_)
            refine .condF rfl (congrArg Value.bool (by first | (simp; done) | (simp; omega) | omega)) ?_
            refine .seq (.sr (.move (.move ?_)))
            refine .gT ?_
            refine .move ?_
            refine .gT ?_
            refine .sub ?_
            refine .gT ?_
            refine .fa ?_ fo121_0
            refine .gT ?_
            refine .ld ?_ sc3
            refine .gT ?_
            refine .eqi ?_
            refine .pickT ?_
            refine .assign (.z ?_)
            refine .condT rfl (congrArg Value.bool (by first | (simp; done) | (simp; omega) | omega)) ?_
            refine .skip (.next ?_)
            refine .condT rfl (congrArg Value.bool (by first | (simp; done) | (simp; omega) | omega)) ?_
            refine .sr (.assign (.assign (.assign (.z ?_))))
            refine .ret (.blockRet (.thenRet (?_)))
            refine .shutR (PD.opens pr f path (L)) (mp, es, c, kv) hy ?_
            exact .ret3 (h1 := .tmp (t := 6) rfl) (h2 := .tmp (t := 7) rfl) (h3 := .tmp (t := 8) rfl) ⟨_, ⟨by rw [hch]; try rfl, rfl⟩, Am.auto⟩
          · have hch : chkP L id seq = (0, false, 11) := by unfold chkP; rw [if_neg hno, hl]; simp only [hr]; rw [if_neg hs0, if_neg hs1]
            refine .sr (.assign (.assign (.assign (.z (.seq (.sr (.move ?_)))))))
            refine .call (hc := Tryz.call72) (sp := prReady (pr := pr) (f := f) (mp := mp) (path := path)) (h := ?_)
            rintro _ _ ⟨rfl, rfl⟩
            refine .not ?_
            refine .z ?_
            refine .condF rfl rfl ?_
            refine .skip (.next (.seq (.sr (.move ?_))))
            refine .lss ?_
            refine .move ?_
            refine .cast (d := 16) (u := .bool false) rfl (congrArg Value.bool (by first | (simp; done) | (simp; omega) | omega)) ?_
            refine .gT ?_
            refine .move ?_
            refine .gT ?_
            refine .lss ?_
            refine .pickF ?_
            refine .z ?_
            refine .condF rfl (congrArg Value.bool (by first | (simp; done) | (simp; omega) | omega)) ?_
            refine .skip (.next (.sr (.move ?_)))
            refine .nilCheck ?_
            refine .fa ?_ fo118_2
            refine .ld ?_ sc116
            refine .move ?_
            refine .lookOk (k := id) klF hy.hm mp116 zv121 ?_
            refine .cast (d := 26) (u := .tuple #[.agg #[nI r.2.1, nI r.2.2, nI q], .bool true]) rfl (by rw [hy.pm.get, hl]; simp only [Option.map_some, hr]; rfl) ?_
            refine .move ?_
            refine .extract ?_
            refine .extract ?_
            refine .alloc z121 fun b9 => ?_
            refine .stV ?_ agg121
            refine .assign (.z (.seq (.block (.sr (.move (.move ?_))))))
            refine .call (hc := Tryz.call73) (sp := prFullS hy hl) (h := ?_)
            rintro _ _ ⟨rfl, rfl⟩
            refine .assign (.z ?_)
            refine .condF rfl rfl ?_
            refine .sr (.move (.move ?_))
            refine .gT ?_
            refine .move ?_
            refine .gT ?_
            refine .fa ?_ fo121_0
            refine .gT ?_
            refine .ld ?_ sc3
            refine .gT ?_
            refine .eqi ?_
            refine .pickT ?_
            refine .assign (.z ?_)
            refine .condF rfl (congrArg Value.bool (by first | (simp; done) | (simp; omega) | omega)) ?_
            refine .seq (.sr (.move (.move ?_)))
            refine .gT ?_
            refine .move ?_
            refine .gT ?_
            refine .sub ?_
            refine .gT ?_
            refine .fa ?_ fo121_0
            refine .gT ?_
            refine .ld ?_ sc3
            refine .gT ?_
            refine .eqi ?_
            refine .pickT ?_
            refine .assign (.z ?_)
            refine .condF rfl (congrArg Value.bool (by first | (simp; done) | (simp; omega) | omega)) ?_
            refine .region (.move ?_)
            refine .not ?_
            refine .move ?_
            refine .gF ?_
            refine .gF ?_
            refine .pickF ?_
            refine .assign (.z ?_)
            refine .condF rfl rfl ?_
            refine .skip (.blockNormal (.next (.sr (.assign (.assign (.assign (.z ?_)))))))
            refine .ret (?_)
            refine .shutR (PD.opens pr f path (L)) (mp, es, c, kv) hy ?_
            exact .ret3 (h1 := .tmp (t := 6) rfl) (h2 := .tmp (t := 7) rfl) (h3 := .tmp (t := 8) rfl) ⟨_, ⟨by rw [hch]; try rfl, rfl⟩, Am.auto⟩
theorem has_few {n : Nat} (h : n ≤ 1536) : has n ≤ 3 := by
  have : dat n ≤ 3 := by unfold dat; omega
  unfold has
  rw [if_pos (by omega)]; exact this
theorem prAccept {pr f i : Nat} {p : Pl} {T : FT} {path : Bytes} {L : List Prd} {r : Prd} (ho : PlOk p) (hT : TOk T) (hpl : path.length ≤ 1000000) (hft : fileT T path = (i, 1, (rowsB L).length, 0)) (hTi : T i = some (.file (rowsB L))) (hr : PrdOk r) (hfu : lookP L (r.1 : Int) ≠ none ∨ L.length < 60) (hw : Rw p 0 14) (hfit : tot (fmT T) p.ino + 3 ≤ p.dc + has (rowsB L).length) : Spec Tryz.prog 21 #[.pointer (some ⟨pr, 0, none⟩), nI r.1, nI r.2.1, nI r.2.2] [PD pr f path L, FSR f p T] fun F v M => v = okV ∧ M = PD pr f path (accP L r) :: FSR f p (updT T i (some (.file (rowsB (accP L r))))) :: F := by
  refine Spec.intro Tryz.func21 rfl rfl fun B F => ?_
  simp only [Tryz.ntmps21, List.cons_append, List.nil_append, env0, Nat.reduceAdd]
  refine .openR (PD.opens pr f path L) fun y hy => ?_
  obtain ⟨mp, es, c, kv⟩ := y
  simp only [pdLs, List.cons_append, List.nil_append]
  have hsz : es.size = L.length := hy.hm.length.trans hy.pm.len
  obtain ⟨q, hq⟩ : ∃ q, (lookP L (r.1 : Int)).getD L.length = q := ⟨_, rfl⟩
  have hql : q ≤ L.length := hq ▸ rowOf_le _
  have hq60 : q < 60 := hq ▸ rowOf_lt _ hfu hy.ok.few
  have hok2 := accP_ok hy.ok hr hfu
  have hlB := rowsB_length L
  have hfew := hy.ok.few
  have hh1 := has_few (n := max (rowsB L).length (24 * q + 24)) (by omega)
  have hacc : wrB (rowsB L) (24 * q) (rowB r) = rowsB (accP L r) := by rw [setP_wr hql]; unfold accP; rw [hq]
  have hr1 := hr.1
  have hr2 := hr.2.1
  have hr3 := hr.2.2.1
  have hr4 := hr.2.2.2
  cases hl : lookP L (r.1 : Int) with
  | none =>
    have hq2 : L.length = q := by rw [hl] at hq; exact hq
    have hlt60 : ¬ 60 ≤ L.length := by omega
    refine .sr (.assign (.z (.seq (.sr (.move ?_)))))
    refine .call (hc := Tryz.call72) (sp := prReady (pr := pr) (f := f) (mp := mp) (path := path)) (h := ?_)
    rintro _ _ ⟨rfl, rfl⟩
    refine .not ?_
    refine .z ?_
    refine .condF rfl rfl ?_
    refine .skip (.next (.seq (.sr (.move (.move (.move ?_))))))
    refine .call (hc := Tryz.call67) (sp := prMay (a := (r.1 : Int)) (b := (r.2.1 : Int)) (c := (r.2.2 : Int)) ⟨by omega, by omega, by omega, by omega⟩) (h := ?_)
    rintro _ _ ⟨rfl, rfl⟩
    refine .not ?_
    refine .z ?_
    refine .condF rfl rfl ?_
    refine .skip (.next (.seq (.sr (.move (.move ?_)))))
    refine .call (hc := Tryz.call73) (sp := prFullN hy hl) (h := ?_)
    rintro _ _ ⟨rfl, rfl⟩
    refine .z ?_
    refine .condF rfl (congrArg Value.bool (by first | (simp; done) | (simp; omega) | omega)) ?_
    refine .skip (.next (.sr (.move ?_)))
    refine .nilCheck ?_
    refine .fa ?_ fo118_2
    refine .ld ?_ sc116
    refine .move ?_
    refine .lookOk (k := (r.1 : Int)) klF hy.hm mp116 zv121 ?_
    refine .cast (d := 32) (u := .tuple #[.agg #[.int .i64 0, .int .i64 0, .int .i64 0], .bool false]) rfl (by rw [hy.pm.get, hl]; rfl) ?_
    refine .move ?_
    refine .extract ?_
    refine .extract ?_
    refine .alloc z121 fun b9 => ?_
    refine .stV ?_ agg121
    refine .assign (.z (.seq (.sr (.move ?_))))
    refine .not ?_
    refine .z ?_
    refine .condT rfl rfl ?_
    refine .region (.move ?_)
    refine .nilCheck ?_
    refine .fa ?_ fo118_2
    refine .ld ?_ sc116
    refine .lenM ?_ mp116
    refine .cast (d := 41) (u := nI q) rfl (congrArg (Value.int .i64) (by rw [hsz, hq2])) ?_
    refine .fa ?_ fo121_2
    refine .st ?_ sc3
    refine .x ?_
    refine .mkSN 24 z5 so33 (by decide) (by decide) fun b43 => ?_
    refine .to (A := buf b43 5 24 (List.replicate 24 (.int .u8 0))) (A' := buf b43 5 24 (bvs (rowP (rowN r) 0))) (fun h hh => by rw [rowP, bvs_replicate]; exact hh) ?_
    refine .assign (.z (.seq (.sr (.move (.move (.move ?_))))))
    refine .buildS (fun b47 => ?_) (bsI3 _ _ _)
    refine .lenS ?_ sl80
    refine .move (.z (.block ?_))
    refine .to (A := pt b47 (.cells #[nI r.1, nI r.2.1, nI r.2.2] 3 (0, 0))) (A' := pt b47 (.cells (natsV (rowN r)).toArray 3 (0, 0))) (fun h hh => hh) ?_
    refine .loopA (σ := Nat × Nat × Nat) (fun y => [(0, .pointer (some ⟨pr, 0, none⟩)), (1, nI r.1), (2, nI r.2.1), (3, nI r.2.2), (9, .pointer (some ⟨b9, 0, none⟩)), (11, .slice (some ⟨y.2.1, 0, none⟩) 24 y.2.2), (47, .slice (some ⟨b47, 0, none⟩) 3 3), (48, .int .i64 3), (49, .int .i64 ((y.1 : Nat) : Int))]) (fun y => buf y.2.1 5 y.2.2 (bvs (rowP (rowN r) y.1)) :: pt b47 (.cells (natsV (rowN r)).toArray 3 (0, 0)) :: pt b9 (.cells #[nI 0, nI 0, nI q] 121 (0, 0)) :: pt pr (pO f path mp) :: pt mp (.map es c) :: FSR f p T :: F) (fun y => y.1 ≤ 3 ∧ 24 ≤ y.2.2 ∧ y.2.2 ≤ maxLen) (fun y => 3 - y.1) (0, b43, 24) ⟨Nat.zero_le _, Nat.le_refl _, by show 24 ≤ maxLen; decide⟩ (hI := by show Am _ _; exact Am.auto) ?_
    rintro y hy2
    obtain ⟨k, gb, cb⟩ := y
    obtain ⟨hk, hq1, hq2⟩ := hy2
    simp only at hk hq1 hq2 ⊢
    refine .sr ?_
    refine .lss ?_
    refine .z (.seq ?_)
    refine .cond rfl (fun hb => ?_) (fun hb => ?_)
    · have hlt : k < 3 := by have h : (k : Int) < 3 := of_decide_eq_true hb; omega
      have hgk : (natsV (rowN r))[((k : Nat) : Int).toNat]? = some (.int .i64 (((rowN r).getD k 0 : Nat) : Int)) := by
        have hl3 : k < (rowN r).length := hlt
        rw [Int.toNat_natCast, List.getD_eq_getElem?_getD, List.getElem?_eq_getElem hl3]
        unfold natsV ints
        simp [hl3]
      have hv : (rowN r).getD k 0 < 2 ^ 64 := by
        rcases k with _ | _ | _ | k
        · show r.1 < _; omega
        · show r.2.1 < _; omega
        · show r.2.2 < _; omega
        · omega
      have hlen := rowP_length (rowN r) k
      refine .skip (.next (.seq (.block (.sr (.move ?_)))))
      refine .idx1 ?_ so80
      refine .ldR (i := ((k : Nat) : Int).toNat) (R := pt b47 (.cells (natsV (rowN r)).toArray 3 (0, 0))) ?_ sc3 Reads.pt hgk
      refine .assign (.assign (.y (.move (.move ?_))))
      refine .mul ?_
      refine .move ?_
      refine .cvt ?_ un3 un134
      refine .cast (d := 59) (u := .int .u64 (((rowN r).getD k 0 : Nat) : Int)) rfl (congrArg (Value.int .u64) (u64_wrap0 hv)) ?_
      refine .call (hc := Tryz.call74) (sp := bitsPut (xs := rowP (rowN r) k) (v := (rowN r).getD k 0) Reads.buf hlen (by decide) (by omega) (by omega) (by omega) hv) (h := ?_)
      rintro _ _ ⟨g', q', ⟨rfl, h1, h2⟩, rfl⟩
      refine .move ?_
      refine .extract ?_
      refine .extract ?_
      refine .assign (.nil (.blockNormal (.next (.region ?_))))
      refine .add ?_
      refine .move (.nil ?_)
      refine .to (r := .here) (A' := buf g' 5 q' (bvs (rowP (rowN r) (k + 1)))) (fun h hh => by
        rw [rowP, show 8 * k = (8 * ((k : Nat) : Int)).toNat from by omega]; exact hh) ?_
      refine .cast (d := 49) (u := .int .i64 ((k + 1 : Nat) : Int)) rfl (congrArg (Value.int .i64) (by omega)) ?_
      exact .back (k + 1, g', q') ⟨by show k + 1 ≤ 3; omega, h1, h2⟩ (by show 3 - (k + 1) < 3 - k; omega)
    · have hge : k = 3 := by have h : ¬ (k : Int) < 3 := of_decide_eq_false hb; omega
      subst hge
      refine .exit (.thenExit (.thenExit (.blockExit (?_))))
      refine .next (.seq (.seq ?_))
      refine .dr ([pt pr (pO f path mp), pt b9 (.cells #[nI 0, nI 0, nI q] 121 (0, 0))]) [] 14 mixed .autoJ ?_
      refine .tk 0 rfl .move ?_
      refine .tk 1 rfl .nilCheck ?_
      refine .tk 2 rfl (.fa fo118_0) ?_
      refine .tk 3 rfl (.ld sc23) ?_
      refine .tk 4 rfl .move ?_
      refine .tk 5 rfl .nilCheck ?_
      refine .tk 6 rfl (.fa fo118_1) ?_
      refine .tk 7 rfl (.ld sc9) ?_
      refine .tk 8 rfl (.fa fo121_2) ?_
      refine .tk 9 rfl (.ld sc3) ?_
      refine .tk 10 rfl .mul ?_
      refine .tk 11 rfl .move ?_
      refine .on 12 rfl fun hnp => ?_
      refine .call (hc := Tryz.call75) (sp := fsWrite (path := path) (at' := 24 * q) (bs := rowB r) (R := buf gb 5 cb (bvs (rowB r))) (A := some ⟨gb, 0, none⟩) (cc := cb) (m := 24) ho hT hpl hft hTi (.inr Reads.buf) (rowB_length r) hq1 hq2 (hw.less (by omega)) (by omega) (by omega) (by omega)) (h := ?_)
      rintro _ _ ⟨rfl, rfl⟩
      rw [hacc]
      refine .nil (.wa hnp ?_)
      refine .tk 13 rfl .assign ?_
      refine .fin ?_
      refine .next (.sr (.move ?_))
      refine .nei ?_
      refine .z ?_
      refine .condF rfl (congrArg Value.bool (by first | (simp; done) | (simp; omega) | omega)) ?_
      refine .skip (.next (.seq ?_))
      refine .dr ([pt pr (pO f path mp), pt b9 (.cells #[nI 0, nI 0, nI q] 121 (0, 0))]) [10] 11 mixed .autoJ ?_
      refine .tk 0 rfl .move ?_
      refine .tk 1 rfl .nilCheck ?_
      refine .tk 2 rfl (.fa fo118_2) ?_
      refine .tk 3 rfl (.ld sc116) ?_
      refine .tk 4 rfl .move ?_
      refine .tk 5 rfl .move ?_
      refine .tk 6 rfl .move ?_
      refine .tk 7 rfl (.fa fo121_2) ?_
      refine .tk 8 rfl (.ld sc3) ?_
      refine .tk 9 rfl (.build (bdKn _ _ _)) ?_
      refine .on 10 rfl fun hnp => ?_
      refine .upd (k := (r.1 : Int)) klF hy.hm mp116 fun es2 c2 hm2 => ?_
      refine .nil (.wb hnp ?_)
      refine .fin ?_
      refine .next (.sr (.assign (.z ?_)))
      refine .ret (?_)
      have hpm := hy.pm.acc hy.ok hok2
      rw [hq] at hpm
      refine .shutR (PD.opens pr f path (accP L r)) (mp, es2, c2, kput kv (r.1 : Int) (knV r q)) ⟨hm2, hpm, hok2⟩ ?_
      exact .ret1 (h1 := .tmp (t := 8) rfl) ⟨_, ⟨rfl, rfl⟩, Am.auto⟩
  | some j =>
    have hq2 : q = j := by rw [hl] at hq; exact hq.symm
    subst hq2
    obtain ⟨r0, hr0⟩ : ∃ r0, L.getD q (0, 0, 0) = r0 := ⟨_, rfl⟩
    refine .sr (.assign (.z (.seq (.sr (.move ?_)))))
    refine .call (hc := Tryz.call72) (sp := prReady (pr := pr) (f := f) (mp := mp) (path := path)) (h := ?_)
    rintro _ _ ⟨rfl, rfl⟩
    refine .not ?_
    refine .z ?_
    refine .condF rfl rfl ?_
    refine .skip (.next (.seq (.sr (.move (.move (.move ?_))))))
    refine .call (hc := Tryz.call67) (sp := prMay (a := (r.1 : Int)) (b := (r.2.1 : Int)) (c := (r.2.2 : Int)) ⟨by omega, by omega, by omega, by omega⟩) (h := ?_)
    rintro _ _ ⟨rfl, rfl⟩
    refine .not ?_
    refine .z ?_
    refine .condF rfl rfl ?_
    refine .skip (.next (.seq (.sr (.move (.move ?_)))))
    refine .call (hc := Tryz.call73) (sp := prFullS hy hl) (h := ?_)
    rintro _ _ ⟨rfl, rfl⟩
    refine .z ?_
    refine .condF rfl rfl ?_
    refine .skip (.next (.sr (.move ?_)))
    refine .nilCheck ?_
    refine .fa ?_ fo118_2
    refine .ld ?_ sc116
    refine .move ?_
    refine .lookOk (k := (r.1 : Int)) klF hy.hm mp116 zv121 ?_
    refine .cast (d := 32) (u := .tuple #[.agg #[nI r0.2.1, nI r0.2.2, nI q], .bool true]) rfl (by rw [hy.pm.get, hl]; simp only [Option.map_some, hr0]; rfl) ?_
    refine .move ?_
    refine .extract ?_
    refine .extract ?_
    refine .alloc z121 fun b9 => ?_
    refine .stV ?_ agg121
    refine .assign (.z (.seq (.sr (.move ?_))))
    refine .not ?_
    refine .z ?_
    refine .condF rfl rfl ?_
    refine .skip (.next (.sr ?_))
    refine .mkSN 24 z5 so33 (by decide) (by decide) fun b43 => ?_
    refine .to (A := buf b43 5 24 (List.replicate 24 (.int .u8 0))) (A' := buf b43 5 24 (bvs (rowP (rowN r) 0))) (fun h hh => by rw [rowP, bvs_replicate]; exact hh) ?_
    refine .assign (.z (.seq (.sr (.move (.move (.move ?_))))))
    refine .buildS (fun b47 => ?_) (bsI3 _ _ _)
    refine .lenS ?_ sl80
    refine .move (.z (.block ?_))
    refine .to (A := pt b47 (.cells #[nI r.1, nI r.2.1, nI r.2.2] 3 (0, 0))) (A' := pt b47 (.cells (natsV (rowN r)).toArray 3 (0, 0))) (fun h hh => hh) ?_
    refine .loopA (σ := Nat × Nat × Nat) (fun y => [(0, .pointer (some ⟨pr, 0, none⟩)), (1, nI r.1), (2, nI r.2.1), (3, nI r.2.2), (9, .pointer (some ⟨b9, 0, none⟩)), (11, .slice (some ⟨y.2.1, 0, none⟩) 24 y.2.2), (47, .slice (some ⟨b47, 0, none⟩) 3 3), (48, .int .i64 3), (49, .int .i64 ((y.1 : Nat) : Int))]) (fun y => buf y.2.1 5 y.2.2 (bvs (rowP (rowN r) y.1)) :: pt b47 (.cells (natsV (rowN r)).toArray 3 (0, 0)) :: pt b9 (.cells #[nI r0.2.1, nI r0.2.2, nI q] 121 (0, 0)) :: pt pr (pO f path mp) :: pt mp (.map es c) :: FSR f p T :: F) (fun y => y.1 ≤ 3 ∧ 24 ≤ y.2.2 ∧ y.2.2 ≤ maxLen) (fun y => 3 - y.1) (0, b43, 24) ⟨Nat.zero_le _, Nat.le_refl _, by show 24 ≤ maxLen; decide⟩ (hI := by show Am _ _; exact Am.auto) ?_
    rintro y hy2
    obtain ⟨k, gb, cb⟩ := y
    obtain ⟨hk, hq1, hq2⟩ := hy2
    simp only at hk hq1 hq2 ⊢
    refine .sr ?_
    refine .lss ?_
    refine .z (.seq ?_)
    refine .cond rfl (fun hb => ?_) (fun hb => ?_)
    · have hlt : k < 3 := by have h : (k : Int) < 3 := of_decide_eq_true hb; omega
      have hgk : (natsV (rowN r))[((k : Nat) : Int).toNat]? = some (.int .i64 (((rowN r).getD k 0 : Nat) : Int)) := by
        have hl3 : k < (rowN r).length := hlt
        rw [Int.toNat_natCast, List.getD_eq_getElem?_getD, List.getElem?_eq_getElem hl3]
        unfold natsV ints
        simp [hl3]
      have hv : (rowN r).getD k 0 < 2 ^ 64 := by
        rcases k with _ | _ | _ | k
        · show r.1 < _; omega
        · show r.2.1 < _; omega
        · show r.2.2 < _; omega
        · omega
      have hlen := rowP_length (rowN r) k
      refine .skip (.next (.seq (.block (.sr (.move ?_)))))
      refine .idx1 ?_ so80
      refine .ldR (i := ((k : Nat) : Int).toNat) (R := pt b47 (.cells (natsV (rowN r)).toArray 3 (0, 0))) ?_ sc3 Reads.pt hgk
      refine .assign (.assign (.y (.move (.move ?_))))
      refine .mul ?_
      refine .move ?_
      refine .cvt ?_ un3 un134
      refine .cast (d := 59) (u := .int .u64 (((rowN r).getD k 0 : Nat) : Int)) rfl (congrArg (Value.int .u64) (u64_wrap0 hv)) ?_
      refine .call (hc := Tryz.call74) (sp := bitsPut (xs := rowP (rowN r) k) (v := (rowN r).getD k 0) Reads.buf hlen (by decide) (by omega) (by omega) (by omega) hv) (h := ?_)
      rintro _ _ ⟨g', q', ⟨rfl, h1, h2⟩, rfl⟩
      refine .move ?_
      refine .extract ?_
      refine .extract ?_
      refine .assign (.nil (.blockNormal (.next (.region ?_))))
      refine .add ?_
      refine .move (.nil ?_)
      refine .to (r := .here) (A' := buf g' 5 q' (bvs (rowP (rowN r) (k + 1)))) (fun h hh => by
        rw [rowP, show 8 * k = (8 * ((k : Nat) : Int)).toNat from by omega]; exact hh) ?_
      refine .cast (d := 49) (u := .int .i64 ((k + 1 : Nat) : Int)) rfl (congrArg (Value.int .i64) (by omega)) ?_
      exact .back (k + 1, g', q') ⟨by show k + 1 ≤ 3; omega, h1, h2⟩ (by show 3 - (k + 1) < 3 - k; omega)
    · have hge : k = 3 := by have h : ¬ (k : Int) < 3 := of_decide_eq_false hb; omega
      subst hge
      refine .exit (.thenExit (.thenExit (.blockExit (?_))))
      refine .next (.seq (.seq ?_))
      refine .dr ([pt pr (pO f path mp), pt b9 (.cells #[nI r0.2.1, nI r0.2.2, nI q] 121 (0, 0))]) [] 14 mixed .autoJ ?_
      refine .tk 0 rfl .move ?_
      refine .tk 1 rfl .nilCheck ?_
      refine .tk 2 rfl (.fa fo118_0) ?_
      refine .tk 3 rfl (.ld sc23) ?_
      refine .tk 4 rfl .move ?_
      refine .tk 5 rfl .nilCheck ?_
      refine .tk 6 rfl (.fa fo118_1) ?_
      refine .tk 7 rfl (.ld sc9) ?_
      refine .tk 8 rfl (.fa fo121_2) ?_
      refine .tk 9 rfl (.ld sc3) ?_
      refine .tk 10 rfl .mul ?_
      refine .tk 11 rfl .move ?_
      refine .on 12 rfl fun hnp => ?_
      refine .call (hc := Tryz.call75) (sp := fsWrite (path := path) (at' := 24 * q) (bs := rowB r) (R := buf gb 5 cb (bvs (rowB r))) (A := some ⟨gb, 0, none⟩) (cc := cb) (m := 24) ho hT hpl hft hTi (.inr Reads.buf) (rowB_length r) hq1 hq2 (hw.less (by omega)) (by omega) (by omega) (by omega)) (h := ?_)
      rintro _ _ ⟨rfl, rfl⟩
      rw [hacc]
      refine .nil (.wa hnp ?_)
      refine .tk 13 rfl .assign ?_
      refine .fin ?_
      refine .next (.sr (.move ?_))
      refine .nei ?_
      refine .z ?_
      refine .condF rfl (congrArg Value.bool (by first | (simp; done) | (simp; omega) | omega)) ?_
      refine .skip (.next (.seq ?_))
      refine .dr ([pt pr (pO f path mp), pt b9 (.cells #[nI r0.2.1, nI r0.2.2, nI q] 121 (0, 0))]) [10] 11 mixed .autoJ ?_
      refine .tk 0 rfl .move ?_
      refine .tk 1 rfl .nilCheck ?_
      refine .tk 2 rfl (.fa fo118_2) ?_
      refine .tk 3 rfl (.ld sc116) ?_
      refine .tk 4 rfl .move ?_
      refine .tk 5 rfl .move ?_
      refine .tk 6 rfl .move ?_
      refine .tk 7 rfl (.fa fo121_2) ?_
      refine .tk 8 rfl (.ld sc3) ?_
      refine .tk 9 rfl (.build (bdKn _ _ _)) ?_
      refine .on 10 rfl fun hnp => ?_
      refine .upd (k := (r.1 : Int)) klF hy.hm mp116 fun es2 c2 hm2 => ?_
      refine .nil (.wb hnp ?_)
      refine .fin ?_
      refine .next (.sr (.assign (.z ?_)))
      refine .ret (?_)
      have hpm := hy.pm.acc hy.ok hok2
      rw [hq] at hpm
      refine .shutR (PD.opens pr f path (accP L r)) (mp, es2, c2, kput kv (r.1 : Int) (knV r q)) ⟨hm2, hpm, hok2⟩ ?_
      exact .ret1 (h1 := .tmp (t := 8) rfl) ⟨_, ⟨rfl, rfl⟩, Am.auto⟩
theorem prGet {R : HP} {A : Addr} {n c k v : Nat} {xs : Bytes} (hR : Reads R (some A) (bvs xs)) (hn : xs.length = n) (hl : n ≤ 1073741824) (hk : 8 * k + 8 ≤ n) (hv : beNat (seg xs (8 * k) 8 true) = v) (hv2 : v < 2 ^ 63) : Spec Tryz.prog 66 #[.slice (some A) n c, nI k] [R] fun F v' M => v' = nI v ∧ M = R :: F := by
  refine Spec.intro Tryz.func66 rfl rfl fun B F => ?_
  simp only [Tryz.ntmps66, List.cons_append, List.nil_append, env0, Nat.reduceAdd]
  refine .sr (.assign (.x (.move (.move ?_))))
  refine .mul ?_
  refine .call (hc := Tryz.call143) (sp := bitsGet (p := 8 * (k : Int)) (size := 8) (big := true) hR hn hl (by decide) (by omega) (by omega)) (h := ?_)
  rintro _ _ ⟨rfl, rfl⟩
  rw [show beNat (seg xs (8 * (k : Int)).toNat (8 : Int).toNat true) = v from by rw [show (8 * (k : Int)).toNat = 8 * k from by omega]; exact hv]
  refine .move ?_
  refine .extract ?_
  refine .extract ?_
  refine .assign (.assign (.x (.move ?_)))
  refine .cvt ?_ un134 un3
  refine .cast (d := 15) (u := nI v) rfl (congrArg (Value.int .i64) (IntWalk.i64_in _ (by omega))) ?_
  refine .assign (.z ?_)
  refine .ret (?_)
  exact .ret1 (h1 := .tmp (t := 4) rfl) ⟨_, ⟨rfl, rfl⟩, Am.auto⟩
theorem POk.take {L : List Prd} (h : POk L) (k : Nat) : POk (L.take k) := by
  refine ⟨fun r hr => h.each r (List.mem_of_mem_take hr), fun q r hq hr he => ?_, by rw [List.length_take]; have := h.few; omega⟩
  rw [List.length_take] at hq hr
  rw [List.getElem_take, List.getElem_take] at he
  exact h.one q r (by omega) (by omega) he
theorem lookP_take {L : List Prd} (h : POk L) {k : Nat} (hk : k < L.length) : lookP (L.take k) (L[k].1 : Int) = none := by
  cases hl : lookP (L.take k) (L[k].1 : Int) with
  | none => rfl
  | some q =>
    obtain ⟨h1, h2⟩ := lookP_some hl
    rw [List.length_take] at h1
    rw [List.getElem_take] at h2
    have := h.one q k (by omega) hk (by omega)
    omega
theorem accP_take {L : List Prd} (h : POk L) {k : Nat} (hk : k < L.length) : accP (L.take k) L[k] = L.take (k + 1) := by
  unfold accP
  rw [lookP_take h hk]
  have hl : (L.take k).length = k := by rw [List.length_take]; omega
  show setP (L.take k) (L.take k).length L[k] = _
  unfold setP
  rw [List.take_length, List.drop_eq_nil_of_le (by omega), List.take_succ_eq_append_getElem hk]
theorem prOpen {f i : Nat} {p : Pl} {T : FT} {path : Bytes} {L : List Prd} (ho : PlOk p) (hT : TOk T) (hpl : path.length ≤ 1000000) (hft : fileT T path = (i, 1, (rowsB L).length, 0)) (hTi : T i = some (.file (rowsB L))) (hL : POk L) : Spec Tryz.prog 16 #[.pointer (some ⟨f, 0, none⟩), sv path] [FSR f p T] fun F v M => ∃ pr, v = .tuple #[.pointer (some ⟨pr, 0, none⟩), .int .i64 0] ∧ M = PD pr f path L :: FSR f p T :: F := by
  refine Spec.intro Tryz.func16 rfl rfl fun B F => ?_
  simp only [Tryz.ntmps16, List.cons_append, List.nil_append, env0, Nat.reduceAdd]
  have hlB := rowsB_length L
  have hfew := hL.few
  have hdt : ((rowsB L).drop 0).take 70656 = rowsB L := by rw [List.drop_zero, List.take_of_length_le (by omega)]
  refine .sr (.assign (.assign (.x (.move (.move ?_)))))
  refine .call (hc := Tryz.call48) (sp := fsRead (f := f) (p := p) (T := T) (at' := 0) (n := 70656) ho hT hpl hft hTi (by decide) (by decide)) (h := ?_)
  rintro _ _ ⟨u, rfl, rfl⟩
  rw [hdt]
  refine .fact (rowR_shape (el := 5) (size := 1) (v := u) (k := (rowsB L).length) (xs := bvs (rowsB L))) (fun ⟨A, cc, hu, hR, hc1, hc2, hlen⟩ => ?_)
  subst hu
  refine .move ?_
  refine .extract ?_
  refine .extract ?_
  refine .assign (.assign (.z (.seq (.sr (.move ?_)))))
  refine .nei ?_
  refine .z ?_
  refine .condF rfl (congrArg Value.bool (by first | (simp; done) | (simp; omega) | omega)) ?_
  refine .skip (.next (.seq (.sr (.move ?_))))
  refine .lenS ?_ sl33
  refine .rem ?_
  refine .nei ?_
  refine .move ?_
  refine .cast (d := 28) (u := .bool false) rfl (congrArg Value.bool (by first | (simp; done) | (simp; omega) | omega)) ?_
  refine .gT ?_
  refine .move ?_
  refine .gT ?_
  refine .lenS ?_ sl33
  refine .gT ?_
  refine .quo ?_
  refine .gT ?_
  refine .gtr ?_
  refine .pickF ?_
  refine .z ?_
  refine .condF rfl (congrArg Value.bool (by first | (simp; done) | (simp; omega) | omega)) ?_
  refine .skip (.next (.sr (.move (.move ?_))))
  refine .mkMap fun m36 => ?_
  refine .build ?_ (bdPr _ _ _)
  refine .box fun b38 => ?_
  refine .assign (.z (.seq (.sr (.move ?_))))
  refine .lenS ?_ sl33
  refine .quo ?_
  refine .cast (d := 41) (u := nI L.length) rfl (congrArg (Value.int .i64) (by omega)) ?_
  refine .move (.z (.block ?_))
  refine .loopA (σ := Nat × Array MapEntry × Nat × List (Int × Value)) (fun y => [(6, .slice A (rowsB L).length cc), (8, .pointer (some ⟨b38, 0, none⟩)), (41, nI L.length), (42, .int .i64 ((y.1 : Nat) : Int))]) (fun y => rowR 5 1 (.slice A (rowsB L).length cc) (rowsB L).length (bvs (rowsB L)) :: pt b38 (pO f path m36) :: pt m36 (.map y.2.1 y.2.2.1) :: FSR f p T :: F) (fun y => y.1 ≤ L.length ∧ MapIs intE y.2.1 y.2.2.1 y.2.2.2 ∧ PMap (L.take y.1) y.2.2.2) (fun y => L.length - y.1) (0, #[], 0, []) ⟨Nat.zero_le _, MapIs.empty _ _, PMap.nil⟩ ?_
  rintro y hy
  obtain ⟨k, es, c, kv⟩ := y
  obtain ⟨hk, hm, hpm⟩ := hy
  simp only at hk hm hpm ⊢
  refine .sr ?_
  refine .lss ?_
  refine .z (.seq ?_)
  refine .cond rfl (fun hb => ?_) (fun hb => ?_)
  · have hlt : k < L.length := by have h : (k : Int) < (L.length : Int) := of_decide_eq_true hb; omega
    rcases A with _ | ⟨ab, ao, asp⟩
    · exact absurd (congrArg List.length (show bvs (rowsB L) = [] from hR)) (by rw [bvs_length]; simp only [List.length_nil]; omega)
    have hsp : asp = none := hR.1
    subst hsp
    obtain ⟨r, hr⟩ : ∃ r, L[k] = r := ⟨_, rfl⟩
    have hro : PrdOk r := hr ▸ hL.each _ (List.getElem_mem hlt)
    have hdr := rowsB_drop hlt
    rw [hr] at hdr
    have hrl := rowB_length r
    obtain ⟨xs, hxs⟩ : ∃ xs, (rowsB L).drop (24 * k) = xs := ⟨_, rfl⟩
    have hxl : xs.length = (rowsB L).length - 24 * k := by rw [← hxs, List.length_drop]
    have hxR : Reads (rowR 5 1 (.slice (some ⟨ab, ao, none⟩) (rowsB L).length cc) (rowsB L).length (bvs (rowsB L))) (some ⟨ab, ao + 24 * k, none⟩) (bvs xs) := by rw [← hxs, bvs_drop]; exact hR.drop (24 * k)
    obtain ⟨g0, g1, g2⟩ := rowB_get hro
    have e0 : beNat (seg xs (8 * 0) 8 true) = r.1 := by rw [← hxs, hdr, seg_front (by omega)]; exact g0
    have e1 : beNat (seg xs (8 * 1) 8 true) = r.2.1 := by rw [← hxs, hdr, seg_front (by omega)]; exact g1
    have e2 : beNat (seg xs (8 * 2) 8 true) = r.2.2 := by rw [← hxs, hdr, seg_front (by omega)]; exact g2
    have hr1 := hro.1
    have hr2 := hro.2.1
    have hr3 := hro.2.2.1
    have hr4 := hro.2.2.2
    have hlk := lookP_take hL hlt
    rw [hr] at hlk
    refine .skip (.next (.seq (.block (.sr (.move (.assign (.x (.move (.move ?_)))))))))
    refine .mul ?_
    refine .slcL ?_ so33
    refine .cast (d := 48) (u := .slice (some ⟨ab, ao + 24 * k, none⟩) xs.length (cc - 24 * k)) rfl (by rw [if_neg (by omega), hxl, show (24 * ((k : Nat) : Int)).toNat = 24 * k from by omega, Nat.mul_one]) ?_
    refine .assign (.x (.move ?_))
    refine .call (hc := Tryz.call66) (sp := prGet (k := 0) hxR rfl (by omega) (by omega) e0 (by omega)) (h := ?_)
    rintro _ _ ⟨rfl, rfl⟩
    refine .move ?_
    refine .call (hc := Tryz.call66) (sp := prGet (k := 1) hxR rfl (by omega) (by omega) e1 (by omega)) (h := ?_)
    rintro _ _ ⟨rfl, rfl⟩
    refine .move ?_
    refine .call (hc := Tryz.call66) (sp := prGet (k := 2) hxR rfl (by omega) (by omega) e2 (by omega)) (h := ?_)
    rintro _ _ ⟨rfl, rfl⟩
    refine .move ?_
    refine .build ?_ (bdKn _ _ _)
    refine .alloc z121 fun b12 => ?_
    refine .assign ?_
    refine .stV ?_ agg121
    refine .z (.seq (.sr (.move ?_)))
    refine .nilCheck ?_
    refine .fa ?_ fo118_2
    refine .ld ?_ sc116
    refine .move ?_
    refine .lookOk (k := (r.1 : Int)) klF hm mp116 zv121 ?_
    refine .cast (d := 63) (u := .tuple #[.agg #[.int .i64 0, .int .i64 0, .int .i64 0], .bool false]) rfl (by rw [hpm.get, hlk]; rfl) ?_
    refine .move ?_
    refine .extract ?_
    refine .extract ?_
    refine .alloc z121 fun b13 => ?_
    refine .stV ?_ agg121
    refine .assign (.x (.move (.move ?_)))
    refine .gT ?_
    refine .move ?_
    refine .gT ?_
    refine .fa ?_ fo121_0
    refine .gT ?_
    refine .ld ?_ sc3
    refine .gT ?_
    refine .fa ?_ fo121_1
    refine .gT ?_
    refine .ld ?_ sc3
    refine .gT ?_
    refine .call (hc := Tryz.call67) (sp := prMay (a := (r.1 : Int)) (b := (r.2.1 : Int)) (c := (r.2.2 : Int)) ⟨by omega, by omega, by omega, by omega⟩) (h := ?_)
    rintro _ _ ⟨rfl, rfl⟩
    refine .gT ?_
    refine .not ?_
    refine .pickF ?_
    refine .z ?_
    refine .condF rfl rfl ?_
    refine .skip (.next ?_)
    refine .dr ([pt b38 (pO f path m36), pt b12 (.cells #[nI r.2.1, nI r.2.2, nI k] 121 (0, 0))]) [6] 7 mixed .autoJ ?_
    refine .tk 0 rfl .move ?_
    refine .tk 1 rfl .nilCheck ?_
    refine .tk 2 rfl (.fa fo118_2) ?_
    refine .tk 3 rfl (.ld sc116) ?_
    refine .tk 4 rfl .move ?_
    refine .tk 5 rfl (.ldA agg121) ?_
    refine .on 6 rfl fun hnp => ?_
    refine .upd (k := (r.1 : Int)) klF hm mp116 fun es2 c2 hm2 => ?_
    refine .nil (.wb hnp ?_)
    refine .fin ?_
    refine .blockNormal (.next (.region ?_))
    refine .add ?_
    refine .move (.nil ?_)
    have hacc := accP_take hL hlt
    rw [hr] at hacc
    have hpm2 := hpm.acc (hL.take k) (r := r) (by rw [hacc]; exact hL.take (k + 1))
    rw [hacc, hlk, show (none : Option Nat).getD (L.take k).length = k from by show (L.take k).length = k; rw [List.length_take]; omega] at hpm2
    refine .cast (d := 42) (u := .int .i64 ((k + 1 : Nat) : Int)) rfl (congrArg (Value.int .i64) (by omega)) ?_
    exact .back (k + 1, es2, c2, _) ⟨by show k + 1 ≤ L.length; omega, hm2, hpm2⟩ (by show L.length - (k + 1) < L.length - k; omega)
  · have hge : k = L.length := by have h : ¬ (k : Int) < (L.length : Int) := of_decide_eq_false hb; omega
    subst hge
    rw [List.take_length] at hpm
    refine .exit (.thenExit (.thenExit (.blockExit (?_))))
    refine .next (.sr (.move (.assign (.assign (.z ?_)))))
    refine .ret (?_)
    refine .shutR (PD.opens b38 f path L) (m36, es, c, kv) ⟨hm, hpm, hL⟩ ?_
    exact .ret2 (h1 := .tmp (t := 4) rfl) (h2 := .tmp (t := 5) rfl) ⟨_, ⟨b38, rfl, rfl⟩, Am.auto⟩
theorem prOpenE {f : Nat} {p : Pl} {T : FT} {path : Bytes} {e : Nat} (ho : PlOk p) (hT : TOk T) (hpl : path.length ≤ 1000000) (hft : (fileT T path).2.2.2 = e) (he : e ≠ 0) : Spec Tryz.prog 16 #[.pointer (some ⟨f, 0, none⟩), sv path] [FSR f p T] fun F v M => v = .tuple #[.pointer none, nI e] ∧ M = FSR f p T :: F := by
  refine Spec.intro Tryz.func16 rfl rfl fun B F => ?_
  simp only [Tryz.ntmps16, List.cons_append, List.nil_append, env0, Nat.reduceAdd]
  refine .sr (.assign (.assign (.x (.move (.move ?_)))))
  refine .call (hc := Tryz.call48) (sp := fsReadE (f := f) (p := p) (T := T) ho hT hpl hft he) (h := ?_)
  rintro _ _ ⟨rfl, rfl⟩
  refine .move ?_
  refine .extract ?_
  refine .extract ?_
  refine .assign (.assign (.z (.seq (.sr (.move ?_)))))
  refine .nei ?_
  refine .z ?_
  refine .condT rfl (congrArg Value.bool (by first | (simp; done) | (simp; omega) | omega)) ?_
  refine .sr (.move (.assign (.assign (.z ?_))))
  refine .ret (.thenRet (?_))
  exact .ret2 (h1 := .tmp (t := 4) rfl) (h2 := .tmp (t := 5) rfl) ⟨_, ⟨rfl, rfl⟩, Am.auto⟩
theorem prOpenBad {f i : Nat} {p : Pl} {T : FT} {path : Bytes} {fb : Bytes} (ho : PlOk p) (hT : TOk T) (hpl : path.length ≤ 1000000) (hft : fileT T path = (i, 1, fb.length, 0)) (hTi : T i = some (.file fb)) (hsz : fb.length ≤ 70656) (hbad : fb.length % 24 ≠ 0 ∨ 1464 ≤ fb.length) : Spec Tryz.prog 16 #[.pointer (some ⟨f, 0, none⟩), sv path] [FSR f p T] fun F v M => v = .tuple #[.pointer none, .int .i64 10] ∧ M = FSR f p T :: F := by
  refine Spec.intro Tryz.func16 rfl rfl fun B F => ?_
  simp only [Tryz.ntmps16, List.cons_append, List.nil_append, env0, Nat.reduceAdd]
  have hdt : (fb.drop 0).take 70656 = fb := by rw [List.drop_zero, List.take_of_length_le (by omega)]
  by_cases h24 : fb.length % 24 = 0
  · refine .sr (.assign (.assign (.x (.move (.move ?_)))))
    refine .call (hc := Tryz.call48) (sp := fsRead (f := f) (p := p) (T := T) (at' := 0) (n := 70656) ho hT hpl hft hTi (by decide) (by decide)) (h := ?_)
    rintro _ _ ⟨u, rfl, rfl⟩
    rw [hdt]
    refine .fact (rowR_shape (el := 5) (size := 1) (v := u) (k := fb.length) (xs := bvs fb)) (fun ⟨A, cc, hu, hR, hc1, hc2, hlen⟩ => ?_)
    subst hu
    refine .move ?_
    refine .extract ?_
    refine .extract ?_
    refine .assign (.assign (.z (.seq (.sr (.move ?_)))))
    refine .nei ?_
    refine .z ?_
    refine .condF rfl (congrArg Value.bool (by first | (simp; done) | (simp; omega) | omega)) ?_
    refine .skip (.next (.seq (.sr (.move ?_))))
    refine .lenS ?_ sl33
    refine .rem ?_
    refine .nei ?_
    refine .move ?_
    refine .cast (d := 28) (u := .bool false) rfl (congrArg Value.bool (by first | (simp; done) | (simp; omega) | omega)) ?_
    refine .gT ?_
    refine .move ?_
    refine .gT ?_
    refine .lenS ?_ sl33
    refine .gT ?_
    refine .quo ?_
    refine .gT ?_
    refine .gtr ?_
    refine .pickF ?_
    refine .z ?_
    refine .condT rfl (congrArg Value.bool (by first | (simp; done) | (simp; omega) | omega)) ?_
    refine .sr (.assign (.assign (.z ?_)))
    refine .ret (.thenRet (?_))
    exact .ret2 (h1 := .tmp (t := 4) rfl) (h2 := .tmp (t := 5) rfl) ⟨_, ⟨rfl, rfl⟩, Am.auto⟩
  · refine .sr (.assign (.assign (.x (.move (.move ?_)))))
    refine .call (hc := Tryz.call48) (sp := fsRead (f := f) (p := p) (T := T) (at' := 0) (n := 70656) ho hT hpl hft hTi (by decide) (by decide)) (h := ?_)
    rintro _ _ ⟨u, rfl, rfl⟩
    rw [hdt]
    refine .fact (rowR_shape (el := 5) (size := 1) (v := u) (k := fb.length) (xs := bvs fb)) (fun ⟨A, cc, hu, hR, hc1, hc2, hlen⟩ => ?_)
    subst hu
    refine .move ?_
    refine .extract ?_
    refine .extract ?_
    refine .assign (.assign (.z (.seq (.sr (.move ?_)))))
    refine .nei ?_
    refine .z ?_
    refine .condF rfl (congrArg Value.bool (by first | (simp; done) | (simp; omega) | omega)) ?_
    refine .skip (.next (.seq (.sr (.move ?_))))
    refine .lenS ?_ sl33
    refine .rem ?_
    refine .nei ?_
    refine .move ?_
    refine .cast (d := 28) (u := .bool true) rfl (congrArg Value.bool (by first | (simp; done) | (simp; omega) | omega)) ?_
    refine .gF ?_
    refine .gF ?_
    refine .gF ?_
    refine .gF ?_
    refine .pickT ?_
    refine .z ?_
    refine .condT rfl rfl ?_
    refine .sr (.assign (.assign (.z ?_)))
    refine .ret (.thenRet (?_))
    exact .ret2 (h1 := .tmp (t := 4) rfl) (h2 := .tmp (t := 5) rfl) ⟨_, ⟨rfl, rfl⟩, Am.auto⟩
end Go.Proofs.YtdmjkjeoamiedaaGreatDoor
end
section
namespace Go.Proofs.YtdmjkjeoamiedaaGreatDoor
open Go
def pD (n ino : Nat) : Pl := ⟨n, ino, 246, 247, 248, 248 + (ino + 7) / 8, n - (248 + (ino + 7) / 8)⟩
theorem pD_is {n ino : Nat} (h1 : 1 ≤ ino) (h2 : ino ≤ 4096) (hn : 249 + (ino + 7) / 8 ≤ n) (hn2 : n ≤ 4000) : PlIs (pD n ino) := by
  refine ⟨?_, ?_, ?_, ?_, ?_, ?_, ?_, ?_, ?_, ?_, ?_⟩
  all_goals (simp only [pD]; try first | omega | (left; omega))
def wT (b : Bytes) : FT := fun i => if i = 0 then some (.dir [some ([119], 1)]) else if i = 1 then some (.file b) else none
theorem wT_ok (b : Bytes) : TOk (wT b) := by
  intro d sl h
  unfold wT at h
  split at h
  · injection h with h; injection h with h; subst h
    refine ⟨⟨fun q n i h => ?_, fun q r n i j h1 h2 => ?_⟩, by decide⟩
    · rcases q with _ | q
      · injection h with h; injection h with h; injection h with h1 h2; subst h1; subst h2; exact ⟨by decide, by decide⟩
      · simp at h
    · rcases q with _ | q
      · rcases r with _ | r
        · rfl
        · simp at h2
      · simp at h1
  · split at h
    · injection h with h; cases h
    · cases h
theorem wT_file (b : Bytes) : fileT (wT b) [47, 119] = (1, 1, b.length, 0) := rfl
theorem wT_1 (b : Bytes) : wT b 1 = some (.file b) := rfl
theorem wT_upd (b b' : Bytes) : updT (wT b) 1 (some (.file b')) = wT b' := by
  funext i
  unfold updT wT
  by_cases h : i = 1
  · subst h; rfl
  · rw [if_neg h]
    by_cases h0 : i = 0
    · rw [if_pos h0, if_pos h0]
    · rw [if_neg h0, if_neg h0, if_neg h, if_neg h]
theorem mkT_root : mkT rootT 0 [] [119] 1 (.file []) = wT [] := by
  funext i
  unfold mkT updT rootT wT
  by_cases h0 : i = 0
  · rw [if_pos h0, if_pos h0]; rfl
  · rw [if_neg h0, if_neg h0]
    by_cases h1 : i = 1
    · rw [if_pos h1, if_neg h0]
    · rw [if_neg h1, if_neg h0]
theorem tot_rootT (n : Nat) : tot (fmT rootT) n = 0 := by rw [fmT_root]; exact tot_root n
theorem has_64 : has 64 = 1 := rfl
theorem tot_wT (b : Bytes) {n : Nat} (h : 2 ≤ n) : tot (fmT (wT b)) n = 1 + has b.length := by
  obtain ⟨k, rfl⟩ : ∃ k, n = k + 2 := ⟨n - 2, by omega⟩
  clear h
  induction k with
  | zero =>
    show 0 + has 64 + has b.length = _
    rw [has_64]
  | succ k ih =>
    show tot (fmT (wT b)) (k + 2) + hasO (fmT (wT b) (k + 2)) = _
    rw [ih]
    have : fmT (wT b) (k + 2) = none := fmT_none (by unfold wT; rw [if_neg (by omega), if_neg (by omega)])
    rw [this]; rfl
theorem root_least {T : FT} (h : T 0 ≠ none) : ∀ j < 1, T j ≠ none := fun j hj => by rw [show j = 0 from by omega]; exact h
theorem p16_is : PlIs (pD 500 20) := pD_is (by decide) (by decide) (by decide) (by decide)
theorem prAccept16 {pr f : Nat} {L : List Prd} {r : Prd} (hL : POk L) (hr : PrdOk r) (hfu : lookP L (r.1 : Int) ≠ none ∨ L.length < 60) : Spec Tryz.prog 21 #[.pointer (some ⟨pr, 0, none⟩), nI r.1, nI r.2.1, nI r.2.2] [PD pr f [47, 119] L, FSR f (pD 500 20) (wT (rowsB L))] fun F v M => v = okV ∧ M = PD pr f [47, 119] (accP L r) :: FSR f (pD 500 20) (wT (rowsB (accP L r))) :: F := by
  have hl := rowsB_length L
  have hf := hL.few
  have := prAccept (pr := pr) (f := f) (i := 1) (p := pD 500 20) (T := wT (rowsB L)) (path := [47, 119]) (L := L) (r := r) p16_is.ok (wT_ok _) (by decide) (wT_file _) (wT_1 _) hr hfu (.inr (by decide)) (by
    rw [tot_wT _ (by decide)]
    have : (pD 500 20).dc = 249 := rfl
    omega)
  rwa [wT_upd] at this
theorem prOpen16 {f : Nat} {L : List Prd} (hL : POk L) : Spec Tryz.prog 16 #[.pointer (some ⟨f, 0, none⟩), sv [47, 119]] [FSR f (pD 500 20) (wT (rowsB L))] fun F v M => ∃ pr, v = .tuple #[.pointer (some ⟨pr, 0, none⟩), .int .i64 0] ∧ M = PD pr f [47, 119] L :: FSR f (pD 500 20) (wT (rowsB L)) :: F :=
  prOpen p16_is.ok (wT_ok _) (by decide) (wT_file _) (wT_1 _) hL
theorem prMake16 {f : Nat} : Spec Tryz.prog 65 #[.pointer (some ⟨f, 0, none⟩), sv [47, 119]] [FSR f (pD 500 20) rootT] fun F v M => v = okV ∧ M = FSR f (pD 500 20) (wT []) :: F := by
  refine Spec.intro Tryz.func65 rfl rfl fun B F => ?_
  simp only [Tryz.ntmps65, List.cons_append, List.nil_append, env0, Nat.reduceAdd]
  refine .sr (.assign (.x (.move (.move ?_))))
  refine .call (hc := Tryz.call17) (sp := fsCreate (f := f) (p := pD 500 20) (T := rootT) (path := [47, 119]) (d := 0) (i := 1) (nm := [119]) (sl := []) (x := .file []) p16_is.ok rootT_ok (by decide) (by decide) rfl rfl rfl (by decide) rfl (root_least (by decide)) rfl rfl (.inr (by decide)) (by rw [tot_rootT]; decide)) (h := ?_)
  rintro _ _ ⟨rfl, rfl⟩
  rw [mkT_root]
  refine .assign (.z ?_)
  refine .ret (?_)
  exact .ret1 (h1 := .tmp (t := 4) rfl) ⟨_, ⟨rfl, rfl⟩, Am.auto⟩
theorem l16Fresh : Spec Tryz.prog 14 #[] [] fun F v M => ∃ d f pr, v = .tuple #[.pointer (some ⟨d, 0, none⟩), .pointer (some ⟨f, 0, none⟩), .pointer (some ⟨pr, 0, none⟩), .bool true] ∧ M = PD pr f [47, 119] ([]) :: FSR f (pD 500 20) (wT (rowsB ([]))) :: F := by
  refine Spec.intro Tryz.func14 rfl rfl fun B F => ?_
  simp only [Tryz.ntmps14, List.cons_append, List.nil_append, env0, Nat.reduceAdd]
  refine .sr (.assign (.assign (.assign (.assign (.x ?_)))))
  refine .call (hc := Tryz.call62) (sp := devNew (n := 500) (by decide) (by decide)) (h := ?_)
  rintro _ _ ⟨d, rfl, rfl⟩
  refine .move ?_
  refine .extract ?_
  refine .extract ?_
  refine .assign (.assign (.z (.seq (.sr (.move ?_)))))
  refine .nei ?_
  refine .move ?_
  refine .gT ?_
  refine .move ?_
  refine .gT ?_
  refine .eqNil ?_ ptr22
  refine .pickF ?_
  refine .move ?_
  refine .gT ?_
  refine .move ?_
  refine .gT ?_
  refine .call (hc := Tryz.call63) (sp := fsMkfs p16_is) (h := ?_)
  rintro _ _ ⟨J, rfl, hJ, rfl⟩
  refine .gT ?_
  refine .nei ?_
  refine .pickF ?_
  refine .z ?_
  refine .condF rfl (congrArg Value.bool (by first | (simp; done) | (simp; omega) | omega)) ?_
  refine .skip (.next (.sr (.move ?_)))
  refine .call (hc := Tryz.call64) (sp := fsMountNew p16_is hJ) (h := ?_)
  rintro _ _ ⟨f, rfl, rfl⟩
  refine .move ?_
  refine .extract ?_
  refine .extract ?_
  refine .assign (.assign (.z (.seq (.sr (.move ?_)))))
  refine .nei ?_
  refine .move ?_
  refine .gT ?_
  refine .move ?_
  refine .gT ?_
  refine .eqNil ?_ ptr23
  refine .pickF ?_
  refine .move ?_
  refine .gT ?_
  refine .move ?_
  refine .gT ?_
  refine .call (hc := Tryz.call65) (sp := prMake16 (f := f)) (h := ?_)
  rintro _ _ ⟨rfl, rfl⟩
  refine .gT ?_
  refine .nei ?_
  refine .pickF ?_
  refine .z ?_
  refine .condF rfl (congrArg Value.bool (by first | (simp; done) | (simp; omega) | omega)) ?_
  refine .skip (.next (.sr (.move ?_)))
  refine .call (hc := Tryz.call16) (sp := prOpen16 (f := f) POk.nil) (h := ?_)
  rintro _ _ ⟨pr, rfl, rfl⟩
  refine .move ?_
  refine .extract ?_
  refine .extract ?_
  refine .assign (.assign (.x (.move (.move (.move (.move ?_))))))
  refine .eqi ?_
  refine .move ?_
  refine .gT ?_
  refine .move ?_
  refine .gT ?_
  refine .neNil ?_ ptr24
  refine .pickT ?_
  refine .assign (.assign (.assign (.assign (.z ?_))))
  refine .ret (?_)
  exact .ret4 (h1 := .tmp (t := 0) rfl) (h2 := .tmp (t := 1) rfl) (h3 := .tmp (t := 2) rfl) (h4 := .tmp (t := 3) rfl) ⟨_, ⟨d, f, pr, rfl, rfl⟩, Am.auto⟩
theorem l16Awake : Spec Tryz.prog 15 #[] [] fun F v M => v = .bool true ∧ M = F := by
  refine Spec.intro Tryz.func15 rfl rfl fun B F => ?_
  simp only [Tryz.ntmps15, List.cons_append, List.nil_append, env0, Nat.reduceAdd]
  refine .sr (.assign (.x ?_))
  refine .call (hc := Tryz.call14) (sp := l16Fresh) (h := ?_)
  rintro _ _ ⟨d, f, pr, rfl, rfl⟩
  refine .move ?_
  refine .extract ?_
  refine .extract ?_
  refine .extract ?_
  refine .extract ?_
  refine .assign (.assign (.assign (.assign (.z (.seq (.sr (.move ?_)))))))
  refine .not ?_
  refine .move ?_
  refine .gT ?_
  refine .move ?_
  refine .gT ?_
  refine .call (hc := Tryz.call21) (sp := prAccept16 (L := []) (r := (7, 0, 100)) POk.nil ⟨by decide, by decide, by decide, by decide⟩ (.inr (by decide))) (h := ?_)
  rintro _ _ ⟨rfl, rfl⟩
  refine .gT ?_
  refine .nei ?_
  refine .pickF ?_
  refine .z ?_
  refine .condF rfl (congrArg Value.bool (by first | (simp; done) | (simp; omega) | omega)) ?_
  refine .skip (.next (.sr (.move ?_)))
  refine .call (hc := Tryz.call20) (sp := prCheck (pr := pr) (f := f) (path := [47, 119]) (L := [(7, 0, 100)]) (id := 7) (seq := 0) (by decide)) (h := ?_)
  rintro _ _ ⟨rfl, rfl⟩
  rw [show chkP [(7, 0, 100)] 7 0 = (100, true, 0) from rfl]
  refine .move ?_
  refine .extract ?_
  refine .extract ?_
  refine .extract ?_
  refine .assign (.assign (.assign (.x (.move ?_))))
  refine .call (hc := Tryz.call20) (sp := prCheck (pr := pr) (f := f) (path := [47, 119]) (L := [(7, 0, 100)]) (id := 7) (seq := 2) (by decide)) (h := ?_)
  rintro _ _ ⟨rfl, rfl⟩
  rw [show chkP [(7, 0, 100)] 7 2 = (0, false, 11) from rfl]
  refine .move ?_
  refine .extract ?_
  refine .extract ?_
  refine .extract ?_
  refine .assign (.assign (.assign (.x (.move ?_))))
  refine .call (hc := Tryz.call20) (sp := prCheck (pr := pr) (f := f) (path := [47, 119]) (L := [(7, 0, 100)]) (id := 8) (seq := 1) (by decide)) (h := ?_)
  rintro _ _ ⟨rfl, rfl⟩
  rw [show chkP [(7, 0, 100)] 8 1 = (0, false, 11) from rfl]
  refine .move ?_
  refine .extract ?_
  refine .extract ?_
  refine .extract ?_
  refine .assign (.assign (.assign (.x (.move ?_))))
  refine .eqi ?_
  refine .move ?_
  refine .gT ?_
  refine .move ?_
  refine .pickT ?_
  refine .move ?_
  refine .gT ?_
  refine .move ?_
  refine .gT ?_
  refine .eqi ?_
  refine .pickT ?_
  refine .move ?_
  refine .gT ?_
  refine .move ?_
  refine .gT ?_
  refine .eqi ?_
  refine .pickT ?_
  refine .move ?_
  refine .gT ?_
  refine .move ?_
  refine .gT ?_
  refine .eqi ?_
  refine .pickT ?_
  refine .assign (.z ?_)
  refine .ret (?_)
  exact .ret1 (h1 := .tmp (t := 0) rfl) ⟨_, ⟨rfl, rfl⟩, Am.auto⟩
end Go.Proofs.YtdmjkjeoamiedaaGreatDoor
end
section
namespace Go.Proofs.YtdmjkjeoamiedaaGreatDoor
open Go
abbrev TL := List (Nat × NodeT)
def trL (l : TL) : FT := fun i => kget l i
theorem trL_put (l : TL) (i : Nat) (x : NodeT) : updT (trL l) i (some x) = trL (kput l i x) := by
  funext j
  unfold updT trL
  rw [kget_put]
theorem trL_mk (l : TL) (d : Nat) (sl : List Slot) (nm : Bytes) (i : Nat) (x : NodeT) : mkT (trL l) d sl nm i x = trL (kput (kput l i x) d (.dir (setS sl (freeS sl) (some (nm, i))))) := by
  unfold mkT
  rw [trL_put, trL_put]
theorem kget_of_mem {κ α : Type} [DecidableEq κ] {l : List (κ × α)} {k : κ} {v : α} (h : kget l k = some v) : (k, v) ∈ l := by
  induction l with
  | nil => cases h
  | cons p r ih =>
    obtain ⟨k', v'⟩ := p
    unfold kget at h
    split at h
    · rename_i hk
      injection h with h
      subst hk; subst h
      exact List.mem_cons_self ..
    · exact List.mem_cons_of_mem _ (ih h)
def NodeT.ok : NodeT → Prop
  | .file _ => True
  | .dir sl => DirOk sl ∧ sl.length ≤ 1000
theorem trL_ok {l : TL} (h : ∀ e ∈ l, e.2.ok) : TOk (trL l) := fun d sl hd => h _ (kget_of_mem hd)
theorem DirOk.consS {r : List Slot} (h : DirOk r) {nm : Bytes} {k : Nat} (hn : 1 ≤ nm.length ∧ nm.length ≤ 50) (hk : k < 4294967296) (hl : lookS nm r = none) : DirOk (some (nm, k) :: r) := by
  have hno := lookS_none hl
  refine ⟨fun q n i hq => ?_, fun p q n i j hp hq => ?_⟩
  · cases q with
    | zero => injection hq with hq; injection hq with hq; injection hq with h1 h2; subst h1; subst h2; exact ⟨hn, hk⟩
    | succ q => exact h.nm q n i hq
  · cases p with
    | zero =>
      injection hp with hp; injection hp with hp; injection hp with h1 h2
      subst h1
      cases q with
      | zero => rfl
      | succ q => exact absurd hq (hno q j)
    | succ p =>
      cases q with
      | zero =>
        injection hq with hq; injection hq with hq; injection hq with h1 h2
        subst h1
        exact absurd hp (hno p i)
      | succ q => rw [h.one p q n i j hp hq]
theorem DirOk.one1 {nm : Bytes} {k : Nat} (hn : 1 ≤ nm.length ∧ nm.length ≤ 50) (hk : k < 4294967296) : DirOk [some (nm, k)] := DirOk.nil.consS hn hk rfl
def totL : TL → Nat
  | [] => 0
  | e :: l => has e.2.size + totL l
theorem tot_no {F : FM} (h : ∀ i, F i = none) : ∀ n, tot F n = 0
  | 0 => rfl
  | n + 1 => by rw [tot, tot_no h n, h]; rfl
theorem trL_cons (k : Nat) (x : NodeT) (l : TL) : trL ((k, x) :: l) = updT (trL l) k (some x) := by
  funext j
  unfold updT trL
  rfl
theorem tot_trL {n : Nat} : ∀ {l : TL}, (l.map (·.1)).Nodup → (∀ e ∈ l, e.1 < n) → tot (fmT (trL l)) n = totL l
  | [], _, _ => tot_no (fun i => rfl) n
  | (k, x) :: l, hn, hb => by
    rw [List.map_cons, List.nodup_cons] at hn
    have ih := tot_trL hn.2 (fun e he => hb e (List.mem_cons_of_mem _ he))
    have h := tot_upd' (fmT (trL l)) (hb (k, x) (List.mem_cons_self ..)) (some x.f)
    rw [fmT_updS, ← trL_cons, fmT_none (show trL l k = none from kget_none.2 hn.1), ih] at h
    have h2 : hasO (some x.f) = has x.size := by show has x.f.2.length = _; rw [x.f_size]
    rw [h2] at h
    have h3 : hasO none = 0 := rfl
    show tot (fmT (trL ((k, x) :: l))) n = has x.size + totL l
    have h4 : tot (fmT (trL ((k, x) :: l))) n + hasO none = totL l + has x.size := h
    omega
end Go.Proofs.YtdmjkjeoamiedaaGreatDoor
end
section
namespace Go.Proofs.YtdmjkjeoamiedaaGreatDoor
open Go
theorem fsCreateL {f : Nat} {p : Pl} {l l' : TL} {path : Bytes} {d i : Nat} {nm : Bytes} {sl : List Slot} (ho : PlOk p) (hok : ∀ e ∈ l, e.2.ok) (hn : (l.map (·.1)).Nodup) (hb : ∀ e ∈ l, e.1 < p.ino) (hpl : path.length ≤ 1000000) (hp : path ≠ [47]) (hpar : parentT (trL l) path = (d, nm, 0)) (hfi : findT (trL l) d nm = (0, 4)) (hd : kget l d = some (.dir sl)) (hi : i < p.ino) (hTi : kget l i = none) (hlo : ∀ j < i, kget l j ≠ none)
    (hw : Rw p 0 14) (hfit : totL l + has (max (64 * sl.length) (64 * freeS sl + 64)) ≤ p.dc + has (64 * sl.length)) (hl' : kput (kput l i (.file [])) d (.dir (setS sl (freeS sl) (some (nm, i)))) = l') :
    Spec Tryz.prog 17 #[.pointer (some ⟨f, 0, none⟩), sv path] [FSR f p (trL l)] fun F v M => v = okV ∧ M = FSR f p (trL l') :: F := by
  have := fsCreate (f := f) (p := p) (T := trL l) (path := path) (d := d) (i := i) (nm := nm) (sl := sl) (x := .file []) ho (trL_ok hok) hpl hp hpar hfi hd hi hTi hlo rfl rfl hw (by rw [tot_trL hn hb]; exact hfit)
  rwa [trL_mk, hl'] at this
theorem fsAppendL {f : Nat} {p : Pl} {l l' : TL} {path : Bytes} {i m cc : Nat} {fb bs : Bytes} {R : HP} {A : Option Addr} (ho : PlOk p) (hok : ∀ e ∈ l, e.2.ok) (hn : (l.map (·.1)).Nodup) (hb : ∀ e ∈ l, e.1 < p.ino) (hpl : path.length ≤ 1000000) (hft : fileT (trL l) path = (i, 1, fb.length, 0)) (hTi : kget l i = some (.file fb)) (hR : bs = [] ∨ Reads R A (bvs bs)) (hm : bs.length = m) (hcc : m ≤ cc) (hcb : cc ≤ maxLen)
    (hw : Rw p 0 (has (fb.length + m) - has fb.length + (m + 511) / 512 + 10)) (hbg : fb.length + m ≤ 70656) (hfit : totL l + has (fb.length + m) ≤ p.dc + has fb.length) (hl' : kput l i (.file (wrB fb fb.length bs)) = l') :
    Spec Tryz.prog 18 #[.pointer (some ⟨f, 0, none⟩), sv path, .slice A m cc] [FSR f p (trL l), R] fun F v M => v = okV ∧ M = FSR f p (trL l') :: R :: F := by
  have hmx : max fb.length (fb.length + m) = fb.length + m := Nat.max_eq_right (Nat.le_add_right _ _)
  have := fsAppend (f := f) (p := p) (T := trL l) (path := path) (i := i) (fb := fb) (bs := bs) (R := R) (A := A) (m := m) (cc := cc) ho (trL_ok hok) hpl hft hTi hR hm hcc hcb (by rw [hmx]; exact hw) (Nat.le_refl _) hbg (by rw [hmx, tot_trL hn hb]; exact hfit)
  rwa [trL_put, hl'] at this
theorem ok1 {nm : Bytes} {k : Nat} (hn : 1 ≤ nm.length ∧ nm.length ≤ 50) (hk : k < 4294967296) : NodeT.ok (.dir [some (nm, k)]) := ⟨DirOk.one1 hn hk, by show 1 ≤ 1000; decide⟩
theorem lt_of_all {l : TL} {n : Nat} (h : (l.all fun e => decide (e.1 < n)) = true) : ∀ e ∈ l, e.1 < n := fun e he => by simpa using List.all_eq_true.1 h e he
end Go.Proofs.YtdmjkjeoamiedaaGreatDoor
end
section
namespace Go.Proofs.YtdmjkjeoamiedaaGreatDoor
open Go
def someB (n c : Nat) : Bytes := (List.range n).map fun i => UInt8.ofNat (c + i / 7)
theorem someB_length (n c : Nat) : (someB n c).length = n := by simp [someB]
def partB (f : Nat → UInt8) (n k : Nat) : Bytes := (List.range n).map fun j => if j < k then f j else 0
theorem partB_length (f : Nat → UInt8) (n k : Nat) : (partB f n k).length = n := by simp [partB]
theorem partB_zero (f : Nat → UInt8) (n : Nat) : partB f n 0 = List.replicate n 0 := by
  unfold partB
  simp only [Nat.not_lt_zero, if_false]
  rw [List.map_const', List.length_range]
theorem partB_all (f : Nat → UInt8) (n : Nat) : partB f n n = (List.range n).map f := by
  unfold partB
  apply List.map_congr_left
  intro j hj
  rw [if_pos (List.mem_range.1 hj)]
theorem partB_set (f : Nat → UInt8) {n k : Nat} (h : k < n) : (partB f n k).set k (f k) = partB f n (k + 1) := by
  apply List.ext_getElem
  · simp [partB]
  · intro j h1 h2
    simp only [partB, List.getElem_set, List.getElem_map, List.getElem_range]
    by_cases hj : k = j
    · subst hj; rw [if_pos rfl, if_pos (by omega)]
    · rw [if_neg hj]
      by_cases h3 : j < k
      · rw [if_pos h3, if_pos (by omega)]
      · rw [if_neg h3, if_neg (by omega)]
theorem wrap_ofNat (v : Nat) : Value.int .u8 (IntKind.u8.wrap (v : Int)) = bv (UInt8.ofNat v) := by
  unfold bv
  rw [IntKind.wrap_u8, UInt8.toNat_ofNat']
  congr 1
theorem alikeSome {n c : Nat} (hn : n ≤ 100000) (hc : c ≤ 100000) : Spec Tryz.prog 19 #[.int .i64 (n : Int), .int .i64 (c : Int)] [] fun F v M => ∃ b, v = .slice (some ⟨b, 0, none⟩) n n ∧ M = buf b 5 n (bvs (someB n c)) :: F := by
  refine Spec.intro Tryz.func19 rfl rfl fun B F => ?_
  simp only [Tryz.ntmps19, List.cons_append, List.nil_append, env0, Nat.reduceAdd]
  refine .sr (.assign (.x (.move ?_)))
  refine .mkS (k := (n : Int)) z5 (fun b8 => ?_) so33 (by omega) (by omega) (by omega)
  refine .cast (d := 8) (u := .slice (some ⟨b8, 0, none⟩) n n) rfl (by rw [Int.toNat_natCast]) ?_
  refine .to (A := buf b8 5 (n : Int).toNat (List.replicate (n : Int).toNat (.int .u8 0))) (A' := buf b8 5 n (bvs (partB (fun i => UInt8.ofNat (c + i / 7)) n 0))) (fun h hh => by rw [partB_zero, bvs_replicate]; rw [Int.toNat_natCast] at hh; exact hh) ?_
  refine .assign (.z (.seq (.sr (.assign (.z (.block ?_))))))
  refine .loopA (σ := Nat) (fun i => [(0, .int .i64 (n : Int)), (1, .int .i64 (c : Int)), (5, .slice (some ⟨b8, 0, none⟩) n n), (6, .int .i64 (i : Int))]) (fun i => buf b8 5 n (bvs (partB (fun i => UInt8.ofNat (c + i / 7)) n i)) :: F) (fun i => i ≤ n) (fun i => n - i) 0 (Nat.zero_le _) ?_
  rintro i hi
  refine .seq (.sr (.move (.move ?_)))
  refine .lss ?_
  refine .z ?_
  refine .cond rfl (fun hb => ?_) (fun hb => ?_)
  · have hlt : i < n := by have := of_decide_eq_true hb; omega
    refine .skip (.next (.seq (.block (.region (.move (.move (.move (.move ?_))))))))
    refine .quo ?_
    refine .add ?_
    refine .cast (d := 19) (u := .int .i64 ((c + i / 7 : Nat) : Int)) rfl (congrArg (Value.int .i64) (by omega)) ?_
    refine .cvt ?_ un3 un5
    refine .cast (d := 20) (u := bv (UInt8.ofNat (c + i / 7))) rfl (wrap_ofNat _) ?_
    refine .idx1 ?_ so33
    refine .stB ?_ sc5 (show 0 + ((i : Nat) : Int).toNat < (bvs (partB (fun i => UInt8.ofNat (c + i / 7)) n i)).length by rw [bvs_length, partB_length]; omega)
    refine .nil (.blockNormal (.next (.region (.move ?_))))
    refine .add ?_
    refine .assign (.nil ?_)
    refine .to (A := buf b8 5 n ((bvs (partB (fun i => UInt8.ofNat (c + i / 7)) n i)).set (0 + ((i : Nat) : Int).toNat) (bv (UInt8.ofNat (c + i / 7))))) (A' := buf b8 5 n (bvs (partB (fun i => UInt8.ofNat (c + i / 7)) n (i + 1)))) (fun h hh => by rw [← partB_set (fun i => UInt8.ofNat (c + i / 7)) hlt, bvs_set]; rw [show 0 + ((i : Nat) : Int).toNat = i from by omega] at hh; exact hh) ?_
    refine .cast (d := 6) (u := .int .i64 ((i + 1 : Nat) : Int)) rfl (congrArg (Value.int .i64) (by omega)) ?_
    exact .back (i + 1) (by omega) (by omega)
  · have hge : ¬ i < n := by have := of_decide_eq_false hb; omega
    have hin : i = n := by omega
    subst hin
    refine .exit (.thenExit (.thenExit (.blockExit (?_))))
    refine .next (.sr (.move (.assign (.z ?_))))
    refine .ret (?_)
    refine .to (A := buf b8 5 i (bvs (partB (fun i => UInt8.ofNat (c + i / 7)) i i))) (A' := buf b8 5 i (bvs (someB i c))) (fun h hh => by rw [partB_all] at hh; exact hh) ?_
    exact .ret1 (h1 := .tmp (t := 4) rfl) ⟨_, ⟨b8, rfl, rfl⟩, Am.auto⟩
end Go.Proofs.YtdmjkjeoamiedaaGreatDoor
end
section
namespace Go.Proofs.YtdmjkjeoamiedaaGreatDoor
open Go
abbrev nwL (b : Bytes) : TL := [(0, .dir [some ([119], 1), some ([120], 2)]), (1, .file []), (2, .file b)]
abbrev nwL0 : TL := [(0, .dir [some ([119], 1)]), (1, .file [])]
theorem wT_trL : wT [] = trL nwL0 := by
  funext i
  unfold wT trL nwL0 kget
  by_cases h : i = 0
  · rw [if_pos h, if_pos h]
  · rw [if_neg h, if_neg h]
    unfold kget
    by_cases h1 : i = 1
    · rw [if_pos h1, if_pos h1]
    · rw [if_neg h1, if_neg h1]; rfl
theorem nwL0_ok : ∀ e ∈ nwL0, e.2.ok := by
  intro e he
  simp only [nwL0, List.mem_cons, List.not_mem_nil, or_false] at he
  rcases he with rfl | rfl
  · exact ok1 (by decide) (by decide)
  · trivial
theorem nwL_ok (b : Bytes) : ∀ e ∈ nwL b, e.2.ok := by
  intro e he
  simp only [nwL, List.mem_cons, List.not_mem_nil, or_false] at he
  rcases he with rfl | rfl | rfl
  · exact ⟨(DirOk.one1 (by decide) (by decide)).consS (by decide) (by decide) rfl, by decide⟩
  · trivial
  · trivial
theorem nwCr {f : Nat} : Spec Tryz.prog 17 #[.pointer (some ⟨f, 0, none⟩), sv [47, 120]] [FSR f (pD 500 20) (trL nwL0)] fun F v M => v = okV ∧ M = FSR f (pD 500 20) (trL (nwL [])) :: F :=
  fsCreateL (d := 0) (i := 2) (nm := [120]) (sl := [some ([119], 1)]) p16_is.ok nwL0_ok (by decide) (lt_of_all rfl) (by decide) (by decide) rfl rfl rfl (by decide) rfl (fun j hj => by
    rcases j with _ | _ | j
    · intro h; cases h
    · intro h; cases h
    · omega) (.inr (by decide)) (by decide) rfl
theorem has_some {n k : Nat} (h : n ≤ 512 * k) (hk : k ≤ 10) : has n ≤ k := by
  have : dat n ≤ k := by unfold dat; omega
  unfold has
  rw [if_pos (by omega)]; exact this
theorem nwAp {f m cc : Nat} {bs : Bytes} {R : HP} {A : Option Addr} (hR : bs = [] ∨ Reads R A (bvs bs)) (hm : bs.length = m) (hcc : m ≤ cc) (hcb : cc ≤ maxLen) (h3 : m ≤ 3001) : Spec Tryz.prog 18 #[.pointer (some ⟨f, 0, none⟩), sv [47, 120], .slice A m cc] [FSR f (pD 500 20) (trL (nwL [])), R] fun F v M => v = okV ∧ M = FSR f (pD 500 20) (trL (nwL (wrB [] 0 bs))) :: R :: F := by
  have h6 := has_some (n := 0 + m) (k := 6) (by omega) (by decide)
  exact fsAppendL (i := 2) (fb := []) p16_is.ok (nwL_ok []) (by show [0, 1, 2].Nodup; decide) (lt_of_all rfl) (by decide) rfl rfl hR hm hcc hcb (.inr (by show 248 - 245 + 0 + (has (0 + m) - has 0 + (m + 511) / 512 + 10) ≤ 60; omega)) (by show 0 + m ≤ _; omega) (by
    show (has 128 + (has 0 + (has 0 + 0))) + has (0 + m) ≤ 249 + has 0
    have h1 : has 128 = 1 := rfl
    have h2 : has 0 = 0 := rfl
    omega) rfl
theorem prCheckNil {id seq : Int} : Spec Tryz.prog 20 #[.pointer none, .int .i64 id, .int .i64 seq] [] fun F v M => v = .tuple #[.int .i64 0, .bool false, .int .i64 9] ∧ M = F := by
  refine Spec.intro Tryz.func20 rfl rfl fun B F => ?_
  simp only [Tryz.ntmps20, List.cons_append, List.nil_append, env0, Nat.reduceAdd]
  refine .sr (.assign (.assign (.assign (.z (.seq (.sr (.move ?_)))))))
  refine .call (hc := Tryz.call72) (sp := prReadyNil) (h := ?_)
  rintro _ _ ⟨rfl, hM⟩
  obtain rfl := hM.symm
  refine .not ?_
  refine .z ?_
  refine .condT rfl rfl ?_
  refine .sr (.assign (.assign (.assign (.z ?_))))
  refine .ret (.thenRet (?_))
  exact .ret3 (h1 := .tmp (t := 6) rfl) (h2 := .tmp (t := 7) rfl) (h3 := .tmp (t := 8) rfl) ⟨_, ⟨rfl, rfl⟩, Am.auto⟩
theorem prAcceptNil {id seq : Int} {b : Value} : Spec Tryz.prog 21 #[.pointer none, .int .i64 id, .int .i64 seq, b] [] fun F v M => v = .int .i64 9 ∧ M = F := by
  refine Spec.intro Tryz.func21 rfl rfl fun B F => ?_
  simp only [Tryz.ntmps21, List.cons_append, List.nil_append, env0, Nat.reduceAdd]
  refine .sr (.assign (.z (.seq (.sr (.move ?_)))))
  refine .call (hc := Tryz.call72) (sp := prReadyNil) (h := ?_)
  rintro _ _ ⟨rfl, hM⟩
  obtain rfl := hM.symm
  refine .not ?_
  refine .z ?_
  refine .condT rfl rfl ?_
  refine .sr (.assign (.z ?_))
  refine .ret (.thenRet (?_))
  exact .ret1 (h1 := .tmp (t := 8) rfl) ⟨_, ⟨rfl, rfl⟩, Am.auto⟩
theorem prLenNil : Spec Tryz.prog 22 #[.pointer none] [] fun F v M => v = .int .i64 0 ∧ M = F := by
  refine Spec.intro Tryz.func22 rfl rfl fun B F => ?_
  simp only [Tryz.ntmps22, List.cons_append, List.nil_append, env0, Nat.reduceAdd]
  refine .sr (.assign (.z (.seq (.sr (.move ?_)))))
  refine .eqNil ?_ ptr24
  refine .z ?_
  refine .condT rfl rfl ?_
  refine .sr (.assign (.z ?_))
  refine .ret (.thenRet (?_))
  exact .ret1 (h1 := .tmp (t := 2) rfl) ⟨_, ⟨rfl, rfl⟩, Am.auto⟩
theorem lawPNothing {id seq n : Int} (hi : -9223372036854775808 ≤ id ∧ id ≤ 9223372036854775807) (hs : -9223372036854775808 ≤ seq ∧ seq ≤ 9223372036854775807) (hn : -9223372036854775808 ≤ n ∧ n ≤ 9223372036854775807) : Spec Tryz.prog 3 #[.int .i64 id, .int .i64 seq, .int .i64 n] [] fun F v M => v = .bool true ∧ M = F := by
  refine Spec.intro Tryz.func3 rfl rfl fun B F => ?_
  simp only [Tryz.ntmps3, List.cons_append, List.nil_append, env0, Nat.reduceAdd]
  by_cases h1 : n < 1
  · refine .sr (.assign (.x ?_))
    refine .call (hc := Tryz.call14) (sp := l16Fresh) (h := ?_)
    rintro _ _ ⟨d, f, pr, rfl, rfl⟩
    refine .move ?_
    refine .extract ?_
    refine .extract ?_
    refine .extract ?_
    refine .extract ?_
    refine .assign (.assign (.assign (.assign (.z (.seq (.sr (.move ?_)))))))
    refine .not ?_
    refine .move ?_
    refine .gT ?_
    refine .move ?_
    refine .gT ?_
    refine .lss ?_
    refine .pickF ?_
    refine .move ?_
    refine .cast (d := 31) (u := .bool true) rfl (congrArg Value.bool (by first | (simp; done) | (simp; omega) | omega)) ?_
    refine .gF ?_
    refine .gF ?_
    refine .pickT ?_
    refine .z ?_
    refine .condT rfl rfl ?_
    refine .sr (.move (.move ?_))
    refine .gT ?_
    refine .call (hc := Tryz.call15) (sp := l16Awake) (h := ?_)
    rintro _ _ ⟨rfl, rfl⟩
    refine .pickT ?_
    refine .assign (.z ?_)
    refine .ret (.thenRet (?_))
    exact .ret1 (h1 := .tmp (t := 6) rfl) ⟨_, ⟨rfl, rfl⟩, Am.auto⟩
  · by_cases h2 : 1000 < n
    · refine .sr (.assign (.x ?_))
      refine .call (hc := Tryz.call14) (sp := l16Fresh) (h := ?_)
      rintro _ _ ⟨d, f, pr, rfl, rfl⟩
      refine .move ?_
      refine .extract ?_
      refine .extract ?_
      refine .extract ?_
      refine .extract ?_
      refine .assign (.assign (.assign (.assign (.z (.seq (.sr (.move ?_)))))))
      refine .not ?_
      refine .move ?_
      refine .gT ?_
      refine .move ?_
      refine .gT ?_
      refine .lss ?_
      refine .pickF ?_
      refine .move ?_
      refine .cast (d := 31) (u := .bool false) rfl (congrArg Value.bool (by first | (simp; done) | (simp; omega) | omega)) ?_
      refine .gT ?_
      refine .move ?_
      refine .gT ?_
      refine .gtr ?_
      refine .pickF ?_
      refine .z ?_
      refine .condT rfl (congrArg Value.bool (by first | (simp; done) | (simp; omega) | omega)) ?_
      refine .sr (.move (.move ?_))
      refine .gT ?_
      refine .call (hc := Tryz.call15) (sp := l16Awake) (h := ?_)
      rintro _ _ ⟨rfl, rfl⟩
      refine .pickT ?_
      refine .assign (.z ?_)
      refine .ret (.thenRet (?_))
      exact .ret1 (h1 := .tmp (t := 6) rfl) ⟨_, ⟨rfl, rfl⟩, Am.auto⟩
    · obtain ⟨N, rfl⟩ : ∃ N : Nat, n = N := ⟨n.toNat, by omega⟩
      have hWl := someB_length (2001 + N) N
      obtain ⟨Wn, hWn⟩ : ∃ Wn, someB (2001 + N) N = Wn := ⟨_, rfl⟩
      rw [hWn] at hWl
      have hwl : (wrB [] 0 Wn).length = 2001 + N := by rw [wrB_length, hWl]; show max 0 (0 + (2001 + N)) = _; omega
      refine .sr (.assign (.x ?_))
      refine .call (hc := Tryz.call14) (sp := l16Fresh) (h := ?_)
      rintro _ _ ⟨d, f, pr, rfl, rfl⟩
      rw [show rowsB [] = [] from rfl, wT_trL]
      refine .move ?_
      refine .extract ?_
      refine .extract ?_
      refine .extract ?_
      refine .extract ?_
      refine .assign (.assign (.assign (.assign (.z (.seq (.sr (.move ?_)))))))
      refine .not ?_
      refine .move ?_
      refine .gT ?_
      refine .move ?_
      refine .gT ?_
      refine .lss ?_
      refine .pickF ?_
      refine .move ?_
      refine .cast (d := 31) (u := .bool false) rfl (congrArg Value.bool (by first | (simp; done) | (simp; omega) | omega)) ?_
      refine .gT ?_
      refine .move ?_
      refine .gT ?_
      refine .gtr ?_
      refine .pickF ?_
      refine .z ?_
      refine .condF rfl (congrArg Value.bool (by first | (simp; done) | (simp; omega) | omega)) ?_
      refine .skip (.next (.sr (.move ?_)))
      refine .call (hc := Tryz.call16) (sp := prOpenE (f := f) (p := pD 500 20) (T := trL nwL0) (path := [47, 110, 111, 110, 101]) (e := 4) p16_is.ok (trL_ok nwL0_ok) (by decide) rfl (by decide)) (h := ?_)
      rintro _ _ ⟨rfl, rfl⟩
      refine .move ?_
      refine .extract ?_
      refine .extract ?_
      refine .assign (.assign (.z (.seq (.sr (.move ?_)))))
      refine .call (hc := Tryz.call17) (sp := nwCr (f := f)) (h := ?_)
      rintro _ _ ⟨rfl, rfl⟩
      refine .nei ?_
      refine .move ?_
      refine .cast (d := 47) (u := .bool false) rfl (congrArg Value.bool (by first | (simp; done) | (simp; omega) | omega)) ?_
      refine .gT ?_
      refine .move ?_
      refine .gT ?_
      refine .move ?_
      refine .gT ?_
      refine .add ?_
      refine .cast (d := 50) (u := nI (2001 + N)) rfl (congrArg (Value.int .i64) (by omega)) ?_
      refine .gT ?_
      refine .move ?_
      refine .gT ?_
      refine .call (hc := Tryz.call19) (sp := alikeSome (n := 2001 + N) (c := N) (by omega) (by omega)) (h := ?_)
      rintro _ _ ⟨bs, rfl, rfl⟩
      rw [hWn]
      refine .gT ?_
      refine .call (hc := Tryz.call18) (sp := nwAp (f := f) (m := 2001 + N) (cc := 2001 + N) (bs := Wn) (R := buf bs 5 (2001 + N) (bvs Wn)) (A := some ⟨bs, 0, none⟩) (.inr Reads.buf) hWl (Nat.le_refl _) (by show 2001 + N ≤ maxLen; unfold maxLen; omega) (by omega)) (h := ?_)
      rintro _ _ ⟨rfl, rfl⟩
      refine .gT ?_
      refine .nei ?_
      refine .pickF ?_
      refine .z ?_
      refine .condF rfl (congrArg Value.bool (by first | (simp; done) | (simp; omega) | omega)) ?_
      refine .skip (.next (.sr (.move ?_)))
      refine .call (hc := Tryz.call16) (sp := prOpenBad (f := f) (i := 2) (p := pD 500 20) (T := trL (nwL (wrB [] 0 Wn))) (path := [47, 120]) (fb := wrB [] 0 Wn) p16_is.ok (trL_ok (nwL_ok _)) (by decide) rfl rfl (by omega) (.inr (by omega))) (h := ?_)
      rintro _ _ ⟨rfl, rfl⟩
      refine .move ?_
      refine .extract ?_
      refine .extract ?_
      refine .assign (.assign (.x (.assign (.x (.move (.move (.move ?_)))))))
      refine .call (hc := Tryz.call20) (sp := prCheckNil) (h := ?_)
      rintro _ _ ⟨rfl, hM⟩
      obtain rfl := hM.symm
      refine .move ?_
      refine .extract ?_
      refine .extract ?_
      refine .extract ?_
      refine .assign (.assign (.assign (.x (.move ?_))))
      refine .eqi ?_
      refine .move ?_
      refine .cast (d := 71) (u := .bool true) rfl (congrArg Value.bool (by first | (simp; done) | (simp; omega) | omega)) ?_
      refine .gT ?_
      refine .move ?_
      refine .gT ?_
      refine .eqi ?_
      refine .pickT ?_
      refine .move ?_
      refine .cast (d := 75) (u := .bool true) rfl (congrArg Value.bool (by first | (simp; done) | (simp; omega) | omega)) ?_
      refine .gT ?_
      refine .move ?_
      refine .gT ?_
      refine .eqi ?_
      refine .pickT ?_
      refine .move ?_
      refine .cast (d := 79) (u := .bool true) rfl (congrArg Value.bool (by first | (simp; done) | (simp; omega) | omega)) ?_
      refine .gT ?_
      refine .move ?_
      refine .gT ?_
      refine .move ?_
      refine .gT ?_
      refine .move ?_
      refine .gT ?_
      refine .call (hc := Tryz.call21) (sp := prAcceptNil) (h := ?_)
      rintro _ _ ⟨rfl, hM⟩
      obtain rfl := hM.symm
      refine .gT ?_
      refine .eqi ?_
      refine .pickT ?_
      refine .move ?_
      refine .cast (d := 86) (u := .bool true) rfl (congrArg Value.bool (by first | (simp; done) | (simp; omega) | omega)) ?_
      refine .gT ?_
      refine .move ?_
      refine .gT ?_
      refine .call (hc := Tryz.call22) (sp := prLenNil) (h := ?_)
      rintro _ _ ⟨rfl, hM⟩
      obtain rfl := hM.symm
      refine .gT ?_
      refine .eqi ?_
      refine .pickT ?_
      refine .move ?_
      refine .cast (d := 91) (u := .bool true) rfl (congrArg Value.bool (by first | (simp; done) | (simp; omega) | omega)) ?_
      refine .gT ?_
      refine .call (hc := Tryz.call15) (sp := l16Awake) (h := ?_)
      rintro _ _ ⟨rfl, rfl⟩
      refine .pickT ?_
      refine .assign (.z ?_)
      refine .ret (?_)
      exact .ret1 (h1 := .tmp (t := 6) rfl) ⟨_, ⟨rfl, rfl⟩, Am.auto⟩
end Go.Proofs.YtdmjkjeoamiedaaGreatDoor
end
