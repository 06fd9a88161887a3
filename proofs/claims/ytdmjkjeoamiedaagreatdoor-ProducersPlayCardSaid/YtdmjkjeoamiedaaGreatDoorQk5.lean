/- A part of the proof of lawPPlay: texts of this work put together. -/
import Derived.Test.YtdmjkjeoamiedaaGreatDoorQk4
import Derived.KernelRfl
set_option linter.unusedVariables false
set_option linter.unusedSimpArgs false
set_option linter.unusedSectionVars false
section
namespace Go.Proofs.YtdmjkjeoamiedaaGreatDoor
open Go
theorem ptr24 : ptrOk Tryz.prog 24 = true := by kernel_rfl
theorem fo118_0 : fieldOk Tryz.prog 118 0 0 = true := by kernel_rfl
theorem zv121 : zvOf Tryz.prog 121 = some (.agg (#[.int .i64 0, .int .i64 0, .int .i64 0])) := by kernel_rfl
theorem fo118_2 : fieldOk Tryz.prog 118 2 2 = true := by kernel_rfl
theorem sc116 : scalarOk Tryz.prog 116 = true := by kernel_rfl
theorem z121 : zeroOf Tryz.prog 121 = some (#[.int .i64 0, .int .i64 0, .int .i64 0]) := by kernel_rfl
theorem agg121 : aggOk Tryz.prog 121 3 = true := by kernel_rfl
theorem mp116 : mapOk Tryz.prog 116 3 121 = true := by kernel_rfl
theorem fo121_0 : fieldOk Tryz.prog 121 0 0 = true := by kernel_rfl
theorem fo121_1 : fieldOk Tryz.prog 121 1 1 = true := by kernel_rfl
theorem fo121_2 : fieldOk Tryz.prog 121 2 2 = true := by kernel_rfl
theorem fo118_1 : fieldOk Tryz.prog 118 1 1 = true := by kernel_rfl
theorem bdPr (f m : Nat) (s : ByteArray) : BuildOk Tryz.prog 118 [(0, .pointer (some ⟨f, 0, none⟩)), (1, .string s), (2, .map (some m))] #[.pointer (some ⟨f, 0, none⟩), .string s, .map (some m)] := fun w => by kernel_rfl
theorem bdKn (a b c : Int) : BuildOk Tryz.prog 121 [(0, .int .i64 a), (1, .int .i64 b), (2, .int .i64 c)] #[.int .i64 a, .int .i64 b, .int .i64 c] := fun w => by kernel_rfl
theorem bsI3 (a b c : Int) : BuildSOk Tryz.prog 80 3 [(0, .int .i64 a), (1, .int .i64 b), (2, .int .i64 c)] 3 #[.int .i64 a, .int .i64 b, .int .i64 c] := fun w => by kernel_rfl
def pO (f : Nat) (path : Bytes) (mp : Nat) : Obj := .cells #[.pointer (some ⟨f, 0, none⟩), sv path, .map (some mp)] 118 (0, 0)
structure PDP (L : List Prd) (y : Nat × Array MapEntry × Nat × List (Int × Value)) : Prop where
  hm : MapIs intE y.2.1 y.2.2.1 y.2.2.2
  pm : PMap L y.2.2.2
  ok : POk L
def pdLs (pr f : Nat) (path : Bytes) (y : Nat × Array MapEntry × Nat × List (Int × Value)) : List HP := [pt pr (pO f path y.1), pt y.1 (.map y.2.1 y.2.2.1)]
def PD (pr f : Nat) (path : Bytes) (L : List Prd) : HP := fun h => ∃ y, PDP L y ∧ star (pdLs pr f path y) h
theorem PD.opens (pr f : Nat) (path : Bytes) (L : List Prd) : Opens (PD pr f path L) (PDP L) (pdLs pr f path) := ⟨fun h hh => hh, fun x hp h hh => ⟨x, hp, hh⟩⟩
attribute [irreducible] PD
theorem prReady {pr f mp : Nat} {path : Bytes} : Spec Tryz.prog 72 #[.pointer (some ⟨pr, 0, none⟩)] [pt pr (pO f path mp)] fun F v M => v = .bool true ∧ M = pt pr (pO f path mp) :: F := by
  refine Spec.intro Tryz.func72 rfl rfl fun B F => ?_
  simp only [Tryz.ntmps72, List.cons_append, List.nil_append, env0, Nat.reduceAdd]
  refine .sr (.assign (.x (.move ?_)))
  refine .neNil ?_ ptr24
  refine .move ?_
  refine .gT ?_
  refine .move ?_
  refine .gT ?_
  refine .nilCheck ?_
  refine .gT ?_
  refine .fa ?_ fo118_0
  refine .gT ?_
  refine .ld ?_ sc23
  refine .gT ?_
  refine .neNil ?_ ptr23
  refine .pickT ?_
  refine .assign (.z ?_)
  refine .ret (?_)
  exact .ret1 (h1 := .tmp (t := 2) rfl) ⟨_, ⟨rfl, rfl⟩, Am.auto⟩
theorem prMay {a b c : Int} (h : 1 ≤ a ∧ 0 ≤ b ∧ 0 ≤ c ∧ c ≤ 1125899906842624) : Spec Tryz.prog 67 #[.int .i64 a, .int .i64 b, .int .i64 c] [] fun F v M => v = .bool true ∧ M = F := by
  refine Spec.intro Tryz.func67 rfl rfl fun B F => ?_
  simp only [Tryz.ntmps67, List.cons_append, List.nil_append, env0, Nat.reduceAdd]
  refine .sr (.assign (.x (.move ?_)))
  refine .geq ?_
  refine .move ?_
  refine .cast (d := 9) (u := .bool true) rfl (congrArg Value.bool (by first | (simp; done) | (simp; omega) | omega)) ?_
  refine .gT ?_
  refine .move ?_
  refine .gT ?_
  refine .geq ?_
  refine .pickT ?_
  refine .move ?_
  refine .cast (d := 13) (u := .bool true) rfl (congrArg Value.bool (by first | (simp; done) | (simp; omega) | omega)) ?_
  refine .gT ?_
  refine .move ?_
  refine .gT ?_
  refine .geq ?_
  refine .pickT ?_
  refine .move ?_
  refine .cast (d := 17) (u := .bool true) rfl (congrArg Value.bool (by first | (simp; done) | (simp; omega) | omega)) ?_
  refine .gT ?_
  refine .move ?_
  refine .gT ?_
  refine .leq ?_
  refine .cast (d := 19) (u := .bool true) rfl (congrArg Value.bool (by first | (simp; done) | (simp; omega) | omega)) ?_
  refine .pickT ?_
  refine .assign (.z ?_)
  refine .ret (?_)
  exact .ret1 (h1 := .tmp (t := 6) rfl) ⟨_, ⟨rfl, rfl⟩, Am.auto⟩
theorem prMayNo {a b c : Int} (h : ¬ (1 ≤ a ∧ 0 ≤ b ∧ 0 ≤ c ∧ c ≤ 1125899906842624)) : Spec Tryz.prog 67 #[.int .i64 a, .int .i64 b, .int .i64 c] [] fun F v M => v = .bool false ∧ M = F := by
  refine Spec.intro Tryz.func67 rfl rfl fun B F => ?_
  simp only [Tryz.ntmps67, List.cons_append, List.nil_append, env0, Nat.reduceAdd]
  by_cases h1 : 1 ≤ a
  · by_cases h2 : 0 ≤ b
    · by_cases h3 : 0 ≤ c
      · have h4 : ¬ c ≤ 1125899906842624 := fun h4 => h ⟨h1, h2, h3, h4⟩
        refine .sr (.assign (.x (.move ?_)))
        refine .geq ?_
        refine .move ?_
        refine .cast (d := 9) (u := .bool true) rfl (congrArg Value.bool (by first | (simp; done) | (simp; omega) | omega)) ?_
        refine .gT ?_
        refine .move ?_
        refine .gT ?_
        refine .geq ?_
        refine .pickT ?_
        refine .move ?_
        refine .cast (d := 13) (u := .bool true) rfl (congrArg Value.bool (by first | (simp; done) | (simp; omega) | omega)) ?_
        refine .gT ?_
        refine .move ?_
        refine .gT ?_
        refine .geq ?_
        refine .pickT ?_
        refine .move ?_
        refine .cast (d := 17) (u := .bool true) rfl (congrArg Value.bool (by first | (simp; done) | (simp; omega) | omega)) ?_
        refine .gT ?_
        refine .move ?_
        refine .gT ?_
        refine .leq ?_
        refine .cast (d := 19) (u := .bool false) rfl (congrArg Value.bool (by first | (simp; done) | (simp; omega) | omega)) ?_
        refine .pickT ?_
        refine .assign (.z ?_)
        refine .ret (?_)
        exact .ret1 (h1 := .tmp (t := 6) rfl) ⟨_, ⟨rfl, rfl⟩, Am.auto⟩
      · refine .sr (.assign (.x (.move ?_)))
        refine .geq ?_
        refine .move ?_
        refine .cast (d := 9) (u := .bool true) rfl (congrArg Value.bool (by first | (simp; done) | (simp; omega) | omega)) ?_
        refine .gT ?_
        refine .move ?_
        refine .gT ?_
        refine .geq ?_
        refine .pickT ?_
        refine .move ?_
        refine .cast (d := 13) (u := .bool true) rfl (congrArg Value.bool (by first | (simp; done) | (simp; omega) | omega)) ?_
        refine .gT ?_
        refine .move ?_
        refine .gT ?_
        refine .geq ?_
        refine .pickT ?_
        refine .move ?_
        refine .cast (d := 17) (u := .bool false) rfl (congrArg Value.bool (by first | (simp; done) | (simp; omega) | omega)) ?_
        refine .gF ?_
        refine .gF ?_
        refine .pickF ?_
        refine .assign (.z ?_)
        refine .ret (?_)
        exact .ret1 (h1 := .tmp (t := 6) rfl) ⟨_, ⟨rfl, rfl⟩, Am.auto⟩
    · refine .sr (.assign (.x (.move ?_)))
      refine .geq ?_
      refine .move ?_
      refine .cast (d := 9) (u := .bool true) rfl (congrArg Value.bool (by first | (simp; done) | (simp; omega) | omega)) ?_
      refine .gT ?_
      refine .move ?_
      refine .gT ?_
      refine .geq ?_
      refine .pickT ?_
      refine .move ?_
      refine .cast (d := 13) (u := .bool false) rfl (congrArg Value.bool (by first | (simp; done) | (simp; omega) | omega)) ?_
      refine .gF ?_
      refine .gF ?_
      refine .pickF ?_
      refine .move ?_
      refine .gF ?_
      refine .gF ?_
      refine .pickF ?_
      refine .assign (.z ?_)
      refine .ret (?_)
      exact .ret1 (h1 := .tmp (t := 6) rfl) ⟨_, ⟨rfl, rfl⟩, Am.auto⟩
  · refine .sr (.assign (.x (.move ?_)))
    refine .geq ?_
    refine .move ?_
    refine .cast (d := 9) (u := .bool false) rfl (congrArg Value.bool (by first | (simp; done) | (simp; omega) | omega)) ?_
    refine .gF ?_
    refine .gF ?_
    refine .pickF ?_
    refine .move ?_
    refine .gF ?_
    refine .gF ?_
    refine .pickF ?_
    refine .move ?_
    refine .gF ?_
    refine .gF ?_
    refine .pickF ?_
    refine .assign (.z ?_)
    refine .ret (?_)
    exact .ret1 (h1 := .tmp (t := 6) rfl) ⟨_, ⟨rfl, rfl⟩, Am.auto⟩
theorem prFullN {pr f mp : Nat} {path : Bytes} {L : List Prd} {es : Array MapEntry} {c : Nat} {kv : List (Int × Value)} {id : Int} (hy : PDP L (mp, es, c, kv)) (hl : lookP L id = none) : Spec Tryz.prog 73 #[.pointer (some ⟨pr, 0, none⟩), .int .i64 id] [pt pr (pO f path mp), pt mp (.map es c)] fun F v M => v = .bool (decide (60 ≤ L.length)) ∧ M = pt pr (pO f path mp) :: pt mp (.map es c) :: F := by
  refine Spec.intro Tryz.func73 rfl rfl fun B F => ?_
  simp only [Tryz.ntmps73, List.cons_append, List.nil_append, env0, Nat.reduceAdd]
  have hsz : es.size = L.length := hy.hm.length.trans hy.pm.len
  refine .sr (.assign (.x (.move ?_)))
  refine .nilCheck ?_
  refine .fa ?_ fo118_2
  refine .ld ?_ sc116
  refine .move ?_
  refine .lookOk (k := id) klF hy.hm mp116 zv121 ?_
  refine .cast (d := 13) (u := .tuple #[.agg #[.int .i64 0, .int .i64 0, .int .i64 0], .bool false]) rfl (by rw [hy.pm.get, hl]; rfl) ?_
  refine .move ?_
  refine .extract ?_
  refine .extract ?_
  refine .alloc z121 fun b5 => ?_
  refine .stV ?_ agg121
  refine .assign (.x (.move ?_))
  refine .not ?_
  refine .move ?_
  refine .gT ?_
  refine .move ?_
  refine .gT ?_
  refine .nilCheck ?_
  refine .gT ?_
  refine .fa ?_ fo118_2
  refine .gT ?_
  refine .ld ?_ sc116
  refine .gT ?_
  refine .lenM ?_ mp116
  refine .gT ?_
  refine .geq ?_
  refine .cast (d := 24) (u := .bool (decide (60 ≤ L.length))) rfl (congrArg Value.bool (by rw [hsz]; simp only [ge_iff_le, decide_eq_decide]; omega)) ?_
  refine .pickT ?_
  refine .assign (.z ?_)
  refine .ret (?_)
  exact .ret1 (h1 := .tmp (t := 4) rfl) ⟨_, ⟨rfl, rfl⟩, Am.auto⟩
theorem prFullS {pr f mp : Nat} {path : Bytes} {L : List Prd} {es : Array MapEntry} {c : Nat} {kv : List (Int × Value)} {id : Int} (hy : PDP L (mp, es, c, kv)) {q : Nat} (hl : lookP L id = some q) : Spec Tryz.prog 73 #[.pointer (some ⟨pr, 0, none⟩), .int .i64 id] [pt pr (pO f path mp), pt mp (.map es c)] fun F v M => v = .bool false ∧ M = pt pr (pO f path mp) :: pt mp (.map es c) :: F := by
  refine Spec.intro Tryz.func73 rfl rfl fun B F => ?_
  simp only [Tryz.ntmps73, List.cons_append, List.nil_append, env0, Nat.reduceAdd]
  refine .sr (.assign (.x (.move ?_)))
  refine .nilCheck ?_
  refine .fa ?_ fo118_2
  refine .ld ?_ sc116
  refine .move ?_
  refine .lookOk (k := id) klF hy.hm mp116 zv121 ?_
  refine .cast (d := 13) (u := .tuple #[knV (L.getD q (0, 0, 0)) q, .bool true]) rfl (by rw [hy.pm.get, hl]; rfl) ?_
  refine .move ?_
  refine .extract ?_
  refine .extract ?_
  refine .alloc z121 fun b5 => ?_
  refine .stV ?_ agg121
  refine .assign (.x (.move ?_))
  refine .not ?_
  refine .move ?_
  refine .gF ?_
  refine .gF ?_
  refine .gF ?_
  refine .gF ?_
  refine .gF ?_
  refine .gF ?_
  refine .pickF ?_
  refine .assign (.z ?_)
  refine .ret (?_)
  exact .ret1 (h1 := .tmp (t := 4) rfl) ⟨_, ⟨rfl, rfl⟩, Am.auto⟩
theorem prLen {pr f : Nat} {path : Bytes} {L : List Prd} : Spec Tryz.prog 22 #[.pointer (some ⟨pr, 0, none⟩)] [PD pr f path L] fun F v M => v = nI L.length ∧ M = PD pr f path L :: F := by
  refine Spec.intro Tryz.func22 rfl rfl fun B F => ?_
  simp only [Tryz.ntmps22, List.cons_append, List.nil_append, env0, Nat.reduceAdd]
  refine .openR (PD.opens pr f path L) fun y hy => ?_
  obtain ⟨mp, es, c, kv⟩ := y
  simp only [pdLs, List.cons_append, List.nil_append]
  have hsz : es.size = L.length := hy.hm.length.trans hy.pm.len
  refine .sr (.assign (.z (.seq (.sr (.move ?_)))))
  refine .eqNil ?_ ptr24
  refine .z ?_
  refine .condF rfl rfl ?_
  refine .skip (.next (.sr (.move ?_)))
  refine .nilCheck ?_
  refine .fa ?_ fo118_2
  refine .ld ?_ sc116
  refine .lenM ?_ mp116
  refine .cast (d := 9) (u := nI L.length) rfl (congrArg (Value.int .i64) (by rw [hsz])) ?_
  refine .assign (.z ?_)
  refine .ret (?_)
  refine .shutR (PD.opens pr f path (L)) (mp, es, c, kv) hy ?_
  exact .ret1 (h1 := .tmp (t := 2) rfl) ⟨_, ⟨rfl, rfl⟩, Am.auto⟩
theorem prCheck {pr f : Nat} {path : Bytes} {L : List Prd} {id seq : Int} (hs : seq ≤ 9223372036854775807) : Spec Tryz.prog 20 #[.pointer (some ⟨pr, 0, none⟩), .int .i64 id, .int .i64 seq] [PD pr f path L] fun F v M => v = .tuple #[.int .i64 (chkP L id seq).1, .bool (chkP L id seq).2.1, .int .i64 (chkP L id seq).2.2] ∧ M = PD pr f path L :: F := by
  refine Spec.intro Tryz.func20 rfl rfl fun B F => ?_
  simp only [Tryz.ntmps20, List.cons_append, List.nil_append, env0, Nat.reduceAdd]
  refine .openR (PD.opens pr f path L) fun y hy => ?_
  obtain ⟨mp, es, c, kv⟩ := y
  simp only [pdLs, List.cons_append, List.nil_append]
  by_cases hi : id < 1
  · have hch : chkP L id seq = (0, false, 1) := by unfold chkP; rw [if_pos (.inl hi)]
    refine .sr (.assign (.assign (.assign (.z (.seq (.sr (.move ?_)))))))
    refine .call (hc := Tryz.call72) (sp := prReady (pr := pr) (f := f) (mp := mp) (path := path)) (h := ?_)
    rintro _ _ ⟨rfl, rfl⟩
    refine .not ?_
    refine .z ?_
    refine .condF rfl rfl ?_
    refine .skip (.next (.seq (.sr (.move ?_))))
    refine .lss ?_
    refine .move ?_
    refine .cast (d := 16) (u := .bool true) rfl (congrArg Value.bool (by first | (simp; done) | (simp; omega) | omega)) ?_
    refine .gF ?_
    refine .gF ?_
    refine .pickT ?_
    refine .z ?_
    refine .condT rfl rfl ?_
    refine .sr (.assign (.assign (.assign (.z ?_))))
    refine .ret (.thenRet (?_))
    refine .shutR (PD.opens pr f path (L)) (mp, es, c, kv) hy ?_
    exact .ret3 (h1 := .tmp (t := 6) rfl) (h2 := .tmp (t := 7) rfl) (h3 := .tmp (t := 8) rfl) ⟨_, ⟨by rw [hch]; try rfl, rfl⟩, Am.auto⟩
  · by_cases hq0 : seq < 0
    · have hch : chkP L id seq = (0, false, 1) := by unfold chkP; rw [if_pos (.inr hq0)]
      refine .sr (.assign (.assign (.assign (.z (.seq (.sr (.move ?_)))))))
      refine .call (hc := Tryz.call72) (sp := prReady (pr := pr) (f := f) (mp := mp) (path := path)) (h := ?_)
      rintro _ _ ⟨rfl, rfl⟩
      refine .not ?_
      refine .z ?_
      refine .condF rfl rfl ?_
      refine .skip (.next (.seq (.sr (.move ?_))))
      refine .lss ?_
      refine .move ?_
      refine .cast (d := 16) (u := .bool false) rfl (congrArg Value.bool (by first | (simp; done) | (simp; omega) | omega)) ?_
      refine .gT ?_
      refine .move ?_
      refine .gT ?_
      refine .lss ?_
      refine .pickF ?_
      refine .z ?_
      refine .condT rfl (congrArg Value.bool (by first | (simp; done) | (simp; omega) | omega)) ?_
      refine .sr (.assign (.assign (.assign (.z ?_))))
      refine .ret (.thenRet (?_))
      refine .shutR (PD.opens pr f path (L)) (mp, es, c, kv) hy ?_
      exact .ret3 (h1 := .tmp (t := 6) rfl) (h2 := .tmp (t := 7) rfl) (h3 := .tmp (t := 8) rfl) ⟨_, ⟨by rw [hch]; try rfl, rfl⟩, Am.auto⟩
    · have hno : ¬ (id < 1 ∨ seq < 0) := by omega
      cases hl : lookP L id with
      | none =>
        by_cases h60 : 60 ≤ L.length
        · have hch : chkP L id seq = (0, false, 2) := by unfold chkP; rw [if_neg hno, hl]; simp only; rw [if_pos h60]
          refine .sr (.assign (.assign (.assign (.z (.seq (.sr (.move ?_)))))))
          refine .call (hc := Tryz.call72) (sp := prReady (pr := pr) (f := f) (mp := mp) (path := path)) (h := ?_)
          rintro _ _ ⟨rfl, rfl⟩
          refine .not ?_
          refine .z ?_
          refine .condF rfl rfl ?_
          refine .skip (.next (.seq (.sr (.move ?_))))
          refine .lss ?_
          refine .move ?_
          refine .cast (d := 16) (u := .bool false) rfl (congrArg Value.bool (by first | (simp; done) | (simp; omega) | omega)) ?_
          refine .gT ?_
          refine .move ?_
          refine .gT ?_
          refine .lss ?_
          refine .pickF ?_
          refine .z ?_
          refine .condF rfl (congrArg Value.bool (by first | (simp; done) | (simp; omega) | omega)) ?_
          refine .skip (.next (.sr (.move ?_)))
          refine .nilCheck ?_
          refine .fa ?_ fo118_2
          refine .ld ?_ sc116
          refine .move ?_
          refine .lookOk (k := id) klF hy.hm mp116 zv121 ?_
          refine .cast (d := 26) (u := .tuple #[.agg #[.int .i64 0, .int .i64 0, .int .i64 0], .bool false]) rfl (by rw [hy.pm.get, hl]; rfl) ?_
          refine .move ?_
          refine .extract ?_
          refine .extract ?_
          refine .alloc z121 fun b9 => ?_
          refine .stV ?_ agg121
          refine .assign (.z (.seq (.block (.sr (.move (.move ?_))))))
          refine .call (hc := Tryz.call73) (sp := prFullN hy hl) (h := ?_)
          rintro _ _ ⟨rfl, rfl⟩
          refine .assign (.z ?_)
          refine .condT rfl (congrArg Value.bool (by first | (simp; done) | (simp; omega) | omega)) ?_
          refine .sr (.assign (.assign (.assign (.z ?_))))
          refine .ret (.blockRet (.thenRet (?_)))
          refine .shutR (PD.opens pr f path (L)) (mp, es, c, kv) hy ?_
          exact .ret3 (h1 := .tmp (t := 6) rfl) (h2 := .tmp (t := 7) rfl) (h3 := .tmp (t := 8) rfl) ⟨_, ⟨by rw [hch]; try rfl, rfl⟩, Am.auto⟩
        · by_cases hs0 : seq = 0
          · have hch : chkP L id seq = (0, false, 0) := by unfold chkP; rw [if_neg hno, hl]; simp only; rw [if_neg h60, if_pos hs0]
            refine .sr (.assign (.assign (.assign (.z (.seq (.sr (.move ?_)))))))
            refine .call (hc := Tryz.call72) (sp := prReady (pr := pr) (f := f) (mp := mp) (path := path)) (h := ?_)
            rintro _ _ ⟨rfl, rfl⟩
            refine .not ?_
            refine .z ?_
            refine .condF rfl rfl ?_
            refine .skip (.next (.seq (.sr (.move ?_))))
            refine .lss ?_
            refine .move ?_
            refine .cast (d := 16) (u := .bool false) rfl (congrArg Value.bool (by first | (simp; done) | (simp; omega) | omega)) ?_
            refine .gT ?_
            refine .move ?_
            refine .gT ?_
            refine .lss ?_
            refine .pickF ?_
            refine .z ?_
            refine .condF rfl (congrArg Value.bool (by first | (simp; done) | (simp; omega) | omega)) ?_
            refine .skip (.next (.sr (.move ?_)))
            refine .nilCheck ?_
            refine .fa ?_ fo118_2
            refine .ld ?_ sc116
            refine .move ?_
            refine .lookOk (k := id) klF hy.hm mp116 zv121 ?_
            refine .cast (d := 26) (u := .tuple #[.agg #[.int .i64 0, .int .i64 0, .int .i64 0], .bool false]) rfl (by rw [hy.pm.get, hl]; rfl) ?_
            refine .move ?_
            refine .extract ?_
            refine .extract ?_
            refine .alloc z121 fun b9 => ?_
            refine .stV ?_ agg121
            refine .assign (.z (.seq (.block (.sr (.move (.move ?_))))))
            refine .call (hc := Tryz.call73) (sp := prFullN hy hl) (h := ?_)
            rintro _ _ ⟨rfl, rfl⟩
            refine .assign (.z ?_)
            refine .condF rfl (congrArg Value.bool (by first | (simp; done) | (simp; omega) | omega)) ?_
            refine .sr (.move (.move ?_))
            refine .gF ?_
            refine .gF ?_
            refine .gF ?_
            refine .gF ?_
            refine .pickF ?_
            refine .assign (.z ?_)
            refine .condF rfl rfl ?_
            refine .seq (.sr (.move (.move ?_)))
            refine .gF ?_
            refine .gF ?_
            refine .gF ?_
            refine .gF ?_
            refine .gF ?_
            refine .pickF ?_
            refine .assign (.z ?_)
            refine .condF rfl rfl ?_
            refine .region (.move ?_)
            refine .not ?_
            refine .move ?_
            refine .gT ?_
            refine .move ?_
            refine .gT ?_
            refine .eqi ?_
            refine .pickT ?_
            refine .assign (.z ?_)
            refine .condT rfl (congrArg Value.bool (by first | (simp; done) | (simp; omega) | omega)) ?_
            refine .sr (.assign (.assign (.assign (.z ?_))))
            refine .ret (.blockRet (.thenRet (?_)))
            refine .shutR (PD.opens pr f path (L)) (mp, es, c, kv) hy ?_
            exact .ret3 (h1 := .tmp (t := 6) rfl) (h2 := .tmp (t := 7) rfl) (h3 := .tmp (t := 8) rfl) ⟨_, ⟨by rw [hch]; try rfl, rfl⟩, Am.auto⟩
          · have hch : chkP L id seq = (0, false, 11) := by unfold chkP; rw [if_neg hno, hl]; simp only; rw [if_neg h60, if_neg hs0]
            refine .sr (.assign (.assign (.assign (.z (.seq (.sr (.move ?_)))))))
            refine .call (hc := Tryz.call72) (sp := prReady (pr := pr) (f := f) (mp := mp) (path := path)) (h := ?_)
            rintro _ _ ⟨rfl, rfl⟩
            refine .not ?_
            refine .z ?_
            refine .condF rfl rfl ?_
            refine .skip (.next (.seq (.sr (.move ?_))))
            refine .lss ?_
            refine .move ?_
            refine .cast (d := 16) (u := .bool false) rfl (congrArg Value.bool (by first | (simp; done) | (simp; omega) | omega)) ?_
            refine .gT ?_
            refine .move ?_
            refine .gT ?_
            refine .lss ?_
            refine .pickF ?_
            refine .z ?_
            refine .condF rfl (congrArg Value.bool (by first | (simp; done) | (simp; omega) | omega)) ?_
            refine .skip (.next (.sr (.move ?_)))
            refine .nilCheck ?_
            refine .fa ?_ fo118_2
            refine .ld ?_ sc116
            refine .move ?_
            refine .lookOk (k := id) klF hy.hm mp116 zv121 ?_
            refine .cast (d := 26) (u := .tuple #[.agg #[.int .i64 0, .int .i64 0, .int .i64 0], .bool false]) rfl (by rw [hy.pm.get, hl]; rfl) ?_
            refine .move ?_
            refine .extract ?_
            refine .extract ?_
            refine .alloc z121 fun b9 => ?_
            refine .stV ?_ agg121
            refine .assign (.z (.seq (.block (.sr (.move (.move ?_))))))
            refine .call (hc := Tryz.call73) (sp := prFullN hy hl) (h := ?_)
            rintro _ _ ⟨rfl, rfl⟩
            refine .assign (.z ?_)
            refine .condF rfl (congrArg Value.bool (by first | (simp; done) | (simp; omega) | omega)) ?_
            refine .sr (.move (.move ?_))
            refine .gF ?_
            refine .gF ?_
            refine .gF ?_
            refine .gF ?_
            refine .pickF ?_
            refine .assign (.z ?_)
            refine .condF rfl rfl ?_
            refine .seq (.sr (.move (.move ?_)))
            refine .gF ?_
            refine .gF ?_
            refine .gF ?_
            refine .gF ?_
            refine .gF ?_
            refine .pickF ?_
            refine .assign (.z ?_)
            refine .condF rfl rfl ?_
            refine .region (.move ?_)
            refine .not ?_
            refine .move ?_
            refine .gT ?_
            refine .move ?_
            refine .gT ?_
            refine .eqi ?_
            refine .pickT ?_
            refine .assign (.z ?_)
            refine .condF rfl (congrArg Value.bool (by first | (simp; done) | (simp; omega) | omega)) ?_
            refine .skip (.blockNormal (.next (.sr (.assign (.assign (.assign (.z ?_)))))))
            refine .ret (?_)
            refine .shutR (PD.opens pr f path (L)) (mp, es, c, kv) hy ?_
            exact .ret3 (h1 := .tmp (t := 6) rfl) (h2 := .tmp (t := 7) rfl) (h3 := .tmp (t := 8) rfl) ⟨_, ⟨by rw [hch]; try rfl, rfl⟩, Am.auto⟩
      | some q =>
        obtain ⟨r, hr⟩ : ∃ r, L.getD q (0, 0, 0) = r := ⟨_, rfl⟩
        by_cases hs0 : seq = (r.2.1 : Int)
        · have hch : chkP L id seq = ((r.2.2 : Int), true, 0) := by unfold chkP; rw [if_neg hno, hl]; simp only [hr]; rw [if_pos hs0]
          refine .sr (.assign (.assign (.assign (.z (.seq (.sr (.move ?_)))))))
          refine .call (hc := Tryz.call72) (sp := prReady (pr := pr) (f := f) (mp := mp) (path := path)) (h := ?_)
          rintro _ _ ⟨rfl, rfl⟩
          refine .not ?_
          refine .z ?_
          refine .condF rfl rfl ?_
          refine .skip (.next (.seq (.sr (.move ?_))))
          refine .lss ?_
          refine .move ?_
          refine .cast (d := 16) (u := .bool false) rfl (congrArg Value.bool (by first | (simp; done) | (simp; omega) | omega)) ?_
          refine .gT ?_
          refine .move ?_
          refine .gT ?_
          refine .lss ?_
          refine .pickF ?_
          refine .z ?_
          refine .condF rfl (congrArg Value.bool (by first | (simp; done) | (simp; omega) | omega)) ?_
          refine .skip (.next (.sr (.move ?_)))
          refine .nilCheck ?_
          refine .fa ?_ fo118_2
          refine .ld ?_ sc116
          refine .move ?_
          refine .lookOk (k := id) klF hy.hm mp116 zv121 ?_
          refine .cast (d := 26) (u := .tuple #[.agg #[nI r.2.1, nI r.2.2, nI q], .bool true]) rfl (by rw [hy.pm.get, hl]; simp only [Option.map_some, hr]; rfl) ?_
          refine .move ?_
          refine .extract ?_
          refine .extract ?_
          refine .alloc z121 fun b9 => ?_
          refine .stV ?_ agg121
          refine .assign (.z (.seq (.block (.sr (.move (.move ?_))))))
          refine .call (hc := Tryz.call73) (sp := prFullS hy hl) (h := ?_)
          rintro _ _ ⟨rfl, rfl⟩
          refine .assign (.z ?_)
          refine .condF rfl rfl ?_
          refine .sr (.move (.move ?_))
          refine .gT ?_
          refine .move ?_
          refine .gT ?_
          refine .fa ?_ fo121_0
          refine .gT ?_
          refine .ld ?_ sc3
          refine .gT ?_
          refine .eqi ?_
          refine .pickT ?_
          refine .assign (.z ?_)
          refine .condT rfl (congrArg Value.bool (by first | (simp; done) | (simp; omega) | omega)) ?_
          refine .sr ?_
          refine .fa ?_ fo121_1
          refine .ld ?_ sc3
          refine .assign (.assign (.assign (.z ?_)))
          refine .ret (.blockRet (.thenRet (?_)))
          refine .shutR (PD.opens pr f path (L)) (mp, es, c, kv) hy ?_
          exact .ret3 (h1 := .tmp (t := 6) rfl) (h2 := .tmp (t := 7) rfl) (h3 := .tmp (t := 8) rfl) ⟨_, ⟨by rw [hch]; try rfl, rfl⟩, Am.auto⟩
        · by_cases hs1 : seq - 1 = (r.2.1 : Int)
          · have hch : chkP L id seq = (0, false, 0) := by unfold chkP; rw [if_neg hno, hl]; simp only [hr]; rw [if_neg hs0, if_pos hs1]
            refine .sr (.assign (.assign (.assign (.z (.seq (.sr (.move ?_)))))))
            refine .call (hc := Tryz.call72) (sp := prReady (pr := pr) (f := f) (mp := mp) (path := path)) (h := ?_)
            rintro _ _ ⟨rfl, rfl⟩
            refine .not ?_
            refine .z ?_
            refine .condF rfl rfl ?_
            refine .skip (.next (.seq (.sr (.move ?_))))
            refine .lss ?_
            refine .move ?_
            refine .cast (d := 16) (u := .bool false) rfl (congrArg Value.bool (by first | (simp; done) | (simp; omega) | omega)) ?_
            refine .gT ?_
            refine .move ?_
            refine .gT ?_
            refine .lss ?_
            refine .pickF ?_
            refine .z ?_
            refine .condF rfl (congrArg Value.bool (by first | (simp; done) | (simp; omega) | omega)) ?_
            refine .skip (.next (.sr (.move ?_)))
            refine .nilCheck ?_
            refine .fa ?_ fo118_2
            refine .ld ?_ sc116
            refine .move ?_
            refine .lookOk (k := id) klF hy.hm mp116 zv121 ?_
            refine .cast (d := 26) (u := .tuple #[.agg #[nI r.2.1, nI r.2.2, nI q], .bool true]) rfl (by rw [hy.pm.get, hl]; simp only [Option.map_some, hr]; rfl) ?_
            refine .move ?_
            refine .extract ?_
            refine .extract ?_
            refine .alloc z121 fun b9 => ?_
            refine .stV ?_ agg121
            refine .assign (.z (.seq (.block (.sr (.move (.move ?_))))))
            refine .call (hc := Tryz.call73) (sp := prFullS hy hl) (h := ?_)
            rintro _ _ ⟨rfl, rfl⟩
            refine .assign (.z ?_)
            refine .condF rfl rfl ?_
            refine .sr (.move (.move ?_))
            refine .gT ?_
            refine .move ?_
            refine .gT ?_
            refine .fa ?_ fo121_0
            refine .gT ?_
            refine .ld ?_ sc3
            refine .gT ?_
            refine .eqi ?_
            refine .pickT ?_
            refine .assign (.z ?_)
            refine .condF rfl (congrArg Value.bool (by first | (simp; done) | (simp; omega) | omega)) ?_
            refine .seq (.sr (.move (.move ?_)))
            refine .gT ?_
            refine .move ?_
            refine .gT ?_
            refine .sub ?_
            refine .gT ?_
            refine .fa ?_ fo121_0
            refine .gT ?_
            refine .ld ?_ sc3
            refine .gT ?_
            refine .eqi ?_
            refine .pickT ?_
            refine .assign (.z ?_)
            refine .condT rfl (congrArg Value.bool (by first | (simp; done) | (simp; omega) | omega)) ?_
            refine .skip (.next ?_)
            refine .condT rfl (congrArg Value.bool (by first | (simp; done) | (simp; omega) | omega)) ?_
            refine .sr (.assign (.assign (.assign (.z ?_))))
            refine .ret (.blockRet (.thenRet (?_)))
            refine .shutR (PD.opens pr f path (L)) (mp, es, c, kv) hy ?_
            exact .ret3 (h1 := .tmp (t := 6) rfl) (h2 := .tmp (t := 7) rfl) (h3 := .tmp (t := 8) rfl) ⟨_, ⟨by rw [hch]; try rfl, rfl⟩, Am.auto⟩
          · have hch : chkP L id seq = (0, false, 11) := by unfold chkP; rw [if_neg hno, hl]; simp only [hr]; rw [if_neg hs0, if_neg hs1]
            refine .sr (.assign (.assign (.assign (.z (.seq (.sr (.move ?_)))))))
            refine .call (hc := Tryz.call72) (sp := prReady (pr := pr) (f := f) (mp := mp) (path := path)) (h := ?_)
            rintro _ _ ⟨rfl, rfl⟩
            refine .not ?_
            refine .z ?_
            refine .condF rfl rfl ?_
            refine .skip (.next (.seq (.sr (.move ?_))))
            refine .lss ?_
            refine .move ?_
            refine .cast (d := 16) (u := .bool false) rfl (congrArg Value.bool (by first | (simp; done) | (simp; omega) | omega)) ?_
            refine .gT ?_
            refine .move ?_
            refine .gT ?_
            refine .lss ?_
            refine .pickF ?_
            refine .z ?_
            refine .condF rfl (congrArg Value.bool (by first | (simp; done) | (simp; omega) | omega)) ?_
            refine .skip (.next (.sr (.move ?_)))
            refine .nilCheck ?_
            refine .fa ?_ fo118_2
            refine .ld ?_ sc116
            refine .move ?_
            refine .lookOk (k := id) klF hy.hm mp116 zv121 ?_
            refine .cast (d := 26) (u := .tuple #[.agg #[nI r.2.1, nI r.2.2, nI q], .bool true]) rfl (by rw [hy.pm.get, hl]; simp only [Option.map_some, hr]; rfl) ?_
            refine .move ?_
            refine .extract ?_
            refine .extract ?_
            refine .alloc z121 fun b9 => ?_
            refine .stV ?_ agg121
            refine .assign (.z (.seq (.block (.sr (.move (.move ?_))))))
            refine .call (hc := Tryz.call73) (sp := prFullS hy hl) (h := ?_)
            rintro _ _ ⟨rfl, rfl⟩
            refine .assign (.z ?_)
            refine .condF rfl rfl ?_
            refine .sr (.move (.move ?_))
            refine .gT ?_
            refine .move ?_
            refine .gT ?_
            refine .fa ?_ fo121_0
            refine .gT ?_
            refine .ld ?_ sc3
            refine .gT ?_
            refine .eqi ?_
            refine .pickT ?_
            refine .assign (.z ?_)
            refine .condF rfl (congrArg Value.bool (by first | (simp; done) | (simp; omega) | omega)) ?_
            refine .seq (.sr (.move (.move ?_)))
            refine .gT ?_
            refine .move ?_
            refine .gT ?_
            refine .sub ?_
            refine .gT ?_
            refine .fa ?_ fo121_0
            refine .gT ?_
            refine .ld ?_ sc3
            refine .gT ?_
            refine .eqi ?_
            refine .pickT ?_
            refine .assign (.z ?_)
            refine .condF rfl (congrArg Value.bool (by first | (simp; done) | (simp; omega) | omega)) ?_
            refine .region (.move ?_)
            refine .not ?_
            refine .move ?_
            refine .gF ?_
            refine .gF ?_
            refine .pickF ?_
            refine .assign (.z ?_)
            refine .condF rfl rfl ?_
            refine .skip (.blockNormal (.next (.sr (.assign (.assign (.assign (.z ?_)))))))
            refine .ret (?_)
            refine .shutR (PD.opens pr f path (L)) (mp, es, c, kv) hy ?_
            exact .ret3 (h1 := .tmp (t := 6) rfl) (h2 := .tmp (t := 7) rfl) (h3 := .tmp (t := 8) rfl) ⟨_, ⟨by rw [hch]; try rfl, rfl⟩, Am.auto⟩
theorem prAcceptE {pr f : Nat} {path : Bytes} {L : List Prd} {id seq base : Int} {e : Nat} (he : accE L id seq base = e) (he0 : e ≠ 0) : Spec Tryz.prog 21 #[.pointer (some ⟨pr, 0, none⟩), .int .i64 id, .int .i64 seq, .int .i64 base] [PD pr f path L] fun F v M => v = nI e ∧ M = PD pr f path L :: F := by
  refine Spec.intro Tryz.func21 rfl rfl fun B F => ?_
  simp only [Tryz.ntmps21, List.cons_append, List.nil_append, env0, Nat.reduceAdd]
  refine .openR (PD.opens pr f path L) fun y hy => ?_
  obtain ⟨mp, es, c, kv⟩ := y
  simp only [pdLs, List.cons_append, List.nil_append]
  unfold accE at he
  by_cases hv : 1 ≤ id ∧ 0 ≤ seq ∧ 0 ≤ base ∧ base ≤ 1125899906842624
  · rw [if_pos hv] at he
    by_cases hf : lookP L id = none ∧ 60 ≤ L.length
    · rw [if_pos hf] at he
      subst he
      obtain ⟨hl, h60⟩ := hf
      refine .sr (.assign (.z (.seq (.sr (.move ?_)))))
      refine .call (hc := Tryz.call72) (sp := prReady (pr := pr) (f := f) (mp := mp) (path := path)) (h := ?_)
      rintro _ _ ⟨rfl, rfl⟩
      refine .not ?_
      refine .z ?_
      refine .condF rfl rfl ?_
      refine .skip (.next (.seq (.sr (.move (.move (.move ?_))))))
      refine .call (hc := Tryz.call67) (sp := prMay hv) (h := ?_)
      rintro _ _ ⟨rfl, rfl⟩
      refine .not ?_
      refine .z ?_
      refine .condF rfl rfl ?_
      refine .skip (.next (.seq (.sr (.move (.move ?_)))))
      refine .call (hc := Tryz.call73) (sp := prFullN hy hl) (h := ?_)
      rintro _ _ ⟨rfl, rfl⟩
      refine .z ?_
      refine .condT rfl (congrArg Value.bool (by first | (simp; done) | (simp; omega) | omega)) ?_
      refine .sr (.assign (.z ?_))
      refine .ret (.thenRet (?_))
      refine .shutR (PD.opens pr f path (L)) (mp, es, c, kv) hy ?_
      exact .ret1 (h1 := .tmp (t := 8) rfl) ⟨_, ⟨rfl, rfl⟩, Am.auto⟩
    · rw [if_neg hf] at he
      exact absurd he.symm he0
  · rw [if_neg hv] at he
    subst he
    refine .sr (.assign (.z (.seq (.sr (.move ?_)))))
    refine .call (hc := Tryz.call72) (sp := prReady (pr := pr) (f := f) (mp := mp) (path := path)) (h := ?_)
    rintro _ _ ⟨rfl, rfl⟩
    refine .not ?_
    refine .z ?_
    refine .condF rfl rfl ?_
    refine .skip (.next (.seq (.sr (.move (.move (.move ?_))))))
    refine .call (hc := Tryz.call67) (sp := prMayNo hv) (h := ?_)
    rintro _ _ ⟨rfl, rfl⟩
    refine .not ?_
    refine .z ?_
    refine .condT rfl rfl ?_
    refine .sr (.assign (.z ?_))
    refine .ret (.thenRet (?_))
    refine .shutR (PD.opens pr f path (L)) (mp, es, c, kv) hy ?_
    exact .ret1 (h1 := .tmp (t := 8) rfl) ⟨_, ⟨rfl, rfl⟩, Am.auto⟩
theorem has_few {n : Nat} (h : n ≤ 1536) : has n ≤ 3 := by
  have : dat n ≤ 3 := by unfold dat; omega
  unfold has
  rw [if_pos (by omega)]; exact this
theorem prAccept {pr f i : Nat} {p : Pl} {T : FT} {path : Bytes} {L : List Prd} {r : Prd} (ho : PlOk p) (hT : TOk T) (hpl : path.length ≤ 1000000) (hft : fileT T path = (i, 1, (rowsB L).length, 0)) (hTi : T i = some (.file (rowsB L))) (hr : PrdOk r) (hfu : lookP L (r.1 : Int) ≠ none ∨ L.length < 60) (hw : Rw p 0 14) (hfit : tot (fmT T) p.ino + 3 ≤ p.dc + has (rowsB L).length) : Spec Tryz.prog 21 #[.pointer (some ⟨pr, 0, none⟩), nI r.1, nI r.2.1, nI r.2.2] [PD pr f path L, FSR f p T] fun F v M => v = okV ∧ M = PD pr f path (accP L r) :: FSR f p (updT T i (some (.file (rowsB (accP L r))))) :: F := by
  refine Spec.intro Tryz.func21 rfl rfl fun B F => ?_
  simp only [Tryz.ntmps21, List.cons_append, List.nil_append, env0, Nat.reduceAdd]
  refine .openR (PD.opens pr f path L) fun y hy => ?_
  obtain ⟨mp, es, c, kv⟩ := y
  simp only [pdLs, List.cons_append, List.nil_append]
  have hsz : es.size = L.length := hy.hm.length.trans hy.pm.len
  obtain ⟨q, hq⟩ : ∃ q, (lookP L (r.1 : Int)).getD L.length = q := ⟨_, rfl⟩
  have hql : q ≤ L.length := hq ▸ rowOf_le _
  have hq60 : q < 60 := hq ▸ rowOf_lt _ hfu hy.ok.few
  have hok2 := accP_ok hy.ok hr hfu
  have hlB := rowsB_length L
  have hfew := hy.ok.few
  have hh1 := has_few (n := max (rowsB L).length (24 * q + 24)) (by omega)
  have hacc : wrB (rowsB L) (24 * q) (rowB r) = rowsB (accP L r) := by rw [setP_wr hql]; unfold accP; rw [hq]
  have hr1 := hr.1
  have hr2 := hr.2.1
  have hr3 := hr.2.2.1
  have hr4 := hr.2.2.2
  cases hl : lookP L (r.1 : Int) with
  | none =>
    have hq2 : L.length = q := by rw [hl] at hq; exact hq
    have hlt60 : ¬ 60 ≤ L.length := by omega
    refine .sr (.assign (.z (.seq (.sr (.move ?_)))))
    refine .call (hc := Tryz.call72) (sp := prReady (pr := pr) (f := f) (mp := mp) (path := path)) (h := ?_)
    rintro _ _ ⟨rfl, rfl⟩
    refine .not ?_
    refine .z ?_
    refine .condF rfl rfl ?_
    refine .skip (.next (.seq (.sr (.move (.move (.move ?_))))))
    refine .call (hc := Tryz.call67) (sp := prMay (a := (r.1 : Int)) (b := (r.2.1 : Int)) (c := (r.2.2 : Int)) ⟨by omega, by omega, by omega, by omega⟩) (h := ?_)
    rintro _ _ ⟨rfl, rfl⟩
    refine .not ?_
    refine .z ?_
    refine .condF rfl rfl ?_
    refine .skip (.next (.seq (.sr (.move (.move ?_)))))
    refine .call (hc := Tryz.call73) (sp := prFullN hy hl) (h := ?_)
    rintro _ _ ⟨rfl, rfl⟩
    refine .z ?_
    refine .condF rfl (congrArg Value.bool (by first | (simp; done) | (simp; omega) | omega)) ?_
    refine .skip (.next (.sr (.move ?_)))
    refine .nilCheck ?_
    refine .fa ?_ fo118_2
    refine .ld ?_ sc116
    refine .move ?_
    refine .lookOk (k := (r.1 : Int)) klF hy.hm mp116 zv121 ?_
    refine .cast (d := 32) (u := .tuple #[.agg #[.int .i64 0, .int .i64 0, .int .i64 0], .bool false]) rfl (by rw [hy.pm.get, hl]; rfl) ?_
    refine .move ?_
    refine .extract ?_
    refine .extract ?_
    refine .alloc z121 fun b9 => ?_
    refine .stV ?_ agg121
    refine .assign (.z (.seq (.sr (.move ?_))))
    refine .not ?_
    refine .z ?_
    refine .condT rfl rfl ?_
    refine .region (.move ?_)
    refine .nilCheck ?_
    refine .fa ?_ fo118_2
    refine .ld ?_ sc116
    refine .lenM ?_ mp116
    refine .cast (d := 41) (u := nI q) rfl (congrArg (Value.int .i64) (by rw [hsz, hq2])) ?_
    refine .fa ?_ fo121_2
    refine .st ?_ sc3
    refine .x ?_
    refine .mkSN 24 z5 so33 (by decide) (by decide) fun b43 => ?_
    refine .to (A := buf b43 5 24 (List.replicate 24 (.int .u8 0))) (A' := buf b43 5 24 (bvs (rowP (rowN r) 0))) (fun h hh => by rw [rowP, bvs_replicate]; exact hh) ?_
    refine .assign (.z (.seq (.sr (.move (.move (.move ?_))))))
    refine .buildS (fun b47 => ?_) (bsI3 _ _ _)
    refine .lenS ?_ sl80
    refine .move (.z (.block ?_))
    refine .to (A := pt b47 (.cells #[nI r.1, nI r.2.1, nI r.2.2] 3 (0, 0))) (A' := pt b47 (.cells (natsV (rowN r)).toArray 3 (0, 0))) (fun h hh => hh) ?_
    refine .loopA (σ := Nat × Nat × Nat) (fun y => [(0, .pointer (some ⟨pr, 0, none⟩)), (1, nI r.1), (2, nI r.2.1), (3, nI r.2.2), (9, .pointer (some ⟨b9, 0, none⟩)), (11, .slice (some ⟨y.2.1, 0, none⟩) 24 y.2.2), (47, .slice (some ⟨b47, 0, none⟩) 3 3), (48, .int .i64 3), (49, .int .i64 ((y.1 : Nat) : Int))]) (fun y => buf y.2.1 5 y.2.2 (bvs (rowP (rowN r) y.1)) :: pt b47 (.cells (natsV (rowN r)).toArray 3 (0, 0)) :: pt b9 (.cells #[nI 0, nI 0, nI q] 121 (0, 0)) :: pt pr (pO f path mp) :: pt mp (.map es c) :: FSR f p T :: F) (fun y => y.1 ≤ 3 ∧ 24 ≤ y.2.2 ∧ y.2.2 ≤ maxLen) (fun y => 3 - y.1) (0, b43, 24) ⟨Nat.zero_le _, Nat.le_refl _, by show 24 ≤ maxLen; decide⟩ (hI := by show Am _ _; exact Am.auto) ?_
    rintro y hy2
    obtain ⟨k, gb, cb⟩ := y
    obtain ⟨hk, hq1, hq2⟩ := hy2
    simp only at hk hq1 hq2 ⊢
    refine .sr ?_
    refine .lss ?_
    refine .z (.seq ?_)
    refine .cond rfl (fun hb => ?_) (fun hb => ?_)
    · have hlt : k < 3 := by have h : (k : Int) < 3 := of_decide_eq_true hb; omega
      have hgk : (natsV (rowN r))[((k : Nat) : Int).toNat]? = some (.int .i64 (((rowN r).getD k 0 : Nat) : Int)) := by
        have hl3 : k < (rowN r).length := hlt
        rw [Int.toNat_natCast, List.getD_eq_getElem?_getD, List.getElem?_eq_getElem hl3]
        unfold natsV ints
        simp [hl3]
      have hv : (rowN r).getD k 0 < 2 ^ 64 := by
        rcases k with _ | _ | _ | k
        · show r.1 < _; omega
        · show r.2.1 < _; omega
        · show r.2.2 < _; omega
        · omega
      have hlen := rowP_length (rowN r) k
      refine .skip (.next (.seq (.block (.sr (.move ?_)))))
      refine .idx1 ?_ so80
      refine .ldR (i := ((k : Nat) : Int).toNat) (R := pt b47 (.cells (natsV (rowN r)).toArray 3 (0, 0))) ?_ sc3 Reads.pt hgk
      refine .assign (.assign (.y (.move (.move ?_))))
      refine .mul ?_
      refine .move ?_
      refine .cvt ?_ un3 un134
      refine .cast (d := 59) (u := .int .u64 (((rowN r).getD k 0 : Nat) : Int)) rfl (congrArg (Value.int .u64) (u64_wrap0 hv)) ?_
      refine .call (hc := Tryz.call74) (sp := bitsPut (xs := rowP (rowN r) k) (v := (rowN r).getD k 0) Reads.buf hlen (by decide) (by omega) (by omega) (by omega) hv) (h := ?_)
      rintro _ _ ⟨g', q', ⟨rfl, h1, h2⟩, rfl⟩
      refine .move ?_
      refine .extract ?_
      refine .extract ?_
      refine .assign (.nil (.blockNormal (.next (.region ?_))))
      refine .add ?_
      refine .move (.nil ?_)
      refine .to (r := .here) (A' := buf g' 5 q' (bvs (rowP (rowN r) (k + 1)))) (fun h hh => by
        rw [rowP, show 8 * k = (8 * ((k : Nat) : Int)).toNat from by omega]; exact hh) ?_
      refine .cast (d := 49) (u := .int .i64 ((k + 1 : Nat) : Int)) rfl (congrArg (Value.int .i64) (by omega)) ?_
      exact .back (k + 1, g', q') ⟨by show k + 1 ≤ 3; omega, h1, h2⟩ (by show 3 - (k + 1) < 3 - k; omega)
    · have hge : k = 3 := by have h : ¬ (k : Int) < 3 := of_decide_eq_false hb; omega
      subst hge
      refine .exit (.thenExit (.thenExit (.blockExit (?_))))
      refine .next (.seq (.seq ?_))
      refine .dr ([pt pr (pO f path mp), pt b9 (.cells #[nI 0, nI 0, nI q] 121 (0, 0))]) [] 14 mixed .autoJ ?_
      refine .tk 0 rfl .move ?_
      refine .tk 1 rfl .nilCheck ?_
      refine .tk 2 rfl (.fa fo118_0) ?_
      refine .tk 3 rfl (.ld sc23) ?_
      refine .tk 4 rfl .move ?_
      refine .tk 5 rfl .nilCheck ?_
      refine .tk 6 rfl (.fa fo118_1) ?_
      refine .tk 7 rfl (.ld sc9) ?_
      refine .tk 8 rfl (.fa fo121_2) ?_
      refine .tk 9 rfl (.ld sc3) ?_
      refine .tk 10 rfl .mul ?_
      refine .tk 11 rfl .move ?_
      refine .on 12 rfl fun hnp => ?_
      refine .call (hc := Tryz.call75) (sp := fsWrite (path := path) (at' := 24 * q) (bs := rowB r) (R := buf gb 5 cb (bvs (rowB r))) (A := some ⟨gb, 0, none⟩) (cc := cb) (m := 24) ho hT hpl hft hTi (.inr Reads.buf) (rowB_length r) hq1 hq2 (hw.less (by omega)) (by omega) (by omega) (by omega)) (h := ?_)
      rintro _ _ ⟨rfl, rfl⟩
      rw [hacc]
      refine .nil (.wa hnp ?_)
      refine .tk 13 rfl .assign ?_
      refine .fin ?_
      refine .next (.sr (.move ?_))
      refine .nei ?_
      refine .z ?_
      refine .condF rfl (congrArg Value.bool (by first | (simp; done) | (simp; omega) | omega)) ?_
      refine .skip (.next (.seq ?_))
      refine .dr ([pt pr (pO f path mp), pt b9 (.cells #[nI 0, nI 0, nI q] 121 (0, 0))]) [10] 11 mixed .autoJ ?_
      refine .tk 0 rfl .move ?_
      refine .tk 1 rfl .nilCheck ?_
      refine .tk 2 rfl (.fa fo118_2) ?_
      refine .tk 3 rfl (.ld sc116) ?_
      refine .tk 4 rfl .move ?_
      refine .tk 5 rfl .move ?_
      refine .tk 6 rfl .move ?_
      refine .tk 7 rfl (.fa fo121_2) ?_
      refine .tk 8 rfl (.ld sc3) ?_
      refine .tk 9 rfl (.build (bdKn _ _ _)) ?_
      refine .on 10 rfl fun hnp => ?_
      refine .upd (k := (r.1 : Int)) klF hy.hm mp116 fun es2 c2 hm2 => ?_
      refine .nil (.wb hnp ?_)
      refine .fin ?_
      refine .next (.sr (.assign (.z ?_)))
      refine .ret (?_)
      have hpm := hy.pm.acc hy.ok hok2
      rw [hq] at hpm
      refine .shutR (PD.opens pr f path (accP L r)) (mp, es2, c2, kput kv (r.1 : Int) (knV r q)) ⟨hm2, hpm, hok2⟩ ?_
      exact .ret1 (h1 := .tmp (t := 8) rfl) ⟨_, ⟨rfl, rfl⟩, Am.auto⟩
  | some j =>
    have hq2 : q = j := by rw [hl] at hq; exact hq.symm
    subst hq2
    obtain ⟨r0, hr0⟩ : ∃ r0, L.getD q (0, 0, 0) = r0 := ⟨_, rfl⟩
    refine .sr (.assign (.z (.seq (.sr (.move ?_)))))
    refine .call (hc := Tryz.call72) (sp := prReady (pr := pr) (f := f) (mp := mp) (path := path)) (h := ?_)
    rintro _ _ ⟨rfl, rfl⟩
    refine .not ?_
    refine .z ?_
    refine .condF rfl rfl ?_
    refine .skip (.next (.seq (.sr (.move (.move (.move ?_))))))
    refine .call (hc := Tryz.call67) (sp := prMay (a := (r.1 : Int)) (b := (r.2.1 : Int)) (c := (r.2.2 : Int)) ⟨by omega, by omega, by omega, by omega⟩) (h := ?_)
    rintro _ _ ⟨rfl, rfl⟩
    refine .not ?_
    refine .z ?_
    refine .condF rfl rfl ?_
    refine .skip (.next (.seq (.sr (.move (.move ?_)))))
    refine .call (hc := Tryz.call73) (sp := prFullS hy hl) (h := ?_)
    rintro _ _ ⟨rfl, rfl⟩
    refine .z ?_
    refine .condF rfl rfl ?_
    refine .skip (.next (.sr (.move ?_)))
    refine .nilCheck ?_
    refine .fa ?_ fo118_2
    refine .ld ?_ sc116
    refine .move ?_
    refine .lookOk (k := (r.1 : Int)) klF hy.hm mp116 zv121 ?_
    refine .cast (d := 32) (u := .tuple #[.agg #[nI r0.2.1, nI r0.2.2, nI q], .bool true]) rfl (by rw [hy.pm.get, hl]; simp only [Option.map_some, hr0]; rfl) ?_
    refine .move ?_
    refine .extract ?_
    refine .extract ?_
    refine .alloc z121 fun b9 => ?_
    refine .stV ?_ agg121
    refine .assign (.z (.seq (.sr (.move ?_))))
    refine .not ?_
    refine .z ?_
    refine .condF rfl rfl ?_
    refine .skip (.next (.sr ?_))
    refine .mkSN 24 z5 so33 (by decide) (by decide) fun b43 => ?_
    refine .to (A := buf b43 5 24 (List.replicate 24 (.int .u8 0))) (A' := buf b43 5 24 (bvs (rowP (rowN r) 0))) (fun h hh => by rw [rowP, bvs_replicate]; exact hh) ?_
    refine .assign (.z (.seq (.sr (.move (.move (.move ?_))))))
    refine .buildS (fun b47 => ?_) (bsI3 _ _ _)
    refine .lenS ?_ sl80
    refine .move (.z (.block ?_))
    refine .to (A := pt b47 (.cells #[nI r.1, nI r.2.1, nI r.2.2] 3 (0, 0))) (A' := pt b47 (.cells (natsV (rowN r)).toArray 3 (0, 0))) (fun h hh => hh) ?_
    refine .loopA (σ := Nat × Nat × Nat) (fun y => [(0, .pointer (some ⟨pr, 0, none⟩)), (1, nI r.1), (2, nI r.2.1), (3, nI r.2.2), (9, .pointer (some ⟨b9, 0, none⟩)), (11, .slice (some ⟨y.2.1, 0, none⟩) 24 y.2.2), (47, .slice (some ⟨b47, 0, none⟩) 3 3), (48, .int .i64 3), (49, .int .i64 ((y.1 : Nat) : Int))]) (fun y => buf y.2.1 5 y.2.2 (bvs (rowP (rowN r) y.1)) :: pt b47 (.cells (natsV (rowN r)).toArray 3 (0, 0)) :: pt b9 (.cells #[nI r0.2.1, nI r0.2.2, nI q] 121 (0, 0)) :: pt pr (pO f path mp) :: pt mp (.map es c) :: FSR f p T :: F) (fun y => y.1 ≤ 3 ∧ 24 ≤ y.2.2 ∧ y.2.2 ≤ maxLen) (fun y => 3 - y.1) (0, b43, 24) ⟨Nat.zero_le _, Nat.le_refl _, by show 24 ≤ maxLen; decide⟩ (hI := by show Am _ _; exact Am.auto) ?_
    rintro y hy2
    obtain ⟨k, gb, cb⟩ := y
    obtain ⟨hk, hq1, hq2⟩ := hy2
    simp only at hk hq1 hq2 ⊢
    refine .sr ?_
    refine .lss ?_
    refine .z (.seq ?_)
    refine .cond rfl (fun hb => ?_) (fun hb => ?_)
    · have hlt : k < 3 := by have h : (k : Int) < 3 := of_decide_eq_true hb; omega
      have hgk : (natsV (rowN r))[((k : Nat) : Int).toNat]? = some (.int .i64 (((rowN r).getD k 0 : Nat) : Int)) := by
        have hl3 : k < (rowN r).length := hlt
        rw [Int.toNat_natCast, List.getD_eq_getElem?_getD, List.getElem?_eq_getElem hl3]
        unfold natsV ints
        simp [hl3]
      have hv : (rowN r).getD k 0 < 2 ^ 64 := by
        rcases k with _ | _ | _ | k
        · show r.1 < _; omega
        · show r.2.1 < _; omega
        · show r.2.2 < _; omega
        · omega
      have hlen := rowP_length (rowN r) k
      refine .skip (.next (.seq (.block (.sr (.move ?_)))))
      refine .idx1 ?_ so80
      refine .ldR (i := ((k : Nat) : Int).toNat) (R := pt b47 (.cells (natsV (rowN r)).toArray 3 (0, 0))) ?_ sc3 Reads.pt hgk
      refine .assign (.assign (.y (.move (.move ?_))))
      refine .mul ?_
      refine .move ?_
      refine .cvt ?_ un3 un134
      refine .cast (d := 59) (u := .int .u64 (((rowN r).getD k 0 : Nat) : Int)) rfl (congrArg (Value.int .u64) (u64_wrap0 hv)) ?_
      refine .call (hc := Tryz.call74) (sp := bitsPut (xs := rowP (rowN r) k) (v := (rowN r).getD k 0) Reads.buf hlen (by decide) (by omega) (by omega) (by omega) hv) (h := ?_)
      rintro _ _ ⟨g', q', ⟨rfl, h1, h2⟩, rfl⟩
      refine .move ?_
      refine .extract ?_
      refine .extract ?_
      refine .assign (.nil (.blockNormal (.next (.region ?_))))
      refine .add ?_
      refine .move (.nil ?_)
      refine .to (r := .here) (A' := buf g' 5 q' (bvs (rowP (rowN r) (k + 1)))) (fun h hh => by
        rw [rowP, show 8 * k = (8 * ((k : Nat) : Int)).toNat from by omega]; exact hh) ?_
      refine .cast (d := 49) (u := .int .i64 ((k + 1 : Nat) : Int)) rfl (congrArg (Value.int .i64) (by omega)) ?_
      exact .back (k + 1, g', q') ⟨by show k + 1 ≤ 3; omega, h1, h2⟩ (by show 3 - (k + 1) < 3 - k; omega)
    · have hge : k = 3 := by have h : ¬ (k : Int) < 3 := of_decide_eq_false hb; omega
      subst hge
      refine .exit (.thenExit (.thenExit (.blockExit (?_))))
      refine .next (.seq (.seq ?_))
      refine .dr ([pt pr (pO f path mp), pt b9 (.cells #[nI r0.2.1, nI r0.2.2, nI q] 121 (0, 0))]) [] 14 mixed .autoJ ?_
      refine .tk 0 rfl .move ?_
      refine .tk 1 rfl .nilCheck ?_
      refine .tk 2 rfl (.fa fo118_0) ?_
      refine .tk 3 rfl (.ld sc23) ?_
      refine .tk 4 rfl .move ?_
      refine .tk 5 rfl .nilCheck ?_
      refine .tk 6 rfl (.fa fo118_1) ?_
      refine .tk 7 rfl (.ld sc9) ?_
      refine .tk 8 rfl (.fa fo121_2) ?_
      refine .tk 9 rfl (.ld sc3) ?_
      refine .tk 10 rfl .mul ?_
      refine .tk 11 rfl .move ?_
      refine .on 12 rfl fun hnp => ?_
      refine .call (hc := Tryz.call75) (sp := fsWrite (path := path) (at' := 24 * q) (bs := rowB r) (R := buf gb 5 cb (bvs (rowB r))) (A := some ⟨gb, 0, none⟩) (cc := cb) (m := 24) ho hT hpl hft hTi (.inr Reads.buf) (rowB_length r) hq1 hq2 (hw.less (by omega)) (by omega) (by omega) (by omega)) (h := ?_)
      rintro _ _ ⟨rfl, rfl⟩
      rw [hacc]
      refine .nil (.wa hnp ?_)
      refine .tk 13 rfl .assign ?_
      refine .fin ?_
      refine .next (.sr (.move ?_))
      refine .nei ?_
      refine .z ?_
      refine .condF rfl (congrArg Value.bool (by first | (simp; done) | (simp; omega) | omega)) ?_
      refine .skip (.next (.seq ?_))
      refine .dr ([pt pr (pO f path mp), pt b9 (.cells #[nI r0.2.1, nI r0.2.2, nI q] 121 (0, 0))]) [10] 11 mixed .autoJ ?_
      refine .tk 0 rfl .move ?_
      refine .tk 1 rfl .nilCheck ?_
      refine .tk 2 rfl (.fa fo118_2) ?_
      refine .tk 3 rfl (.ld sc116) ?_
      refine .tk 4 rfl .move ?_
      refine .tk 5 rfl .move ?_
      refine .tk 6 rfl .move ?_
      refine .tk 7 rfl (.fa fo121_2) ?_
      refine .tk 8 rfl (.ld sc3) ?_
      refine .tk 9 rfl (.build (bdKn _ _ _)) ?_
      refine .on 10 rfl fun hnp => ?_
      refine .upd (k := (r.1 : Int)) klF hy.hm mp116 fun es2 c2 hm2 => ?_
      refine .nil (.wb hnp ?_)
      refine .fin ?_
      refine .next (.sr (.assign (.z ?_)))
      refine .ret (?_)
      have hpm := hy.pm.acc hy.ok hok2
      rw [hq] at hpm
      refine .shutR (PD.opens pr f path (accP L r)) (mp, es2, c2, kput kv (r.1 : Int) (knV r q)) ⟨hm2, hpm, hok2⟩ ?_
      exact .ret1 (h1 := .tmp (t := 8) rfl) ⟨_, ⟨rfl, rfl⟩, Am.auto⟩
theorem prGet {R : HP} {A : Addr} {n c k v : Nat} {xs : Bytes} (hR : Reads R (some A) (bvs xs)) (hn : xs.length = n) (hl : n ≤ 1073741824) (hk : 8 * k + 8 ≤ n) (hv : beNat (seg xs (8 * k) 8 true) = v) (hv2 : v < 2 ^ 63) : Spec Tryz.prog 66 #[.slice (some A) n c, nI k] [R] fun F v' M => v' = nI v ∧ M = R :: F := by
  refine Spec.intro Tryz.func66 rfl rfl fun B F => ?_
  simp only [Tryz.ntmps66, List.cons_append, List.nil_append, env0, Nat.reduceAdd]
  refine .sr (.assign (.x (.move (.move ?_))))
  refine .mul ?_
  refine .call (hc := Tryz.call143) (sp := bitsGet (p := 8 * (k : Int)) (size := 8) (big := true) hR hn hl (by decide) (by omega) (by omega)) (h := ?_)
  rintro _ _ ⟨rfl, rfl⟩
  rw [show beNat (seg xs (8 * (k : Int)).toNat (8 : Int).toNat true) = v from by rw [show (8 * (k : Int)).toNat = 8 * k from by omega]; exact hv]
  refine .move ?_
  refine .extract ?_
  refine .extract ?_
  refine .assign (.assign (.x (.move ?_)))
  refine .cvt ?_ un134 un3
  refine .cast (d := 15) (u := nI v) rfl (congrArg (Value.int .i64) (IntWalk.i64_in _ (by omega))) ?_
  refine .assign (.z ?_)
  refine .ret (?_)
  exact .ret1 (h1 := .tmp (t := 4) rfl) ⟨_, ⟨rfl, rfl⟩, Am.auto⟩
theorem POk.take {L : List Prd} (h : POk L) (k : Nat) : POk (L.take k) := by
  refine ⟨fun r hr => h.each r (List.mem_of_mem_take hr), fun q r hq hr he => ?_, by rw [List.length_take]; have := h.few; omega⟩
  rw [List.length_take] at hq hr
  rw [List.getElem_take, List.getElem_take] at he
  exact h.one q r (by omega) (by omega) he
theorem lookP_take {L : List Prd} (h : POk L) {k : Nat} (hk : k < L.length) : lookP (L.take k) (L[k].1 : Int) = none := by
  cases hl : lookP (L.take k) (L[k].1 : Int) with
  | none => rfl
  | some q =>
    obtain ⟨h1, h2⟩ := lookP_some hl
    rw [List.length_take] at h1
    rw [List.getElem_take] at h2
    have := h.one q k (by omega) hk (by omega)
    omega
theorem accP_take {L : List Prd} (h : POk L) {k : Nat} (hk : k < L.length) : accP (L.take k) L[k] = L.take (k + 1) := by
  unfold accP
  rw [lookP_take h hk]
  have hl : (L.take k).length = k := by rw [List.length_take]; omega
  show setP (L.take k) (L.take k).length L[k] = _
  unfold setP
  rw [List.take_length, List.drop_eq_nil_of_le (by omega), List.take_succ_eq_append_getElem hk]
theorem prOpen {f i : Nat} {p : Pl} {T : FT} {path : Bytes} {L : List Prd} (ho : PlOk p) (hT : TOk T) (hpl : path.length ≤ 1000000) (hft : fileT T path = (i, 1, (rowsB L).length, 0)) (hTi : T i = some (.file (rowsB L))) (hL : POk L) : Spec Tryz.prog 16 #[.pointer (some ⟨f, 0, none⟩), sv path] [FSR f p T] fun F v M => ∃ pr, v = .tuple #[.pointer (some ⟨pr, 0, none⟩), .int .i64 0] ∧ M = PD pr f path L :: FSR f p T :: F := by
  refine Spec.intro Tryz.func16 rfl rfl fun B F => ?_
  simp only [Tryz.ntmps16, List.cons_append, List.nil_append, env0, Nat.reduceAdd]
  have hlB := rowsB_length L
  have hfew := hL.few
  have hdt : ((rowsB L).drop 0).take 70656 = rowsB L := by rw [List.drop_zero, List.take_of_length_le (by omega)]
  refine .sr (.assign (.assign (.x (.move (.move ?_)))))
  refine .call (hc := Tryz.call48) (sp := fsRead (f := f) (p := p) (T := T) (at' := 0) (n := 70656) ho hT hpl hft hTi (by decide) (by decide)) (h := ?_)
  rintro _ _ ⟨u, rfl, rfl⟩
  rw [hdt]
  refine .fact (rowR_shape (el := 5) (size := 1) (v := u) (k := (rowsB L).length) (xs := bvs (rowsB L))) (fun ⟨A, cc, hu, hR, hc1, hc2, hlen⟩ => ?_)
  subst hu
  refine .move ?_
  refine .extract ?_
  refine .extract ?_
  refine .assign (.assign (.z (.seq (.sr (.move ?_)))))
  refine .nei ?_
  refine .z ?_
  refine .condF rfl (congrArg Value.bool (by first | (simp; done) | (simp; omega) | omega)) ?_
  refine .skip (.next (.seq (.sr (.move ?_))))
  refine .lenS ?_ sl33
  refine .rem ?_
  refine .nei ?_
  refine .move ?_
  refine .cast (d := 28) (u := .bool false) rfl (congrArg Value.bool (by first | (simp; done) | (simp; omega) | omega)) ?_
  refine .gT ?_
  refine .move ?_
  refine .gT ?_
  refine .lenS ?_ sl33
  refine .gT ?_
  refine .quo ?_
  refine .gT ?_
  refine .gtr ?_
  refine .pickF ?_
  refine .z ?_
  refine .condF rfl (congrArg Value.bool (by first | (simp; done) | (simp; omega) | omega)) ?_
  refine .skip (.next (.sr (.move (.move ?_))))
  refine .mkMap fun m36 => ?_
  refine .build ?_ (bdPr _ _ _)
  refine .box fun b38 => ?_
  refine .assign (.z (.seq (.sr (.move ?_))))
  refine .lenS ?_ sl33
  refine .quo ?_
  refine .cast (d := 41) (u := nI L.length) rfl (congrArg (Value.int .i64) (by omega)) ?_
  refine .move (.z (.block ?_))
  refine .loopA (σ := Nat × Array MapEntry × Nat × List (Int × Value)) (fun y => [(6, .slice A (rowsB L).length cc), (8, .pointer (some ⟨b38, 0, none⟩)), (41, nI L.length), (42, .int .i64 ((y.1 : Nat) : Int))]) (fun y => rowR 5 1 (.slice A (rowsB L).length cc) (rowsB L).length (bvs (rowsB L)) :: pt b38 (pO f path m36) :: pt m36 (.map y.2.1 y.2.2.1) :: FSR f p T :: F) (fun y => y.1 ≤ L.length ∧ MapIs intE y.2.1 y.2.2.1 y.2.2.2 ∧ PMap (L.take y.1) y.2.2.2) (fun y => L.length - y.1) (0, #[], 0, []) ⟨Nat.zero_le _, MapIs.empty _ _, PMap.nil⟩ ?_
  rintro y hy
  obtain ⟨k, es, c, kv⟩ := y
  obtain ⟨hk, hm, hpm⟩ := hy
  simp only at hk hm hpm ⊢
  refine .sr ?_
  refine .lss ?_
  refine .z (.seq ?_)
  refine .cond rfl (fun hb => ?_) (fun hb => ?_)
  · have hlt : k < L.length := by have h : (k : Int) < (L.length : Int) := of_decide_eq_true hb; omega
    rcases A with _ | ⟨ab, ao, asp⟩
    · exact absurd (congrArg List.length (show bvs (rowsB L) = [] from hR)) (by rw [bvs_length]; simp only [List.length_nil]; omega)
    have hsp : asp = none := hR.1
    subst hsp
    obtain ⟨r, hr⟩ : ∃ r, L[k] = r := ⟨_, rfl⟩
    have hro : PrdOk r := hr ▸ hL.each _ (List.getElem_mem hlt)
    have hdr := rowsB_drop hlt
    rw [hr] at hdr
    have hrl := rowB_length r
    obtain ⟨xs, hxs⟩ : ∃ xs, (rowsB L).drop (24 * k) = xs := ⟨_, rfl⟩
    have hxl : xs.length = (rowsB L).length - 24 * k := by rw [← hxs, List.length_drop]
    have hxR : Reads (rowR 5 1 (.slice (some ⟨ab, ao, none⟩) (rowsB L).length cc) (rowsB L).length (bvs (rowsB L))) (some ⟨ab, ao + 24 * k, none⟩) (bvs xs) := by rw [← hxs, bvs_drop]; exact hR.drop (24 * k)
    obtain ⟨g0, g1, g2⟩ := rowB_get hro
    have e0 : beNat (seg xs (8 * 0) 8 true) = r.1 := by rw [← hxs, hdr, seg_front (by omega)]; exact g0
    have e1 : beNat (seg xs (8 * 1) 8 true) = r.2.1 := by rw [← hxs, hdr, seg_front (by omega)]; exact g1
    have e2 : beNat (seg xs (8 * 2) 8 true) = r.2.2 := by rw [← hxs, hdr, seg_front (by omega)]; exact g2
    have hr1 := hro.1
    have hr2 := hro.2.1
    have hr3 := hro.2.2.1
    have hr4 := hro.2.2.2
    have hlk := lookP_take hL hlt
    rw [hr] at hlk
    refine .skip (.next (.seq (.block (.sr (.move (.assign (.x (.move (.move ?_)))))))))
    refine .mul ?_
    refine .slcL ?_ so33
    refine .cast (d := 48) (u := .slice (some ⟨ab, ao + 24 * k, none⟩) xs.length (cc - 24 * k)) rfl (by rw [if_neg (by omega), hxl, show (24 * ((k : Nat) : Int)).toNat = 24 * k from by omega, Nat.mul_one]) ?_
    refine .assign (.x (.move ?_))
    refine .call (hc := Tryz.call66) (sp := prGet (k := 0) hxR rfl (by omega) (by omega) e0 (by omega)) (h := ?_)
    rintro _ _ ⟨rfl, rfl⟩
    refine .move ?_
    refine .call (hc := Tryz.call66) (sp := prGet (k := 1) hxR rfl (by omega) (by omega) e1 (by omega)) (h := ?_)
    rintro _ _ ⟨rfl, rfl⟩
    refine .move ?_
    refine .call (hc := Tryz.call66) (sp := prGet (k := 2) hxR rfl (by omega) (by omega) e2 (by omega)) (h := ?_)
    rintro _ _ ⟨rfl, rfl⟩
    refine .move ?_
    refine .build ?_ (bdKn _ _ _)
    refine .alloc z121 fun b12 => ?_
    refine .assign ?_
    refine .stV ?_ agg121
    refine .z (.seq (.sr (.move ?_)))
    refine .nilCheck ?_
    refine .fa ?_ fo118_2
    refine .ld ?_ sc116
    refine .move ?_
    refine .lookOk (k := (r.1 : Int)) klF hm mp116 zv121 ?_
    refine .cast (d := 63) (u := .tuple #[.agg #[.int .i64 0, .int .i64 0, .int .i64 0], .bool false]) rfl (by rw [hpm.get, hlk]; rfl) ?_
    refine .move ?_
    refine .extract ?_
    refine .extract ?_
    refine .alloc z121 fun b13 => ?_
    refine .stV ?_ agg121
    refine .assign (.x (.move (.move ?_)))
    refine .gT ?_
    refine .move ?_
    refine .gT ?_
    refine .fa ?_ fo121_0
    refine .gT ?_
    refine .ld ?_ sc3
    refine .gT ?_
    refine .fa ?_ fo121_1
    refine .gT ?_
    refine .ld ?_ sc3
    refine .gT ?_
    refine .call (hc := Tryz.call67) (sp := prMay (a := (r.1 : Int)) (b := (r.2.1 : Int)) (c := (r.2.2 : Int)) ⟨by omega, by omega, by omega, by omega⟩) (h := ?_)
    rintro _ _ ⟨rfl, rfl⟩
    refine .gT ?_
    refine .not ?_
    refine .pickF ?_
    refine .z ?_
    refine .condF rfl rfl ?_
    refine .skip (.next ?_)
    refine .dr ([pt b38 (pO f path m36), pt b12 (.cells #[nI r.2.1, nI r.2.2, nI k] 121 (0, 0))]) [6] 7 mixed .autoJ ?_
    refine .tk 0 rfl .move ?_
    refine .tk 1 rfl .nilCheck ?_
    refine .tk 2 rfl (.fa fo118_2) ?_
    refine .tk 3 rfl (.ld sc116) ?_
    refine .tk 4 rfl .move ?_
    refine .tk 5 rfl (.ldA agg121) ?_
    refine .on 6 rfl fun hnp => ?_
    refine .upd (k := (r.1 : Int)) klF hm mp116 fun es2 c2 hm2 => ?_
    refine .nil (.wb hnp ?_)
    refine .fin ?_
    refine .blockNormal (.next (.region ?_))
    refine .add ?_
    refine .move (.nil ?_)
    have hacc := accP_take hL hlt
    rw [hr] at hacc
    have hpm2 := hpm.acc (hL.take k) (r := r) (by rw [hacc]; exact hL.take (k + 1))
    rw [hacc, hlk, show (none : Option Nat).getD (L.take k).length = k from by show (L.take k).length = k; rw [List.length_take]; omega] at hpm2
    refine .cast (d := 42) (u := .int .i64 ((k + 1 : Nat) : Int)) rfl (congrArg (Value.int .i64) (by omega)) ?_
    exact .back (k + 1, es2, c2, _) ⟨by show k + 1 ≤ L.length; omega, hm2, hpm2⟩ (by show L.length - (k + 1) < L.length - k; omega)
  · have hge : k = L.length := by have h : ¬ (k : Int) < (L.length : Int) := of_decide_eq_false hb; omega
    subst hge
    rw [List.take_length] at hpm
    refine .exit (.thenExit (.thenExit (.blockExit (?_))))
    refine .next (.sr (.move (.assign (.assign (.z ?_)))))
    refine .ret (?_)
    refine .shutR (PD.opens b38 f path L) (m36, es, c, kv) ⟨hm, hpm, hL⟩ ?_
    exact .ret2 (h1 := .tmp (t := 4) rfl) (h2 := .tmp (t := 5) rfl) ⟨_, ⟨b38, rfl, rfl⟩, Am.auto⟩
end Go.Proofs.YtdmjkjeoamiedaaGreatDoor
end
section
namespace Go.Proofs.YtdmjkjeoamiedaaGreatDoor
open Go
def pD (n ino : Nat) : Pl := ⟨n, ino, 246, 247, 248, 248 + (ino + 7) / 8, n - (248 + (ino + 7) / 8)⟩
theorem pD_is {n ino : Nat} (h1 : 1 ≤ ino) (h2 : ino ≤ 4096) (hn : 249 + (ino + 7) / 8 ≤ n) (hn2 : n ≤ 4000) : PlIs (pD n ino) := by
  refine ⟨?_, ?_, ?_, ?_, ?_, ?_, ?_, ?_, ?_, ?_, ?_⟩
  all_goals (simp only [pD]; try first | omega | (left; omega))
def wT (b : Bytes) : FT := fun i => if i = 0 then some (.dir [some ([119], 1)]) else if i = 1 then some (.file b) else none
theorem wT_ok (b : Bytes) : TOk (wT b) := by
  intro d sl h
  unfold wT at h
  split at h
  · injection h with h; injection h with h; subst h
    refine ⟨⟨fun q n i h => ?_, fun q r n i j h1 h2 => ?_⟩, by decide⟩
    · rcases q with _ | q
      · injection h with h; injection h with h; injection h with h1 h2; subst h1; subst h2; exact ⟨by decide, by decide⟩
      · simp at h
    · rcases q with _ | q
      · rcases r with _ | r
        · rfl
        · simp at h2
      · simp at h1
  · split at h
    · injection h with h; cases h
    · cases h
theorem wT_file (b : Bytes) : fileT (wT b) [47, 119] = (1, 1, b.length, 0) := rfl
theorem wT_1 (b : Bytes) : wT b 1 = some (.file b) := rfl
theorem wT_upd (b b' : Bytes) : updT (wT b) 1 (some (.file b')) = wT b' := by
  funext i
  unfold updT wT
  by_cases h : i = 1
  · subst h; rfl
  · rw [if_neg h]
    by_cases h0 : i = 0
    · rw [if_pos h0, if_pos h0]
    · rw [if_neg h0, if_neg h0, if_neg h, if_neg h]
theorem mkT_root : mkT rootT 0 [] [119] 1 (.file []) = wT [] := by
  funext i
  unfold mkT updT rootT wT
  by_cases h0 : i = 0
  · rw [if_pos h0, if_pos h0]; rfl
  · rw [if_neg h0, if_neg h0]
    by_cases h1 : i = 1
    · rw [if_pos h1, if_neg h0]
    · rw [if_neg h1, if_neg h0]
theorem tot_rootT (n : Nat) : tot (fmT rootT) n = 0 := by rw [fmT_root]; exact tot_root n
theorem has_64 : has 64 = 1 := rfl
theorem tot_wT (b : Bytes) {n : Nat} (h : 2 ≤ n) : tot (fmT (wT b)) n = 1 + has b.length := by
  obtain ⟨k, rfl⟩ : ∃ k, n = k + 2 := ⟨n - 2, by omega⟩
  clear h
  induction k with
  | zero =>
    show 0 + has 64 + has b.length = _
    rw [has_64]
  | succ k ih =>
    show tot (fmT (wT b)) (k + 2) + hasO (fmT (wT b) (k + 2)) = _
    rw [ih]
    have : fmT (wT b) (k + 2) = none := fmT_none (by unfold wT; rw [if_neg (by omega), if_neg (by omega)])
    rw [this]; rfl
theorem root_least {T : FT} (h : T 0 ≠ none) : ∀ j < 1, T j ≠ none := fun j hj => by rw [show j = 0 from by omega]; exact h
theorem p16_is : PlIs (pD 500 20) := pD_is (by decide) (by decide) (by decide) (by decide)
theorem prAccept16 {pr f : Nat} {L : List Prd} {r : Prd} (hL : POk L) (hr : PrdOk r) (hfu : lookP L (r.1 : Int) ≠ none ∨ L.length < 60) : Spec Tryz.prog 21 #[.pointer (some ⟨pr, 0, none⟩), nI r.1, nI r.2.1, nI r.2.2] [PD pr f [47, 119] L, FSR f (pD 500 20) (wT (rowsB L))] fun F v M => v = okV ∧ M = PD pr f [47, 119] (accP L r) :: FSR f (pD 500 20) (wT (rowsB (accP L r))) :: F := by
  have hl := rowsB_length L
  have hf := hL.few
  have := prAccept (pr := pr) (f := f) (i := 1) (p := pD 500 20) (T := wT (rowsB L)) (path := [47, 119]) (L := L) (r := r) p16_is.ok (wT_ok _) (by decide) (wT_file _) (wT_1 _) hr hfu (.inr (by decide)) (by
    rw [tot_wT _ (by decide)]
    have : (pD 500 20).dc = 249 := rfl
    omega)
  rwa [wT_upd] at this
theorem prOpen16 {f : Nat} {L : List Prd} (hL : POk L) : Spec Tryz.prog 16 #[.pointer (some ⟨f, 0, none⟩), sv [47, 119]] [FSR f (pD 500 20) (wT (rowsB L))] fun F v M => ∃ pr, v = .tuple #[.pointer (some ⟨pr, 0, none⟩), .int .i64 0] ∧ M = PD pr f [47, 119] L :: FSR f (pD 500 20) (wT (rowsB L)) :: F :=
  prOpen p16_is.ok (wT_ok _) (by decide) (wT_file _) (wT_1 _) hL
theorem prMake16 {f : Nat} : Spec Tryz.prog 65 #[.pointer (some ⟨f, 0, none⟩), sv [47, 119]] [FSR f (pD 500 20) rootT] fun F v M => v = okV ∧ M = FSR f (pD 500 20) (wT []) :: F := by
  refine Spec.intro Tryz.func65 rfl rfl fun B F => ?_
  simp only [Tryz.ntmps65, List.cons_append, List.nil_append, env0, Nat.reduceAdd]
  refine .sr (.assign (.x (.move (.move ?_))))
  refine .call (hc := Tryz.call17) (sp := fsCreate (f := f) (p := pD 500 20) (T := rootT) (path := [47, 119]) (d := 0) (i := 1) (nm := [119]) (sl := []) (x := .file []) p16_is.ok rootT_ok (by decide) (by decide) rfl rfl rfl (by decide) rfl (root_least (by decide)) rfl rfl (.inr (by decide)) (by rw [tot_rootT]; decide)) (h := ?_)
  rintro _ _ ⟨rfl, rfl⟩
  rw [mkT_root]
  refine .assign (.z ?_)
  refine .ret (?_)
  exact .ret1 (h1 := .tmp (t := 4) rfl) ⟨_, ⟨rfl, rfl⟩, Am.auto⟩
theorem l16Fresh : Spec Tryz.prog 14 #[] [] fun F v M => ∃ d f pr, v = .tuple #[.pointer (some ⟨d, 0, none⟩), .pointer (some ⟨f, 0, none⟩), .pointer (some ⟨pr, 0, none⟩), .bool true] ∧ M = PD pr f [47, 119] ([]) :: FSR f (pD 500 20) (wT (rowsB ([]))) :: F := by
  refine Spec.intro Tryz.func14 rfl rfl fun B F => ?_
  simp only [Tryz.ntmps14, List.cons_append, List.nil_append, env0, Nat.reduceAdd]
  refine .sr (.assign (.assign (.assign (.assign (.x ?_)))))
  refine .call (hc := Tryz.call62) (sp := devNew (n := 500) (by decide) (by decide)) (h := ?_)
  rintro _ _ ⟨d, rfl, rfl⟩
  refine .move ?_
  refine .extract ?_
  refine .extract ?_
  refine .assign (.assign (.z (.seq (.sr (.move ?_)))))
  refine .nei ?_
  refine .move ?_
  refine .gT ?_
  refine .move ?_
  refine .gT ?_
  refine .eqNil ?_ ptr22
  refine .pickF ?_
  refine .move ?_
  refine .gT ?_
  refine .move ?_
  refine .gT ?_
  refine .call (hc := Tryz.call63) (sp := fsMkfs p16_is) (h := ?_)
  rintro _ _ ⟨J, rfl, hJ, rfl⟩
  refine .gT ?_
  refine .nei ?_
  refine .pickF ?_
  refine .z ?_
  refine .condF rfl (congrArg Value.bool (by first | (simp; done) | (simp; omega) | omega)) ?_
  refine .skip (.next (.sr (.move ?_)))
  refine .call (hc := Tryz.call64) (sp := fsMountNew p16_is hJ) (h := ?_)
  rintro _ _ ⟨f, rfl, rfl⟩
  refine .move ?_
  refine .extract ?_
  refine .extract ?_
  refine .assign (.assign (.z (.seq (.sr (.move ?_)))))
  refine .nei ?_
  refine .move ?_
  refine .gT ?_
  refine .move ?_
  refine .gT ?_
  refine .eqNil ?_ ptr23
  refine .pickF ?_
  refine .move ?_
  refine .gT ?_
  refine .move ?_
  refine .gT ?_
  refine .call (hc := Tryz.call65) (sp := prMake16 (f := f)) (h := ?_)
  rintro _ _ ⟨rfl, rfl⟩
  refine .gT ?_
  refine .nei ?_
  refine .pickF ?_
  refine .z ?_
  refine .condF rfl (congrArg Value.bool (by first | (simp; done) | (simp; omega) | omega)) ?_
  refine .skip (.next (.sr (.move ?_)))
  refine .call (hc := Tryz.call16) (sp := prOpen16 (f := f) POk.nil) (h := ?_)
  rintro _ _ ⟨pr, rfl, rfl⟩
  refine .move ?_
  refine .extract ?_
  refine .extract ?_
  refine .assign (.assign (.x (.move (.move (.move (.move ?_))))))
  refine .eqi ?_
  refine .move ?_
  refine .gT ?_
  refine .move ?_
  refine .gT ?_
  refine .neNil ?_ ptr24
  refine .pickT ?_
  refine .assign (.assign (.assign (.assign (.z ?_))))
  refine .ret (?_)
  exact .ret4 (h1 := .tmp (t := 0) rfl) (h2 := .tmp (t := 1) rfl) (h3 := .tmp (t := 2) rfl) (h4 := .tmp (t := 3) rfl) ⟨_, ⟨d, f, pr, rfl, rfl⟩, Am.auto⟩
theorem l16Awake : Spec Tryz.prog 15 #[] [] fun F v M => v = .bool true ∧ M = F := by
  refine Spec.intro Tryz.func15 rfl rfl fun B F => ?_
  simp only [Tryz.ntmps15, List.cons_append, List.nil_append, env0, Nat.reduceAdd]
  refine .sr (.assign (.x ?_))
  refine .call (hc := Tryz.call14) (sp := l16Fresh) (h := ?_)
  rintro _ _ ⟨d, f, pr, rfl, rfl⟩
  refine .move ?_
  refine .extract ?_
  refine .extract ?_
  refine .extract ?_
  refine .extract ?_
  refine .assign (.assign (.assign (.assign (.z (.seq (.sr (.move ?_)))))))
  refine .not ?_
  refine .move ?_
  refine .gT ?_
  refine .move ?_
  refine .gT ?_
  refine .call (hc := Tryz.call21) (sp := prAccept16 (L := []) (r := (7, 0, 100)) POk.nil ⟨by decide, by decide, by decide, by decide⟩ (.inr (by decide))) (h := ?_)
  rintro _ _ ⟨rfl, rfl⟩
  refine .gT ?_
  refine .nei ?_
  refine .pickF ?_
  refine .z ?_
  refine .condF rfl (congrArg Value.bool (by first | (simp; done) | (simp; omega) | omega)) ?_
  refine .skip (.next (.sr (.move ?_)))
  refine .call (hc := Tryz.call20) (sp := prCheck (pr := pr) (f := f) (path := [47, 119]) (L := [(7, 0, 100)]) (id := 7) (seq := 0) (by decide)) (h := ?_)
  rintro _ _ ⟨rfl, rfl⟩
  rw [show chkP [(7, 0, 100)] 7 0 = (100, true, 0) from rfl]
  refine .move ?_
  refine .extract ?_
  refine .extract ?_
  refine .extract ?_
  refine .assign (.assign (.assign (.x (.move ?_))))
  refine .call (hc := Tryz.call20) (sp := prCheck (pr := pr) (f := f) (path := [47, 119]) (L := [(7, 0, 100)]) (id := 7) (seq := 2) (by decide)) (h := ?_)
  rintro _ _ ⟨rfl, rfl⟩
  rw [show chkP [(7, 0, 100)] 7 2 = (0, false, 11) from rfl]
  refine .move ?_
  refine .extract ?_
  refine .extract ?_
  refine .extract ?_
  refine .assign (.assign (.assign (.x (.move ?_))))
  refine .call (hc := Tryz.call20) (sp := prCheck (pr := pr) (f := f) (path := [47, 119]) (L := [(7, 0, 100)]) (id := 8) (seq := 1) (by decide)) (h := ?_)
  rintro _ _ ⟨rfl, rfl⟩
  rw [show chkP [(7, 0, 100)] 8 1 = (0, false, 11) from rfl]
  refine .move ?_
  refine .extract ?_
  refine .extract ?_
  refine .extract ?_
  refine .assign (.assign (.assign (.x (.move ?_))))
  refine .eqi ?_
  refine .move ?_
  refine .gT ?_
  refine .move ?_
  refine .pickT ?_
  refine .move ?_
  refine .gT ?_
  refine .move ?_
  refine .gT ?_
  refine .eqi ?_
  refine .pickT ?_
  refine .move ?_
  refine .gT ?_
  refine .move ?_
  refine .gT ?_
  refine .eqi ?_
  refine .pickT ?_
  refine .move ?_
  refine .gT ?_
  refine .move ?_
  refine .gT ?_
  refine .eqi ?_
  refine .pickT ?_
  refine .assign (.z ?_)
  refine .ret (?_)
  exact .ret1 (h1 := .tmp (t := 0) rfl) ⟨_, ⟨rfl, rfl⟩, Am.auto⟩
end Go.Proofs.YtdmjkjeoamiedaaGreatDoor
end
section
namespace Go.Proofs.YtdmjkjeoamiedaaGreatDoor
open Go
theorem fo44_0 : fieldOk Tryz.prog 44 0 0 = true := by kernel_rfl
theorem sc42 : scalarOk Tryz.prog 42 = true := by kernel_rfl
theorem sl42 : Tryz.prog.underlying 42 = some (.slice 138) := by kernel_rfl
theorem so42 : sliceOk Tryz.prog 42 138 3 24 = true := by kernel_rfl
theorem fo138_0 : fieldOk Tryz.prog 138 0 0 = true := by kernel_rfl
theorem fo138_1 : fieldOk Tryz.prog 138 1 1 = true := by kernel_rfl
theorem fo138_2 : fieldOk Tryz.prog 138 2 2 = true := by kernel_rfl
theorem z138 : zeroOf Tryz.prog 138 = some (#[.int .i64 0, .int .i64 0, .int .i64 0]) := by kernel_rfl
theorem agg138 : aggOk Tryz.prog 138 3 = true := by kernel_rfl
theorem sl40 : Tryz.prog.underlying 40 = some (.slice 46) := by kernel_rfl
theorem so40 : sliceOk Tryz.prog 40 46 4 32 = true := by kernel_rfl
theorem z46 : zeroOf Tryz.prog 46 = some (#[.int .i64 0, .int .i64 0, .int .i64 0, .int .i64 0]) := by kernel_rfl
theorem agg46 : aggOk Tryz.prog 46 4 = true := by kernel_rfl
theorem fo46_0 : fieldOk Tryz.prog 46 0 0 = true := by kernel_rfl
theorem fo46_1 : fieldOk Tryz.prog 46 1 1 = true := by kernel_rfl
theorem fo46_2 : fieldOk Tryz.prog 46 2 2 = true := by kernel_rfl
theorem bk4 : boolOk Tryz.prog 4 = true := by kernel_rfl
theorem fo46_3 : fieldOk Tryz.prog 46 3 3 = true := by kernel_rfl
theorem rowR_open {el size n c g : Nat} {xs : List Value} : Opens (rowR el size (.slice (some ⟨g, 0, none⟩) n c) n xs) (fun cur : Array Value => xs.length = n * size ∧ n ≤ c ∧ c ≤ maxLen ∧ cur.size = c * size ∧ cur.toList.take (n * size) = xs) (fun cur => [pt g (.cells cur el (0, 0))]) := by
  refine ⟨fun k hk => ?_, fun cur hp k hk => ?_⟩
  · unfold rowR at hk
    obtain ⟨h1, ⟨h, _⟩ | ⟨g', cap, cur, hv, hh, h2, h3, h4, h5⟩⟩ := hk
    · cases h
    · injection hv with e1 e2 e3
      injection e1 with e1
      injection e1 with e1 _ _
      subst e1; subst e3
      refine ⟨cur, ⟨h1, h2, h3, h4, h5⟩, ?_⟩
      unfold star
      exact ⟨[k], by unfold pt; exact hh, Sub.refl _, by simp, trivial⟩
  · unfold star at hk
    obtain ⟨ks, hk⟩ := hk
    obtain ⟨h1, h2, h3, h4, h5⟩ := hp
    unfold rowR
    match ks, hk with
    | k1 :: _, hk => exact ⟨h1, .inr ⟨g, c, cur, rfl, hk.2.1 _ _ (by have h0 := hk.1; unfold pt at h0; exact h0), h2, h3, h4, h5⟩⟩
theorem rowR_head {el size k : Nat} {v : Value} {xs : List Value} : ∀ h, rowR el size v k xs h → (v = .slice none 0 0 ∧ k = 0) ∨ ∃ g cap, v = .slice (some ⟨g, 0, none⟩) k cap := by
  intro h hh
  unfold rowR at hh
  obtain ⟨_, h1 | ⟨g, cap, cur, hv, _⟩⟩ := hh
  · exact .inl h1
  · exact .inr ⟨g, cap, hv⟩
theorem take_mid {α : Type} {A us : List α} {off m : Nat} (h1 : off + us.length ≤ m) (h2 : m ≤ A.length) : (A.take off ++ us ++ A.drop (off + us.length)).take m = (A.take m).take off ++ us ++ (A.take m).drop (off + us.length) := by
  have h3 : (A.take off).length = off := by rw [List.length_take]; omega
  rw [List.take_append, List.take_of_length_le (by rw [List.length_append, h3]; omega), List.length_append, h3, List.take_take, Nat.min_eq_left (by omega), List.drop_take]
theorem WL.stRow {P : Program} {B : Base} {n : Fr} {Q : Exit → Act → World → Prop} {e : Env} {L M : List HP} {ops : Array Oper} {l : List Oper} {ty : TypeId} {pos : String} {af : Array Edge} {x y : Operand} {t k g el size num c off : Nat} {xs : List Value} {us : Array Value} {s : Value} (hsv : s = .slice (some ⟨g, 0, none⟩) num c)
    (h : WL P B n ops l Q e (rowR el size s num (xs.take off ++ us.toList ++ xs.drop (off + us.toList.length)) :: M)) (hag : aggOk P t k = true) (hk : us.size = k) (hk0 : us.toList ≠ []) (hsing : ∀ v ∈ us.toList, Value.single v = true) (hle : off + k ≤ xs.length)
    (r : Rem L (rowR el size s num xs) M) (hx : evo e x = some (.pointer (some ⟨g, off, none⟩)) := by rfl) (hy : evo e y = some (.agg us) := by rfl) : WL P B n ops (⟨none, .store t x y, ty, pos, af, none⟩ :: l) Q e L := by
  subst hsv
  refine WL.openR rowR_open (fun cur hc => ?_) r
  obtain ⟨h1, h2, h3, h4, h5⟩ := hc
  have hul : us.toList.length = k := by simpa using hk
  have hnc := Nat.mul_le_mul_right size h2
  have hcl : cur.toList.length = cur.size := by simp
  refine WL.stA (cs := cur) (off := off) ?_ hag hk hk0 hsing (by omega) rfl hx hy .here
  refine WL.shutR rowR_open _ ⟨?_, h2, h3, ?_, ?_⟩ h
  · rw [← h5, List.length_append, List.length_append, List.length_take, List.length_drop, List.length_take]; omega
  · rw [List.size_toArray, List.length_append, List.length_append, List.length_take, List.length_drop]; omega
  · show (cur.toList.take off ++ us.toList ++ cur.toList.drop (off + us.toList.length)).take (num * size) = _
    rw [take_mid (by omega) (by omega), h5]
theorem bdPd (a b c : Int) : BuildOk Tryz.prog 138 [(0, .int .i64 a), (1, .int .i64 b), (2, .int .i64 c)] #[.int .i64 a, .int .i64 b, .int .i64 c] := fun w => by kernel_rfl
theorem bsPd (a b c : Int) : BuildSOk Tryz.prog 42 1 [(0, .agg #[.int .i64 a, .int .i64 b, .int .i64 c])] 138 #[.int .i64 a, .int .i64 b, .int .i64 c] := fun w => by kernel_rfl
theorem bdPs0 : BuildOk Tryz.prog 44 [] #[.slice none 0 0] := fun w => by kernel_rfl
def prV (r : Prd) : List Value := [nI r.1, nI r.2.1, nI r.2.2]
theorem prV_length : ∀ L : List Prd, (L.flatMap prV).length = L.length * 3
  | [] => rfl
  | r :: L => by rw [List.flatMap_cons, List.length_append, prV_length L, List.length_cons]; show 3 + _ = _; omega
theorem prV_get : ∀ {L : List Prd} {q : Nat} (h : q < L.length), (L.flatMap prV)[q * 3]? = some (nI L[q].1) ∧ (L.flatMap prV)[q * 3 + 1]? = some (nI L[q].2.1) ∧ (L.flatMap prV)[q * 3 + 2]? = some (nI L[q].2.2)
  | r :: L, 0, h => ⟨rfl, rfl, rfl⟩
  | r :: L, q + 1, h => by
    have ih := prV_get (L := L) (q := q) (Nat.lt_of_succ_lt_succ h)
    have e : ∀ j, ((r :: L).flatMap prV)[(q + 1) * 3 + j]? = (L.flatMap prV)[q * 3 + j]? := fun j => by
      rw [List.flatMap_cons, List.getElem?_append_right (by show 3 ≤ _; omega)]
      congr 1
      show (q + 1) * 3 + j - 3 = _
      omega
    exact ⟨(e 0).trans ih.1, (e 1).trans ih.2.1, (e 2).trans ih.2.2⟩
theorem prV_set {L : List Prd} {q : Nat} (h : q < L.length) (r : Prd) : (L.flatMap prV).take (q * 3) ++ prV r ++ (L.flatMap prV).drop (q * 3 + 3) = (setP L q r).flatMap prV := by
  have h1 : L.flatMap prV = (L.take q).flatMap prV ++ (prV L[q] ++ (L.drop (q + 1)).flatMap prV) := by
    conv => lhs; rw [← List.take_append_drop q L, List.drop_eq_getElem_cons h]
    rw [List.flatMap_append, List.flatMap_cons]
  have h2 : ((L.take q).flatMap prV).length = q * 3 := by rw [prV_length, List.length_take]; omega
  have h3 : (L.flatMap prV).take (q * 3) = (L.take q).flatMap prV := by rw [h1, List.take_left' h2]
  have h4 : (L.flatMap prV).drop (q * 3 + 3) = (L.drop (q + 1)).flatMap prV := by rw [h1, ← List.append_assoc, List.drop_left' (by rw [List.length_append, h2]; rfl)]
  unfold setP
  rw [h3, h4, List.flatMap_append, List.flatMap_cons, List.append_assoc]
theorem prV_end (L : List Prd) (r : Prd) : L.flatMap prV ++ prV r = (setP L L.length r).flatMap prV := by
  unfold setP
  rw [List.take_length, List.drop_eq_nil_of_le (by omega), List.flatMap_append, List.flatMap_cons]
  simp
def RPR (m : Nat) (L : List Prd) : HP := fun h => ∃ u : Value, True ∧ star [pt m (.cells #[u] 44 (0, 0)), rowR 138 3 u L.length (L.flatMap prV)] h
theorem RPR.opens (m : Nat) (L : List Prd) : Opens (RPR m L) (fun _ : Value => True) (fun u => [pt m (.cells #[u] 44 (0, 0)), rowR 138 3 u L.length (L.flatMap prV)]) := ⟨fun h hh => hh, fun x hp h hh => ⟨x, hp, hh⟩⟩
attribute [irreducible] RPR
def findV (L : List Prd) (id : Int) : Int := match lookP L id with | some q => (q : Int) | none => -1
theorem rpFind {m : Nat} {L : List Prd} {A : Option Addr} {cc : Nat} {id : Int} (hL : POk L) (hR : Reads (rowR 138 3 (.slice A L.length cc) L.length (L.flatMap prV)) A (L.flatMap prV)) : Spec Tryz.prog 76 #[.pointer (some ⟨m, 0, none⟩), .int .i64 id] [pt m (.cells #[.slice A L.length cc] 44 (0, 0)), rowR 138 3 (.slice A L.length cc) L.length (L.flatMap prV)] fun F v M => v = .int .i64 (findV L id) ∧ M = pt m (.cells #[.slice A L.length cc] 44 (0, 0)) :: rowR 138 3 (.slice A L.length cc) L.length (L.flatMap prV) :: F := by
  refine Spec.intro Tryz.func76 rfl rfl fun B F => ?_
  simp only [Tryz.ntmps76, List.cons_append, List.nil_append, env0, Nat.reduceAdd]
  have hfew := hL.few
  refine .sr (.assign (.z (.seq (.sr (.assign (.z (.block ?_)))))))
  refine .loopA (σ := Nat) (fun k => [(0, .pointer (some ⟨m, 0, none⟩)), (1, .int .i64 id), (5, .int .i64 ((k : Nat) : Int))]) (fun _ => [pt m (.cells #[.slice A L.length cc] 44 (0, 0)), rowR 138 3 (.slice A L.length cc) L.length (L.flatMap prV)] ++ F) (fun k => k ≤ L.length ∧ ∀ j, j < k → ∀ h : j < L.length, (L[j].1 : Int) ≠ id) (fun k => L.length - k) 0 ⟨Nat.zero_le _, fun j hj => absurd hj (Nat.not_lt_zero _)⟩ ?_
  rintro k hk
  refine .seq (.sr (.move (.move ?_)))
  refine .nilCheck ?_
  refine .fa ?_ fo44_0
  refine .ld ?_ sc42
  refine .lenS ?_ sl42
  refine .lss ?_
  refine .z ?_
  refine .cond rfl (fun hb => ?_) (fun hb => ?_)
  · have hlt : k < L.length := by have h : (k : Int) < (L.length : Int) := of_decide_eq_true hb; omega
    rcases A with _ | ⟨ab, ao, asp⟩
    · exact absurd (congrArg List.length (show L.flatMap prV = [] from hR)) (by rw [prV_length]; simp only [List.length_nil]; omega)
    have hsp : asp = none := hR.1
    subst hsp
    have hg : (L.flatMap prV)[((k : Nat) : Int).toNat * 3 + 0]? = some (nI L[k].1) := (prV_get hlt).1
    by_cases he : (L[k].1 : Int) = id
    · have hf : findV L id = (k : Int) := by unfold findV; rw [← he, hL.look hlt]
      refine .skip (.next (.seq (.block (.sr (.move ?_)))))
      refine .nilCheck ?_
      refine .fa ?_ fo44_0
      refine .ld ?_ sc42
      refine .move ?_
      refine .idx ?_ so42
      refine .fa ?_ fo138_0
      refine .ldR ?_ sc3 hR hg
      refine .move ?_
      refine .eqi ?_
      refine .z ?_
      refine .condT rfl (congrArg Value.bool (by first | (simp; done) | (simp; omega) | omega)) ?_
      refine .sr (.move (.assign (.z ?_)))
      refine .ret (.blockRet (.thenRet (.thenRet (.blockRet (.thenRet (?_))))))
      exact .ret1 (h1 := .tmp (t := 4) rfl) ⟨_, ⟨by rw [hf], rfl⟩, Am.auto⟩
    · refine .skip (.next (.seq (.block (.sr (.move ?_)))))
      refine .nilCheck ?_
      refine .fa ?_ fo44_0
      refine .ld ?_ sc42
      refine .move ?_
      refine .idx ?_ so42
      refine .fa ?_ fo138_0
      refine .ldR ?_ sc3 hR hg
      refine .move ?_
      refine .eqi ?_
      refine .z ?_
      refine .condF rfl (congrArg Value.bool (by first | (simp; done) | (simp; omega) | omega)) ?_
      refine .skip (.blockNormal (.next (.region (.move ?_))))
      refine .add ?_
      refine .assign (.nil ?_)
      refine .cast (d := 5) (u := .int .i64 ((k + 1 : Nat) : Int)) rfl (congrArg (Value.int .i64) (by omega)) ?_
      exact .back (k + 1) ⟨by show k + 1 ≤ L.length; omega, fun j hj hjl => (Nat.lt_or_ge j k).elim (fun h => hk.2 j h hjl) (fun h => by have h2 : j = k := (by omega); subst h2; exact he)⟩ (by show L.length - (k + 1) < L.length - k; omega)
  · have hge : k = L.length := by have h : ¬ (k : Int) < (L.length : Int) := of_decide_eq_false hb; omega
    have hf : findV L id = -1 := by
      unfold findV
      cases hl : lookP L id with
      | none => rfl
      | some q =>
        obtain ⟨h1, h2⟩ := lookP_some hl
        exact absurd h2 (hk.2 q (by omega) h1)
    refine .exit (.thenExit (.thenExit (.blockExit (?_))))
    refine .next (.sr (.assign (.z ?_)))
    refine .ret (?_)
    exact .ret1 (h1 := .tmp (t := 4) rfl) ⟨_, ⟨by rw [hf], rfl⟩, Am.auto⟩
theorem rpCheck {m : Nat} {L : List Prd} {id seq : Int} (hL : POk L) (hs : seq ≤ 9223372036854775807) : Spec Tryz.prog 23 #[.pointer (some ⟨m, 0, none⟩), .int .i64 id, .int .i64 seq] [RPR m L] fun F v M => v = .tuple #[.int .i64 (chkP L id seq).1, .bool (chkP L id seq).2.1, .int .i64 (chkP L id seq).2.2] ∧ M = RPR m L :: F := by
  refine Spec.intro Tryz.func23 rfl rfl fun B F => ?_
  simp only [Tryz.ntmps23, List.cons_append, List.nil_append, env0, Nat.reduceAdd]
  refine .openR (RPR.opens m L) fun u _ => ?_
  simp only [List.cons_append, List.nil_append]
  refine .fact (rowR_shape (el := 138) (size := 3) (v := u) (k := L.length) (xs := L.flatMap prV)) (fun ⟨A, cc, hu, hR, hc1, hc2, hlen⟩ => ?_)
  subst hu
  have hfew := hL.few
  by_cases hi : id < 1
  · have hch : chkP L id seq = (0, false, 1) := by unfold chkP; rw [if_pos (.inl hi)]
    refine .sr (.assign (.assign (.assign (.z (.seq (.sr (.move ?_)))))))
    refine .lss ?_
    refine .move ?_
    refine .cast (d := 12) (u := .bool true) rfl (congrArg Value.bool (by first | (simp; done) | (simp; omega) | omega)) ?_
    refine .gF ?_
    refine .gF ?_
    refine .pickT ?_
    refine .z ?_
    refine .condT rfl rfl ?_
    refine .sr (.assign (.assign (.assign (.z ?_))))
    refine .ret (.thenRet (?_))
    refine .shutR (RPR.opens m L) (.slice A L.length cc) trivial ?_
    exact .ret3 (h1 := .tmp (t := 6) rfl) (h2 := .tmp (t := 7) rfl) (h3 := .tmp (t := 8) rfl) ⟨_, ⟨by rw [hch]; try rfl, rfl⟩, Am.auto⟩
  · by_cases hq0 : seq < 0
    · have hch : chkP L id seq = (0, false, 1) := by unfold chkP; rw [if_pos (.inr hq0)]
      refine .sr (.assign (.assign (.assign (.z (.seq (.sr (.move ?_)))))))
      refine .lss ?_
      refine .move ?_
      refine .cast (d := 12) (u := .bool false) rfl (congrArg Value.bool (by first | (simp; done) | (simp; omega) | omega)) ?_
      refine .gT ?_
      refine .move ?_
      refine .gT ?_
      refine .lss ?_
      refine .pickF ?_
      refine .z ?_
      refine .condT rfl (congrArg Value.bool (by first | (simp; done) | (simp; omega) | omega)) ?_
      refine .sr (.assign (.assign (.assign (.z ?_))))
      refine .ret (.thenRet (?_))
      refine .shutR (RPR.opens m L) (.slice A L.length cc) trivial ?_
      exact .ret3 (h1 := .tmp (t := 6) rfl) (h2 := .tmp (t := 7) rfl) (h3 := .tmp (t := 8) rfl) ⟨_, ⟨by rw [hch]; try rfl, rfl⟩, Am.auto⟩
    · have hno : ¬ (id < 1 ∨ seq < 0) := by omega
      cases hl : lookP L id with
      | none =>
        have hfv : findV L id = -1 := by unfold findV; rw [hl]
        by_cases h60 : 60 ≤ L.length
        · have hch : chkP L id seq = (0, false, 2) := by unfold chkP; rw [if_neg hno, hl]; simp only; rw [if_pos h60]
          refine .sr (.assign (.assign (.assign (.z (.seq (.sr (.move ?_)))))))
          refine .lss ?_
          refine .move ?_
          refine .cast (d := 12) (u := .bool false) rfl (congrArg Value.bool (by first | (simp; done) | (simp; omega) | omega)) ?_
          refine .gT ?_
          refine .move ?_
          refine .gT ?_
          refine .lss ?_
          refine .pickF ?_
          refine .z ?_
          refine .condF rfl (congrArg Value.bool (by first | (simp; done) | (simp; omega) | omega)) ?_
          refine .skip (.next (.sr (.move (.move ?_))))
          refine .call (hc := Tryz.call76) (sp := rpFind (m := m) (L := L) (A := A) (cc := cc) (id := id) hL hR) (h := ?_)
          rintro _ _ ⟨rfl, rfl⟩
          rw [hfv]
          refine .assign (.z (.seq (.sr (.move ?_))))
          refine .lss ?_
          refine .z ?_
          refine .condT rfl (congrArg Value.bool (by first | (simp; done) | (simp; omega) | omega)) ?_
          refine .seq (.sr (.move ?_))
          refine .nilCheck ?_
          refine .fa ?_ fo44_0
          refine .ld ?_ sc42
          refine .lenS ?_ sl42
          refine .geq ?_
          refine .z ?_
          refine .condT rfl (congrArg Value.bool (by first | (simp; done) | (simp; omega) | omega)) ?_
          refine .sr (.assign (.assign (.assign (.z ?_))))
          refine .ret (.thenRet (.thenRet (?_)))
          refine .shutR (RPR.opens m L) (.slice A L.length cc) trivial ?_
          exact .ret3 (h1 := .tmp (t := 6) rfl) (h2 := .tmp (t := 7) rfl) (h3 := .tmp (t := 8) rfl) ⟨_, ⟨by rw [hch]; try rfl, rfl⟩, Am.auto⟩
        · by_cases hs0 : seq = 0
          · have hch : chkP L id seq = (0, false, 0) := by unfold chkP; rw [if_neg hno, hl]; simp only; rw [if_neg h60, if_pos hs0]
            refine .sr (.assign (.assign (.assign (.z (.seq (.sr (.move ?_)))))))
            refine .lss ?_
            refine .move ?_
            refine .cast (d := 12) (u := .bool false) rfl (congrArg Value.bool (by first | (simp; done) | (simp; omega) | omega)) ?_
            refine .gT ?_
            refine .move ?_
            refine .gT ?_
            refine .lss ?_
            refine .pickF ?_
            refine .z ?_
            refine .condF rfl (congrArg Value.bool (by first | (simp; done) | (simp; omega) | omega)) ?_
            refine .skip (.next (.sr (.move (.move ?_))))
            refine .call (hc := Tryz.call76) (sp := rpFind (m := m) (L := L) (A := A) (cc := cc) (id := id) hL hR) (h := ?_)
            rintro _ _ ⟨rfl, rfl⟩
            rw [hfv]
            refine .assign (.z (.seq (.sr (.move ?_))))
            refine .lss ?_
            refine .z ?_
            refine .condT rfl (congrArg Value.bool (by first | (simp; done) | (simp; omega) | omega)) ?_
            refine .seq (.sr (.move ?_))
            refine .nilCheck ?_
            refine .fa ?_ fo44_0
            refine .ld ?_ sc42
            refine .lenS ?_ sl42
            refine .geq ?_
            refine .z ?_
            refine .condF rfl (congrArg Value.bool (by first | (simp; done) | (simp; omega) | omega)) ?_
            refine .skip (.next (.seq (.sr (.move ?_))))
            refine .nei ?_
            refine .z ?_
            refine .condF rfl (congrArg Value.bool (by first | (simp; done) | (simp; omega) | omega)) ?_
            refine .skip (.next (.sr (.assign (.assign (.assign (.z ?_))))))
            refine .ret (.thenRet (?_))
            refine .shutR (RPR.opens m L) (.slice A L.length cc) trivial ?_
            exact .ret3 (h1 := .tmp (t := 6) rfl) (h2 := .tmp (t := 7) rfl) (h3 := .tmp (t := 8) rfl) ⟨_, ⟨by rw [hch]; try rfl, rfl⟩, Am.auto⟩
          · have hch : chkP L id seq = (0, false, 11) := by unfold chkP; rw [if_neg hno, hl]; simp only; rw [if_neg h60, if_neg hs0]
            refine .sr (.assign (.assign (.assign (.z (.seq (.sr (.move ?_)))))))
            refine .lss ?_
            refine .move ?_
            refine .cast (d := 12) (u := .bool false) rfl (congrArg Value.bool (by first | (simp; done) | (simp; omega) | omega)) ?_
            refine .gT ?_
            refine .move ?_
            refine .gT ?_
            refine .lss ?_
            refine .pickF ?_
            refine .z ?_
            refine .condF rfl (congrArg Value.bool (by first | (simp; done) | (simp; omega) | omega)) ?_
            refine .skip (.next (.sr (.move (.move ?_))))
            refine .call (hc := Tryz.call76) (sp := rpFind (m := m) (L := L) (A := A) (cc := cc) (id := id) hL hR) (h := ?_)
            rintro _ _ ⟨rfl, rfl⟩
            rw [hfv]
            refine .assign (.z (.seq (.sr (.move ?_))))
            refine .lss ?_
            refine .z ?_
            refine .condT rfl (congrArg Value.bool (by first | (simp; done) | (simp; omega) | omega)) ?_
            refine .seq (.sr (.move ?_))
            refine .nilCheck ?_
            refine .fa ?_ fo44_0
            refine .ld ?_ sc42
            refine .lenS ?_ sl42
            refine .geq ?_
            refine .z ?_
            refine .condF rfl (congrArg Value.bool (by first | (simp; done) | (simp; omega) | omega)) ?_
            refine .skip (.next (.seq (.sr (.move ?_))))
            refine .nei ?_
            refine .z ?_
            refine .condT rfl (congrArg Value.bool (by first | (simp; done) | (simp; omega) | omega)) ?_
            refine .sr (.assign (.assign (.assign (.z ?_))))
            refine .ret (.thenRet (.thenRet (?_)))
            refine .shutR (RPR.opens m L) (.slice A L.length cc) trivial ?_
            exact .ret3 (h1 := .tmp (t := 6) rfl) (h2 := .tmp (t := 7) rfl) (h3 := .tmp (t := 8) rfl) ⟨_, ⟨by rw [hch]; try rfl, rfl⟩, Am.auto⟩
      | some q =>
        have hfv : findV L id = (q : Int) := by unfold findV; rw [hl]
        obtain ⟨hql, _⟩ := lookP_some hl
        have hrd : L.getD q (0, 0, 0) = L[q] := by rw [List.getD_eq_getElem?_getD, List.getElem?_eq_getElem hql]; rfl
        rcases A with _ | ⟨ab, ao, asp⟩
        · exact absurd (congrArg List.length (show L.flatMap prV = [] from hR)) (by rw [prV_length]; simp only [List.length_nil]; omega)
        have hsp : asp = none := hR.1
        subst hsp
        have hg1 : (L.flatMap prV)[((q : Nat) : Int).toNat * 3 + 1]? = some (nI L[q].2.1) := (prV_get hql).2.1
        have hg2 : (L.flatMap prV)[((q : Nat) : Int).toNat * 3 + 2]? = some (nI L[q].2.2) := (prV_get hql).2.2
        obtain ⟨r, hr⟩ : ∃ r, L[q] = r := ⟨_, rfl⟩
        rw [hr] at hg1 hg2 hrd
        by_cases hs0 : seq = (r.2.1 : Int)
        · have hch : chkP L id seq = ((r.2.2 : Int), true, 0) := by unfold chkP; rw [if_neg hno, hl]; simp only [hrd]; rw [if_pos hs0]
          refine .sr (.assign (.assign (.assign (.z (.seq (.sr (.move ?_)))))))
          refine .lss ?_
          refine .move ?_
          refine .cast (d := 12) (u := .bool false) rfl (congrArg Value.bool (by first | (simp; done) | (simp; omega) | omega)) ?_
          refine .gT ?_
          refine .move ?_
          refine .gT ?_
          refine .lss ?_
          refine .pickF ?_
          refine .z ?_
          refine .condF rfl (congrArg Value.bool (by first | (simp; done) | (simp; omega) | omega)) ?_
          refine .skip (.next (.sr (.move (.move ?_))))
          refine .call (hc := Tryz.call76) (sp := rpFind (m := m) (L := L) (A := some ⟨ab, ao, none⟩) (cc := cc) (id := id) hL hR) (h := ?_)
          rintro _ _ ⟨rfl, rfl⟩
          rw [hfv]
          refine .assign (.z (.seq (.sr (.move ?_))))
          refine .lss ?_
          refine .z ?_
          refine .condF rfl (congrArg Value.bool (by first | (simp; done) | (simp; omega) | omega)) ?_
          refine .skip (.next (.seq (.sr (.move ?_))))
          refine .nilCheck ?_
          refine .fa ?_ fo44_0
          refine .ld ?_ sc42
          refine .move ?_
          refine .idx ?_ so42
          refine .fa ?_ fo138_1
          refine .ldR ?_ sc3 hR hg1
          refine .move ?_
          refine .eqi ?_
          refine .z ?_
          refine .condT rfl (congrArg Value.bool (by first | (simp; done) | (simp; omega) | omega)) ?_
          refine .sr (.move ?_)
          refine .nilCheck ?_
          refine .fa ?_ fo44_0
          refine .ld ?_ sc42
          refine .move ?_
          refine .idx ?_ so42
          refine .fa ?_ fo138_2
          refine .ldR ?_ sc3 hR hg2
          refine .assign (.assign (.assign (.z ?_)))
          refine .ret (.thenRet (?_))
          refine .shutR (RPR.opens m L) (.slice (some ⟨ab, ao, none⟩) L.length cc) trivial ?_
          exact .ret3 (h1 := .tmp (t := 6) rfl) (h2 := .tmp (t := 7) rfl) (h3 := .tmp (t := 8) rfl) ⟨_, ⟨by rw [hch]; try rfl, rfl⟩, Am.auto⟩
        · by_cases hs1 : seq - 1 = (r.2.1 : Int)
          · have hch : chkP L id seq = (0, false, 0) := by unfold chkP; rw [if_neg hno, hl]; simp only [hrd]; rw [if_neg hs0, if_pos hs1]
            refine .sr (.assign (.assign (.assign (.z (.seq (.sr (.move ?_)))))))
            refine .lss ?_
            refine .move ?_
            refine .cast (d := 12) (u := .bool false) rfl (congrArg Value.bool (by first | (simp; done) | (simp; omega) | omega)) ?_
            refine .gT ?_
            refine .move ?_
            refine .gT ?_
            refine .lss ?_
            refine .pickF ?_
            refine .z ?_
            refine .condF rfl (congrArg Value.bool (by first | (simp; done) | (simp; omega) | omega)) ?_
            refine .skip (.next (.sr (.move (.move ?_))))
            refine .call (hc := Tryz.call76) (sp := rpFind (m := m) (L := L) (A := some ⟨ab, ao, none⟩) (cc := cc) (id := id) hL hR) (h := ?_)
            rintro _ _ ⟨rfl, rfl⟩
            rw [hfv]
            refine .assign (.z (.seq (.sr (.move ?_))))
            refine .lss ?_
            refine .z ?_
            refine .condF rfl (congrArg Value.bool (by first | (simp; done) | (simp; omega) | omega)) ?_
            refine .skip (.next (.seq (.sr (.move ?_))))
            refine .nilCheck ?_
            refine .fa ?_ fo44_0
            refine .ld ?_ sc42
            refine .move ?_
            refine .idx ?_ so42
            refine .fa ?_ fo138_1
            refine .ldR ?_ sc3 hR hg1
            refine .move ?_
            refine .eqi ?_
            refine .z ?_
            refine .condF rfl (congrArg Value.bool (by first | (simp; done) | (simp; omega) | omega)) ?_
            refine .skip (.next (.seq (.sr (.move ?_))))
            refine .sub ?_
            refine .move ?_
            refine .nilCheck ?_
            refine .fa ?_ fo44_0
            refine .ld ?_ sc42
            refine .move ?_
            refine .idx ?_ so42
            refine .fa ?_ fo138_1
            refine .ldR ?_ sc3 hR hg1
            refine .eqi ?_
            refine .z ?_
            refine .condT rfl (congrArg Value.bool (by first | (simp; done) | (simp; omega) | omega)) ?_
            refine .sr (.assign (.assign (.assign (.z ?_))))
            refine .ret (.thenRet (?_))
            refine .shutR (RPR.opens m L) (.slice (some ⟨ab, ao, none⟩) L.length cc) trivial ?_
            exact .ret3 (h1 := .tmp (t := 6) rfl) (h2 := .tmp (t := 7) rfl) (h3 := .tmp (t := 8) rfl) ⟨_, ⟨by rw [hch]; try rfl, rfl⟩, Am.auto⟩
          · have hch : chkP L id seq = (0, false, 11) := by unfold chkP; rw [if_neg hno, hl]; simp only [hrd]; rw [if_neg hs0, if_neg hs1]
            refine .sr (.assign (.assign (.assign (.z (.seq (.sr (.move ?_)))))))
            refine .lss ?_
            refine .move ?_
            refine .cast (d := 12) (u := .bool false) rfl (congrArg Value.bool (by first | (simp; done) | (simp; omega) | omega)) ?_
            refine .gT ?_
            refine .move ?_
            refine .gT ?_
            refine .lss ?_
            refine .pickF ?_
            refine .z ?_
            refine .condF rfl (congrArg Value.bool (by first | (simp; done) | (simp; omega) | omega)) ?_
            refine .skip (.next (.sr (.move (.move ?_))))
            refine .call (hc := Tryz.call76) (sp := rpFind (m := m) (L := L) (A := some ⟨ab, ao, none⟩) (cc := cc) (id := id) hL hR) (h := ?_)
            rintro _ _ ⟨rfl, rfl⟩
            rw [hfv]
            refine .assign (.z (.seq (.sr (.move ?_))))
            refine .lss ?_
            refine .z ?_
            refine .condF rfl (congrArg Value.bool (by first | (simp; done) | (simp; omega) | omega)) ?_
            refine .skip (.next (.seq (.sr (.move ?_))))
            refine .nilCheck ?_
            refine .fa ?_ fo44_0
            refine .ld ?_ sc42
            refine .move ?_
            refine .idx ?_ so42
            refine .fa ?_ fo138_1
            refine .ldR ?_ sc3 hR hg1
            refine .move ?_
            refine .eqi ?_
            refine .z ?_
            refine .condF rfl (congrArg Value.bool (by first | (simp; done) | (simp; omega) | omega)) ?_
            refine .skip (.next (.seq (.sr (.move ?_))))
            refine .sub ?_
            refine .move ?_
            refine .nilCheck ?_
            refine .fa ?_ fo44_0
            refine .ld ?_ sc42
            refine .move ?_
            refine .idx ?_ so42
            refine .fa ?_ fo138_1
            refine .ldR ?_ sc3 hR hg1
            refine .eqi ?_
            refine .z ?_
            refine .condF rfl (congrArg Value.bool (by first | (simp; done) | (simp; omega) | omega)) ?_
            refine .skip (.next (.sr (.assign (.assign (.assign (.z ?_))))))
            refine .ret (?_)
            refine .shutR (RPR.opens m L) (.slice (some ⟨ab, ao, none⟩) L.length cc) trivial ?_
            exact .ret3 (h1 := .tmp (t := 6) rfl) (h2 := .tmp (t := 7) rfl) (h3 := .tmp (t := 8) rfl) ⟨_, ⟨by rw [hch]; try rfl, rfl⟩, Am.auto⟩
theorem rpAcceptE {m : Nat} {L : List Prd} {id seq base : Int} {e : Nat} (hL : POk L) (he : accE L id seq base = e) (he0 : e ≠ 0) : Spec Tryz.prog 24 #[.pointer (some ⟨m, 0, none⟩), .int .i64 id, .int .i64 seq, .int .i64 base] [RPR m L] fun F v M => v = nI e ∧ M = RPR m L :: F := by
  refine Spec.intro Tryz.func24 rfl rfl fun B F => ?_
  simp only [Tryz.ntmps24, List.cons_append, List.nil_append, env0, Nat.reduceAdd]
  refine .openR (RPR.opens m L) fun u _ => ?_
  simp only [List.cons_append, List.nil_append]
  refine .fact (rowR_shape (el := 138) (size := 3) (v := u) (k := L.length) (xs := L.flatMap prV)) (fun ⟨A, cc, hu, hR, hc1, hc2, hlen⟩ => ?_)
  subst hu
  have hfew := hL.few
  unfold accE at he
  by_cases hv : 1 ≤ id ∧ 0 ≤ seq ∧ 0 ≤ base ∧ base ≤ 1125899906842624
  · rw [if_pos hv] at he
    by_cases hf : lookP L id = none ∧ 60 ≤ L.length
    · rw [if_pos hf] at he
      subst he
      obtain ⟨hl, h60⟩ := hf
      have hfv : findV L id = -1 := by unfold findV; rw [hl]
      obtain ⟨v1, v2, v3, v4⟩ := hv
      refine .sr (.assign (.z (.seq (.sr (.move ?_)))))
      refine .lss ?_
      refine .move ?_
      refine .cast (d := 12) (u := .bool false) rfl (congrArg Value.bool (by first | (simp; done) | (simp; omega) | omega)) ?_
      refine .gT ?_
      refine .move ?_
      refine .gT ?_
      refine .lss ?_
      refine .pickF ?_
      refine .move ?_
      refine .cast (d := 16) (u := .bool false) rfl (congrArg Value.bool (by first | (simp; done) | (simp; omega) | omega)) ?_
      refine .gT ?_
      refine .move ?_
      refine .gT ?_
      refine .lss ?_
      refine .pickF ?_
      refine .move ?_
      refine .cast (d := 20) (u := .bool false) rfl (congrArg Value.bool (by first | (simp; done) | (simp; omega) | omega)) ?_
      refine .gT ?_
      refine .move ?_
      refine .gT ?_
      refine .gtr ?_
      refine .pickF ?_
      refine .z ?_
      refine .condF rfl (congrArg Value.bool (by first | (simp; done) | (simp; omega) | omega)) ?_
      refine .skip (.next (.sr (.move (.move ?_))))
      refine .call (hc := Tryz.call76) (sp := rpFind (m := m) (L := L) (A := A) (cc := cc) (id := id) hL hR) (h := ?_)
      rintro _ _ ⟨rfl, rfl⟩
      rw [hfv]
      refine .assign (.z (.seq (.sr (.move ?_))))
      refine .lss ?_
      refine .z ?_
      refine .condT rfl (congrArg Value.bool (by first | (simp; done) | (simp; omega) | omega)) ?_
      refine .seq (.sr (.move ?_))
      refine .nilCheck ?_
      refine .fa ?_ fo44_0
      refine .ld ?_ sc42
      refine .lenS ?_ sl42
      refine .geq ?_
      refine .z ?_
      refine .condT rfl (congrArg Value.bool (by first | (simp; done) | (simp; omega) | omega)) ?_
      refine .sr (.assign (.z ?_))
      refine .ret (.thenRet (.thenRet (?_)))
      refine .shutR (RPR.opens m L) (.slice A L.length cc) trivial ?_
      exact .ret1 (h1 := .tmp (t := 8) rfl) ⟨_, ⟨rfl, rfl⟩, Am.auto⟩
    · rw [if_neg hf] at he
      exact absurd he.symm he0
  · rw [if_neg hv] at he
    subst he
    by_cases v0 : 1 ≤ id
    · by_cases v1 : 0 ≤ seq
      · by_cases v2 : 0 ≤ base
        · by_cases v3 : base ≤ 1125899906842624
          · exact absurd ⟨v0, v1, v2, v3⟩ hv
          · refine .sr (.assign (.z (.seq (.sr (.move ?_)))))
            refine .lss ?_
            refine .move ?_
            refine .cast (d := 12) (u := .bool false) rfl (congrArg Value.bool (by first | (simp; done) | (simp; omega) | omega)) ?_
            refine .gT ?_
            refine .move ?_
            refine .gT ?_
            refine .lss ?_
            refine .pickF ?_
            refine .move ?_
            refine .cast (d := 16) (u := .bool false) rfl (congrArg Value.bool (by first | (simp; done) | (simp; omega) | omega)) ?_
            refine .gT ?_
            refine .move ?_
            refine .gT ?_
            refine .lss ?_
            refine .pickF ?_
            refine .move ?_
            refine .cast (d := 20) (u := .bool false) rfl (congrArg Value.bool (by first | (simp; done) | (simp; omega) | omega)) ?_
            refine .gT ?_
            refine .move ?_
            refine .gT ?_
            refine .gtr ?_
            refine .pickF ?_
            refine .z ?_
            refine .condT rfl (congrArg Value.bool (by first | (simp; done) | (simp; omega) | omega)) ?_
            refine .sr (.assign (.z ?_))
            refine .ret (.thenRet (?_))
            refine .shutR (RPR.opens m L) (.slice A L.length cc) trivial ?_
            exact .ret1 (h1 := .tmp (t := 8) rfl) ⟨_, ⟨rfl, rfl⟩, Am.auto⟩
        · refine .sr (.assign (.z (.seq (.sr (.move ?_)))))
          refine .lss ?_
          refine .move ?_
          refine .cast (d := 12) (u := .bool false) rfl (congrArg Value.bool (by first | (simp; done) | (simp; omega) | omega)) ?_
          refine .gT ?_
          refine .move ?_
          refine .gT ?_
          refine .lss ?_
          refine .pickF ?_
          refine .move ?_
          refine .cast (d := 16) (u := .bool false) rfl (congrArg Value.bool (by first | (simp; done) | (simp; omega) | omega)) ?_
          refine .gT ?_
          refine .move ?_
          refine .gT ?_
          refine .lss ?_
          refine .pickF ?_
          refine .move ?_
          refine .cast (d := 20) (u := .bool true) rfl (congrArg Value.bool (by first | (simp; done) | (simp; omega) | omega)) ?_
          refine .gF ?_
          refine .gF ?_
          refine .pickT ?_
          refine .z ?_
          refine .condT rfl rfl ?_
          refine .sr (.assign (.z ?_))
          refine .ret (.thenRet (?_))
          refine .shutR (RPR.opens m L) (.slice A L.length cc) trivial ?_
          exact .ret1 (h1 := .tmp (t := 8) rfl) ⟨_, ⟨rfl, rfl⟩, Am.auto⟩
      · refine .sr (.assign (.z (.seq (.sr (.move ?_)))))
        refine .lss ?_
        refine .move ?_
        refine .cast (d := 12) (u := .bool false) rfl (congrArg Value.bool (by first | (simp; done) | (simp; omega) | omega)) ?_
        refine .gT ?_
        refine .move ?_
        refine .gT ?_
        refine .lss ?_
        refine .pickF ?_
        refine .move ?_
        refine .cast (d := 16) (u := .bool true) rfl (congrArg Value.bool (by first | (simp; done) | (simp; omega) | omega)) ?_
        refine .gF ?_
        refine .gF ?_
        refine .pickT ?_
        refine .move ?_
        refine .gF ?_
        refine .gF ?_
        refine .pickT ?_
        refine .z ?_
        refine .condT rfl rfl ?_
        refine .sr (.assign (.z ?_))
        refine .ret (.thenRet (?_))
        refine .shutR (RPR.opens m L) (.slice A L.length cc) trivial ?_
        exact .ret1 (h1 := .tmp (t := 8) rfl) ⟨_, ⟨rfl, rfl⟩, Am.auto⟩
    · refine .sr (.assign (.z (.seq (.sr (.move ?_)))))
      refine .lss ?_
      refine .move ?_
      refine .cast (d := 12) (u := .bool true) rfl (congrArg Value.bool (by first | (simp; done) | (simp; omega) | omega)) ?_
      refine .gF ?_
      refine .gF ?_
      refine .pickT ?_
      refine .move ?_
      refine .gF ?_
      refine .gF ?_
      refine .pickT ?_
      refine .move ?_
      refine .gF ?_
      refine .gF ?_
      refine .pickT ?_
      refine .z ?_
      refine .condT rfl rfl ?_
      refine .sr (.assign (.z ?_))
      refine .ret (.thenRet (?_))
      refine .shutR (RPR.opens m L) (.slice A L.length cc) trivial ?_
      exact .ret1 (h1 := .tmp (t := 8) rfl) ⟨_, ⟨rfl, rfl⟩, Am.auto⟩
theorem rpAccept {m : Nat} {L : List Prd} {r : Prd} (hL : POk L) (hr : PrdOk r) (hfu : lookP L (r.1 : Int) ≠ none ∨ L.length < 60) : Spec Tryz.prog 24 #[.pointer (some ⟨m, 0, none⟩), nI r.1, nI r.2.1, nI r.2.2] [RPR m L] fun F v M => v = okV ∧ M = RPR m (accP L r) :: F := by
  refine Spec.intro Tryz.func24 rfl rfl fun B F => ?_
  simp only [Tryz.ntmps24, List.cons_append, List.nil_append, env0, Nat.reduceAdd]
  refine .openR (RPR.opens m L) fun u _ => ?_
  simp only [List.cons_append, List.nil_append]
  refine .fact (rowR_shape (el := 138) (size := 3) (v := u) (k := L.length) (xs := L.flatMap prV)) (fun ⟨A, cc, hu, hR, hc1, hc2, hlen⟩ => ?_)
  subst hu
  have hfew := hL.few
  obtain ⟨id, hid⟩ : ∃ id : Int, (r.1 : Int) = id := ⟨_, rfl⟩
  have hr1 := hr.1
  have hr2 := hr.2.1
  have hr3 := hr.2.2.1
  have hr4 := hr.2.2.2
  cases hl : lookP L (r.1 : Int) with
  | none =>
    have hfv : findV L (r.1 : Int) = -1 := by unfold findV; rw [hl]
    have h60 : L.length < 60 := hfu.resolve_left (fun h => h hl)
    have hacc : accP L r = setP L L.length r := by unfold accP; rw [hl]; rfl
    have hal : (accP L r).length = L.length + 1 := by rw [hacc, setP_length (Nat.le_refl _)]; omega
    refine .sr (.assign (.z (.seq (.sr (.move ?_)))))
    refine .lss ?_
    refine .move ?_
    refine .cast (d := 12) (u := .bool false) rfl (congrArg Value.bool (by first | (simp; done) | (simp; omega) | omega)) ?_
    refine .gT ?_
    refine .move ?_
    refine .gT ?_
    refine .lss ?_
    refine .pickF ?_
    refine .move ?_
    refine .cast (d := 16) (u := .bool false) rfl (congrArg Value.bool (by first | (simp; done) | (simp; omega) | omega)) ?_
    refine .gT ?_
    refine .move ?_
    refine .gT ?_
    refine .lss ?_
    refine .pickF ?_
    refine .move ?_
    refine .cast (d := 20) (u := .bool false) rfl (congrArg Value.bool (by first | (simp; done) | (simp; omega) | omega)) ?_
    refine .gT ?_
    refine .move ?_
    refine .gT ?_
    refine .gtr ?_
    refine .pickF ?_
    refine .z ?_
    refine .condF rfl (congrArg Value.bool (by first | (simp; done) | (simp; omega) | omega)) ?_
    refine .skip (.next (.sr (.move (.move ?_))))
    refine .call (hc := Tryz.call76) (sp := rpFind (m := m) (L := L) (A := A) (cc := cc) (id := (r.1 : Int)) hL hR) (h := ?_)
    rintro _ _ ⟨rfl, rfl⟩
    rw [hfv]
    refine .assign (.z (.seq (.sr (.move ?_))))
    refine .lss ?_
    refine .z ?_
    refine .condT rfl (congrArg Value.bool (by first | (simp; done) | (simp; omega) | omega)) ?_
    refine .seq (.sr (.move ?_))
    refine .nilCheck ?_
    refine .fa ?_ fo44_0
    refine .ld ?_ sc42
    refine .lenS ?_ sl42
    refine .geq ?_
    refine .z ?_
    refine .condF rfl (congrArg Value.bool (by first | (simp; done) | (simp; omega) | omega)) ?_
    refine .skip (.next (.sr (.move (.move ?_))))
    refine .nilCheck ?_
    refine .fa ?_ fo44_0
    refine .ld ?_ sc42
    refine .move (.move (.move ?_))
    refine .build ?_ (bdPd _ _ _)
    refine .buildS (fun b44 => ?_) (bsPd _ _ _)
    refine .append (m := 1) (news := prV r) so42 (by decide) (by repeat (first | exact .here | apply Rem.there | apply Repl.there | apply Mem.there)) (Reads.pt (cs := (prV r).toArray)) (by repeat (first | exact .here | apply Rem.there | apply Repl.there | apply Mem.there)) rfl (by intro x hx; simp only [prV, List.mem_cons, List.not_mem_nil, or_false] at hx; rcases hx with rfl | rfl | rfl <;> rfl) (by show L.length + 1 ≤ maxLen; unfold maxLen; omega) (by show (L.length + 1) * _ ≤ 140737488355328; omega) ⟨_, z138, rfl⟩ (fun vB hvB => ?_)
    refine .to (A := rowR 138 3 vB (L.length + 1) (L.flatMap prV ++ prV r)) (A' := rowR 138 3 vB (accP L r).length ((accP L r).flatMap prV)) (fun h hh => by rw [hal, hacc, ← prV_end]; exact hh) ?_
    refine .fact (rowR_shape (el := 138) (size := 3) (v := vB) (k := (accP L r).length) (xs := (accP L r).flatMap prV)) (fun ⟨A2, c2, hv2, hR2, hk2, hc3, hl2⟩ => ?_)
    subst hv2
    refine .nilCheck ?_
    refine .fa ?_ fo44_0
    refine .st ?_ sc42
    refine .x (.assign (.z ?_))
    refine .ret (.thenRet (?_))
    refine .shutR (RPR.opens m (accP L r)) (.slice A2 (accP L r).length c2) trivial ?_
    exact .ret1 (h1 := .tmp (t := 8) rfl) ⟨_, ⟨rfl, rfl⟩, Am.auto⟩
  | some q =>
    have hfv : findV L (r.1 : Int) = (q : Int) := by unfold findV; rw [hl]
    obtain ⟨hql, _⟩ := lookP_some hl
    have hacc : accP L r = setP L q r := by unfold accP; rw [hl]; rfl
    have hal : (accP L r).length = L.length := by rw [hacc, setP_length (by omega)]; omega
    have hlV := prV_length L
    refine .fact (rowR_head (el := 138) (size := 3) (v := .slice A L.length cc) (k := L.length) (xs := L.flatMap prV)) (fun hh => ?_)
    obtain ⟨ab, rfl⟩ : ∃ ab, A = some ⟨ab, 0, none⟩ := by
      rcases hh with ⟨_, h⟩ | ⟨g, cap, h⟩
      · omega
      · injection h with h _ _; exact ⟨g, h⟩
    refine .sr (.assign (.z (.seq (.sr (.move ?_)))))
    refine .lss ?_
    refine .move ?_
    refine .cast (d := 12) (u := .bool false) rfl (congrArg Value.bool (by first | (simp; done) | (simp; omega) | omega)) ?_
    refine .gT ?_
    refine .move ?_
    refine .gT ?_
    refine .lss ?_
    refine .pickF ?_
    refine .move ?_
    refine .cast (d := 16) (u := .bool false) rfl (congrArg Value.bool (by first | (simp; done) | (simp; omega) | omega)) ?_
    refine .gT ?_
    refine .move ?_
    refine .gT ?_
    refine .lss ?_
    refine .pickF ?_
    refine .move ?_
    refine .cast (d := 20) (u := .bool false) rfl (congrArg Value.bool (by first | (simp; done) | (simp; omega) | omega)) ?_
    refine .gT ?_
    refine .move ?_
    refine .gT ?_
    refine .gtr ?_
    refine .pickF ?_
    refine .z ?_
    refine .condF rfl (congrArg Value.bool (by first | (simp; done) | (simp; omega) | omega)) ?_
    refine .skip (.next (.sr (.move (.move ?_))))
    refine .call (hc := Tryz.call76) (sp := rpFind (m := m) (L := L) (A := some ⟨ab, 0, none⟩) (cc := cc) (id := (r.1 : Int)) hL hR) (h := ?_)
    rintro _ _ ⟨rfl, rfl⟩
    rw [hfv]
    refine .assign (.z (.seq (.sr (.move ?_))))
    refine .lss ?_
    refine .z ?_
    refine .condF rfl (congrArg Value.bool (by first | (simp; done) | (simp; omega) | omega)) ?_
    refine .skip (.next (.sr (.move ?_)))
    refine .nilCheck ?_
    refine .fa ?_ fo44_0
    refine .ld ?_ sc42
    refine .move (.move (.move (.move ?_)))
    refine .build ?_ (bdPd _ _ _)
    refine .idx ?_ so42
    refine .stRow (g := ab) (size := 3) (num := L.length) (c := cc) (off := 0 + ((q : Nat) : Int).toNat * 3) (xs := L.flatMap prV) (us := (prV r).toArray) rfl ?_ agg138 rfl (by simp [prV]) (by intro x hx; simp only [prV, List.mem_cons, List.not_mem_nil, or_false] at hx; rcases hx with rfl | rfl | rfl <;> rfl) (by rw [hlV]; omega) (by repeat (first | exact .here | apply Rem.there | apply Repl.there | apply Mem.there))
    refine .to (A := rowR 138 3 (.slice (some ⟨ab, 0, none⟩) L.length cc) L.length ((L.flatMap prV).take (0 + ((q : Nat) : Int).toNat * 3) ++ (prV r).toArray.toList ++ (L.flatMap prV).drop (0 + ((q : Nat) : Int).toNat * 3 + (prV r).toArray.toList.length))) (A' := rowR 138 3 (.slice (some ⟨ab, 0, none⟩) L.length cc) (accP L r).length ((accP L r).flatMap prV)) (fun h hh => by rw [hal, hacc, ← prV_set hql]; rw [Int.toNat_natCast, Nat.zero_add] at hh; exact hh) ?_
    refine .x (.assign (.z ?_))
    refine .ret (?_)
    refine .shutR (RPR.opens m (accP L r)) (.slice (some ⟨ab, 0, none⟩) L.length cc) trivial ?_
    exact .ret1 (h1 := .tmp (t := 8) rfl) ⟨_, ⟨rfl, rfl⟩, Am.auto⟩
theorem take4 {xs : List Int} {i : Nat} (h : i + 4 ≤ xs.length) : ∃ a b c d, (xs.drop i).take 4 = [a, b, c, d] ∧ a ∈ xs ∧ b ∈ xs ∧ c ∈ xs ∧ d ∈ xs := by
  refine ⟨xs[i], xs[i + 1], xs[i + 2], xs[i + 3], ?_, List.getElem_mem _, List.getElem_mem _, List.getElem_mem _, List.getElem_mem _⟩
  rw [List.drop_eq_getElem_cons (by omega), List.drop_eq_getElem_cons (by omega), List.drop_eq_getElem_cons (by omega), List.drop_eq_getElem_cons (by omega)]
  rfl
theorem accE_ok {L : List Prd} {id seq base : Int} (h : accE L id seq base = 0) : (1 ≤ id ∧ 0 ≤ seq ∧ 0 ≤ base ∧ base ≤ 1125899906842624) ∧ (lookP L id ≠ none ∨ L.length < 60) := by
  unfold accE at h
  split at h
  · rename_i hv
    refine ⟨hv, ?_⟩
    split at h
    · cases h
    · rename_i hn
      by_cases hl : lookP L id = none
      · exact .inr (Nat.lt_of_not_le fun h60 => hn ⟨hl, h60⟩)
      · exact .inl hl
  · cases h
theorem lawPPlay {R : HP} {A : Option Addr} {m c0 : Nat} {xs : List Int} (hR0 : xs = [] ∨ Reads R A (ints xs)) (hm : xs.length = m * 4) (hxs : ∀ x ∈ xs, -9223372036854775808 ≤ x ∧ x ≤ 9223372036854775807) (hbig : m ≤ 9223372036854775807) : Spec Tryz.prog 4 #[.slice A m c0] [R] fun F v M => v = .bool true ∧ M = R :: F := by
  refine Spec.intro Tryz.func4 rfl rfl fun B F => ?_
  simp only [Tryz.ntmps4, List.cons_append, List.nil_append, env0, Nat.reduceAdd]
  refine .sr (.assign (.z (.seq (.sr (.move ?_)))))
  refine .lenS ?_ sl40
  refine .gtr ?_
  refine .z ?_
  refine .cond rfl (fun hb => ?_) (fun hb => ?_)
  · refine .sr ?_
    refine .call (hc := Tryz.call15) (sp := l16Awake) (h := ?_)
    rintro _ _ ⟨rfl, rfl⟩
    refine .assign (.z ?_)
    refine .ret (.thenRet (?_))
    exact .ret1 (h1 := .tmp (t := 2) rfl) ⟨_, ⟨rfl, rfl⟩, Am.auto⟩
  · have hm200 : m ≤ 200 := by have := of_decide_eq_false hb; omega
    refine .skip (.next (.sr ?_))
    refine .call (hc := Tryz.call14) (sp := l16Fresh) (h := ?_)
    rintro _ _ ⟨d, f, pr, rfl, rfl⟩
    refine .move ?_
    refine .extract ?_
    refine .extract ?_
    refine .extract ?_
    refine .extract ?_
    refine .assign (.assign (.assign (.assign (.z (.seq (.sr (.move ?_)))))))
    refine .not ?_
    refine .z ?_
    refine .condF rfl rfl ?_
    refine .skip (.next (.sr ?_))
    refine .build ?_ bdPs0
    refine .box fun b33 => ?_
    refine .assign ?_
    refine .emp (rowR.nil (e := 138) (size := 3) _) ?_
    refine .shutR (RPR.opens b33 []) (.slice none 0 0) trivial ?_
    refine .z (.seq (.sr (.assign (.z (.block ?_)))))
    refine .loopA (σ := Nat × Nat × List Prd) (fun y => [(0, .slice A m c0), (4, .pointer (some ⟨f, 0, none⟩)), (5, .pointer (some ⟨y.2.1, 0, none⟩)), (7, .pointer (some ⟨b33, 0, none⟩)), (8, .int .i64 ((y.1 : Nat) : Int))]) (fun y => [PD y.2.1 f [47, 119] y.2.2, FSR f (pD 500 20) (wT (rowsB y.2.2)), RPR b33 y.2.2, R] ++ F) (fun y => y.1 ≤ m ∧ POk y.2.2) (fun y => m - y.1) (0, pr, []) ⟨Nat.zero_le _, POk.nil⟩ ?_
    rintro y hy
    obtain ⟨i, q, L⟩ := y
    obtain ⟨hi, hL⟩ := hy
    simp only at hi hL ⊢
    refine .seq (.sr (.move (.move ?_)))
    refine .lenS ?_ sl40
    refine .lss ?_
    refine .z ?_
    refine .cond rfl (fun hb2 => ?_) (fun hb2 => ?_)
    · have hlt : i < m := by have h : (i : Int) < (m : Int) := of_decide_eq_true hb2; omega
      have hR := hR0.resolve_left (by intro h; subst h; simp at hm; omega)
      rcases A with _ | ⟨ab, ao, asp⟩
      · exact absurd hR (fun h => by have h2 : ints xs = [] := h; simp [ints] at h2; subst h2; simp at hm; omega)
      have hsp : asp = none := hR.1
      subst hsp
      obtain ⟨kd, id, seq, base, h4, e1, e2, e3, e4⟩ := take4 (xs := xs) (i := ((i : Nat) : Int).toNat * 4) (by omega)
      have hb1 := hxs _ e1
      have hb2' := hxs _ e2
      have hb3 := hxs _ e3
      have hb4 := hxs _ e4
      clear e1 e2 e3 e4
      have hus : ((ints xs).drop (((i : Nat) : Int).toNat * 4)).take 4 = [.int .i64 kd, .int .i64 id, .int .i64 seq, .int .i64 base] := by
        unfold ints; rw [← List.map_drop, ← List.map_take, h4]; rfl
      have hil : ((i : Nat) : Int).toNat * 4 + 4 ≤ (ints xs).length := by unfold ints; rw [List.length_map]; omega
      have hfew := hL.few
      refine .skip (.next (.seq (.block (.sr (.move (.move ?_))))))
      refine .idx ?_ so40
      refine .ldAR (i := ((i : Nat) : Int).toNat * 4) (us := [.int .i64 kd, .int .i64 id, .int .i64 seq, .int .i64 base]) ?_ agg46 hR hus hil
      refine .alloc z46 fun b9 => ?_
      refine .stV ?_ agg46
      refine .z (.seq (.sr ?_))
      refine .fa ?_ fo46_0
      refine .ld ?_ sc3
      refine .z ?_
      refine .join (σ := Nat × List Prd) (fun y => [(0, .slice (some ⟨ab, ao, none⟩) m c0), (4, .pointer (some ⟨f, 0, none⟩)), (5, .pointer (some ⟨y.1, 0, none⟩)), (7, .pointer (some ⟨b33, 0, none⟩)), (8, .int .i64 ((i : Nat) : Int))]) (fun y => [PD y.1 f [47, 119] y.2, FSR f (pD 500 20) (wT (rowsB y.2)), RPR b33 y.2, R] ++ F) (fun y => POk y.2) ?_ ?_
      · by_cases h1 : kd = 1
        · refine .block (.sr ?_)
          refine .eqi ?_
          refine .assign (.z ?_)
          refine .condT rfl (congrArg Value.bool (by first | (simp; done) | (simp; omega) | omega)) ?_
          refine .sr (.move ?_)
          refine .fa ?_ fo46_1
          refine .ld ?_ sc3
          refine .fa ?_ fo46_2
          refine .ld ?_ sc3
          refine .call (hc := Tryz.call20) (sp := prCheck (pr := q) (f := f) (path := [47, 119]) (L := L) (id := id) (seq := seq) (by omega)) (h := ?_)
          rintro _ _ ⟨rfl, rfl⟩
          obtain ⟨⟨c1, c2, c3⟩, hch⟩ : ∃ c, chkP L id seq = c := ⟨_, rfl⟩
          rw [hch]
          simp only
          refine .move ?_
          refine .extract ?_
          refine .extract ?_
          refine .extract ?_
          refine .assign (.assign (.assign (.x (.move ?_))))
          refine .fa ?_ fo46_1
          refine .ld ?_ sc3
          refine .fa ?_ fo46_2
          refine .ld ?_ sc3
          refine .call (hc := Tryz.call23) (sp := rpCheck (m := b33) (L := L) (id := id) (seq := seq) hL (by omega)) (h := ?_)
          rintro _ _ ⟨rfl, rfl⟩
          rw [hch]
          simp only
          refine .move ?_
          refine .extract ?_
          refine .extract ?_
          refine .extract ?_
          refine .assign (.assign (.assign (.x (.move (.move ?_)))))
          refine .nei ?_
          refine .move ?_
          refine .cast (d := 71) (u := .bool false) rfl (congrArg Value.bool (by first | (simp; done) | (simp; omega) | omega)) ?_
          refine .gT ?_
          refine .move ?_
          refine .gT ?_
          refine .move ?_
          refine .gT ?_
          refine .neB ?_ bk4
          refine .cast (d := 74) (u := .bool false) rfl (congrArg Value.bool (by simp)) ?_
          refine .pickF ?_
          refine .move ?_
          refine .cast (d := 76) (u := .bool false) rfl (congrArg Value.bool (by first | (simp; done) | (simp; omega) | omega)) ?_
          refine .gT ?_
          refine .move ?_
          refine .gT ?_
          refine .move ?_
          refine .gT ?_
          refine .nei ?_
          refine .pickF ?_
          refine .z ?_
          refine .condF rfl (congrArg Value.bool (by first | (simp; done) | (simp; omega) | omega)) ?_
          refine .skip (.blockNormal ?_)
          exact .joined (q, L) hL
        · by_cases h2 : kd = 2
          · obtain ⟨e, he⟩ : ∃ e, accE L id seq base = e := ⟨_, rfl⟩
            by_cases he0 : e = 0
            · subst he0
              obtain ⟨⟨v1, v2, v3, v4⟩, hfu⟩ := accE_ok he
              obtain ⟨I, rfl⟩ : ∃ I : Nat, id = I := ⟨id.toNat, by omega⟩
              obtain ⟨S, rfl⟩ : ∃ S : Nat, seq = S := ⟨seq.toNat, by omega⟩
              obtain ⟨Bs, rfl⟩ : ∃ Bs : Nat, base = Bs := ⟨base.toNat, by omega⟩
              refine .block (.sr ?_)
              refine .eqi ?_
              refine .assign (.z ?_)
              refine .condF rfl (congrArg Value.bool (by first | (simp; done) | (simp; omega) | omega)) ?_
              refine .sr ?_
              refine .eqi ?_
              refine .assign (.z ?_)
              refine .condT rfl (congrArg Value.bool (by first | (simp; done) | (simp; omega) | omega)) ?_
              refine .seq ?_
              refine .dr ([pt b9 (.cells #[.int .i64 kd, .int .i64 (I : Int), .int .i64 (S : Int), .int .i64 (Bs : Int)] 46 (0, 0))]) [] 17 mixed .autoJ ?_
              refine .tk 0 rfl .move ?_
              refine .tk 1 rfl (.fa fo46_1) ?_
              refine .tk 2 rfl (.ld sc3) ?_
              refine .tk 3 rfl (.fa fo46_2) ?_
              refine .tk 4 rfl (.ld sc3) ?_
              refine .tk 5 rfl (.fa fo46_3) ?_
              refine .tk 6 rfl (.ld sc3) ?_
              refine .tk 8 rfl .move ?_
              refine .tk 9 rfl (.fa fo46_1) ?_
              refine .tk 10 rfl (.ld sc3) ?_
              refine .tk 11 rfl (.fa fo46_2) ?_
              refine .tk 12 rfl (.ld sc3) ?_
              refine .tk 13 rfl (.fa fo46_3) ?_
              refine .tk 14 rfl (.ld sc3) ?_
              refine .on 7 rfl fun hnp => ?_
              refine .call (hc := Tryz.call21) (sp := prAccept16 (pr := q) (f := f) (L := L) (r := (I, S, Bs)) hL ⟨by show 1 ≤ I; omega, by show I < _; omega, by show S < _; omega, by show Bs ≤ _; omega⟩ hfu) (h := ?_)
              rintro _ _ ⟨rfl, rfl⟩
              refine .nil (.wa hnp ?_)
              refine .on 15 rfl fun hnp => ?_
              refine .call (hc := Tryz.call24) (sp := rpAccept (m := b33) (L := L) (r := (I, S, Bs)) hL ⟨by show 1 ≤ I; omega, by show I < _; omega, by show S < _; omega, by show Bs ≤ _; omega⟩ hfu) (h := ?_)
              rintro _ _ ⟨rfl, rfl⟩
              refine .nil (.wa hnp ?_)
              refine .tk 16 rfl .nei ?_
              refine .fin ?_
              refine .next ?_
              refine .condF rfl (congrArg Value.bool (by first | (simp; done) | (simp; omega) | omega)) ?_
              refine .skip (.blockNormal ?_)
              exact .joined (q, accP L (I, S, Bs)) (accP_ok hL ⟨by show 1 ≤ I; omega, by show I < _; omega, by show S < _; omega, by show Bs ≤ _; omega⟩ hfu)
            · refine .block (.sr ?_)
              refine .eqi ?_
              refine .assign (.z ?_)
              refine .condF rfl (congrArg Value.bool (by first | (simp; done) | (simp; omega) | omega)) ?_
              refine .sr ?_
              refine .eqi ?_
              refine .assign (.z ?_)
              refine .condT rfl (congrArg Value.bool (by first | (simp; done) | (simp; omega) | omega)) ?_
              refine .seq ?_
              refine .dr ([pt b9 (.cells #[.int .i64 kd, .int .i64 id, .int .i64 seq, .int .i64 base] 46 (0, 0))]) [] 17 mixed .autoJ ?_
              refine .tk 0 rfl .move ?_
              refine .tk 1 rfl (.fa fo46_1) ?_
              refine .tk 2 rfl (.ld sc3) ?_
              refine .tk 3 rfl (.fa fo46_2) ?_
              refine .tk 4 rfl (.ld sc3) ?_
              refine .tk 5 rfl (.fa fo46_3) ?_
              refine .tk 6 rfl (.ld sc3) ?_
              refine .tk 8 rfl .move ?_
              refine .tk 9 rfl (.fa fo46_1) ?_
              refine .tk 10 rfl (.ld sc3) ?_
              refine .tk 11 rfl (.fa fo46_2) ?_
              refine .tk 12 rfl (.ld sc3) ?_
              refine .tk 13 rfl (.fa fo46_3) ?_
              refine .tk 14 rfl (.ld sc3) ?_
              refine .on 7 rfl fun hnp => ?_
              refine .call (hc := Tryz.call21) (sp := prAcceptE (pr := q) (f := f) (path := [47, 119]) (L := L) he he0) (h := ?_)
              rintro _ _ ⟨rfl, rfl⟩
              refine .nil (.wa hnp ?_)
              refine .on 15 rfl fun hnp => ?_
              refine .call (hc := Tryz.call24) (sp := rpAcceptE (m := b33) (L := L) hL he he0) (h := ?_)
              rintro _ _ ⟨rfl, rfl⟩
              refine .nil (.wa hnp ?_)
              refine .tk 16 rfl .nei ?_
              refine .fin ?_
              refine .next ?_
              refine .condF rfl (congrArg Value.bool (by first | (simp; done) | (simp; omega) | omega)) ?_
              refine .skip (.blockNormal ?_)
              exact .joined (q, L) hL
          · by_cases h3 : kd = 3
            · refine .block (.sr ?_)
              refine .eqi ?_
              refine .assign (.z ?_)
              refine .condF rfl (congrArg Value.bool (by first | (simp; done) | (simp; omega) | omega)) ?_
              refine .sr ?_
              refine .eqi ?_
              refine .assign (.z ?_)
              refine .condF rfl (congrArg Value.bool (by first | (simp; done) | (simp; omega) | omega)) ?_
              refine .sr ?_
              refine .eqi ?_
              refine .assign (.z ?_)
              refine .condT rfl (congrArg Value.bool (by first | (simp; done) | (simp; omega) | omega)) ?_
              refine .sr (.move ?_)
              refine .call (hc := Tryz.call16) (sp := prOpen16 (f := f) hL) (h := ?_)
              rintro _ _ ⟨q2, rfl, rfl⟩
              refine .move ?_
              refine .extract ?_
              refine .extract ?_
              refine .assign (.assign (.z (.seq (.sr (.move ?_)))))
              refine .nei ?_
              refine .move ?_
              refine .cast (d := 109) (u := .bool false) rfl (congrArg Value.bool (by first | (simp; done) | (simp; omega) | omega)) ?_
              refine .gT ?_
              refine .move ?_
              refine .gT ?_
              refine .eqNil ?_ ptr24
              refine .pickF ?_
              refine .z ?_
              refine .condF rfl rfl ?_
              refine .skip (.next (.region (.move (.assign (.nil (.blockNormal ?_))))))
              exact .joined (q2, L) hL
            · refine .block (.sr ?_)
              refine .eqi ?_
              refine .assign (.z ?_)
              refine .condF rfl (congrArg Value.bool (by first | (simp; done) | (simp; omega) | omega)) ?_
              refine .sr ?_
              refine .eqi ?_
              refine .assign (.z ?_)
              refine .condF rfl (congrArg Value.bool (by first | (simp; done) | (simp; omega) | omega)) ?_
              refine .sr ?_
              refine .eqi ?_
              refine .assign (.z ?_)
              refine .condF rfl (congrArg Value.bool (by first | (simp; done) | (simp; omega) | omega)) ?_
              refine .skip (.blockNormal ?_)
              exact .joined (q, L) hL
      · rintro ⟨q2, L2⟩ hL2
        simp only at hL2
        simp only
        have hfew2 := hL2.few
        refine .next (.seq ?_)
        refine .openR (RPR.opens b33 L2) fun u _ => ?_
        simp only [List.cons_append, List.nil_append]
        refine .fact (rowR_shape (el := 138) (size := 3) (v := u) (k := L2.length) (xs := L2.flatMap prV)) (fun ⟨A2, cc, hu, hR2, hc1, hc2, hlen⟩ => ?_)
        subst hu
        refine .dr ([pt b33 (.cells #[.slice A2 L2.length cc] 44 (0, 0))]) [] 8 mixed .autoJ ?_
        refine .tk 0 rfl .move ?_
        refine .tk 2 rfl .move ?_
        refine .tk 3 rfl .nilCheck ?_
        refine .tk 4 rfl (.fa fo44_0) ?_
        refine .tk 5 rfl (.ld sc42) ?_
        refine .tk 6 rfl (.lenS sl42) ?_
        refine .on 1 rfl fun hnp => ?_
        refine .call (hc := Tryz.call22) (sp := prLen (pr := q2) (f := f) (path := [47, 119]) (L := L2)) (h := ?_)
        rintro _ _ ⟨rfl, rfl⟩
        refine .nil (.wa hnp ?_)
        refine .tk 7 rfl .nei ?_
        refine .fin ?_
        refine .next ?_
        refine .condF rfl (congrArg Value.bool (by first | (simp; done) | (simp; omega) | omega)) ?_
        refine .skip (.blockNormal (.next (.region (.move ?_))))
        refine .add ?_
        refine .assign (.nil ?_)
        refine .shutR (RPR.opens b33 L2) (.slice A2 L2.length cc) trivial ?_
        refine .cast (d := 8) (u := .int .i64 ((i + 1 : Nat) : Int)) rfl (congrArg (Value.int .i64) (by omega)) ?_
        exact .back (i + 1, q2, L2) ⟨by show i + 1 ≤ m; omega, hL2⟩ (by show m - (i + 1) < m - i; omega)
    · have hlB := rowsB_length L
      have hfew := hL.few
      refine .exit (.thenExit (.thenExit (.blockExit (?_))))
      refine .next (.sr (.move ?_))
      refine .call (hc := Tryz.call25) (sp := fsStat (f := f) (p := pD 500 20) (T := wT (rowsB L)) (path := [47, 119]) p16_is.ok (wT_ok _) (by decide)) (h := ?_)
      rintro _ _ ⟨rfl, rfl⟩
      rw [show leadsT (wT (rowsB L)) [47, 119] = (1, 1, (rowsB L).length, 0) from rfl]
      refine .move ?_
      refine .extract ?_
      refine .extract ?_
      refine .alloc z51 fun b18 => ?_
      refine .stV ?_ agg51
      refine .assign (.x (.move ?_))
      refine .eqi ?_
      refine .move ?_
      refine .cast (d := 129) (u := .bool true) rfl (congrArg Value.bool (by first | (simp; done) | (simp; omega) | omega)) ?_
      refine .gT ?_
      refine .fa ?_ fo51_1
      refine .gT ?_
      refine .ld ?_ sc3
      refine .gT ?_
      refine .leq ?_
      refine .pickT ?_
      refine .move ?_
      refine .cast (d := 134) (u := .bool true) rfl (congrArg Value.bool (by first | (simp; done) | (simp; omega) | omega)) ?_
      refine .gT ?_
      refine .call (hc := Tryz.call15) (sp := l16Awake) (h := ?_)
      rintro _ _ ⟨rfl, rfl⟩
      refine .pickT ?_
      refine .assign (.z ?_)
      refine .ret (?_)
      exact .ret1 (h1 := .tmp (t := 2) rfl) ⟨_, ⟨rfl, rfl⟩, Am.auto⟩
end Go.Proofs.YtdmjkjeoamiedaaGreatDoor
end
