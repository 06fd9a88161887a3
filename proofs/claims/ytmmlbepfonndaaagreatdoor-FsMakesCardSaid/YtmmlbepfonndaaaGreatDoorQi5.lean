/- A part of the proof of lawFsMakes: texts of this work put together. -/
import Derived.Test.YtmmlbepfonndaaaGreatDoorQi4
import Derived.KernelRfl
set_option linter.unusedVariables false
set_option linter.unusedSimpArgs false
set_option linter.unusedSectionVars false
section
namespace Go.Proofs.YtmmlbepfonndaaaGreatDoor
open Go
theorem WQ.retD0 {P : Program} {B : Base} {n : Fr} {e : Env} {L F : List HP} {fn : Func} {R : List HP → Value → List HP → Prop} {xt : Exit} {t : Nat} {v : Value} (h : ∃ M, R F v M ∧ Am L M) (hres : fn.results = #[.tmp t] := by rfl) (hl : look e t = some v := by rfl)
    (hx : (xt = .ret ∨ xt = .normal) := by first | exact .inl rfl | exact .inr rfl) (hD : n.ds = [] := by rfl) : WQ B n (bodyPostD P fn (Post B F R)) xt e L := by
  obtain ⟨M, hR, hk⟩ := h
  intro a w ha hs
  have key : Leaves P fn a.tmps (Post B F R) a.defers .returning w := by
    rw [ha.defers, hD]
    exact ⟨v, by simp [results_eq, hres, resM, ha.get _ _ hl], v, M, rfl, hR, hk.wk B w hs⟩
  rcases hx with rfl | rfl <;> exact key
theorem fsGoneNil : Spec Tryz.prog 165 #[.pointer none] [] fun F v M => v = .bool true ∧ M = F := by
  refine Spec.intro Tryz.func165 rfl rfl fun B F => ?_
  simp only [Tryz.ntmps165, List.cons_append, List.nil_append, env0, Nat.reduceAdd]
  refine .sr (.assign (.x (.move ?_)))
  refine .eqNil ?_ ptr25
  refine .move ?_
  refine .gF ?_
  refine .gF ?_
  refine .gF ?_
  refine .gF ?_
  refine .gF ?_
  refine .pickT ?_
  refine .move ?_
  refine .gF ?_
  refine .gF ?_
  refine .gF ?_
  refine .gF ?_
  refine .pickT ?_
  refine .assign (.z ?_)
  refine .ret (?_)
  exact .ret1 (h1 := .tmp (t := 2) rfl) ⟨_, ⟨rfl, rfl⟩, Am.auto⟩
theorem fsChangeNil {x : Value} : Spec Tryz.prog 95 #[.pointer none, x] [] fun F v M => v = .int .i64 9 ∧ M = F := by
  refine Spec.introD Tryz.func95 rfl rfl fun B F => ?_
  simp only [Tryz.ntmps95, List.cons_append, List.nil_append, env0, Nat.reduceAdd]
  refine .sr (.assign (.z (.seq (.sr (.move ?_)))))
  refine .call (hc := Tryz.call165) (sp := fsGoneNil) (h := ?_)
  rintro _ _ ⟨rfl, hM⟩
  obtain rfl := hM.symm
  refine .z ?_
  refine .condT rfl rfl ?_
  refine .sr (.assign (.z ?_))
  refine .ret (.thenRet (?_))
  exact .retD0 (t := 4) ⟨_, ⟨rfl, rfl⟩, Am.auto⟩
theorem fsMakeNil {path : Bytes} {k : Nat} : Spec Tryz.prog 60 #[.pointer none, sv path, nI k] [] fun F v M => v = .int .i64 9 ∧ M = F := by
  refine Spec.intro Tryz.func60 rfl rfl fun B F => ?_
  simp only [Tryz.ntmps60, List.cons_append, List.nil_append, env0, Nat.reduceAdd]
  refine .sr ?_
  refine .box fun b3 => ?_
  refine .box fun b4 => ?_
  refine .box fun b5 => ?_
  refine .assign (.x ?_)
  refine .ld ?_ sc25
  refine .makeFuncB ?_
  refine .call (hc := Tryz.call95) (sp := fsChangeNil) (h := ?_)
  rintro _ _ ⟨rfl, rfl⟩
  refine .assign (.z ?_)
  refine .ret (?_)
  exact .ret1 (h1 := .tmp (t := 6) rfl) ⟨_, ⟨rfl, rfl⟩, Am.auto⟩
theorem fsMkdirNil {path : Bytes} : Spec Tryz.prog 35 #[.pointer none, sv path] [] fun F v M => v = .int .i64 9 ∧ M = F := by
  refine Spec.intro Tryz.func35 rfl rfl fun B F => ?_
  simp only [Tryz.ntmps35, List.cons_append, List.nil_append, env0, Nat.reduceAdd]
  refine .sr (.assign (.x (.move (.move ?_))))
  refine .call (hc := Tryz.call60) (sp := fsMakeNil (path := path) (k := 2)) (h := ?_)
  rintro _ _ ⟨rfl, hM⟩
  obtain rfl := hM.symm
  refine .assign (.z ?_)
  refine .ret (?_)
  exact .ret1 (h1 := .tmp (t := 4) rfl) ⟨_, ⟨rfl, rfl⟩, Am.auto⟩
def mayT (from_ to : Bytes) : Bool := match partsT from_, partsT to with
  | some a, some b => decide (0 < a.length) && decide (0 < b.length) && !decide (to.take (from_ ++ [47]).length = from_ ++ [47])
  | _, _ => false
theorem hasPreS {xs ps : Bytes} : Spec Tryz.prog 204 #[sv xs, sv ps] [] fun F v M => v = .bool (decide (xs.take ps.length = ps)) ∧ M = F := by
  refine Spec.intro Tryz.func204 rfl rfl fun B F => ?_
  simp only [Tryz.ntmps204, List.cons_append, List.nil_append, env0, Nat.reduceAdd]
  refine .sr (.assign (.x (.move (.move ?_))))
  refine .call (hc := Tryz.call237) (sp := hasPre) (h := ?_)
  rintro _ _ ⟨rfl, rfl⟩
  refine .assign (.z ?_)
  refine .ret (?_)
  exact .ret1 (h1 := .tmp (t := 4) rfl) ⟨_, ⟨rfl, rfl⟩, Am.auto⟩
theorem fsMay {xs ys : Bytes} (hx : xs.length ≤ 1000000) (hy : ys.length ≤ 1000000) : Spec Tryz.prog 126 #[sv xs, sv ys] [] fun F v M => v = .bool (mayT xs ys) ∧ M = F := by
  refine Spec.intro Tryz.func126 rfl rfl fun B F => ?_
  simp only [Tryz.ntmps126, List.cons_append, List.nil_append, env0, Nat.reduceAdd]
  cases hpx : partsT xs with
  | none =>
    cases hpy : partsT ys with
    | none =>
      have hmt : mayT xs ys = false := by unfold mayT; rw [hpx]
      refine .sr (.assign (.x (.move ?_)))
      refine .call (hc := Tryz.call116) (sp := fsPartsNo hx hpx) (h := ?_)
      rintro _ _ ⟨rfl, hM⟩
      obtain rfl := hM.symm
      refine .move ?_
      refine .extract ?_
      refine .extract ?_
      refine .assign (.assign (.x (.move ?_)))
      refine .call (hc := Tryz.call116) (sp := fsPartsNo hy hpy) (h := ?_)
      rintro _ _ ⟨rfl, hM⟩
      obtain rfl := hM.symm
      refine .move ?_
      refine .extract ?_
      refine .extract ?_
      refine .assign (.assign (.x (.move ?_)))
      refine .eqi ?_
      refine .move ?_
      refine .cast (d := 21) (u := .bool false) rfl (congrArg Value.bool (by first | (simp; done) | (exact decide_eq_true (by omega)) | (exact decide_eq_false (by omega)) | (simp; omega) | omega)) ?_
      refine .gF ?_
      refine .gF ?_
      refine .pickF ?_
      refine .move ?_
      refine .gF ?_
      refine .gF ?_
      refine .gF ?_
      refine .pickF ?_
      refine .move ?_
      refine .gF ?_
      refine .gF ?_
      refine .gF ?_
      refine .pickF ?_
      refine .move ?_
      refine .gF ?_
      refine .gF ?_
      refine .gF ?_
      refine .gF ?_
      refine .gF ?_
      refine .pickF ?_
      refine .assign (.z ?_)
      refine .ret (?_)
      exact .ret1 (h1 := .tmp (t := 4) rfl) ⟨_, ⟨by rw [hmt], rfl⟩, Am.auto⟩
    | some ly =>
      have hmt : mayT xs ys = false := by unfold mayT; rw [hpx]
      refine .sr (.assign (.x (.move ?_)))
      refine .call (hc := Tryz.call116) (sp := fsPartsNo hx hpx) (h := ?_)
      rintro _ _ ⟨rfl, hM⟩
      obtain rfl := hM.symm
      refine .move ?_
      refine .extract ?_
      refine .extract ?_
      refine .assign (.assign (.x (.move ?_)))
      refine .call (hc := Tryz.call116) (sp := fsParts hy hpy) (h := ?_)
      rintro _ _ ⟨uy, rfl, rfl⟩
      refine .fact (rowR_shape (el := 9) (size := 1) (v := uy) (k := ly.length) (xs := svs ly)) (fun ⟨Ay, ccy, huy, hRy, hc1y, hc2y, hleny⟩ => ?_)
      subst huy
      refine .move ?_
      refine .extract ?_
      refine .extract ?_
      refine .assign (.assign (.x (.move ?_)))
      refine .eqi ?_
      refine .move ?_
      refine .cast (d := 21) (u := .bool false) rfl (congrArg Value.bool (by first | (simp; done) | (exact decide_eq_true (by omega)) | (exact decide_eq_false (by omega)) | (simp; omega) | omega)) ?_
      refine .gF ?_
      refine .gF ?_
      refine .pickF ?_
      refine .move ?_
      refine .gF ?_
      refine .gF ?_
      refine .gF ?_
      refine .pickF ?_
      refine .move ?_
      refine .gF ?_
      refine .gF ?_
      refine .gF ?_
      refine .pickF ?_
      refine .move ?_
      refine .gF ?_
      refine .gF ?_
      refine .gF ?_
      refine .gF ?_
      refine .gF ?_
      refine .pickF ?_
      refine .assign (.z ?_)
      refine .ret (?_)
      exact .ret1 (h1 := .tmp (t := 4) rfl) ⟨_, ⟨by rw [hmt], rfl⟩, Am.auto⟩
  | some lx =>
    cases hpy : partsT ys with
    | none =>
      have hmt : mayT xs ys = false := by unfold mayT; rw [hpx, hpy]
      refine .sr (.assign (.x (.move ?_)))
      refine .call (hc := Tryz.call116) (sp := fsParts hx hpx) (h := ?_)
      rintro _ _ ⟨ux, rfl, rfl⟩
      refine .fact (rowR_shape (el := 9) (size := 1) (v := ux) (k := lx.length) (xs := svs lx)) (fun ⟨Ax, ccx, hux, hRx, hc1x, hc2x, hlenx⟩ => ?_)
      subst hux
      refine .move ?_
      refine .extract ?_
      refine .extract ?_
      refine .assign (.assign (.x (.move ?_)))
      refine .call (hc := Tryz.call116) (sp := fsPartsNo hy hpy) (h := ?_)
      rintro _ _ ⟨rfl, hM⟩
      obtain rfl := hM.symm
      refine .move ?_
      refine .extract ?_
      refine .extract ?_
      refine .assign (.assign (.x (.move ?_)))
      refine .eqi ?_
      refine .move ?_
      refine .cast (d := 21) (u := .bool true) rfl (congrArg Value.bool (by first | (simp; done) | (exact decide_eq_true (by omega)) | (exact decide_eq_false (by omega)) | (simp; omega) | omega)) ?_
      refine .gT ?_
      refine .move ?_
      refine .gT ?_
      refine .eqi ?_
      refine .pickT ?_
      refine .move ?_
      refine .cast (d := 25) (u := .bool false) rfl (congrArg Value.bool (by first | (simp; done) | (exact decide_eq_true (by omega)) | (exact decide_eq_false (by omega)) | (simp; omega) | omega)) ?_
      refine .gF ?_
      refine .gF ?_
      refine .gF ?_
      refine .pickF ?_
      refine .move ?_
      refine .gF ?_
      refine .gF ?_
      refine .gF ?_
      refine .pickF ?_
      refine .move ?_
      refine .gF ?_
      refine .gF ?_
      refine .gF ?_
      refine .gF ?_
      refine .gF ?_
      refine .pickF ?_
      refine .assign (.z ?_)
      refine .ret (?_)
      exact .ret1 (h1 := .tmp (t := 4) rfl) ⟨_, ⟨by rw [hmt], rfl⟩, Am.auto⟩
    | some ly =>
      have hmt : mayT xs ys = (decide (0 < lx.length) && decide (0 < ly.length) && !decide (ys.take (xs ++ [47]).length = xs ++ [47])) := by unfold mayT; rw [hpx, hpy]
      by_cases h1 : 0 < lx.length
      · by_cases h2 : 0 < ly.length
        · refine .sr (.assign (.x (.move ?_)))
          refine .call (hc := Tryz.call116) (sp := fsParts hx hpx) (h := ?_)
          rintro _ _ ⟨ux, rfl, rfl⟩
          refine .fact (rowR_shape (el := 9) (size := 1) (v := ux) (k := lx.length) (xs := svs lx)) (fun ⟨Ax, ccx, hux, hRx, hc1x, hc2x, hlenx⟩ => ?_)
          subst hux
          refine .move ?_
          refine .extract ?_
          refine .extract ?_
          refine .assign (.assign (.x (.move ?_)))
          refine .call (hc := Tryz.call116) (sp := fsParts hy hpy) (h := ?_)
          rintro _ _ ⟨uy, rfl, rfl⟩
          refine .fact (rowR_shape (el := 9) (size := 1) (v := uy) (k := ly.length) (xs := svs ly)) (fun ⟨Ay, ccy, huy, hRy, hc1y, hc2y, hleny⟩ => ?_)
          subst huy
          refine .move ?_
          refine .extract ?_
          refine .extract ?_
          refine .assign (.assign (.x (.move ?_)))
          refine .eqi ?_
          refine .move ?_
          refine .cast (d := 21) (u := .bool true) rfl (congrArg Value.bool (by first | (simp; done) | (exact decide_eq_true (by omega)) | (exact decide_eq_false (by omega)) | (simp; omega) | omega)) ?_
          refine .gT ?_
          refine .move ?_
          refine .gT ?_
          refine .eqi ?_
          refine .pickT ?_
          refine .move ?_
          refine .cast (d := 25) (u := .bool true) rfl (congrArg Value.bool (by first | (simp; done) | (exact decide_eq_true (by omega)) | (exact decide_eq_false (by omega)) | (simp; omega) | omega)) ?_
          refine .gT ?_
          refine .move ?_
          refine .gT ?_
          refine .lenS ?_ sl186
          refine .gT ?_
          refine .gtr ?_
          refine .pickT ?_
          refine .move ?_
          refine .cast (d := 30) (u := .bool true) rfl (congrArg Value.bool (by first | (simp; done) | (exact decide_eq_true (by omega)) | (exact decide_eq_false (by omega)) | (simp; omega) | omega)) ?_
          refine .gT ?_
          refine .move ?_
          refine .gT ?_
          refine .lenS ?_ sl186
          refine .gT ?_
          refine .gtr ?_
          refine .pickT ?_
          refine .move ?_
          refine .cast (d := 35) (u := .bool true) rfl (congrArg Value.bool (by first | (simp; done) | (exact decide_eq_true (by omega)) | (exact decide_eq_false (by omega)) | (simp; omega) | omega)) ?_
          refine .gT ?_
          refine .move ?_
          refine .gT ?_
          refine .move ?_
          refine .gT ?_
          refine .catS xs [47] ?_ (by simp only [List.length_cons, List.length_nil]; omega)
          refine .gT ?_
          refine .call (hc := Tryz.call204) (sp := hasPreS (xs := ys) (ps := xs ++ [47])) (h := ?_)
          rintro _ _ ⟨rfl, rfl⟩
          refine .gT ?_
          refine .not ?_
          refine .pickT ?_
          refine .assign (.z ?_)
          refine .ret (?_)
          exact .ret1 (h1 := .tmp (t := 4) rfl) ⟨_, ⟨by rw [hmt, decide_eq_true h1, decide_eq_true h2]; rfl, rfl⟩, Am.auto⟩
        · refine .sr (.assign (.x (.move ?_)))
          refine .call (hc := Tryz.call116) (sp := fsParts hx hpx) (h := ?_)
          rintro _ _ ⟨ux, rfl, rfl⟩
          refine .fact (rowR_shape (el := 9) (size := 1) (v := ux) (k := lx.length) (xs := svs lx)) (fun ⟨Ax, ccx, hux, hRx, hc1x, hc2x, hlenx⟩ => ?_)
          subst hux
          refine .move ?_
          refine .extract ?_
          refine .extract ?_
          refine .assign (.assign (.x (.move ?_)))
          refine .call (hc := Tryz.call116) (sp := fsParts hy hpy) (h := ?_)
          rintro _ _ ⟨uy, rfl, rfl⟩
          refine .fact (rowR_shape (el := 9) (size := 1) (v := uy) (k := ly.length) (xs := svs ly)) (fun ⟨Ay, ccy, huy, hRy, hc1y, hc2y, hleny⟩ => ?_)
          subst huy
          refine .move ?_
          refine .extract ?_
          refine .extract ?_
          refine .assign (.assign (.x (.move ?_)))
          refine .eqi ?_
          refine .move ?_
          refine .cast (d := 21) (u := .bool true) rfl (congrArg Value.bool (by first | (simp; done) | (exact decide_eq_true (by omega)) | (exact decide_eq_false (by omega)) | (simp; omega) | omega)) ?_
          refine .gT ?_
          refine .move ?_
          refine .gT ?_
          refine .eqi ?_
          refine .pickT ?_
          refine .move ?_
          refine .cast (d := 25) (u := .bool true) rfl (congrArg Value.bool (by first | (simp; done) | (exact decide_eq_true (by omega)) | (exact decide_eq_false (by omega)) | (simp; omega) | omega)) ?_
          refine .gT ?_
          refine .move ?_
          refine .gT ?_
          refine .lenS ?_ sl186
          refine .gT ?_
          refine .gtr ?_
          refine .pickT ?_
          refine .move ?_
          refine .cast (d := 30) (u := .bool true) rfl (congrArg Value.bool (by first | (simp; done) | (exact decide_eq_true (by omega)) | (exact decide_eq_false (by omega)) | (simp; omega) | omega)) ?_
          refine .gT ?_
          refine .move ?_
          refine .gT ?_
          refine .lenS ?_ sl186
          refine .gT ?_
          refine .gtr ?_
          refine .pickT ?_
          refine .move ?_
          refine .cast (d := 35) (u := .bool false) rfl (congrArg Value.bool (by first | (simp; done) | (exact decide_eq_true (by omega)) | (exact decide_eq_false (by omega)) | (simp; omega) | omega)) ?_
          refine .gF ?_
          refine .gF ?_
          refine .gF ?_
          refine .gF ?_
          refine .gF ?_
          refine .pickF ?_
          refine .assign (.z ?_)
          refine .ret (?_)
          exact .ret1 (h1 := .tmp (t := 4) rfl) ⟨_, ⟨by rw [hmt, decide_eq_true h1, decide_eq_false h2]; rfl, rfl⟩, Am.auto⟩
      · refine .sr (.assign (.x (.move ?_)))
        refine .call (hc := Tryz.call116) (sp := fsParts hx hpx) (h := ?_)
        rintro _ _ ⟨ux, rfl, rfl⟩
        refine .fact (rowR_shape (el := 9) (size := 1) (v := ux) (k := lx.length) (xs := svs lx)) (fun ⟨Ax, ccx, hux, hRx, hc1x, hc2x, hlenx⟩ => ?_)
        subst hux
        refine .move ?_
        refine .extract ?_
        refine .extract ?_
        refine .assign (.assign (.x (.move ?_)))
        refine .call (hc := Tryz.call116) (sp := fsParts hy hpy) (h := ?_)
        rintro _ _ ⟨uy, rfl, rfl⟩
        refine .fact (rowR_shape (el := 9) (size := 1) (v := uy) (k := ly.length) (xs := svs ly)) (fun ⟨Ay, ccy, huy, hRy, hc1y, hc2y, hleny⟩ => ?_)
        subst huy
        refine .move ?_
        refine .extract ?_
        refine .extract ?_
        refine .assign (.assign (.x (.move ?_)))
        refine .eqi ?_
        refine .move ?_
        refine .cast (d := 21) (u := .bool true) rfl (congrArg Value.bool (by first | (simp; done) | (exact decide_eq_true (by omega)) | (exact decide_eq_false (by omega)) | (simp; omega) | omega)) ?_
        refine .gT ?_
        refine .move ?_
        refine .gT ?_
        refine .eqi ?_
        refine .pickT ?_
        refine .move ?_
        refine .cast (d := 25) (u := .bool true) rfl (congrArg Value.bool (by first | (simp; done) | (exact decide_eq_true (by omega)) | (exact decide_eq_false (by omega)) | (simp; omega) | omega)) ?_
        refine .gT ?_
        refine .move ?_
        refine .gT ?_
        refine .lenS ?_ sl186
        refine .gT ?_
        refine .gtr ?_
        refine .pickT ?_
        refine .move ?_
        refine .cast (d := 30) (u := .bool false) rfl (congrArg Value.bool (by first | (simp; done) | (exact decide_eq_true (by omega)) | (exact decide_eq_false (by omega)) | (simp; omega) | omega)) ?_
        refine .gF ?_
        refine .gF ?_
        refine .gF ?_
        refine .pickF ?_
        refine .move ?_
        refine .gF ?_
        refine .gF ?_
        refine .gF ?_
        refine .gF ?_
        refine .gF ?_
        refine .pickF ?_
        refine .assign (.z ?_)
        refine .ret (?_)
        exact .ret1 (h1 := .tmp (t := 4) rfl) ⟨_, ⟨by rw [hmt, decide_eq_false h1]; rfl, rfl⟩, Am.auto⟩
theorem fsRenameC0 {f s a c mp : Nat} {p : Pl} {T : FT} {from_ to : Bytes} {b3 b4 b5 : Nat} (h1 : from_.length ≤ 1000000) (h2 : to.length ≤ 1000000) (hm : mayT from_ to = false) : Spec Tryz.prog 125 #[.pointer (some ⟨b4, 0, none⟩), .pointer (some ⟨b5, 0, none⟩), .pointer (some ⟨b3, 0, none⟩)] [pt f (fO c a s false false false mp), LD mp T, IN s a c p (fmT T) (fmT T) 0 true, bun [pt b3 (.cells #[.pointer (some ⟨f, 0, none⟩)] 25 (0, 0)), pt b4 (.cells #[sv from_] 9 (0, 0)), pt b5 (.cells #[sv to] 9 (0, 0))]] fun F v M => v = nI 1 ∧ M = pt f (fO c a s false false false mp) :: LD mp T :: IN s a c p (fmT T) (fmT T) 0 true :: bun [pt b3 (.cells #[.pointer (some ⟨f, 0, none⟩)] 25 (0, 0)), pt b4 (.cells #[sv from_] 9 (0, 0)), pt b5 (.cells #[sv to] 9 (0, 0))] :: F := by
  refine Spec.intro Tryz.func125 rfl rfl fun B F => ?_
  simp only [Tryz.ntmps125, List.cons_append, List.nil_append, env0, Nat.reduceAdd]
  refine .openR (bun.opens _) fun _ _ => ?_
  simp only [List.cons_append, List.nil_append]
  refine .sr (.assign (.z (.seq (.sr ?_))))
  refine .ld ?_ sc9
  refine .ld ?_ sc9
  refine .call (hc := Tryz.call126) (sp := fsMay h1 h2) (h := ?_)
  rintro _ _ ⟨rfl, rfl⟩
  rw [hm]
  refine .not ?_
  refine .z ?_
  refine .condT rfl rfl ?_
  refine .sr (.assign (.z ?_))
  refine .ret (.thenRet (?_))
  refine .shutR (bun.opens [pt b3 (.cells #[.pointer (some ⟨f, 0, none⟩)] 25 (0, 0)), pt b4 (.cells #[sv from_] 9 (0, 0)), pt b5 (.cells #[sv to] 9 (0, 0))]) () trivial ?_
  exact .ret1 (h1 := .tmp (t := 3) rfl) ⟨_, ⟨rfl, rfl⟩, Am.auto⟩
theorem fsRenameNo {f : Nat} {p : Pl} {T : FT} {from_ to : Bytes} (ho : PlOk p) (h1 : from_.length ≤ 1000000) (h2 : to.length ≤ 1000000) (hm : mayT from_ to = false) : Spec Tryz.prog 76 #[.pointer (some ⟨f, 0, none⟩), sv from_, sv to] [FSR f p T] fun F v M => v = nI 1 ∧ M = FSR f p T :: F := by
  refine Spec.intro Tryz.func76 rfl rfl fun B F => ?_
  simp only [Tryz.ntmps76, List.cons_append, List.nil_append, env0, Nat.reduceAdd]
  refine .openR (FSR.opens f p T) fun y _ => ?_
  obtain ⟨c, a, s, mp⟩ := y
  simp only [fsLs, List.cons_append, List.nil_append]
  refine .sr ?_
  refine .box fun b3 => ?_
  refine .box fun b4 => ?_
  refine .box fun b5 => ?_
  refine .assign (.x ?_)
  refine .ld ?_ sc25
  refine .shutR (bun.opens [pt b3 (.cells #[.pointer (some ⟨f, 0, none⟩)] 25 (0, 0)), pt b4 (.cells #[sv from_] 9 (0, 0)), pt b5 (.cells #[sv to] 9 (0, 0))]) () trivial ?_
  refine .makeFuncB ?_
  refine .call (hc := Tryz.call95) (sp := fsChangeE (s := s) (a := a) (c := c) (p := p) (f := f) (mp := mp) (T := T) (S := T) (e := 1) (by decide) ho (hc := Tryz.call125) (sp := (fsRenameC0 (b3 := b3) (b4 := b4) (b5 := b5) h1 h2 hm))) (h := ?_)
  rintro _ _ ⟨rfl, rfl⟩
  refine .assign (.z ?_)
  refine .ret (?_)
  refine .shutR (FSR.opens f p T) (c, a, s, mp) trivial ?_
  exact .ret1 (h1 := .tmp (t := 6) rfl) ⟨_, ⟨rfl, rfl⟩, Am.auto⟩
theorem layMakeArg {n ino : Int} (hn1 : 1 ≤ n) (hn2 : n ≤ 65536) (hi : ino < 1 ∨ 4096 < ino) : Spec Tryz.prog 80 #[.int .i64 n, .int .i64 ino] [] fun F v M => v = .tuple #[.agg zeroPl, .int .i64 1] ∧ M = F := by
  refine Spec.intro Tryz.func80 rfl rfl fun B F => ?_
  simp only [Tryz.ntmps80, List.cons_append, List.nil_append, env0, Nat.reduceAdd]
  rcases hi with hi | hi
  · refine .sr ?_
    refine .alloc z149 fun b4 => ?_
    refine .assign (.z (.seq (.sr (.move ?_))))
    refine .lss ?_
    refine .move ?_
    refine .cast (d := 16) (u := .bool false) rfl (congrArg Value.bool (by first | (simp; done) | (simp; omega) | omega)) ?_
    refine .gT ?_
    refine .move ?_
    refine .gT ?_
    refine .gtr ?_
    refine .pickF ?_
    refine .move ?_
    refine .cast (d := 20) (u := .bool false) rfl (congrArg Value.bool (by first | (simp; done) | (simp; omega) | omega)) ?_
    refine .gT ?_
    refine .move ?_
    refine .gT ?_
    refine .lss ?_
    refine .pickF ?_
    refine .move ?_
    refine .cast (d := 24) (u := .bool true) rfl (congrArg Value.bool (by first | (simp; done) | (simp; omega) | omega)) ?_
    refine .gF ?_
    refine .gF ?_
    refine .pickT ?_
    refine .z ?_
    refine .condT rfl rfl ?_
    refine .sr ?_
    refine .build ?_ bdPlan0
    refine .stV ?_ agg149
    refine .assign (.z ?_)
    refine .ret (.thenRet (?_))
    exact .ret2 (h2 := .tmp (t := 5) rfl) ⟨_, ⟨rfl, rfl⟩, Am.auto⟩
  · have hi1 : ¬ ino < 1 := by omega
    refine .sr ?_
    refine .alloc z149 fun b4 => ?_
    refine .assign (.z (.seq (.sr (.move ?_))))
    refine .lss ?_
    refine .move ?_
    refine .cast (d := 16) (u := .bool false) rfl (congrArg Value.bool (by first | (simp; done) | (simp; omega) | omega)) ?_
    refine .gT ?_
    refine .move ?_
    refine .gT ?_
    refine .gtr ?_
    refine .pickF ?_
    refine .move ?_
    refine .cast (d := 20) (u := .bool false) rfl (congrArg Value.bool (by first | (simp; done) | (simp; omega) | omega)) ?_
    refine .gT ?_
    refine .move ?_
    refine .gT ?_
    refine .lss ?_
    refine .pickF ?_
    refine .move ?_
    refine .cast (d := 24) (u := .bool false) rfl (congrArg Value.bool (by first | (simp; done) | (simp; omega) | omega)) ?_
    refine .gT ?_
    refine .move ?_
    refine .gT ?_
    refine .gtr ?_
    refine .pickF ?_
    refine .z ?_
    refine .condT rfl (congrArg Value.bool (by first | (simp; done) | (simp; omega) | omega)) ?_
    refine .sr ?_
    refine .build ?_ bdPlan0
    refine .stV ?_ agg149
    refine .assign (.z ?_)
    refine .ret (.thenRet (?_))
    exact .ret2 (h2 := .tmp (t := 5) rfl) ⟨_, ⟨rfl, rfl⟩, Am.auto⟩
theorem refMakeArg {n ino : Int} (hn1 : 1 ≤ n) (hn2 : n ≤ 65536) (hi : ino < 1 ∨ 4096 < ino) : Spec Tryz.prog 78 #[.int .i64 n, .int .i64 ino] [] fun F v M => v = .tuple #[.agg zeroPl, .int .i64 1] ∧ M = F := by
  refine Spec.intro Tryz.func78 rfl rfl fun B F => ?_
  simp only [Tryz.ntmps78, List.cons_append, List.nil_append, env0, Nat.reduceAdd]
  rcases hi with hi | hi
  · refine .sr ?_
    refine .alloc z149 fun b4 => ?_
    refine .assign (.z (.seq (.sr (.move ?_))))
    refine .lss ?_
    refine .move ?_
    refine .cast (d := 11) (u := .bool false) rfl (congrArg Value.bool (by first | (simp; done) | (simp; omega) | omega)) ?_
    refine .gT ?_
    refine .move ?_
    refine .gT ?_
    refine .gtr ?_
    refine .pickF ?_
    refine .move ?_
    refine .cast (d := 15) (u := .bool false) rfl (congrArg Value.bool (by first | (simp; done) | (simp; omega) | omega)) ?_
    refine .gT ?_
    refine .move ?_
    refine .gT ?_
    refine .lss ?_
    refine .pickF ?_
    refine .move ?_
    refine .cast (d := 19) (u := .bool true) rfl (congrArg Value.bool (by first | (simp; done) | (simp; omega) | omega)) ?_
    refine .gF ?_
    refine .gF ?_
    refine .pickT ?_
    refine .z ?_
    refine .condT rfl rfl ?_
    refine .sr ?_
    refine .build ?_ bdPlan0
    refine .stV ?_ agg149
    refine .assign (.z ?_)
    refine .ret (.thenRet (?_))
    exact .ret2 (h2 := .tmp (t := 5) rfl) ⟨_, ⟨rfl, rfl⟩, Am.auto⟩
  · have hi1 : ¬ ino < 1 := by omega
    refine .sr ?_
    refine .alloc z149 fun b4 => ?_
    refine .assign (.z (.seq (.sr (.move ?_))))
    refine .lss ?_
    refine .move ?_
    refine .cast (d := 11) (u := .bool false) rfl (congrArg Value.bool (by first | (simp; done) | (simp; omega) | omega)) ?_
    refine .gT ?_
    refine .move ?_
    refine .gT ?_
    refine .gtr ?_
    refine .pickF ?_
    refine .move ?_
    refine .cast (d := 15) (u := .bool false) rfl (congrArg Value.bool (by first | (simp; done) | (simp; omega) | omega)) ?_
    refine .gT ?_
    refine .move ?_
    refine .gT ?_
    refine .lss ?_
    refine .pickF ?_
    refine .move ?_
    refine .cast (d := 19) (u := .bool false) rfl (congrArg Value.bool (by first | (simp; done) | (simp; omega) | omega)) ?_
    refine .gT ?_
    refine .move ?_
    refine .gT ?_
    refine .gtr ?_
    refine .pickF ?_
    refine .z ?_
    refine .condT rfl (congrArg Value.bool (by first | (simp; done) | (simp; omega) | omega)) ?_
    refine .sr ?_
    refine .build ?_ bdPlan0
    refine .stV ?_ agg149
    refine .assign (.z ?_)
    refine .ret (.thenRet (?_))
    exact .ret2 (h2 := .tmp (t := 5) rfl) ⟨_, ⟨rfl, rfl⟩, Am.auto⟩
theorem layMakeFull {n ino : Nat} (hn1 : 1 ≤ n) (hn2 : n ≤ 65536) (h1 : 1 ≤ ino) (h2 : ino ≤ 4096) (hno : ∀ p, PlIs p → p.n = n → p.ino = ino → False) : Spec Tryz.prog 80 #[nI n, nI ino] [] fun F v M => v = .tuple #[.agg zeroPl, .int .i64 3] ∧ M = F := by
  refine Spec.intro Tryz.func80 rfl rfl fun B F => ?_
  simp only [Tryz.ntmps80, List.cons_append, List.nil_append, env0, Nat.reduceAdd]
  refine .sr ?_
  refine .alloc z149 fun b4 => ?_
  refine .assign (.z (.seq (.sr (.move ?_))))
  refine .lss ?_
  refine .move ?_
  refine .cast (d := 16) (u := .bool false) rfl (congrArg Value.bool (by first | (simp; done) | (simp; omega) | omega)) ?_
  refine .gT ?_
  refine .move ?_
  refine .gT ?_
  refine .gtr ?_
  refine .pickF ?_
  refine .move ?_
  refine .cast (d := 20) (u := .bool false) rfl (congrArg Value.bool (by first | (simp; done) | (simp; omega) | omega)) ?_
  refine .gT ?_
  refine .move ?_
  refine .gT ?_
  refine .lss ?_
  refine .pickF ?_
  refine .move ?_
  refine .cast (d := 24) (u := .bool false) rfl (congrArg Value.bool (by first | (simp; done) | (simp; omega) | omega)) ?_
  refine .gT ?_
  refine .move ?_
  refine .gT ?_
  refine .gtr ?_
  refine .pickF ?_
  refine .z ?_
  refine .condF rfl (congrArg Value.bool (by first | (simp; done) | (simp; omega) | omega)) ?_
  refine .skip (.next (.sr (.move ?_)))
  refine .call (hc := Tryz.call135) (sp := layUp (by omega) (by omega)) (h := ?_)
  rintro _ _ ⟨rfl, rfl⟩
  refine .move ?_
  refine .call (hc := Tryz.call135) (sp := layUp (by omega) (by omega)) (h := ?_)
  rintro _ _ ⟨rfl, rfl⟩
  refine .assign ?_
  refine .cast (d := 6) (u := .int .i64 (((ino + 4095) / 4096 : Nat) : Int)) rfl (congrArg (Value.int .i64) (upA _)) ?_
  refine .assign ?_
  refine .cast (d := 7) (u := .int .i64 (((ino + 7) / 8 : Nat) : Int)) rfl (congrArg (Value.int .i64) (upB _)) ?_
  refine .x (.move ?_)
  refine .sub ?_
  refine .move ?_
  refine .sub ?_
  refine .move ?_
  refine .sub ?_
  refine .assign (.x (.assign (.z (.seq (.block ?_)))))
  refine .loopA (σ := Nat) (fun m => [(0, .int .i64 (n : Int)), (1, .int .i64 (ino : Int)), (4, .pointer (some ⟨b4, 0, none⟩)), (6, .int .i64 (((ino + 4095) / 4096 : Nat) : Int)), (7, .int .i64 (((ino + 7) / 8 : Nat) : Int)), (8, .int .i64 ((n : Int) - 246 - (((ino + 4095) / 4096 : Nat) : Int) - (((ino + 7) / 8 : Nat) : Int))), (9, .int .i64 (m : Int))]) (fun m => pt b4 (.cells zeroPl 149 (0, 0)) :: F) (fun m => 1 ≤ m ∧ m ≤ 65536 ∧ (m = 1 ∨ 4096 * ((m : Int) - 1) < ((n : Int) - 246 - (((ino + 4095) / 4096 : Nat) : Int) - (((ino + 7) / 8 : Nat) : Int)) - (m - 1))) (fun m => 65536 - m) 1 ⟨Nat.le_refl _, by decide, .inl rfl⟩ ?_
  rintro m hm
  refine .seq (.sr (.move ?_))
  refine .mul ?_
  refine .move (.move ?_)
  refine .sub ?_
  refine .lss ?_
  refine .z ?_
  refine .cond rfl (fun hb => ?_) (fun hb => ?_)
  · have hlt : 4096 * (m : Int) < ((n : Int) - 246 - (((ino + 4095) / 4096 : Nat) : Int) - (((ino + 7) / 8 : Nat) : Int)) - m := of_decide_eq_true hb
    refine .skip (.next (.block (.region (.move ?_))))
    refine .add ?_
    refine .assign (.nil (.blockNormal ?_))
    refine .cast (d := 9) (u := .int .i64 ((m + 1 : Nat) : Int)) rfl (congrArg (Value.int .i64) (by omega)) ?_
    exact .back (m + 1) ⟨by omega, by omega, .inr (by omega)⟩ (by omega)
  · have hge : ¬ 4096 * (m : Int) < ((n : Int) - 246 - (((ino + 4095) / 4096 : Nat) : Int) - (((ino + 7) / 8 : Nat) : Int)) - m := of_decide_eq_false hb
    obtain ⟨hm1, hm2, hm3⟩ := hm
    have hd : ¬ 246 + (ino + 4095) / 4096 + m + (ino + 7) / 8 + 1 ≤ n := fun hd => hno (mkPl n ino m) (mkPl_is hn2 h1 h2 hm1 hd (by omega) (by omega)) rfl rfl
    refine .exit (.thenExit (.thenExit (.blockExit (?_))))
    refine .next (.sr (.move (.move (.move (.move ?_)))))
    refine .sub ?_
    refine .build ?_ (bdPlan _ _ _)
    refine .alloc z149 fun b10 => ?_
    refine .stV ?_ agg149
    refine .z (.seq (.sr ?_))
    refine .fa ?_ fo149_6
    refine .ld ?_ sc3
    refine .lss ?_
    refine .z ?_
    refine .condT rfl (congrArg Value.bool (by first | (simp; done) | (simp; omega) | omega)) ?_
    refine .sr ?_
    refine .build ?_ bdPlan0
    refine .stV ?_ agg149
    refine .assign (.z ?_)
    refine .ret (.thenRet (?_))
    exact .ret2 (h2 := .tmp (t := 5) rfl) ⟨_, ⟨rfl, rfl⟩, Am.auto⟩
theorem refFsE {x y : Value} {e : Int} (he : e ≠ 0) (sp : Spec Tryz.prog 78 #[x, y] [] fun F v M => v = .tuple #[.agg zeroPl, .int .i64 e] ∧ M = F) : Spec Tryz.prog 46 #[x, y] [] fun F v M => v = .tuple #[.pointer none, .int .i64 e] ∧ M = F := by
  refine Spec.intro Tryz.func46 rfl rfl fun B F => ?_
  simp only [Tryz.ntmps46, List.cons_append, List.nil_append, env0, Nat.reduceAdd]
  refine .sr (.assign (.assign (.x (.move (.move ?_)))))
  refine .call (hc := Tryz.call78) (sp := sp) (h := ?_)
  rintro _ _ ⟨rfl, rfl⟩
  refine .move ?_
  refine .extract ?_
  refine .extract ?_
  refine .alloc z149 fun b6 => ?_
  refine .stV ?_ agg149
  refine .assign (.z (.seq (.sr (.move ?_))))
  refine .nei ?_
  refine .z ?_
  refine .condT rfl (congrArg Value.bool (by first | (simp; done) | (simp; omega) | omega)) ?_
  refine .sr (.move (.assign (.assign (.z ?_))))
  refine .ret (.thenRet (?_))
  exact .ret2 (h1 := .tmp (t := 4) rfl) (h2 := .tmp (t := 5) rfl) ⟨_, ⟨rfl, rfl⟩, Am.auto⟩
theorem fsMkfsE {d n : Nat} {x : Value} {e : Int} (he : e ≠ 0) (sp : Spec Tryz.prog 80 #[nI n, x] [] fun F v M => v = .tuple #[.agg zeroPl, .int .i64 e] ∧ M = F) : Spec Tryz.prog 47 #[.pointer (some ⟨d, 0, none⟩), x] [DevR d n zeroD 0] fun F v M => v = .int .i64 e ∧ M = DevR d n zeroD 0 :: F := by
  refine Spec.intro Tryz.func47 rfl rfl fun B F => ?_
  simp only [Tryz.ntmps47, List.cons_append, List.nil_append, env0, Nat.reduceAdd]
  refine .sr (.assign (.x (.move ?_)))
  refine .call (hc := Tryz.call81) (sp := devBlocksR (n := n) (t := 0) (cur := zeroD)) (h := ?_)
  rintro _ _ ⟨rfl, rfl⟩
  refine .move ?_
  refine .call (hc := Tryz.call80) (sp := sp) (h := ?_)
  rintro _ _ ⟨rfl, rfl⟩
  refine .move ?_
  refine .extract ?_
  refine .extract ?_
  refine .alloc z149 fun b5 => ?_
  refine .stV ?_ agg149
  refine .assign (.z (.seq (.sr (.move ?_))))
  refine .nei ?_
  refine .z ?_
  refine .condT rfl (congrArg Value.bool (by first | (simp; done) | (simp; omega) | omega)) ?_
  refine .sr (.move (.assign (.z ?_)))
  refine .ret (.thenRet (?_))
  exact .ret1 (h1 := .tmp (t := 4) rfl) ⟨_, ⟨rfl, rfl⟩, Am.auto⟩
theorem fsMountE {d n : Nat} {e : Int} (he : e ≠ 0) (sp : Spec Tryz.prog 91 #[.pointer (some ⟨d, 0, none⟩)] [DevR d n zeroD 0] fun F v M => v = .tuple #[.pointer none, .int .i64 e] ∧ M = DevR d n zeroD 0 :: F) : Spec Tryz.prog 48 #[.pointer (some ⟨d, 0, none⟩)] [DevR d n zeroD 0] fun F v M => v = .tuple #[.pointer none, .int .i64 e] ∧ M = DevR d n zeroD 0 :: F := by
  refine Spec.intro Tryz.func48 rfl rfl fun B F => ?_
  simp only [Tryz.ntmps48, List.cons_append, List.nil_append, env0, Nat.reduceAdd]
  refine .sr (.assign (.assign (.x (.move ?_))))
  refine .call (hc := Tryz.call91) (sp := sp) (h := ?_)
  rintro _ _ ⟨rfl, rfl⟩
  refine .move ?_
  refine .extract ?_
  refine .extract ?_
  refine .assign (.assign (.z (.seq (.sr (.move ?_)))))
  refine .nei ?_
  refine .z ?_
  refine .condT rfl (congrArg Value.bool (by first | (simp; done) | (simp; omega) | omega)) ?_
  refine .sr (.move (.assign (.assign (.z ?_))))
  refine .ret (.thenRet (?_))
  exact .ret2 (h1 := .tmp (t := 2) rfl) (h2 := .tmp (t := 3) rfl) ⟨_, ⟨rfl, rfl⟩, Am.auto⟩
theorem fsMountBlank {d n : Nat} (hn : n ≤ 65536) : Spec Tryz.prog 48 #[.pointer (some ⟨d, 0, none⟩)] [DevR d n zeroD 0] fun F v M => ∃ e : Int, e ≠ 0 ∧ v = .tuple #[.pointer none, .int .i64 e] ∧ M = DevR d n zeroD 0 :: F := by
  by_cases h : n < 246
  · refine (fsMountE (e := 1) (by decide) (jOpenSmall h)).post ?_
    rintro F v M ⟨rfl, rfl⟩
    exact ⟨_, ⟨1, by decide, rfl, rfl⟩, Wk.refl⟩
  · refine (fsMountE (e := 10) (by decide) (jOpenBad (by omega) zeroD_bad)).post ?_
    rintro F v M ⟨rfl, rfl⟩
    exact ⟨_, ⟨10, by decide, rfl, rfl⟩, Wk.refl⟩
theorem l10Fresh {p : Pl} (h : PlIs p) : Spec Tryz.prog 75 #[nI p.n, nI p.ino] [] fun F v M => ∃ d f m, v = .tuple #[.pointer (some ⟨d, 0, none⟩), .pointer (some ⟨f, 0, none⟩), .pointer (some ⟨m, 0, none⟩), .bool true] ∧ M = FSR f p rootT :: F := by
  refine Spec.intro Tryz.func75 rfl rfl fun B F => ?_
  simp only [Tryz.ntmps75, List.cons_append, List.nil_append, env0, Nat.reduceAdd]
  have hn2 := h.n2
  have h246 : 246 ≤ p.n := by have := h.bm; have := h.m1; have := h.da; have := h.dc; have := h.d1; omega
  refine .sr (.assign (.assign (.assign (.assign (.x (.move ?_))))))
  refine .call (hc := Tryz.call45) (sp := devNew (n := p.n) (by omega) (by omega)) (h := ?_)
  rintro _ _ ⟨d, rfl, rfl⟩
  refine .move ?_
  refine .extract ?_
  refine .extract ?_
  refine .assign (.assign (.x (.move (.move ?_))))
  refine .call (hc := Tryz.call46) (sp := refFs0 h) (h := ?_)
  rintro _ _ ⟨m, rfl, rfl⟩
  refine .move ?_
  refine .extract ?_
  refine .extract ?_
  refine .assign (.assign (.z (.seq (.sr (.move ?_)))))
  refine .nei ?_
  refine .move ?_
  refine .cast (d := 27) (u := .bool false) rfl (congrArg Value.bool (by first | (simp; done) | (simp; omega) | omega)) ?_
  refine .gT ?_
  refine .move ?_
  refine .gT ?_
  refine .nei ?_
  refine .pickF ?_
  refine .move ?_
  refine .cast (d := 31) (u := .bool false) rfl (congrArg Value.bool (by first | (simp; done) | (simp; omega) | omega)) ?_
  refine .gT ?_
  refine .move ?_
  refine .gT ?_
  refine .eqNil ?_ ptr24
  refine .pickF ?_
  refine .move ?_
  refine .gT ?_
  refine .move ?_
  refine .gT ?_
  refine .move ?_
  refine .gT ?_
  refine .call (hc := Tryz.call47) (sp := fsMkfs h) (h := ?_)
  rintro _ _ ⟨J, rfl, hJ, rfl⟩
  refine .gT ?_
  refine .nei ?_
  refine .pickF ?_
  refine .z ?_
  refine .condF rfl (congrArg Value.bool (by first | (simp; done) | (simp; omega) | omega)) ?_
  refine .skip (.next (.sr (.move ?_)))
  refine .call (hc := Tryz.call48) (sp := fsMountNew h hJ) (h := ?_)
  rintro _ _ ⟨f, rfl, rfl⟩
  refine .move ?_
  refine .extract ?_
  refine .extract ?_
  refine .assign (.assign (.x (.move (.move (.move (.move ?_))))))
  refine .eqi ?_
  refine .move ?_
  refine .gT ?_
  refine .move ?_
  refine .gT ?_
  refine .neNil ?_ ptr25
  refine .pickT ?_
  refine .assign (.assign (.assign (.assign (.z ?_))))
  refine .ret (?_)
  exact .ret4 (h1 := .tmp (t := 4) rfl) (h2 := .tmp (t := 5) rfl) (h3 := .tmp (t := 6) rfl) (h4 := .tmp (t := 7) rfl) ⟨_, ⟨d, f, m, rfl, rfl⟩, Am.auto⟩
end Go.Proofs.YtmmlbepfonndaaaGreatDoor
end
section
namespace Go.Proofs.YtmmlbepfonndaaaGreatDoor
open Go
abbrev TL := List (Nat × NodeT)
def trL (l : TL) : FT := fun i => kget l i
theorem trL_put (l : TL) (i : Nat) (x : NodeT) : updT (trL l) i (some x) = trL (kput l i x) := by
  funext j
  unfold updT trL
  rw [kget_put]
theorem trL_mk (l : TL) (d : Nat) (sl : List Slot) (nm : Bytes) (i : Nat) (x : NodeT) : mkT (trL l) d sl nm i x = trL (kput (kput l i x) d (.dir (setS sl (freeS sl) (some (nm, i))))) := by
  unfold mkT
  rw [trL_put, trL_put]
theorem kget_of_mem {κ α : Type} [DecidableEq κ] {l : List (κ × α)} {k : κ} {v : α} (h : kget l k = some v) : (k, v) ∈ l := by
  induction l with
  | nil => cases h
  | cons p r ih =>
    obtain ⟨k', v'⟩ := p
    unfold kget at h
    split at h
    · rename_i hk
      injection h with h
      subst hk; subst h
      exact List.mem_cons_self ..
    · exact List.mem_cons_of_mem _ (ih h)
def NodeT.ok : NodeT → Prop
  | .file _ => True
  | .dir sl => DirOk sl ∧ sl.length ≤ 1000
theorem trL_ok {l : TL} (h : ∀ e ∈ l, e.2.ok) : TOk (trL l) := fun d sl hd => h _ (kget_of_mem hd)
theorem DirOk.consS {r : List Slot} (h : DirOk r) {nm : Bytes} {k : Nat} (hn : 1 ≤ nm.length ∧ nm.length ≤ 50) (hk : k < 4294967296) (hl : lookS nm r = none) : DirOk (some (nm, k) :: r) := by
  have hno := lookS_none hl
  refine ⟨fun q n i hq => ?_, fun p q n i j hp hq => ?_⟩
  · cases q with
    | zero => injection hq with hq; injection hq with hq; injection hq with h1 h2; subst h1; subst h2; exact ⟨hn, hk⟩
    | succ q => exact h.nm q n i hq
  · cases p with
    | zero =>
      injection hp with hp; injection hp with hp; injection hp with h1 h2
      subst h1
      cases q with
      | zero => rfl
      | succ q => exact absurd hq (hno q j)
    | succ p =>
      cases q with
      | zero =>
        injection hq with hq; injection hq with hq; injection hq with h1 h2
        subst h1
        exact absurd hp (hno p i)
      | succ q => rw [h.one p q n i j hp hq]
theorem DirOk.one1 {nm : Bytes} {k : Nat} (hn : 1 ≤ nm.length ∧ nm.length ≤ 50) (hk : k < 4294967296) : DirOk [some (nm, k)] := DirOk.nil.consS hn hk rfl
def totL : TL → Nat
  | [] => 0
  | e :: l => has e.2.size + totL l
theorem tot_no {F : FM} (h : ∀ i, F i = none) : ∀ n, tot F n = 0
  | 0 => rfl
  | n + 1 => by rw [tot, tot_no h n, h]; rfl
theorem trL_cons (k : Nat) (x : NodeT) (l : TL) : trL ((k, x) :: l) = updT (trL l) k (some x) := by
  funext j
  unfold updT trL
  rfl
theorem tot_trL {n : Nat} : ∀ {l : TL}, (l.map (·.1)).Nodup → (∀ e ∈ l, e.1 < n) → tot (fmT (trL l)) n = totL l
  | [], _, _ => tot_no (fun i => rfl) n
  | (k, x) :: l, hn, hb => by
    rw [List.map_cons, List.nodup_cons] at hn
    have ih := tot_trL hn.2 (fun e he => hb e (List.mem_cons_of_mem _ he))
    have h := tot_upd' (fmT (trL l)) (hb (k, x) (List.mem_cons_self ..)) (some x.f)
    rw [fmT_updS, ← trL_cons, fmT_none (show trL l k = none from kget_none.2 hn.1), ih] at h
    have h2 : hasO (some x.f) = has x.size := by show has x.f.2.length = _; rw [x.f_size]
    rw [h2] at h
    have h3 : hasO none = 0 := rfl
    show tot (fmT (trL ((k, x) :: l))) n = has x.size + totL l
    have h4 : tot (fmT (trL ((k, x) :: l))) n + hasO none = totL l + has x.size := h
    omega
theorem rootT_trL : rootT = trL [(0, .dir [])] := by
  funext i
  unfold rootT trL
  by_cases h : i = 0
  · subst h; rfl
  · rw [if_neg h]
    unfold kget
    rw [if_neg h]; rfl
end Go.Proofs.YtmmlbepfonndaaaGreatDoor
end
section
namespace Go.Proofs.YtmmlbepfonndaaaGreatDoor
open Go
theorem fsCreateL {f : Nat} {p : Pl} {l l' : TL} {path : Bytes} {d i : Nat} {nm : Bytes} {sl : List Slot} (ho : PlOk p) (hok : ∀ e ∈ l, e.2.ok) (hn : (l.map (·.1)).Nodup) (hb : ∀ e ∈ l, e.1 < p.ino) (hpl : path.length ≤ 1000000) (hp : path ≠ [47]) (hpar : parentT (trL l) path = (d, nm, 0)) (hfi : findT (trL l) d nm = (0, 4)) (hd : kget l d = some (.dir sl)) (hi : i < p.ino) (hTi : kget l i = none) (hlo : ∀ j < i, kget l j ≠ none)
    (hw : Rw p 0 14) (hfit : totL l + has (max (64 * sl.length) (64 * freeS sl + 64)) ≤ p.dc + has (64 * sl.length)) (hl' : kput (kput l i (.file [])) d (.dir (setS sl (freeS sl) (some (nm, i)))) = l') :
    Spec Tryz.prog 22 #[.pointer (some ⟨f, 0, none⟩), sv path] [FSR f p (trL l)] fun F v M => v = okV ∧ M = FSR f p (trL l') :: F := by
  have := fsCreate (f := f) (p := p) (T := trL l) (path := path) (d := d) (i := i) (nm := nm) (sl := sl) (x := .file []) ho (trL_ok hok) hpl hp hpar hfi hd hi hTi hlo rfl rfl hw (by rw [tot_trL hn hb]; exact hfit)
  rwa [trL_mk, hl'] at this
theorem fsMkdirL {f : Nat} {p : Pl} {l l' : TL} {path : Bytes} {d i : Nat} {nm : Bytes} {sl : List Slot} (ho : PlOk p) (hok : ∀ e ∈ l, e.2.ok) (hn : (l.map (·.1)).Nodup) (hb : ∀ e ∈ l, e.1 < p.ino) (hpl : path.length ≤ 1000000) (hp : path ≠ [47]) (hpar : parentT (trL l) path = (d, nm, 0)) (hfi : findT (trL l) d nm = (0, 4)) (hd : kget l d = some (.dir sl)) (hi : i < p.ino) (hTi : kget l i = none) (hlo : ∀ j < i, kget l j ≠ none)
    (hw : Rw p 0 14) (hfit : totL l + has (max (64 * sl.length) (64 * freeS sl + 64)) ≤ p.dc + has (64 * sl.length)) (hl' : kput (kput l i (.dir [])) d (.dir (setS sl (freeS sl) (some (nm, i)))) = l') :
    Spec Tryz.prog 35 #[.pointer (some ⟨f, 0, none⟩), sv path] [FSR f p (trL l)] fun F v M => v = okV ∧ M = FSR f p (trL l') :: F := by
  have := fsMkdir (f := f) (p := p) (T := trL l) (path := path) (d := d) (i := i) (nm := nm) (sl := sl) (x := .dir []) ho (trL_ok hok) hpl hp hpar hfi hd hi hTi hlo rfl rfl hw (by rw [tot_trL hn hb]; exact hfit)
  rwa [trL_mk, hl'] at this
theorem fsAppendL {f : Nat} {p : Pl} {l l' : TL} {path : Bytes} {i m cc : Nat} {fb bs : Bytes} {R : HP} {A : Option Addr} (ho : PlOk p) (hok : ∀ e ∈ l, e.2.ok) (hn : (l.map (·.1)).Nodup) (hb : ∀ e ∈ l, e.1 < p.ino) (hpl : path.length ≤ 1000000) (hft : fileT (trL l) path = (i, 1, fb.length, 0)) (hTi : kget l i = some (.file fb)) (hR : bs = [] ∨ Reads R A (bvs bs)) (hm : bs.length = m) (hcc : m ≤ cc) (hcb : cc ≤ maxLen)
    (hw : Rw p 0 (has (fb.length + m) - has fb.length + (m + 511) / 512 + 10)) (hbg : fb.length + m ≤ 70656) (hfit : totL l + has (fb.length + m) ≤ p.dc + has fb.length) (hl' : kput l i (.file (wrB fb fb.length bs)) = l') :
    Spec Tryz.prog 23 #[.pointer (some ⟨f, 0, none⟩), sv path, .slice A m cc] [FSR f p (trL l), R] fun F v M => v = okV ∧ M = FSR f p (trL l') :: R :: F := by
  have hmx : max fb.length (fb.length + m) = fb.length + m := Nat.max_eq_right (Nat.le_add_right _ _)
  have := fsAppend (f := f) (p := p) (T := trL l) (path := path) (i := i) (fb := fb) (bs := bs) (R := R) (A := A) (m := m) (cc := cc) ho (trL_ok hok) hpl hft hTi hR hm hcc hcb (by rw [hmx]; exact hw) (Nat.le_refl _) hbg (by rw [hmx, tot_trL hn hb]; exact hfit)
  rwa [trL_put, hl'] at this
theorem okNil : NodeT.ok (.dir []) := ⟨DirOk.nil, by decide⟩
theorem ok1 {nm : Bytes} {k : Nat} (hn : 1 ≤ nm.length ∧ nm.length ≤ 50) (hk : k < 4294967296) : NodeT.ok (.dir [some (nm, k)]) := ⟨DirOk.one1 hn hk, by show 1 ≤ 1000; decide⟩
theorem lt_of_all {l : TL} {n : Nat} (h : (l.all fun e => decide (e.1 < n)) = true) : ∀ e ∈ l, e.1 < n := fun e he => by simpa using List.all_eq_true.1 h e he
end Go.Proofs.YtmmlbepfonndaaaGreatDoor
end
section
namespace Go.Proofs.YtmmlbepfonndaaaGreatDoor
open Go
def someB (n c : Nat) : Bytes := (List.range n).map fun i => UInt8.ofNat (c + i / 7)
theorem someB_length (n c : Nat) : (someB n c).length = n := by simp [someB]
def partB (f : Nat → UInt8) (n k : Nat) : Bytes := (List.range n).map fun j => if j < k then f j else 0
theorem partB_length (f : Nat → UInt8) (n k : Nat) : (partB f n k).length = n := by simp [partB]
theorem partB_zero (f : Nat → UInt8) (n : Nat) : partB f n 0 = List.replicate n 0 := by
  unfold partB
  simp only [Nat.not_lt_zero, if_false]
  rw [List.map_const', List.length_range]
theorem partB_all (f : Nat → UInt8) (n : Nat) : partB f n n = (List.range n).map f := by
  unfold partB
  apply List.map_congr_left
  intro j hj
  rw [if_pos (List.mem_range.1 hj)]
theorem partB_set (f : Nat → UInt8) {n k : Nat} (h : k < n) : (partB f n k).set k (f k) = partB f n (k + 1) := by
  apply List.ext_getElem
  · simp [partB]
  · intro j h1 h2
    simp only [partB, List.getElem_set, List.getElem_map, List.getElem_range]
    by_cases hj : k = j
    · subst hj; rw [if_pos rfl, if_pos (by omega)]
    · rw [if_neg hj]
      by_cases h3 : j < k
      · rw [if_pos h3, if_pos (by omega)]
      · rw [if_neg h3, if_neg (by omega)]
theorem wrap_ofNat (v : Nat) : Value.int .u8 (IntKind.u8.wrap (v : Int)) = bv (UInt8.ofNat v) := by
  unfold bv
  rw [IntKind.wrap_u8, UInt8.toNat_ofNat']
  congr 1
theorem alikeSome {n c : Nat} (hn : n ≤ 100000) (hc : c ≤ 100000) : Spec Tryz.prog 24 #[.int .i64 (n : Int), .int .i64 (c : Int)] [] fun F v M => ∃ b, v = .slice (some ⟨b, 0, none⟩) n n ∧ M = buf b 5 n (bvs (someB n c)) :: F := by
  refine Spec.intro Tryz.func24 rfl rfl fun B F => ?_
  simp only [Tryz.ntmps24, List.cons_append, List.nil_append, env0, Nat.reduceAdd]
  refine .sr (.assign (.x (.move ?_)))
  refine .mkS (k := (n : Int)) z5 (fun b8 => ?_) so42 (by omega) (by omega) (by omega)
  refine .cast (d := 8) (u := .slice (some ⟨b8, 0, none⟩) n n) rfl (by rw [Int.toNat_natCast]) ?_
  refine .to (A := buf b8 5 (n : Int).toNat (List.replicate (n : Int).toNat (.int .u8 0))) (A' := buf b8 5 n (bvs (partB (fun i => UInt8.ofNat (c + i / 7)) n 0))) (fun h hh => by rw [partB_zero, bvs_replicate]; rw [Int.toNat_natCast] at hh; exact hh) ?_
  refine .assign (.z (.seq (.sr (.assign (.z (.block ?_))))))
  refine .loopA (σ := Nat) (fun i => [(0, .int .i64 (n : Int)), (1, .int .i64 (c : Int)), (5, .slice (some ⟨b8, 0, none⟩) n n), (6, .int .i64 (i : Int))]) (fun i => buf b8 5 n (bvs (partB (fun i => UInt8.ofNat (c + i / 7)) n i)) :: F) (fun i => i ≤ n) (fun i => n - i) 0 (Nat.zero_le _) ?_
  rintro i hi
  refine .seq (.sr (.move (.move ?_)))
  refine .lss ?_
  refine .z ?_
  refine .cond rfl (fun hb => ?_) (fun hb => ?_)
  · have hlt : i < n := by have := of_decide_eq_true hb; omega
    refine .skip (.next (.seq (.block (.region (.move (.move (.move (.move ?_))))))))
    refine .quo ?_
    refine .add ?_
    refine .cast (d := 19) (u := .int .i64 ((c + i / 7 : Nat) : Int)) rfl (congrArg (Value.int .i64) (by omega)) ?_
    refine .cvt ?_ un3 un5
    refine .cast (d := 20) (u := bv (UInt8.ofNat (c + i / 7))) rfl (wrap_ofNat _) ?_
    refine .idx1 ?_ so42
    refine .stB ?_ sc5 (show 0 + ((i : Nat) : Int).toNat < (bvs (partB (fun i => UInt8.ofNat (c + i / 7)) n i)).length by rw [bvs_length, partB_length]; omega)
    refine .nil (.blockNormal (.next (.region (.move ?_))))
    refine .add ?_
    refine .assign (.nil ?_)
    refine .to (A := buf b8 5 n ((bvs (partB (fun i => UInt8.ofNat (c + i / 7)) n i)).set (0 + ((i : Nat) : Int).toNat) (bv (UInt8.ofNat (c + i / 7))))) (A' := buf b8 5 n (bvs (partB (fun i => UInt8.ofNat (c + i / 7)) n (i + 1)))) (fun h hh => by rw [← partB_set (fun i => UInt8.ofNat (c + i / 7)) hlt, bvs_set]; rw [show 0 + ((i : Nat) : Int).toNat = i from by omega] at hh; exact hh) ?_
    refine .cast (d := 6) (u := .int .i64 ((i + 1 : Nat) : Int)) rfl (congrArg (Value.int .i64) (by omega)) ?_
    exact .back (i + 1) (by omega) (by omega)
  · have hge : ¬ i < n := by have := of_decide_eq_false hb; omega
    have hin : i = n := by omega
    subst hin
    refine .exit (.thenExit (.thenExit (.blockExit (?_))))
    refine .next (.sr (.move (.assign (.z ?_))))
    refine .ret (?_)
    refine .to (A := buf b8 5 i (bvs (partB (fun i => UInt8.ofNat (c + i / 7)) i i))) (A' := buf b8 5 i (bvs (someB i c))) (fun h hh => by rw [partB_all] at hh; exact hh) ?_
    exact .ret1 (h1 := .tmp (t := 4) rfl) ⟨_, ⟨b8, rfl, rfl⟩, Am.auto⟩
end Go.Proofs.YtmmlbepfonndaaaGreatDoor
end
section
namespace Go.Proofs.YtmmlbepfonndaaaGreatDoor
open Go
abbrev awL0 : TL := [(0, .dir [])]
abbrev awL1 : TL := [(0, .dir [some ([97], 1)]), (1, .dir [])]
abbrev awL2 (b : Bytes) : TL := [(0, .dir [some ([97], 1)]), (1, .dir [some ([120], 2)]), (2, .file b)]
theorem awL0_ok : ∀ e ∈ awL0, e.2.ok := by
  intro e he
  simp only [awL0, List.mem_cons, List.not_mem_nil, or_false] at he
  subst he
  exact okNil
theorem awL1_ok : ∀ e ∈ awL1, e.2.ok := by
  intro e he
  simp only [awL1, List.mem_cons, List.not_mem_nil, or_false] at he
  rcases he with rfl | rfl
  · exact ok1 (by decide) (by decide)
  · exact okNil
theorem awL2_ok (b : Bytes) : ∀ e ∈ awL2 b, e.2.ok := by
  intro e he
  simp only [awL2, List.mem_cons, List.not_mem_nil, or_false] at he
  rcases he with rfl | rfl | rfl
  · exact ok1 (by decide) (by decide)
  · exact ok1 (by decide) (by decide)
  · exact trivial
theorem p10_is : PlIs (pD 400 16) := pD_is (by decide) (by decide) (by decide) (by decide)
theorem awMk {f : Nat} : Spec Tryz.prog 35 #[.pointer (some ⟨f, 0, none⟩), sv [47, 97]] [FSR f (pD 400 16) (trL awL0)] fun F v M => v = okV ∧ M = FSR f (pD 400 16) (trL awL1) :: F :=
  fsMkdirL (d := 0) (i := 1) (nm := [97]) (sl := []) p10_is.ok awL0_ok (by decide) (lt_of_all rfl) (by decide) (by decide) rfl rfl rfl (by decide) rfl (fun j hj => by
    obtain rfl : j = 0 := by omega
    intro h; cases h) (.inr (by decide)) (by decide) rfl
theorem awCr {f : Nat} : Spec Tryz.prog 22 #[.pointer (some ⟨f, 0, none⟩), sv [47, 97, 47, 120]] [FSR f (pD 400 16) (trL awL1)] fun F v M => v = okV ∧ M = FSR f (pD 400 16) (trL (awL2 [])) :: F :=
  fsCreateL (d := 1) (i := 2) (nm := [120]) (sl := []) p10_is.ok awL1_ok (by decide) (lt_of_all rfl) (by decide) (by decide) rfl rfl rfl (by decide) rfl (fun j hj => by
    rcases j with _ | _ | j
    · intro h; cases h
    · intro h; cases h
    · omega) (.inr (by decide)) (by decide) rfl
theorem awAp {f m cc : Nat} {bs : Bytes} {R : HP} {A : Option Addr} (hR : bs = [] ∨ Reads R A (bvs bs)) (hm : bs.length = 600) (hcc : 600 ≤ cc) (hcb : cc ≤ maxLen) : Spec Tryz.prog 23 #[.pointer (some ⟨f, 0, none⟩), sv [47, 97, 47, 120], .slice A 600 cc] [FSR f (pD 400 16) (trL (awL2 [])), R] fun F v M => v = okV ∧ M = FSR f (pD 400 16) (trL (awL2 (wrB [] 0 bs))) :: R :: F :=
  fsAppendL (i := 2) (fb := []) p10_is.ok (awL2_ok []) (by show [0, 1, 2].Nodup; decide) (lt_of_all rfl) (by decide) rfl rfl hR hm hcc hcb (.inr (by decide)) (by decide) (by decide) rfl
theorem awTot (b : Bytes) (h : b.length = 600) : tot (fmT (trL (awL2 b))) (pD 400 16).ino = 4 := by
  rw [tot_trL (by show [0, 1, 2].Nodup; decide) (lt_of_all rfl)]
  show has 64 + (has 64 + (has b.length + 0)) = 4
  rw [h]; rfl
theorem awTot0 : tot (fmT (trL awL0)) (pD 400 16).ino = 0 := by
  rw [tot_trL (by decide) (lt_of_all rfl)]
  rfl
theorem l10Awake : Spec Tryz.prog 44 #[] [] fun F v M => v = .bool true ∧ M = F := by
  refine Spec.intro Tryz.func44 rfl rfl fun B F => ?_
  simp only [Tryz.ntmps44, List.cons_append, List.nil_append, env0, Nat.reduceAdd]
  have hWl := someB_length 600 1
  obtain ⟨Wn, hWn⟩ : ∃ Wn, someB 600 1 = Wn := ⟨_, rfl⟩
  rw [hWn] at hWl
  have hwl : (wrB [] 0 Wn).length = 600 := by rw [wrB_length, hWl]; rfl
  refine .sr (.assign (.x ?_))
  refine .call (hc := Tryz.call75) (sp := l10Fresh p10_is) (h := ?_)
  rintro _ _ ⟨d, f, m, rfl, rfl⟩
  rw [rootT_trL]
  refine .move ?_
  refine .extract ?_
  refine .extract ?_
  refine .extract ?_
  refine .extract ?_
  refine .assign (.assign (.assign (.assign (.z (.seq (.sr (.move ?_)))))))
  refine .not ?_
  refine .z ?_
  refine .condF rfl rfl ?_
  refine .skip (.next (.sr (.move ?_)))
  refine .call (hc := Tryz.call49) (sp := fsFree (f := f) (p := pD 400 16) (T := trL awL0) p10_is.ok) (h := ?_)
  rintro _ _ ⟨rfl, rfl⟩
  rw [awTot0]
  refine .move ?_
  refine .extract ?_
  refine .extract ?_
  refine .assign (.assign (.z (.seq (.sr (.move ?_)))))
  refine .call (hc := Tryz.call35) (sp := awMk (f := f)) (h := ?_)
  rintro _ _ ⟨rfl, rfl⟩
  refine .nei ?_
  refine .move ?_
  refine .cast (d := 25) (u := .bool false) rfl (congrArg Value.bool (by first | (simp; done) | (simp; omega) | omega)) ?_
  refine .gT ?_
  refine .move ?_
  refine .gT ?_
  refine .call (hc := Tryz.call22) (sp := awCr (f := f)) (h := ?_)
  rintro _ _ ⟨rfl, rfl⟩
  refine .gT ?_
  refine .nei ?_
  refine .pickF ?_
  refine .move ?_
  refine .cast (d := 30) (u := .bool false) rfl (congrArg Value.bool (by first | (simp; done) | (simp; omega) | omega)) ?_
  refine .gT ?_
  refine .move ?_
  refine .gT ?_
  refine .call (hc := Tryz.call24) (sp := alikeSome (n := 600) (c := 1) (by decide) (by decide)) (h := ?_)
  rintro _ _ ⟨bs, rfl, rfl⟩
  rw [hWn]
  refine .gT ?_
  refine .call (hc := Tryz.call23) (sp := awAp (f := f) (m := 600) (cc := 600) (bs := Wn) (R := buf bs 5 600 (bvs Wn)) (A := some ⟨bs, 0, none⟩) (.inr Reads.buf) hWl (Nat.le_refl _) (by decide)) (h := ?_)
  rintro _ _ ⟨rfl, rfl⟩
  refine .gT ?_
  refine .nei ?_
  refine .pickF ?_
  refine .z ?_
  refine .condF rfl (congrArg Value.bool (by first | (simp; done) | (simp; omega) | omega)) ?_
  refine .skip (.next (.sr (.move ?_)))
  refine .call (hc := Tryz.call49) (sp := fsFree (f := f) (p := pD 400 16) (T := trL (awL2 (wrB [] 0 Wn))) p10_is.ok) (h := ?_)
  rintro _ _ ⟨rfl, rfl⟩
  rw [awTot _ hwl]
  refine .move ?_
  refine .extract ?_
  refine .extract ?_
  refine .assign (.assign (.x (.move (.move ?_))))
  refine .sub ?_
  refine .eqi ?_
  refine .move ?_
  refine .cast (d := 45) (u := .bool true) rfl (congrArg Value.bool (by first | (simp; done) | (simp; omega) | omega)) ?_
  refine .gT ?_
  refine .move ?_
  refine .gT ?_
  refine .call (hc := Tryz.call76) (sp := fsRenameNo (f := f) (p := pD 400 16) (T := trL (awL2 (wrB [] 0 Wn))) (from_ := [47, 97]) (to := [47, 97, 47, 98]) p10_is.ok (by decide) (by decide) rfl) (h := ?_)
  rintro _ _ ⟨rfl, rfl⟩
  refine .gT ?_
  refine .eqi ?_
  refine .pickT ?_
  refine .move ?_
  refine .cast (d := 50) (u := .bool true) rfl (congrArg Value.bool (by first | (simp; done) | (simp; omega) | omega)) ?_
  refine .gT ?_
  refine .move ?_
  refine .gT ?_
  refine .call (hc := Tryz.call51) (sp := fsRemoveE (f := f) (p := pD 400 16) (T := trL (awL2 (wrB [] 0 Wn))) (path := [47, 97]) (e := 7) p10_is.ok (trL_ok (awL2_ok _)) (by decide) (.inr ⟨0, [97], 1, 0, rfl, rfl, .inr ⟨rfl, rfl, [some ([120], 2)], rfl, fun h => by cases h⟩⟩) (by decide)) (h := ?_)
  rintro _ _ ⟨rfl, rfl⟩
  refine .gT ?_
  refine .eqi ?_
  refine .pickT ?_
  refine .assign (.z ?_)
  refine .ret (?_)
  exact .ret1 (h1 := .tmp (t := 0) rfl) ⟨_, ⟨rfl, rfl⟩, Am.auto⟩
end Go.Proofs.YtmmlbepfonndaaaGreatDoor
end
section
namespace Go.Proofs.YtmmlbepfonndaaaGreatDoor
open Go
theorem bk4 : boolOk Tryz.prog 4 = true := by kernel_rfl
theorem refMakeFull {n ino : Nat} (hn1 : 1 ≤ n) (hn2 : n ≤ 65536) (h1 : 1 ≤ ino) (h2 : ino ≤ 4096) (hno : ∀ p, PlIs p → p.n = n → p.ino = ino → False) : Spec Tryz.prog 78 #[nI n, nI ino] [] fun F v M => v = .tuple #[.agg zeroPl, .int .i64 3] ∧ M = F := by
  refine (refMakeS hn1 hn2 h1 h2).post ?_
  rintro F v M ⟨⟨p, hp, e1, e2, _⟩ | ⟨rfl, _⟩, rfl⟩
  · exact absurd (hno p hp e1 e2) id
  · exact ⟨_, ⟨rfl, rfl⟩, Wk.refl⟩
theorem lawFsMakes {n ino : Int} (hn : -9223372036854775808 ≤ n ∧ n ≤ 9223372036854775807) (hi : -9223372036854775808 ≤ ino ∧ ino ≤ 9223372036854775807) : Spec Tryz.prog 13 #[.int .i64 n, .int .i64 ino] [] fun F v M => v = .bool true ∧ M = F := by
  refine Spec.intro Tryz.func13 rfl rfl fun B F => ?_
  simp only [Tryz.ntmps13, List.cons_append, List.nil_append, env0, Nat.reduceAdd]
  by_cases h1 : n < 1
  · refine .sr (.assign (.z (.seq (.sr (.move ?_)))))
    refine .lss ?_
    refine .move ?_
    refine .cast (d := 16) (u := .bool true) rfl (congrArg Value.bool (by first | (simp; done) | (simp; omega) | omega)) ?_
    refine .gF ?_
    refine .gF ?_
    refine .pickT ?_
    refine .z ?_
    refine .condT rfl rfl ?_
    refine .sr ?_
    refine .call (hc := Tryz.call44) (sp := l10Awake) (h := ?_)
    rintro _ _ ⟨rfl, rfl⟩
    refine .assign (.z ?_)
    refine .ret (.thenRet (?_))
    exact .ret1 (h1 := .tmp (t := 4) rfl) ⟨_, ⟨rfl, rfl⟩, Am.auto⟩
  · by_cases h2 : 2000 < n
    · refine .sr (.assign (.z (.seq (.sr (.move ?_)))))
      refine .lss ?_
      refine .move ?_
      refine .cast (d := 16) (u := .bool false) rfl (congrArg Value.bool (by first | (simp; done) | (simp; omega) | omega)) ?_
      refine .gT ?_
      refine .move ?_
      refine .gT ?_
      refine .gtr ?_
      refine .pickF ?_
      refine .z ?_
      refine .condT rfl (congrArg Value.bool (by first | (simp; done) | (simp; omega) | omega)) ?_
      refine .sr ?_
      refine .call (hc := Tryz.call44) (sp := l10Awake) (h := ?_)
      rintro _ _ ⟨rfl, rfl⟩
      refine .assign (.z ?_)
      refine .ret (.thenRet (?_))
      exact .ret1 (h1 := .tmp (t := 4) rfl) ⟨_, ⟨rfl, rfl⟩, Am.auto⟩
    · obtain ⟨N, rfl⟩ : ∃ N : Nat, n = N := ⟨n.toNat, by omega⟩
      by_cases hr : ino < 1 ∨ 4096 < ino
      · refine .sr (.assign (.z (.seq (.sr (.move ?_)))))
        refine .lss ?_
        refine .move ?_
        refine .cast (d := 16) (u := .bool false) rfl (congrArg Value.bool (by first | (simp; done) | (simp; omega) | omega)) ?_
        refine .gT ?_
        refine .move ?_
        refine .gT ?_
        refine .gtr ?_
        refine .pickF ?_
        refine .z ?_
        refine .condF rfl (congrArg Value.bool (by first | (simp; done) | (simp; omega) | omega)) ?_
        refine .skip (.next (.sr (.move ?_)))
        refine .call (hc := Tryz.call45) (sp := devNew (n := N) (by omega) (by omega)) (h := ?_)
        rintro _ _ ⟨d, rfl, rfl⟩
        refine .move ?_
        refine .extract ?_
        refine .extract ?_
        refine .assign (.assign (.z (.seq (.sr (.move ?_)))))
        refine .nei ?_
        refine .move ?_
        refine .cast (d := 28) (u := .bool false) rfl (congrArg Value.bool (by first | (simp; done) | (simp; omega) | omega)) ?_
        refine .gT ?_
        refine .move ?_
        refine .gT ?_
        refine .eqNil ?_ ptr24
        refine .pickF ?_
        refine .z ?_
        refine .condF rfl rfl ?_
        refine .skip (.next (.sr (.move (.move ?_))))
        refine .call (hc := Tryz.call46) (sp := refFsE (e := 1) (by decide) (refMakeArg (by omega) (by omega) hr)) (h := ?_)
        rintro _ _ ⟨rfl, rfl⟩
        refine .move ?_
        refine .extract ?_
        refine .extract ?_
        refine .assign (.assign (.z (.seq (.sr (.move (.move ?_))))))
        refine .call (hc := Tryz.call47) (sp := fsMkfsE (n := N) (e := 1) (by decide) (layMakeArg (by omega) (by omega) hr)) (h := ?_)
        rintro _ _ ⟨rfl, rfl⟩
        refine .move ?_
        refine .nei ?_
        refine .z ?_
        refine .condF rfl (congrArg Value.bool (by first | (simp; done) | (simp; omega) | omega)) ?_
        refine .skip (.next (.sr (.move ?_)))
        refine .call (hc := Tryz.call48) (sp := fsMountBlank (n := N) (by omega)) (h := ?_)
        rintro _ _ ⟨e, he, rfl, rfl⟩
        refine .move ?_
        refine .extract ?_
        refine .extract ?_
        refine .assign (.assign (.x (.assign (.x (.move ?_)))))
        refine .call (hc := Tryz.call49) (sp := fsFreeNil) (h := ?_)
        rintro _ _ ⟨rfl, hM⟩
        obtain rfl := hM.symm
        refine .move ?_
        refine .extract ?_
        refine .extract ?_
        refine .assign (.assign (.x (.move ?_)))
        refine .eqi ?_
        refine .cast (d := 54) (u := .bool false) rfl (congrArg Value.bool (decide_eq_false he)) ?_
        refine .move ?_
        refine .eqi ?_
        refine .cast (d := 56) (u := .bool false) rfl rfl ?_
        refine .eqB ?_ bk4
        refine .move ?_
        refine .gT ?_
        refine .move ?_
        refine .gT ?_
        refine .neNil ?_ ptr25
        refine .gT ?_
        refine .move ?_
        refine .gT ?_
        refine .eqi ?_
        refine .cast (d := 62) (u := .bool false) rfl rfl ?_
        refine .gT ?_
        refine .eqB ?_ bk4
        refine .pickT ?_
        refine .move ?_
        refine .gT ?_
        refine .move ?_
        refine .gT ?_
        refine .call (hc := Tryz.call35) (sp := fsMkdirNil (path := [47, 97])) (h := ?_)
        rintro _ _ ⟨rfl, hM⟩
        obtain rfl := hM.symm
        refine .gT ?_
        refine .eqi ?_
        refine .pickT ?_
        refine .move ?_
        refine .cast (d := 70) (u := .bool true) rfl (congrArg Value.bool (by first | (simp; done) | (simp; omega) | omega)) ?_
        refine .gT ?_
        refine .move ?_
        refine .gT ?_
        refine .eqi ?_
        refine .pickT ?_
        refine .move ?_
        refine .cast (d := 74) (u := .bool true) rfl (congrArg Value.bool (by first | (simp; done) | (simp; omega) | omega)) ?_
        refine .gT ?_
        refine .move ?_
        refine .gT ?_
        refine .eqi ?_
        refine .pickT ?_
        refine .move ?_
        refine .cast (d := 78) (u := .bool true) rfl (congrArg Value.bool (by first | (simp; done) | (simp; omega) | omega)) ?_
        refine .gT ?_
        refine .call (hc := Tryz.call44) (sp := l10Awake) (h := ?_)
        rintro _ _ ⟨rfl, rfl⟩
        refine .pickT ?_
        refine .assign (.z ?_)
        refine .ret (?_)
        exact .ret1 (h1 := .tmp (t := 4) rfl) ⟨_, ⟨rfl, rfl⟩, Am.auto⟩
      · obtain ⟨I, rfl⟩ : ∃ I : Nat, ino = I := ⟨ino.toNat, by omega⟩
        by_cases hp : ∃ p, PlIs p ∧ p.n = N ∧ p.ino = I
        · obtain ⟨p, hp, rfl, rfl⟩ := hp
          refine .sr (.assign (.z (.seq (.sr (.move ?_)))))
          refine .lss ?_
          refine .move ?_
          refine .cast (d := 16) (u := .bool false) rfl (congrArg Value.bool (by first | (simp; done) | (simp; omega) | omega)) ?_
          refine .gT ?_
          refine .move ?_
          refine .gT ?_
          refine .gtr ?_
          refine .pickF ?_
          refine .z ?_
          refine .condF rfl (congrArg Value.bool (by first | (simp; done) | (simp; omega) | omega)) ?_
          refine .skip (.next (.sr (.move ?_)))
          refine .call (hc := Tryz.call45) (sp := devNew (n := p.n) (by omega) (by omega)) (h := ?_)
          rintro _ _ ⟨d, rfl, rfl⟩
          refine .move ?_
          refine .extract ?_
          refine .extract ?_
          refine .assign (.assign (.z (.seq (.sr (.move ?_)))))
          refine .nei ?_
          refine .move ?_
          refine .cast (d := 28) (u := .bool false) rfl (congrArg Value.bool (by first | (simp; done) | (simp; omega) | omega)) ?_
          refine .gT ?_
          refine .move ?_
          refine .gT ?_
          refine .eqNil ?_ ptr24
          refine .pickF ?_
          refine .z ?_
          refine .condF rfl rfl ?_
          refine .skip (.next (.sr (.move (.move ?_))))
          refine .call (hc := Tryz.call46) (sp := refFs0 hp) (h := ?_)
          rintro _ _ ⟨m, rfl, rfl⟩
          refine .move ?_
          refine .extract ?_
          refine .extract ?_
          refine .assign (.assign (.z (.seq (.sr (.move (.move ?_))))))
          refine .call (hc := Tryz.call47) (sp := fsMkfs hp) (h := ?_)
          rintro _ _ ⟨J, rfl, hJ, rfl⟩
          refine .move ?_
          refine .nei ?_
          refine .z ?_
          refine .condF rfl (congrArg Value.bool (by first | (simp; done) | (simp; omega) | omega)) ?_
          refine .skip (.next (.sr (.move ?_)))
          refine .call (hc := Tryz.call48) (sp := fsMountNew hp hJ) (h := ?_)
          rintro _ _ ⟨f, rfl, rfl⟩
          refine .move ?_
          refine .extract ?_
          refine .extract ?_
          refine .assign (.assign (.x (.assign (.x (.move ?_)))))
          refine .call (hc := Tryz.call49) (sp := fsFreeNil) (h := ?_)
          rintro _ _ ⟨rfl, hM⟩
          obtain rfl := hM.symm
          refine .move ?_
          refine .extract ?_
          refine .extract ?_
          refine .assign (.assign (.x (.move ?_)))
          refine .eqi ?_
          refine .cast (d := 54) (u := .bool true) rfl rfl ?_
          refine .move ?_
          refine .eqi ?_
          refine .cast (d := 56) (u := .bool true) rfl rfl ?_
          refine .eqB ?_ bk4
          refine .move ?_
          refine .gT ?_
          refine .move ?_
          refine .gT ?_
          refine .neNil ?_ ptr25
          refine .gT ?_
          refine .move ?_
          refine .gT ?_
          refine .eqi ?_
          refine .cast (d := 62) (u := .bool true) rfl rfl ?_
          refine .gT ?_
          refine .eqB ?_ bk4
          refine .pickT ?_
          refine .move ?_
          refine .gT ?_
          refine .move ?_
          refine .gT ?_
          refine .call (hc := Tryz.call35) (sp := fsMkdirNil (path := [47, 97])) (h := ?_)
          rintro _ _ ⟨rfl, hM⟩
          obtain rfl := hM.symm
          refine .gT ?_
          refine .eqi ?_
          refine .pickT ?_
          refine .move ?_
          refine .cast (d := 70) (u := .bool true) rfl (congrArg Value.bool (by first | (simp; done) | (simp; omega) | omega)) ?_
          refine .gT ?_
          refine .move ?_
          refine .gT ?_
          refine .eqi ?_
          refine .pickT ?_
          refine .move ?_
          refine .cast (d := 74) (u := .bool true) rfl (congrArg Value.bool (by first | (simp; done) | (simp; omega) | omega)) ?_
          refine .gT ?_
          refine .move ?_
          refine .gT ?_
          refine .eqi ?_
          refine .pickT ?_
          refine .move ?_
          refine .cast (d := 78) (u := .bool true) rfl (congrArg Value.bool (by first | (simp; done) | (simp; omega) | omega)) ?_
          refine .gT ?_
          refine .call (hc := Tryz.call44) (sp := l10Awake) (h := ?_)
          rintro _ _ ⟨rfl, rfl⟩
          refine .pickT ?_
          refine .assign (.z ?_)
          refine .ret (?_)
          exact .ret1 (h1 := .tmp (t := 4) rfl) ⟨_, ⟨rfl, rfl⟩, Am.auto⟩
        · have hno : ∀ p, PlIs p → p.n = N → p.ino = I → False := fun p h1 h2 h3 => hp ⟨p, h1, h2, h3⟩
          refine .sr (.assign (.z (.seq (.sr (.move ?_)))))
          refine .lss ?_
          refine .move ?_
          refine .cast (d := 16) (u := .bool false) rfl (congrArg Value.bool (by first | (simp; done) | (simp; omega) | omega)) ?_
          refine .gT ?_
          refine .move ?_
          refine .gT ?_
          refine .gtr ?_
          refine .pickF ?_
          refine .z ?_
          refine .condF rfl (congrArg Value.bool (by first | (simp; done) | (simp; omega) | omega)) ?_
          refine .skip (.next (.sr (.move ?_)))
          refine .call (hc := Tryz.call45) (sp := devNew (n := N) (by omega) (by omega)) (h := ?_)
          rintro _ _ ⟨d, rfl, rfl⟩
          refine .move ?_
          refine .extract ?_
          refine .extract ?_
          refine .assign (.assign (.z (.seq (.sr (.move ?_)))))
          refine .nei ?_
          refine .move ?_
          refine .cast (d := 28) (u := .bool false) rfl (congrArg Value.bool (by first | (simp; done) | (simp; omega) | omega)) ?_
          refine .gT ?_
          refine .move ?_
          refine .gT ?_
          refine .eqNil ?_ ptr24
          refine .pickF ?_
          refine .z ?_
          refine .condF rfl rfl ?_
          refine .skip (.next (.sr (.move (.move ?_))))
          refine .call (hc := Tryz.call46) (sp := refFsE (e := 3) (by decide) (refMakeFull (by omega) (by omega) (by omega) (by omega) hno)) (h := ?_)
          rintro _ _ ⟨rfl, rfl⟩
          refine .move ?_
          refine .extract ?_
          refine .extract ?_
          refine .assign (.assign (.z (.seq (.sr (.move (.move ?_))))))
          refine .call (hc := Tryz.call47) (sp := fsMkfsE (n := N) (e := 3) (by decide) (layMakeFull (by omega) (by omega) (by omega) (by omega) hno)) (h := ?_)
          rintro _ _ ⟨rfl, rfl⟩
          refine .move ?_
          refine .nei ?_
          refine .z ?_
          refine .condF rfl (congrArg Value.bool (by first | (simp; done) | (simp; omega) | omega)) ?_
          refine .skip (.next (.sr (.move ?_)))
          refine .call (hc := Tryz.call48) (sp := fsMountBlank (n := N) (by omega)) (h := ?_)
          rintro _ _ ⟨e, he, rfl, rfl⟩
          refine .move ?_
          refine .extract ?_
          refine .extract ?_
          refine .assign (.assign (.x (.assign (.x (.move ?_)))))
          refine .call (hc := Tryz.call49) (sp := fsFreeNil) (h := ?_)
          rintro _ _ ⟨rfl, hM⟩
          obtain rfl := hM.symm
          refine .move ?_
          refine .extract ?_
          refine .extract ?_
          refine .assign (.assign (.x (.move ?_)))
          refine .eqi ?_
          refine .cast (d := 54) (u := .bool false) rfl (congrArg Value.bool (decide_eq_false he)) ?_
          refine .move ?_
          refine .eqi ?_
          refine .cast (d := 56) (u := .bool false) rfl rfl ?_
          refine .eqB ?_ bk4
          refine .move ?_
          refine .gT ?_
          refine .move ?_
          refine .gT ?_
          refine .neNil ?_ ptr25
          refine .gT ?_
          refine .move ?_
          refine .gT ?_
          refine .eqi ?_
          refine .cast (d := 62) (u := .bool false) rfl rfl ?_
          refine .gT ?_
          refine .eqB ?_ bk4
          refine .pickT ?_
          refine .move ?_
          refine .gT ?_
          refine .move ?_
          refine .gT ?_
          refine .call (hc := Tryz.call35) (sp := fsMkdirNil (path := [47, 97])) (h := ?_)
          rintro _ _ ⟨rfl, hM⟩
          obtain rfl := hM.symm
          refine .gT ?_
          refine .eqi ?_
          refine .pickT ?_
          refine .move ?_
          refine .cast (d := 70) (u := .bool true) rfl (congrArg Value.bool (by first | (simp; done) | (simp; omega) | omega)) ?_
          refine .gT ?_
          refine .move ?_
          refine .gT ?_
          refine .eqi ?_
          refine .pickT ?_
          refine .move ?_
          refine .cast (d := 74) (u := .bool true) rfl (congrArg Value.bool (by first | (simp; done) | (simp; omega) | omega)) ?_
          refine .gT ?_
          refine .move ?_
          refine .gT ?_
          refine .eqi ?_
          refine .pickT ?_
          refine .move ?_
          refine .cast (d := 78) (u := .bool true) rfl (congrArg Value.bool (by first | (simp; done) | (simp; omega) | omega)) ?_
          refine .gT ?_
          refine .call (hc := Tryz.call44) (sp := l10Awake) (h := ?_)
          rintro _ _ ⟨rfl, rfl⟩
          refine .pickT ?_
          refine .assign (.z ?_)
          refine .ret (?_)
          exact .ret1 (h1 := .tmp (t := 4) rfl) ⟨_, ⟨rfl, rfl⟩, Am.auto⟩
end Go.Proofs.YtmmlbepfonndaaaGreatDoor
end
