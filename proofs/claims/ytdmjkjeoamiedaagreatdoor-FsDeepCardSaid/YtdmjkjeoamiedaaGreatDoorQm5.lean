/- A part of the proof of lawFsDeep: texts of this work put together. -/
import Derived.Test.YtdmjkjeoamiedaaGreatDoorQm4
import Derived.KernelRfl
import Derived.Laws.Concat
set_option linter.unusedVariables false
set_option linter.unusedSimpArgs false
set_option linter.unusedSectionVars false
section
namespace Go.Proofs.YtdmjkjeoamiedaaGreatDoor
open Go
theorem sl188 : Tryz.prog.underlying 188 = some (.slice 192) := by kernel_rfl
def RemErr (T : FT) (path : Bytes) (e : Nat) : Prop :=
  (parentT T path).2.2 = e ∨ ∃ d nm i fe, parentT T path = (d, nm, 0) ∧ findT T d nm = (i, fe) ∧ (fe = e ∨ (fe = 0 ∧ e = 7 ∧ ∃ sl, T i = some (.dir sl) ∧ entsS sl ≠ []))
theorem fsRemoveCE {f s a c mp : Nat} {p : Pl} {T : FT} {path : Bytes} {b2 b3 e : Nat} (ho : PlOk p) (hT : TOk T) (hpl : path.length ≤ 1000000) (hm : RemErr T path e) (he : e ≠ 0) : Spec Tryz.prog 108 #[.pointer (some ⟨b2, 0, none⟩), .pointer (some ⟨b3, 0, none⟩)] [pt f (fO c a s false false false mp), LD mp T, IN s a c p (fmT T) (fmT T) 0 true, bun [pt b2 (.cells #[.pointer (some ⟨f, 0, none⟩)] 23 (0, 0)), pt b3 (.cells #[sv path] 9 (0, 0))]] fun F v M => v = nI e ∧ M = pt f (fO c a s false false false mp) :: LD mp T :: IN s a c p (fmT T) (fmT T) 0 true :: bun [pt b2 (.cells #[.pointer (some ⟨f, 0, none⟩)] 23 (0, 0)), pt b3 (.cells #[sv path] 9 (0, 0))] :: F := by
  refine Spec.intro Tryz.func108 rfl rfl fun B F => ?_
  simp only [Tryz.ntmps108, List.cons_append, List.nil_append, env0, Nat.reduceAdd]
  refine .openR (bun.opens _) fun _ _ => ?_
  simp only [List.cons_append, List.nil_append]
  rcases hm with hm | ⟨d, nm, i, fe, hpar, hfi, hm | ⟨rfl, rfl, sl, hTi, hne⟩⟩
  · obtain ⟨d, nm, pe, hpar⟩ : ∃ d nm pe, parentT T path = (d, nm, pe) := ⟨_, _, _, rfl⟩
    rw [hpar] at hm
    simp only at hm
    subst hm
    refine .sr (.assign (.x ?_))
    refine .ld ?_ sc23
    refine .ld ?_ sc9
    refine .call (hc := Tryz.call109) (sp := fsParent (f := f) (s := s) (a := a) (c := c) (mp := mp) (b := false) (ov := false) (dead := false) (p := p) (T := T) (F0 := fmT T) (W := 0) (op := true) (path := path) ho hT hpl) (h := ?_)
    rintro _ _ ⟨rfl, rfl⟩
    rw [hpar]
    refine .move ?_
    refine .extract ?_
    refine .extract ?_
    refine .extract ?_
    refine .assign (.assign (.assign (.z (.seq (.sr (.move ?_))))))
    refine .nei ?_
    refine .z ?_
    refine .condT rfl (congrArg Value.bool (by first | (simp; done) | (simp; omega) | omega)) ?_
    refine .sr (.move (.assign (.z ?_)))
    refine .ret (.thenRet (?_))
    refine .shutR (bun.opens [pt b2 (.cells #[.pointer (some ⟨f, 0, none⟩)] 23 (0, 0)), pt b3 (.cells #[sv path] 9 (0, 0))]) () trivial ?_
    exact .ret1 (h1 := .tmp (t := 2) rfl) ⟨_, ⟨rfl, rfl⟩, Am.auto⟩
  · subst hm
    refine .sr (.assign (.x ?_))
    refine .ld ?_ sc23
    refine .ld ?_ sc9
    refine .call (hc := Tryz.call109) (sp := fsParent (f := f) (s := s) (a := a) (c := c) (mp := mp) (b := false) (ov := false) (dead := false) (p := p) (T := T) (F0 := fmT T) (W := 0) (op := true) (path := path) ho hT hpl) (h := ?_)
    rintro _ _ ⟨rfl, rfl⟩
    rw [hpar]
    refine .move ?_
    refine .extract ?_
    refine .extract ?_
    refine .extract ?_
    refine .assign (.assign (.assign (.z (.seq (.sr (.move ?_))))))
    refine .nei ?_
    refine .z ?_
    refine .condF rfl (congrArg Value.bool (by first | (simp; done) | (simp; omega) | omega)) ?_
    refine .skip (.next (.sr ?_))
    refine .ld ?_ sc23
    refine .move (.move ?_)
    refine .call (hc := Tryz.call110) (sp := fsFind (f := f) (s := s) (a := a) (c := c) (mp := mp) (b := false) (ov := false) (dead := false) (p := p) (T := T) (F0 := fmT T) (W := 0) (op := true) (d := d) (nm := nm) ho hT) (h := ?_)
    rintro _ _ ⟨rfl, rfl⟩
    rw [hfi]
    refine .move ?_
    refine .extract ?_
    refine .extract ?_
    refine .assign (.assign (.z (.seq (.sr (.move ?_)))))
    refine .nei ?_
    refine .z ?_
    refine .condT rfl (congrArg Value.bool (by first | (simp; done) | (simp; omega) | omega)) ?_
    refine .sr (.move (.assign (.z ?_)))
    refine .ret (.thenRet (?_))
    refine .shutR (bun.opens [pt b2 (.cells #[.pointer (some ⟨f, 0, none⟩)] 23 (0, 0)), pt b3 (.cells #[sv path] 9 (0, 0))]) () trivial ?_
    exact .ret1 (h1 := .tmp (t := 2) rfl) ⟨_, ⟨rfl, rfl⟩, Am.auto⟩
  · refine .sr (.assign (.x ?_))
    refine .ld ?_ sc23
    refine .ld ?_ sc9
    refine .call (hc := Tryz.call109) (sp := fsParent (f := f) (s := s) (a := a) (c := c) (mp := mp) (b := false) (ov := false) (dead := false) (p := p) (T := T) (F0 := fmT T) (W := 0) (op := true) (path := path) ho hT hpl) (h := ?_)
    rintro _ _ ⟨rfl, rfl⟩
    rw [hpar]
    refine .move ?_
    refine .extract ?_
    refine .extract ?_
    refine .extract ?_
    refine .assign (.assign (.assign (.z (.seq (.sr (.move ?_))))))
    refine .nei ?_
    refine .z ?_
    refine .condF rfl (congrArg Value.bool (by first | (simp; done) | (simp; omega) | omega)) ?_
    refine .skip (.next (.sr ?_))
    refine .ld ?_ sc23
    refine .move (.move ?_)
    refine .call (hc := Tryz.call110) (sp := fsFind (f := f) (s := s) (a := a) (c := c) (mp := mp) (b := false) (ov := false) (dead := false) (p := p) (T := T) (F0 := fmT T) (W := 0) (op := true) (d := d) (nm := nm) ho hT) (h := ?_)
    rintro _ _ ⟨rfl, rfl⟩
    rw [hfi]
    refine .move ?_
    refine .extract ?_
    refine .extract ?_
    refine .assign (.assign (.z (.seq (.sr (.move ?_)))))
    refine .nei ?_
    refine .z ?_
    refine .condF rfl (congrArg Value.bool (by first | (simp; done) | (simp; omega) | omega)) ?_
    refine .skip (.next (.seq (.sr ?_)))
    refine .ld ?_ sc23
    refine .nilCheck ?_
    refine .fa ?_ fo129_2
    refine .ld ?_ sc126
    refine .move ?_
    refine .call (hc := Tryz.call111) (sp := dList (s := s) (a := a) (c := c) (p := p) (F0 := fmT T) (Fm := fmT T) (W := 0) (d := i) (op := true) (sl := sl) ho (fmT_some hTi) (hT _ _ hTi).1 (by have := (hT _ _ hTi).2; omega)) (h := ?_)
    rintro _ _ ⟨u, l, rfl, ⟨hpm, hso⟩, rfl⟩
    have hll := hpm.length_eq
    refine .fact (rowR_shape (el := 192) (size := 2) (v := u) (k := l.length) (xs := l.flatMap entL)) (fun ⟨A, cc, hu, hR, hc1, hc2, hlen⟩ => ?_)
    subst hu
    have hlp : 0 < l.length := by rw [hll]; exact List.length_pos_iff.2 hne
    refine .move ?_
    refine .extract ?_
    refine .extract ?_
    refine .assign (.assign (.x (.move ?_)))
    refine .eqi ?_
    refine .move ?_
    refine .cast (d := 41) (u := .bool true) rfl (congrArg Value.bool (by first | (simp; done) | (simp; omega) | omega)) ?_
    refine .gT ?_
    refine .move ?_
    refine .gT ?_
    refine .lenS ?_ sl188
    refine .gT ?_
    refine .gtr ?_
    refine .pickT ?_
    refine .z ?_
    refine .condT rfl (congrArg Value.bool (by first | (simp; done) | (simp; omega) | omega)) ?_
    refine .sr (.assign (.z ?_))
    refine .ret (.thenRet (?_))
    refine .shutR (bun.opens [pt b2 (.cells #[.pointer (some ⟨f, 0, none⟩)] 23 (0, 0)), pt b3 (.cells #[sv path] 9 (0, 0))]) () trivial ?_
    exact .ret1 (h1 := .tmp (t := 2) rfl) ⟨_, ⟨rfl, rfl⟩, Am.auto⟩
theorem fsRemoveE {f : Nat} {p : Pl} {T : FT} {path : Bytes} (ho : PlOk p) (hT : TOk T) (hpl : path.length ≤ 1000000) {e : Nat} (hm : RemErr T path e) (he : e ≠ 0) : Spec Tryz.prog 50 #[.pointer (some ⟨f, 0, none⟩), sv path] [FSR f p T] fun F v M => v = nI e ∧ M = FSR f p T :: F := by
  refine Spec.intro Tryz.func50 rfl rfl fun B F => ?_
  simp only [Tryz.ntmps50, List.cons_append, List.nil_append, env0, Nat.reduceAdd]
  refine .openR (FSR.opens f p T) fun y _ => ?_
  obtain ⟨c, a, s, mp⟩ := y
  simp only [fsLs, List.cons_append, List.nil_append]
  refine .sr ?_
  refine .box fun b2 => ?_
  refine .box fun b3 => ?_
  refine .assign (.x ?_)
  refine .ld ?_ sc23
  refine .shutR (bun.opens [pt b2 (.cells #[.pointer (some ⟨f, 0, none⟩)] 23 (0, 0)), pt b3 (.cells #[sv path] 9 (0, 0))]) () trivial ?_
  refine .makeFuncB ?_
  refine .call (hc := Tryz.call92) (sp := fsChangeE (s := s) (a := a) (c := c) (p := p) (f := f) (mp := mp) (T := T) (S := T) he ho (hc := Tryz.call108) (sp := (fsRemoveCE (b2 := b2) (b3 := b3) ho hT hpl hm he))) (h := ?_)
  rintro _ _ ⟨rfl, rfl⟩
  refine .assign (.z ?_)
  refine .ret (?_)
  refine .shutR (FSR.opens f p T) (c, a, s, mp) trivial ?_
  exact .ret1 (h1 := .tmp (t := 4) rfl) ⟨_, ⟨rfl, rfl⟩, Am.auto⟩
theorem fsFree {f : Nat} {p : Pl} {T : FT} (ho : PlOk p) : Spec Tryz.prog 52 #[.pointer (some ⟨f, 0, none⟩)] [FSR f p T] fun F v M => v = .tuple #[.int .i64 ((p.dc : Int) - tot (fmT T) p.ino), .int .i64 ((p.ino : Int) - cntF (fmT T) p.ino)] ∧ M = FSR f p T :: F := by
  refine Spec.intro Tryz.func52 rfl rfl fun B F => ?_
  simp only [Tryz.ntmps52, List.cons_append, List.nil_append, env0, Nat.reduceAdd]
  refine .openR (FSR.opens f p T) fun y _ => ?_
  obtain ⟨c, a, s, mp⟩ := y
  simp only [fsLs, List.cons_append, List.nil_append]
  refine .sr (.assign (.assign (.z (.seq (.sr (.move ?_))))))
  refine .eqNil ?_ ptr23
  refine .move ?_
  refine .gT ?_
  refine .move ?_
  refine .gT ?_
  refine .nilCheck ?_
  refine .gT ?_
  refine .fa ?_ fo129_0
  refine .gT ?_
  refine .ld ?_ sc124
  refine .gT ?_
  refine .eqNil ?_ ptr124
  refine .pickF ?_
  refine .z ?_
  refine .condF rfl rfl ?_
  refine .skip (.next (.sr (.move ?_)))
  refine .nilCheck ?_
  refine .fa ?_ fo129_1
  refine .ld ?_ sc125
  refine .call (hc := Tryz.call112) (sp := nFree (s := s) (a := a) (c := c) (p := p) (F0 := fmT T) (F := fmT T) (W := 0) (op := false) ho) (h := ?_)
  rintro _ _ ⟨rfl, rfl⟩
  refine .extract ?_
  refine .extract ?_
  refine .assign (.assign (.z ?_))
  refine .ret (?_)
  refine .shutR (FSR.opens f p T) (c, a, s, mp) trivial ?_
  exact .ret2 (h1 := .tmp (t := 2) rfl) (h2 := .tmp (t := 3) rfl) ⟨_, ⟨rfl, rfl⟩, Am.auto⟩
end Go.Proofs.YtdmjkjeoamiedaaGreatDoor
end
section
namespace Go.Proofs.YtdmjkjeoamiedaaGreatDoor
open Go
section
variable {P : Program} {B : Base} {n : Fr} {Q Q' : Exit → Act → World → Prop} {e : Env} {L : List HP} {ops : Array Oper} {l : List Oper}
variable {d : Nat} {ty : TypeId} {pos : String} {af : Array Edge} {x y z : Operand} {gd : Option (Nat × Bool)}
theorem bstr_append (xs ys : Bytes) : bstr xs ++ bstr ys = bstr (xs ++ ys) := by
  apply ByteArray.ext
  simp [bstr]
theorem Qt.catS {t u : TypeId} (xs ys : Bytes) (hl : xs.length + ys.length ≤ 9223372036854775807) (hx : evo e x = some (sv xs) := by rfl) (hy : evo e y = some (sv ys) := by rfl) :
    Qt P B n e L ⟨some d, .binOp .add t x y u, ty, pos, af, gd⟩ (sv (xs ++ ys)) :=
  Qt.strs (xs := bstr xs) (ys := bstr ys) (fun w => by
    rw [binOp_string_add, run_string_add_sum w _ _ (by rw [bstr_size, bstr_size]; exact hl), bstr_append]; rfl) hx hy
theorem WL.catS {t u : TypeId} (xs ys : Bytes) (h : WL P B n ops l Q ((d, sv (xs ++ ys)) :: e) L) (hl : xs.length + ys.length ≤ 9223372036854775807) (hx : evo e x = some (sv xs) := by rfl) (hy : evo e y = some (sv ys) := by rfl) (hd : Nat.ble (d + 1) n.k = true := by rfl) :
    WL P B n ops (⟨some d, .binOp .add t x y u, ty, pos, af, none⟩ :: l) Q e L := WL.pure h hd (Qt.catS xs ys hl hx hy)
end
end Go.Proofs.YtdmjkjeoamiedaaGreatDoor
end
section
namespace Go.Proofs.YtdmjkjeoamiedaaGreatDoor
open Go
def mayT (from_ to : Bytes) : Bool := match partsT from_, partsT to with
  | some a, some b => decide (0 < a.length) && decide (0 < b.length) && !decide (to.take (from_ ++ [47]).length = from_ ++ [47])
  | _, _ => false
theorem hasPreS {xs ps : Bytes} : Spec Tryz.prog 175 #[sv xs, sv ps] [] fun F v M => v = .bool (decide (xs.take ps.length = ps)) ∧ M = F := by
  refine Spec.intro Tryz.func175 rfl rfl fun B F => ?_
  simp only [Tryz.ntmps175, List.cons_append, List.nil_append, env0, Nat.reduceAdd]
  refine .sr (.assign (.x (.move (.move ?_))))
  refine .call (hc := Tryz.call248) (sp := hasPre) (h := ?_)
  rintro _ _ ⟨rfl, rfl⟩
  refine .assign (.z ?_)
  refine .ret (?_)
  exact .ret1 (h1 := .tmp (t := 4) rfl) ⟨_, ⟨rfl, rfl⟩, Am.auto⟩
theorem fsMay {xs ys : Bytes} (hx : xs.length ≤ 1000000) (hy : ys.length ≤ 1000000) : Spec Tryz.prog 94 #[sv xs, sv ys] [] fun F v M => v = .bool (mayT xs ys) ∧ M = F := by
  refine Spec.intro Tryz.func94 rfl rfl fun B F => ?_
  simp only [Tryz.ntmps94, List.cons_append, List.nil_append, env0, Nat.reduceAdd]
  cases hpx : partsT xs with
  | none =>
    cases hpy : partsT ys with
    | none =>
      have hmt : mayT xs ys = false := by unfold mayT; rw [hpx]
      refine .sr (.assign (.x (.move ?_)))
      refine .call (hc := Tryz.call154) (sp := fsPartsNo hx hpx) (h := ?_)
      rintro _ _ ⟨rfl, hM⟩
      obtain rfl := hM.symm
      refine .move ?_
      refine .extract ?_
      refine .extract ?_
      refine .assign (.assign (.x (.move ?_)))
      refine .call (hc := Tryz.call154) (sp := fsPartsNo hy hpy) (h := ?_)
      rintro _ _ ⟨rfl, hM⟩
      obtain rfl := hM.symm
      refine .move ?_
      refine .extract ?_
      refine .extract ?_
      refine .assign (.assign (.x (.move ?_)))
      refine .eqi ?_
      refine .move ?_
      refine .cast (d := 21) (u := .bool false) rfl (congrArg Value.bool (by first | (simp; done) | (exact decide_eq_true (by omega)) | (exact decide_eq_false (by omega)) | (simp; omega) | omega)) ?_
      refine .gF ?_
      refine .gF ?_
      refine .pickF ?_
      refine .move ?_
      refine .gF ?_
      refine .gF ?_
      refine .gF ?_
      refine .pickF ?_
      refine .move ?_
      refine .gF ?_
      refine .gF ?_
      refine .gF ?_
      refine .pickF ?_
      refine .move ?_
      refine .gF ?_
      refine .gF ?_
      refine .gF ?_
      refine .gF ?_
      refine .gF ?_
      refine .pickF ?_
      refine .assign (.z ?_)
      refine .ret (?_)
      exact .ret1 (h1 := .tmp (t := 4) rfl) ⟨_, ⟨by rw [hmt], rfl⟩, Am.auto⟩
    | some ly =>
      have hmt : mayT xs ys = false := by unfold mayT; rw [hpx]
      refine .sr (.assign (.x (.move ?_)))
      refine .call (hc := Tryz.call154) (sp := fsPartsNo hx hpx) (h := ?_)
      rintro _ _ ⟨rfl, hM⟩
      obtain rfl := hM.symm
      refine .move ?_
      refine .extract ?_
      refine .extract ?_
      refine .assign (.assign (.x (.move ?_)))
      refine .call (hc := Tryz.call154) (sp := fsParts hy hpy) (h := ?_)
      rintro _ _ ⟨uy, rfl, rfl⟩
      refine .fact (rowR_shape (el := 9) (size := 1) (v := uy) (k := ly.length) (xs := svs ly)) (fun ⟨Ay, ccy, huy, hRy, hc1y, hc2y, hleny⟩ => ?_)
      subst huy
      refine .move ?_
      refine .extract ?_
      refine .extract ?_
      refine .assign (.assign (.x (.move ?_)))
      refine .eqi ?_
      refine .move ?_
      refine .cast (d := 21) (u := .bool false) rfl (congrArg Value.bool (by first | (simp; done) | (exact decide_eq_true (by omega)) | (exact decide_eq_false (by omega)) | (simp; omega) | omega)) ?_
      refine .gF ?_
      refine .gF ?_
      refine .pickF ?_
      refine .move ?_
      refine .gF ?_
      refine .gF ?_
      refine .gF ?_
      refine .pickF ?_
      refine .move ?_
      refine .gF ?_
      refine .gF ?_
      refine .gF ?_
      refine .pickF ?_
      refine .move ?_
      refine .gF ?_
      refine .gF ?_
      refine .gF ?_
      refine .gF ?_
      refine .gF ?_
      refine .pickF ?_
      refine .assign (.z ?_)
      refine .ret (?_)
      exact .ret1 (h1 := .tmp (t := 4) rfl) ⟨_, ⟨by rw [hmt], rfl⟩, Am.auto⟩
  | some lx =>
    cases hpy : partsT ys with
    | none =>
      have hmt : mayT xs ys = false := by unfold mayT; rw [hpx, hpy]
      refine .sr (.assign (.x (.move ?_)))
      refine .call (hc := Tryz.call154) (sp := fsParts hx hpx) (h := ?_)
      rintro _ _ ⟨ux, rfl, rfl⟩
      refine .fact (rowR_shape (el := 9) (size := 1) (v := ux) (k := lx.length) (xs := svs lx)) (fun ⟨Ax, ccx, hux, hRx, hc1x, hc2x, hlenx⟩ => ?_)
      subst hux
      refine .move ?_
      refine .extract ?_
      refine .extract ?_
      refine .assign (.assign (.x (.move ?_)))
      refine .call (hc := Tryz.call154) (sp := fsPartsNo hy hpy) (h := ?_)
      rintro _ _ ⟨rfl, hM⟩
      obtain rfl := hM.symm
      refine .move ?_
      refine .extract ?_
      refine .extract ?_
      refine .assign (.assign (.x (.move ?_)))
      refine .eqi ?_
      refine .move ?_
      refine .cast (d := 21) (u := .bool true) rfl (congrArg Value.bool (by first | (simp; done) | (exact decide_eq_true (by omega)) | (exact decide_eq_false (by omega)) | (simp; omega) | omega)) ?_
      refine .gT ?_
      refine .move ?_
      refine .gT ?_
      refine .eqi ?_
      refine .pickT ?_
      refine .move ?_
      refine .cast (d := 25) (u := .bool false) rfl (congrArg Value.bool (by first | (simp; done) | (exact decide_eq_true (by omega)) | (exact decide_eq_false (by omega)) | (simp; omega) | omega)) ?_
      refine .gF ?_
      refine .gF ?_
      refine .gF ?_
      refine .pickF ?_
      refine .move ?_
      refine .gF ?_
      refine .gF ?_
      refine .gF ?_
      refine .pickF ?_
      refine .move ?_
      refine .gF ?_
      refine .gF ?_
      refine .gF ?_
      refine .gF ?_
      refine .gF ?_
      refine .pickF ?_
      refine .assign (.z ?_)
      refine .ret (?_)
      exact .ret1 (h1 := .tmp (t := 4) rfl) ⟨_, ⟨by rw [hmt], rfl⟩, Am.auto⟩
    | some ly =>
      have hmt : mayT xs ys = (decide (0 < lx.length) && decide (0 < ly.length) && !decide (ys.take (xs ++ [47]).length = xs ++ [47])) := by unfold mayT; rw [hpx, hpy]
      by_cases h1 : 0 < lx.length
      · by_cases h2 : 0 < ly.length
        · refine .sr (.assign (.x (.move ?_)))
          refine .call (hc := Tryz.call154) (sp := fsParts hx hpx) (h := ?_)
          rintro _ _ ⟨ux, rfl, rfl⟩
          refine .fact (rowR_shape (el := 9) (size := 1) (v := ux) (k := lx.length) (xs := svs lx)) (fun ⟨Ax, ccx, hux, hRx, hc1x, hc2x, hlenx⟩ => ?_)
          subst hux
          refine .move ?_
          refine .extract ?_
          refine .extract ?_
          refine .assign (.assign (.x (.move ?_)))
          refine .call (hc := Tryz.call154) (sp := fsParts hy hpy) (h := ?_)
          rintro _ _ ⟨uy, rfl, rfl⟩
          refine .fact (rowR_shape (el := 9) (size := 1) (v := uy) (k := ly.length) (xs := svs ly)) (fun ⟨Ay, ccy, huy, hRy, hc1y, hc2y, hleny⟩ => ?_)
          subst huy
          refine .move ?_
          refine .extract ?_
          refine .extract ?_
          refine .assign (.assign (.x (.move ?_)))
          refine .eqi ?_
          refine .move ?_
          refine .cast (d := 21) (u := .bool true) rfl (congrArg Value.bool (by first | (simp; done) | (exact decide_eq_true (by omega)) | (exact decide_eq_false (by omega)) | (simp; omega) | omega)) ?_
          refine .gT ?_
          refine .move ?_
          refine .gT ?_
          refine .eqi ?_
          refine .pickT ?_
          refine .move ?_
          refine .cast (d := 25) (u := .bool true) rfl (congrArg Value.bool (by first | (simp; done) | (exact decide_eq_true (by omega)) | (exact decide_eq_false (by omega)) | (simp; omega) | omega)) ?_
          refine .gT ?_
          refine .move ?_
          refine .gT ?_
          refine .lenS ?_ sl92
          refine .gT ?_
          refine .gtr ?_
          refine .pickT ?_
          refine .move ?_
          refine .cast (d := 30) (u := .bool true) rfl (congrArg Value.bool (by first | (simp; done) | (exact decide_eq_true (by omega)) | (exact decide_eq_false (by omega)) | (simp; omega) | omega)) ?_
          refine .gT ?_
          refine .move ?_
          refine .gT ?_
          refine .lenS ?_ sl92
          refine .gT ?_
          refine .gtr ?_
          refine .pickT ?_
          refine .move ?_
          refine .cast (d := 35) (u := .bool true) rfl (congrArg Value.bool (by first | (simp; done) | (exact decide_eq_true (by omega)) | (exact decide_eq_false (by omega)) | (simp; omega) | omega)) ?_
          refine .gT ?_
          refine .move ?_
          refine .gT ?_
          refine .move ?_
          refine .gT ?_
          refine .catS xs [47] ?_ (by simp only [List.length_cons, List.length_nil]; omega)
          refine .gT ?_
          refine .call (hc := Tryz.call175) (sp := hasPreS (xs := ys) (ps := xs ++ [47])) (h := ?_)
          rintro _ _ ⟨rfl, rfl⟩
          refine .gT ?_
          refine .not ?_
          refine .pickT ?_
          refine .assign (.z ?_)
          refine .ret (?_)
          exact .ret1 (h1 := .tmp (t := 4) rfl) ⟨_, ⟨by rw [hmt, decide_eq_true h1, decide_eq_true h2]; rfl, rfl⟩, Am.auto⟩
        · refine .sr (.assign (.x (.move ?_)))
          refine .call (hc := Tryz.call154) (sp := fsParts hx hpx) (h := ?_)
          rintro _ _ ⟨ux, rfl, rfl⟩
          refine .fact (rowR_shape (el := 9) (size := 1) (v := ux) (k := lx.length) (xs := svs lx)) (fun ⟨Ax, ccx, hux, hRx, hc1x, hc2x, hlenx⟩ => ?_)
          subst hux
          refine .move ?_
          refine .extract ?_
          refine .extract ?_
          refine .assign (.assign (.x (.move ?_)))
          refine .call (hc := Tryz.call154) (sp := fsParts hy hpy) (h := ?_)
          rintro _ _ ⟨uy, rfl, rfl⟩
          refine .fact (rowR_shape (el := 9) (size := 1) (v := uy) (k := ly.length) (xs := svs ly)) (fun ⟨Ay, ccy, huy, hRy, hc1y, hc2y, hleny⟩ => ?_)
          subst huy
          refine .move ?_
          refine .extract ?_
          refine .extract ?_
          refine .assign (.assign (.x (.move ?_)))
          refine .eqi ?_
          refine .move ?_
          refine .cast (d := 21) (u := .bool true) rfl (congrArg Value.bool (by first | (simp; done) | (exact decide_eq_true (by omega)) | (exact decide_eq_false (by omega)) | (simp; omega) | omega)) ?_
          refine .gT ?_
          refine .move ?_
          refine .gT ?_
          refine .eqi ?_
          refine .pickT ?_
          refine .move ?_
          refine .cast (d := 25) (u := .bool true) rfl (congrArg Value.bool (by first | (simp; done) | (exact decide_eq_true (by omega)) | (exact decide_eq_false (by omega)) | (simp; omega) | omega)) ?_
          refine .gT ?_
          refine .move ?_
          refine .gT ?_
          refine .lenS ?_ sl92
          refine .gT ?_
          refine .gtr ?_
          refine .pickT ?_
          refine .move ?_
          refine .cast (d := 30) (u := .bool true) rfl (congrArg Value.bool (by first | (simp; done) | (exact decide_eq_true (by omega)) | (exact decide_eq_false (by omega)) | (simp; omega) | omega)) ?_
          refine .gT ?_
          refine .move ?_
          refine .gT ?_
          refine .lenS ?_ sl92
          refine .gT ?_
          refine .gtr ?_
          refine .pickT ?_
          refine .move ?_
          refine .cast (d := 35) (u := .bool false) rfl (congrArg Value.bool (by first | (simp; done) | (exact decide_eq_true (by omega)) | (exact decide_eq_false (by omega)) | (simp; omega) | omega)) ?_
          refine .gF ?_
          refine .gF ?_
          refine .gF ?_
          refine .gF ?_
          refine .gF ?_
          refine .pickF ?_
          refine .assign (.z ?_)
          refine .ret (?_)
          exact .ret1 (h1 := .tmp (t := 4) rfl) ⟨_, ⟨by rw [hmt, decide_eq_true h1, decide_eq_false h2]; rfl, rfl⟩, Am.auto⟩
      · refine .sr (.assign (.x (.move ?_)))
        refine .call (hc := Tryz.call154) (sp := fsParts hx hpx) (h := ?_)
        rintro _ _ ⟨ux, rfl, rfl⟩
        refine .fact (rowR_shape (el := 9) (size := 1) (v := ux) (k := lx.length) (xs := svs lx)) (fun ⟨Ax, ccx, hux, hRx, hc1x, hc2x, hlenx⟩ => ?_)
        subst hux
        refine .move ?_
        refine .extract ?_
        refine .extract ?_
        refine .assign (.assign (.x (.move ?_)))
        refine .call (hc := Tryz.call154) (sp := fsParts hy hpy) (h := ?_)
        rintro _ _ ⟨uy, rfl, rfl⟩
        refine .fact (rowR_shape (el := 9) (size := 1) (v := uy) (k := ly.length) (xs := svs ly)) (fun ⟨Ay, ccy, huy, hRy, hc1y, hc2y, hleny⟩ => ?_)
        subst huy
        refine .move ?_
        refine .extract ?_
        refine .extract ?_
        refine .assign (.assign (.x (.move ?_)))
        refine .eqi ?_
        refine .move ?_
        refine .cast (d := 21) (u := .bool true) rfl (congrArg Value.bool (by first | (simp; done) | (exact decide_eq_true (by omega)) | (exact decide_eq_false (by omega)) | (simp; omega) | omega)) ?_
        refine .gT ?_
        refine .move ?_
        refine .gT ?_
        refine .eqi ?_
        refine .pickT ?_
        refine .move ?_
        refine .cast (d := 25) (u := .bool true) rfl (congrArg Value.bool (by first | (simp; done) | (exact decide_eq_true (by omega)) | (exact decide_eq_false (by omega)) | (simp; omega) | omega)) ?_
        refine .gT ?_
        refine .move ?_
        refine .gT ?_
        refine .lenS ?_ sl92
        refine .gT ?_
        refine .gtr ?_
        refine .pickT ?_
        refine .move ?_
        refine .cast (d := 30) (u := .bool false) rfl (congrArg Value.bool (by first | (simp; done) | (exact decide_eq_true (by omega)) | (exact decide_eq_false (by omega)) | (simp; omega) | omega)) ?_
        refine .gF ?_
        refine .gF ?_
        refine .gF ?_
        refine .pickF ?_
        refine .move ?_
        refine .gF ?_
        refine .gF ?_
        refine .gF ?_
        refine .gF ?_
        refine .gF ?_
        refine .pickF ?_
        refine .assign (.z ?_)
        refine .ret (?_)
        exact .ret1 (h1 := .tmp (t := 4) rfl) ⟨_, ⟨by rw [hmt, decide_eq_false h1]; rfl, rfl⟩, Am.auto⟩
theorem fsRenameC0 {f s a c mp : Nat} {p : Pl} {T : FT} {from_ to : Bytes} {b3 b4 b5 : Nat} (h1 : from_.length ≤ 1000000) (h2 : to.length ≤ 1000000) (hm : mayT from_ to = false) : Spec Tryz.prog 93 #[.pointer (some ⟨b4, 0, none⟩), .pointer (some ⟨b5, 0, none⟩), .pointer (some ⟨b3, 0, none⟩)] [pt f (fO c a s false false false mp), LD mp T, IN s a c p (fmT T) (fmT T) 0 true, bun [pt b3 (.cells #[.pointer (some ⟨f, 0, none⟩)] 23 (0, 0)), pt b4 (.cells #[sv from_] 9 (0, 0)), pt b5 (.cells #[sv to] 9 (0, 0))]] fun F v M => v = nI 1 ∧ M = pt f (fO c a s false false false mp) :: LD mp T :: IN s a c p (fmT T) (fmT T) 0 true :: bun [pt b3 (.cells #[.pointer (some ⟨f, 0, none⟩)] 23 (0, 0)), pt b4 (.cells #[sv from_] 9 (0, 0)), pt b5 (.cells #[sv to] 9 (0, 0))] :: F := by
  refine Spec.intro Tryz.func93 rfl rfl fun B F => ?_
  simp only [Tryz.ntmps93, List.cons_append, List.nil_append, env0, Nat.reduceAdd]
  refine .openR (bun.opens _) fun _ _ => ?_
  simp only [List.cons_append, List.nil_append]
  refine .sr (.assign (.z (.seq (.sr ?_))))
  refine .ld ?_ sc9
  refine .ld ?_ sc9
  refine .call (hc := Tryz.call94) (sp := fsMay h1 h2) (h := ?_)
  rintro _ _ ⟨rfl, rfl⟩
  rw [hm]
  refine .not ?_
  refine .z ?_
  refine .condT rfl rfl ?_
  refine .sr (.assign (.z ?_))
  refine .ret (.thenRet (?_))
  refine .shutR (bun.opens [pt b3 (.cells #[.pointer (some ⟨f, 0, none⟩)] 23 (0, 0)), pt b4 (.cells #[sv from_] 9 (0, 0)), pt b5 (.cells #[sv to] 9 (0, 0))]) () trivial ?_
  exact .ret1 (h1 := .tmp (t := 3) rfl) ⟨_, ⟨rfl, rfl⟩, Am.auto⟩
theorem fsRenameNo {f : Nat} {p : Pl} {T : FT} {from_ to : Bytes} (ho : PlOk p) (h1 : from_.length ≤ 1000000) (h2 : to.length ≤ 1000000) (hm : mayT from_ to = false) : Spec Tryz.prog 47 #[.pointer (some ⟨f, 0, none⟩), sv from_, sv to] [FSR f p T] fun F v M => v = nI 1 ∧ M = FSR f p T :: F := by
  refine Spec.intro Tryz.func47 rfl rfl fun B F => ?_
  simp only [Tryz.ntmps47, List.cons_append, List.nil_append, env0, Nat.reduceAdd]
  refine .openR (FSR.opens f p T) fun y _ => ?_
  obtain ⟨c, a, s, mp⟩ := y
  simp only [fsLs, List.cons_append, List.nil_append]
  refine .sr ?_
  refine .box fun b3 => ?_
  refine .box fun b4 => ?_
  refine .box fun b5 => ?_
  refine .assign (.x ?_)
  refine .ld ?_ sc23
  refine .shutR (bun.opens [pt b3 (.cells #[.pointer (some ⟨f, 0, none⟩)] 23 (0, 0)), pt b4 (.cells #[sv from_] 9 (0, 0)), pt b5 (.cells #[sv to] 9 (0, 0))]) () trivial ?_
  refine .makeFuncB ?_
  refine .call (hc := Tryz.call92) (sp := fsChangeE (s := s) (a := a) (c := c) (p := p) (f := f) (mp := mp) (T := T) (S := T) (e := 1) (by decide) ho (hc := Tryz.call93) (sp := (fsRenameC0 (b3 := b3) (b4 := b4) (b5 := b5) h1 h2 hm))) (h := ?_)
  rintro _ _ ⟨rfl, rfl⟩
  refine .assign (.z ?_)
  refine .ret (?_)
  refine .shutR (FSR.opens f p T) (c, a, s, mp) trivial ?_
  exact .ret1 (h1 := .tmp (t := 6) rfl) ⟨_, ⟨rfl, rfl⟩, Am.auto⟩
theorem l10Fresh {p : Pl} (h : PlIs p) : Spec Tryz.prog 46 #[nI p.n, nI p.ino] [] fun F v M => ∃ d f m, v = .tuple #[.pointer (some ⟨d, 0, none⟩), .pointer (some ⟨f, 0, none⟩), .pointer (some ⟨m, 0, none⟩), .bool true] ∧ M = FSR f p rootT :: F := by
  refine Spec.intro Tryz.func46 rfl rfl fun B F => ?_
  simp only [Tryz.ntmps46, List.cons_append, List.nil_append, env0, Nat.reduceAdd]
  have hn2 := h.n2
  have h246 : 246 ≤ p.n := by have := h.bm; have := h.m1; have := h.da; have := h.dc; have := h.d1; omega
  refine .sr (.assign (.assign (.assign (.assign (.x (.move ?_))))))
  refine .call (hc := Tryz.call62) (sp := devNew (n := p.n) (by omega) (by omega)) (h := ?_)
  rintro _ _ ⟨d, rfl, rfl⟩
  refine .move ?_
  refine .extract ?_
  refine .extract ?_
  refine .assign (.assign (.x (.move (.move ?_))))
  refine .call (hc := Tryz.call57) (sp := refFs0 h) (h := ?_)
  rintro _ _ ⟨m, rfl, rfl⟩
  refine .move ?_
  refine .extract ?_
  refine .extract ?_
  refine .assign (.assign (.z (.seq (.sr (.move ?_)))))
  refine .nei ?_
  refine .move ?_
  refine .cast (d := 27) (u := .bool false) rfl (congrArg Value.bool (by first | (simp; done) | (simp; omega) | omega)) ?_
  refine .gT ?_
  refine .move ?_
  refine .gT ?_
  refine .nei ?_
  refine .pickF ?_
  refine .move ?_
  refine .cast (d := 31) (u := .bool false) rfl (congrArg Value.bool (by first | (simp; done) | (simp; omega) | omega)) ?_
  refine .gT ?_
  refine .move ?_
  refine .gT ?_
  refine .eqNil ?_ ptr22
  refine .pickF ?_
  refine .move ?_
  refine .gT ?_
  refine .move ?_
  refine .gT ?_
  refine .move ?_
  refine .gT ?_
  refine .call (hc := Tryz.call63) (sp := fsMkfs h) (h := ?_)
  rintro _ _ ⟨J, rfl, hJ, rfl⟩
  refine .gT ?_
  refine .nei ?_
  refine .pickF ?_
  refine .z ?_
  refine .condF rfl (congrArg Value.bool (by first | (simp; done) | (simp; omega) | omega)) ?_
  refine .skip (.next (.sr (.move ?_)))
  refine .call (hc := Tryz.call64) (sp := fsMountNew h hJ) (h := ?_)
  rintro _ _ ⟨f, rfl, rfl⟩
  refine .move ?_
  refine .extract ?_
  refine .extract ?_
  refine .assign (.assign (.x (.move (.move (.move (.move ?_))))))
  refine .eqi ?_
  refine .move ?_
  refine .gT ?_
  refine .move ?_
  refine .gT ?_
  refine .neNil ?_ ptr23
  refine .pickT ?_
  refine .assign (.assign (.assign (.assign (.z ?_))))
  refine .ret (?_)
  exact .ret4 (h1 := .tmp (t := 4) rfl) (h2 := .tmp (t := 5) rfl) (h3 := .tmp (t := 6) rfl) (h4 := .tmp (t := 7) rfl) ⟨_, ⟨d, f, m, rfl, rfl⟩, Am.auto⟩
end Go.Proofs.YtdmjkjeoamiedaaGreatDoor
end
section
namespace Go.Proofs.YtdmjkjeoamiedaaGreatDoor
open Go
abbrev qP : Pl := pD 500 30
theorem q_is : PlIs (pD 500 30) := pD_is (by decide) (by decide) (by decide) (by decide)
def chain : Nat → Nat → TL
  | k, 0 => [(k, .dir [])]
  | k, n + 1 => (k, .dir [some ([100], k + 1)]) :: chain (k + 1) n
def deepP : Nat → Bytes
  | 0 => []
  | n + 1 => deepP n ++ [47, 100]
theorem deepP_length : ∀ n, (deepP n).length = 2 * n
  | 0 => rfl
  | n + 1 => by rw [deepP, List.length_append, deepP_length n]; show 2 * n + 2 = _; omega
theorem chain_ok : ∀ (n k : Nat), k + n < 1000 → ∀ e ∈ chain k n, e.2.ok
  | 0, k, _, e, he => by
    simp only [chain, List.mem_cons, List.not_mem_nil, or_false] at he
    subst he; exact okNil
  | n + 1, k, h, e, he => by
    rw [chain, List.mem_cons] at he
    rcases he with rfl | he
    · exact ok1 (by decide) (by omega)
    · exact chain_ok n (k + 1) (by omega) e he
theorem deepLo {i : Nat} (h : i < 8) : ∀ j < i + 1, kget (chain 0 i) j ≠ none := by
  intro j hj
  have : ∀ i < 8, ∀ j < i + 1, (kget (chain 0 i) j).isSome = true := by decide
  have := this i h j hj
  intro hh; rw [hh] at this; cases this
theorem deepPar {i : Nat} (h : i < 8) : parentT (trL (chain 0 i)) (deepP (i + 1)) = (i, [100], 0) :=
  match i, h with
  | 0, _ => rfl
  | 1, _ => rfl
  | 2, _ => rfl
  | 3, _ => rfl
  | 4, _ => rfl
  | 5, _ => rfl
  | 6, _ => rfl
  | 7, _ => rfl
  | k + 8, h => absurd h (by omega)
theorem deepFind {i : Nat} (h : i < 8) : findT (trL (chain 0 i)) i [100] = (0, 4) :=
  match i, h with
  | 0, _ => rfl
  | 1, _ => rfl
  | 2, _ => rfl
  | 3, _ => rfl
  | 4, _ => rfl
  | 5, _ => rfl
  | 6, _ => rfl
  | 7, _ => rfl
  | k + 8, h => absurd h (by omega)
theorem deepDir {i : Nat} (h : i < 8) : kget (chain 0 i) i = some (.dir []) :=
  match i, h with
  | 0, _ => rfl
  | 1, _ => rfl
  | 2, _ => rfl
  | 3, _ => rfl
  | 4, _ => rfl
  | 5, _ => rfl
  | 6, _ => rfl
  | 7, _ => rfl
  | k + 8, h => absurd h (by omega)
theorem deepNew {i : Nat} (h : i < 8) : kput (kput (chain 0 i) (i + 1) (.dir [])) i (.dir (setS [] (freeS []) (some ([100], i + 1)))) = chain 0 (i + 1) :=
  match i, h with
  | 0, _ => rfl
  | 1, _ => rfl
  | 2, _ => rfl
  | 3, _ => rfl
  | 4, _ => rfl
  | 5, _ => rfl
  | 6, _ => rfl
  | 7, _ => rfl
  | k + 8, h => absurd h (by omega)
theorem deepNo {i : Nat} (h : i < 8) : kget (chain 0 i) (i + 1) = none :=
  match i, h with
  | 0, _ => rfl
  | 1, _ => rfl
  | 2, _ => rfl
  | 3, _ => rfl
  | 4, _ => rfl
  | 5, _ => rfl
  | 6, _ => rfl
  | 7, _ => rfl
  | k + 8, h => absurd h (by omega)
theorem deepNd {i : Nat} (h : i < 8) : ((chain 0 i).map (·.1)).Nodup := by
  have : ∀ i < 8, ((chain 0 i).map (·.1)).Nodup := by decide
  exact this i h
theorem deepIno {i : Nat} (h : i < 8) : ∀ e ∈ chain 0 i, e.1 < qP.ino :=
  match i, h with
  | 0, _ => lt_of_all rfl
  | 1, _ => lt_of_all rfl
  | 2, _ => lt_of_all rfl
  | 3, _ => lt_of_all rfl
  | 4, _ => lt_of_all rfl
  | 5, _ => lt_of_all rfl
  | 6, _ => lt_of_all rfl
  | 7, _ => lt_of_all rfl
  | k + 8, h => absurd h (by omega)
theorem deepTot {i : Nat} (h : i < 8) : totL (chain 0 i) + has (max (64 * ([] : List Slot).length) (64 * freeS [] + 64)) ≤ qP.dc + has (64 * ([] : List Slot).length) :=
  match i, h with
  | 0, _ => by decide
  | 1, _ => by decide
  | 2, _ => by decide
  | 3, _ => by decide
  | 4, _ => by decide
  | 5, _ => by decide
  | 6, _ => by decide
  | 7, _ => by decide
  | k + 8, h => absurd h (by omega)
theorem deepMk {f i : Nat} (h : i < 8) : Spec Tryz.prog 28 #[.pointer (some ⟨f, 0, none⟩), sv (deepP (i + 1))] [FSR f qP (trL (chain 0 i))] fun F v M => v = okV ∧ M = FSR f qP (trL (chain 0 (i + 1))) :: F :=
  fsMkdirL (d := i) (i := i + 1) (nm := [100]) (sl := []) q_is.ok (chain_ok i 0 (by omega)) (deepNd h) (deepIno h) (by rw [deepP_length]; omega) (fun hh => by have := congrArg List.length hh; rw [deepP_length] at this; change 2 * (i + 1) = 1 at this; omega) (deepPar h) (deepFind h) (deepDir h) (by show i + 1 < 30; omega) (deepNo h) (deepLo h) (.inr (by decide)) (deepTot h) (deepNew h)
theorem deepParts {i : Nat} (h : 8 < i) (h2 : i ≤ 10) : partsT (deepP i) = none := by
  obtain rfl | rfl : i = 9 ∨ i = 10 := by omega
  · rfl
  · rfl
theorem deepMkE {f i : Nat} (h : 8 ≤ i) (h2 : i ≤ 9) : Spec Tryz.prog 28 #[.pointer (some ⟨f, 0, none⟩), sv (deepP (i + 1))] [FSR f qP (trL (chain 0 8))] fun F v M => v = nI 1 ∧ M = FSR f qP (trL (chain 0 8)) :: F :=
  fsMkdirE (f := f) (p := qP) (T := trL (chain 0 8)) q_is.ok (trL_ok (chain_ok 8 0 (by decide))) (by rw [deepP_length]; omega) (by
    have hp := deepParts (i := i + 1) (by omega) (by omega)
    have hne : deepP (i + 1) ≠ [47] := fun hh => by have := congrArg List.length hh; rw [deepP_length] at this; change 2 * (i + 1) = 1 at this; omega
    unfold makeE parentT
    rw [if_neg hne, hp]
    rfl) (by decide)
theorem deepStat {i : Nat} (h : i < 8) : leadsT (trL (chain 0 (i + 1))) (deepP (i + 1)) = (i + 1, 2, 0, 0) :=
  match i, h with
  | 0, _ => rfl
  | 1, _ => rfl
  | 2, _ => rfl
  | 3, _ => rfl
  | 4, _ => rfl
  | 5, _ => rfl
  | 6, _ => rfl
  | 7, _ => rfl
  | k + 8, h => absurd h (by omega)
theorem deepStatE {T : FT} {i : Nat} (h : 8 < i) (h2 : i ≤ 10) : leadsT T (deepP i) = (0, 0, 0, 1) := by
  unfold leadsT
  rw [deepParts h h2]
end Go.Proofs.YtdmjkjeoamiedaaGreatDoor
end
section
namespace Go.Proofs.YtdmjkjeoamiedaaGreatDoor
open Go
def someB (n c : Nat) : Bytes := (List.range n).map fun i => UInt8.ofNat (c + i / 7)
theorem someB_length (n c : Nat) : (someB n c).length = n := by simp [someB]
def partB (f : Nat → UInt8) (n k : Nat) : Bytes := (List.range n).map fun j => if j < k then f j else 0
theorem partB_length (f : Nat → UInt8) (n k : Nat) : (partB f n k).length = n := by simp [partB]
theorem partB_zero (f : Nat → UInt8) (n : Nat) : partB f n 0 = List.replicate n 0 := by
  unfold partB
  simp only [Nat.not_lt_zero, if_false]
  rw [List.map_const', List.length_range]
theorem partB_all (f : Nat → UInt8) (n : Nat) : partB f n n = (List.range n).map f := by
  unfold partB
  apply List.map_congr_left
  intro j hj
  rw [if_pos (List.mem_range.1 hj)]
theorem partB_set (f : Nat → UInt8) {n k : Nat} (h : k < n) : (partB f n k).set k (f k) = partB f n (k + 1) := by
  apply List.ext_getElem
  · simp [partB]
  · intro j h1 h2
    simp only [partB, List.getElem_set, List.getElem_map, List.getElem_range]
    by_cases hj : k = j
    · subst hj; rw [if_pos rfl, if_pos (by omega)]
    · rw [if_neg hj]
      by_cases h3 : j < k
      · rw [if_pos h3, if_pos (by omega)]
      · rw [if_neg h3, if_neg (by omega)]
theorem wrap_ofNat (v : Nat) : Value.int .u8 (IntKind.u8.wrap (v : Int)) = bv (UInt8.ofNat v) := by
  unfold bv
  rw [IntKind.wrap_u8, UInt8.toNat_ofNat']
  congr 1
theorem alikeSome {n c : Nat} (hn : n ≤ 100000) (hc : c ≤ 100000) : Spec Tryz.prog 19 #[.int .i64 (n : Int), .int .i64 (c : Int)] [] fun F v M => ∃ b, v = .slice (some ⟨b, 0, none⟩) n n ∧ M = buf b 5 n (bvs (someB n c)) :: F := by
  refine Spec.intro Tryz.func19 rfl rfl fun B F => ?_
  simp only [Tryz.ntmps19, List.cons_append, List.nil_append, env0, Nat.reduceAdd]
  refine .sr (.assign (.x (.move ?_)))
  refine .mkS (k := (n : Int)) z5 (fun b8 => ?_) so33 (by omega) (by omega) (by omega)
  refine .cast (d := 8) (u := .slice (some ⟨b8, 0, none⟩) n n) rfl (by rw [Int.toNat_natCast]) ?_
  refine .to (A := buf b8 5 (n : Int).toNat (List.replicate (n : Int).toNat (.int .u8 0))) (A' := buf b8 5 n (bvs (partB (fun i => UInt8.ofNat (c + i / 7)) n 0))) (fun h hh => by rw [partB_zero, bvs_replicate]; rw [Int.toNat_natCast] at hh; exact hh) ?_
  refine .assign (.z (.seq (.sr (.assign (.z (.block ?_))))))
  refine .loopA (σ := Nat) (fun i => [(0, .int .i64 (n : Int)), (1, .int .i64 (c : Int)), (5, .slice (some ⟨b8, 0, none⟩) n n), (6, .int .i64 (i : Int))]) (fun i => buf b8 5 n (bvs (partB (fun i => UInt8.ofNat (c + i / 7)) n i)) :: F) (fun i => i ≤ n) (fun i => n - i) 0 (Nat.zero_le _) ?_
  rintro i hi
  refine .seq (.sr (.move (.move ?_)))
  refine .lss ?_
  refine .z ?_
  refine .cond rfl (fun hb => ?_) (fun hb => ?_)
  · have hlt : i < n := by have := of_decide_eq_true hb; omega
    refine .skip (.next (.seq (.block (.region (.move (.move (.move (.move ?_))))))))
    refine .quo ?_
    refine .add ?_
    refine .cast (d := 19) (u := .int .i64 ((c + i / 7 : Nat) : Int)) rfl (congrArg (Value.int .i64) (by omega)) ?_
    refine .cvt ?_ un3 un5
    refine .cast (d := 20) (u := bv (UInt8.ofNat (c + i / 7))) rfl (wrap_ofNat _) ?_
    refine .idx1 ?_ so33
    refine .stB ?_ sc5 (show 0 + ((i : Nat) : Int).toNat < (bvs (partB (fun i => UInt8.ofNat (c + i / 7)) n i)).length by rw [bvs_length, partB_length]; omega)
    refine .nil (.blockNormal (.next (.region (.move ?_))))
    refine .add ?_
    refine .assign (.nil ?_)
    refine .to (A := buf b8 5 n ((bvs (partB (fun i => UInt8.ofNat (c + i / 7)) n i)).set (0 + ((i : Nat) : Int).toNat) (bv (UInt8.ofNat (c + i / 7))))) (A' := buf b8 5 n (bvs (partB (fun i => UInt8.ofNat (c + i / 7)) n (i + 1)))) (fun h hh => by rw [← partB_set (fun i => UInt8.ofNat (c + i / 7)) hlt, bvs_set]; rw [show 0 + ((i : Nat) : Int).toNat = i from by omega] at hh; exact hh) ?_
    refine .cast (d := 6) (u := .int .i64 ((i + 1 : Nat) : Int)) rfl (congrArg (Value.int .i64) (by omega)) ?_
    exact .back (i + 1) (by omega) (by omega)
  · have hge : ¬ i < n := by have := of_decide_eq_false hb; omega
    have hin : i = n := by omega
    subst hin
    refine .exit (.thenExit (.thenExit (.blockExit (?_))))
    refine .next (.sr (.move (.assign (.z ?_))))
    refine .ret (?_)
    refine .to (A := buf b8 5 i (bvs (partB (fun i => UInt8.ofNat (c + i / 7)) i i))) (A' := buf b8 5 i (bvs (someB i c))) (fun h hh => by rw [partB_all] at hh; exact hh) ?_
    exact .ret1 (h1 := .tmp (t := 4) rfl) ⟨_, ⟨b8, rfl, rfl⟩, Am.auto⟩
end Go.Proofs.YtdmjkjeoamiedaaGreatDoor
end
section
namespace Go.Proofs.YtdmjkjeoamiedaaGreatDoor
open Go
abbrev awL0 : TL := [(0, .dir [])]
abbrev awL1 : TL := [(0, .dir [some ([97], 1)]), (1, .dir [])]
abbrev awL2 (b : Bytes) : TL := [(0, .dir [some ([97], 1)]), (1, .dir [some ([120], 2)]), (2, .file b)]
theorem awL0_ok : ∀ e ∈ awL0, e.2.ok := by
  intro e he
  simp only [awL0, List.mem_cons, List.not_mem_nil, or_false] at he
  subst he
  exact okNil
theorem awL1_ok : ∀ e ∈ awL1, e.2.ok := by
  intro e he
  simp only [awL1, List.mem_cons, List.not_mem_nil, or_false] at he
  rcases he with rfl | rfl
  · exact ok1 (by decide) (by decide)
  · exact okNil
theorem awL2_ok (b : Bytes) : ∀ e ∈ awL2 b, e.2.ok := by
  intro e he
  simp only [awL2, List.mem_cons, List.not_mem_nil, or_false] at he
  rcases he with rfl | rfl | rfl
  · exact ok1 (by decide) (by decide)
  · exact ok1 (by decide) (by decide)
  · exact trivial
theorem p10_is : PlIs (pD 400 16) := pD_is (by decide) (by decide) (by decide) (by decide)
theorem awMk {f : Nat} : Spec Tryz.prog 28 #[.pointer (some ⟨f, 0, none⟩), sv [47, 97]] [FSR f (pD 400 16) (trL awL0)] fun F v M => v = okV ∧ M = FSR f (pD 400 16) (trL awL1) :: F :=
  fsMkdirL (d := 0) (i := 1) (nm := [97]) (sl := []) p10_is.ok awL0_ok (by decide) (lt_of_all rfl) (by decide) (by decide) rfl rfl rfl (by decide) rfl (fun j hj => by
    obtain rfl : j = 0 := by omega
    intro h; cases h) (.inr (by decide)) (by decide) rfl
theorem awCr {f : Nat} : Spec Tryz.prog 17 #[.pointer (some ⟨f, 0, none⟩), sv [47, 97, 47, 120]] [FSR f (pD 400 16) (trL awL1)] fun F v M => v = okV ∧ M = FSR f (pD 400 16) (trL (awL2 [])) :: F :=
  fsCreateL (d := 1) (i := 2) (nm := [120]) (sl := []) p10_is.ok awL1_ok (by decide) (lt_of_all rfl) (by decide) (by decide) rfl rfl rfl (by decide) rfl (fun j hj => by
    rcases j with _ | _ | j
    · intro h; cases h
    · intro h; cases h
    · omega) (.inr (by decide)) (by decide) rfl
theorem awAp {f m cc : Nat} {bs : Bytes} {R : HP} {A : Option Addr} (hR : bs = [] ∨ Reads R A (bvs bs)) (hm : bs.length = 600) (hcc : 600 ≤ cc) (hcb : cc ≤ maxLen) : Spec Tryz.prog 18 #[.pointer (some ⟨f, 0, none⟩), sv [47, 97, 47, 120], .slice A 600 cc] [FSR f (pD 400 16) (trL (awL2 [])), R] fun F v M => v = okV ∧ M = FSR f (pD 400 16) (trL (awL2 (wrB [] 0 bs))) :: R :: F :=
  fsAppendL (i := 2) (fb := []) p10_is.ok (awL2_ok []) (by show [0, 1, 2].Nodup; decide) (lt_of_all rfl) (by decide) rfl rfl hR hm hcc hcb (.inr (by decide)) (by decide) (by decide) rfl
theorem awTot (b : Bytes) (h : b.length = 600) : tot (fmT (trL (awL2 b))) (pD 400 16).ino = 4 := by
  rw [tot_trL (by show [0, 1, 2].Nodup; decide) (lt_of_all rfl)]
  show has 64 + (has 64 + (has b.length + 0)) = 4
  rw [h]; rfl
theorem awTot0 : tot (fmT (trL awL0)) (pD 400 16).ino = 0 := by
  rw [tot_trL (by decide) (lt_of_all rfl)]
  rfl
theorem l10Awake : Spec Tryz.prog 45 #[] [] fun F v M => v = .bool true ∧ M = F := by
  refine Spec.intro Tryz.func45 rfl rfl fun B F => ?_
  simp only [Tryz.ntmps45, List.cons_append, List.nil_append, env0, Nat.reduceAdd]
  have hWl := someB_length 600 1
  obtain ⟨Wn, hWn⟩ : ∃ Wn, someB 600 1 = Wn := ⟨_, rfl⟩
  rw [hWn] at hWl
  have hwl : (wrB [] 0 Wn).length = 600 := by rw [wrB_length, hWl]; rfl
  refine .sr (.assign (.x ?_))
  refine .call (hc := Tryz.call46) (sp := l10Fresh p10_is) (h := ?_)
  rintro _ _ ⟨d, f, m, rfl, rfl⟩
  rw [rootT_trL]
  refine .move ?_
  refine .extract ?_
  refine .extract ?_
  refine .extract ?_
  refine .extract ?_
  refine .assign (.assign (.assign (.assign (.z (.seq (.sr (.move ?_)))))))
  refine .not ?_
  refine .z ?_
  refine .condF rfl rfl ?_
  refine .skip (.next (.sr (.move ?_)))
  refine .call (hc := Tryz.call52) (sp := fsFree (f := f) (p := pD 400 16) (T := trL awL0) p10_is.ok) (h := ?_)
  rintro _ _ ⟨rfl, rfl⟩
  rw [awTot0]
  refine .move ?_
  refine .extract ?_
  refine .extract ?_
  refine .assign (.assign (.z (.seq (.sr (.move ?_)))))
  refine .call (hc := Tryz.call28) (sp := awMk (f := f)) (h := ?_)
  rintro _ _ ⟨rfl, rfl⟩
  refine .nei ?_
  refine .move ?_
  refine .cast (d := 25) (u := .bool false) rfl (congrArg Value.bool (by first | (simp; done) | (simp; omega) | omega)) ?_
  refine .gT ?_
  refine .move ?_
  refine .gT ?_
  refine .call (hc := Tryz.call17) (sp := awCr (f := f)) (h := ?_)
  rintro _ _ ⟨rfl, rfl⟩
  refine .gT ?_
  refine .nei ?_
  refine .pickF ?_
  refine .move ?_
  refine .cast (d := 30) (u := .bool false) rfl (congrArg Value.bool (by first | (simp; done) | (simp; omega) | omega)) ?_
  refine .gT ?_
  refine .move ?_
  refine .gT ?_
  refine .call (hc := Tryz.call19) (sp := alikeSome (n := 600) (c := 1) (by decide) (by decide)) (h := ?_)
  rintro _ _ ⟨bs, rfl, rfl⟩
  rw [hWn]
  refine .gT ?_
  refine .call (hc := Tryz.call18) (sp := awAp (f := f) (m := 600) (cc := 600) (bs := Wn) (R := buf bs 5 600 (bvs Wn)) (A := some ⟨bs, 0, none⟩) (.inr Reads.buf) hWl (Nat.le_refl _) (by decide)) (h := ?_)
  rintro _ _ ⟨rfl, rfl⟩
  refine .gT ?_
  refine .nei ?_
  refine .pickF ?_
  refine .z ?_
  refine .condF rfl (congrArg Value.bool (by first | (simp; done) | (simp; omega) | omega)) ?_
  refine .skip (.next (.sr (.move ?_)))
  refine .call (hc := Tryz.call52) (sp := fsFree (f := f) (p := pD 400 16) (T := trL (awL2 (wrB [] 0 Wn))) p10_is.ok) (h := ?_)
  rintro _ _ ⟨rfl, rfl⟩
  rw [awTot _ hwl]
  refine .move ?_
  refine .extract ?_
  refine .extract ?_
  refine .assign (.assign (.x (.move (.move ?_))))
  refine .sub ?_
  refine .eqi ?_
  refine .move ?_
  refine .cast (d := 45) (u := .bool true) rfl (congrArg Value.bool (by first | (simp; done) | (simp; omega) | omega)) ?_
  refine .gT ?_
  refine .move ?_
  refine .gT ?_
  refine .call (hc := Tryz.call47) (sp := fsRenameNo (f := f) (p := pD 400 16) (T := trL (awL2 (wrB [] 0 Wn))) (from_ := [47, 97]) (to := [47, 97, 47, 98]) p10_is.ok (by decide) (by decide) rfl) (h := ?_)
  rintro _ _ ⟨rfl, rfl⟩
  refine .gT ?_
  refine .eqi ?_
  refine .pickT ?_
  refine .move ?_
  refine .cast (d := 50) (u := .bool true) rfl (congrArg Value.bool (by first | (simp; done) | (simp; omega) | omega)) ?_
  refine .gT ?_
  refine .move ?_
  refine .gT ?_
  refine .call (hc := Tryz.call50) (sp := fsRemoveE (f := f) (p := pD 400 16) (T := trL (awL2 (wrB [] 0 Wn))) (path := [47, 97]) (e := 7) p10_is.ok (trL_ok (awL2_ok _)) (by decide) (.inr ⟨0, [97], 1, 0, rfl, rfl, .inr ⟨rfl, rfl, [some ([120], 2)], rfl, fun h => by cases h⟩⟩) (by decide)) (h := ?_)
  rintro _ _ ⟨rfl, rfl⟩
  refine .gT ?_
  refine .eqi ?_
  refine .pickT ?_
  refine .assign (.z ?_)
  refine .ret (?_)
  exact .ret1 (h1 := .tmp (t := 0) rfl) ⟨_, ⟨rfl, rfl⟩, Am.auto⟩
end Go.Proofs.YtdmjkjeoamiedaaGreatDoor
end
section
namespace Go.Proofs.YtdmjkjeoamiedaaGreatDoor
open Go
theorem bdStD (a b : Int) : BuildOk Tryz.prog 51 [(0, .int .i64 a), (1, .int .i64 b)] #[.int .i64 a, .int .i64 b] := fun w => by kernel_rfl
theorem qStI : intsOk Tryz.prog 51 2 = true := by kernel_rfl
theorem lawFsDeep {n : Int} (hn : -9223372036854775808 ≤ n ∧ n ≤ 9223372036854775807) : Spec Tryz.prog 8 #[.int .i64 n] [] fun F v M => v = .bool true ∧ M = F := by
  refine Spec.intro Tryz.func8 rfl rfl fun B F => ?_
  simp only [Tryz.ntmps8, List.cons_append, List.nil_append, env0, Nat.reduceAdd]
  by_cases h1 : n < 1
  · refine .sr (.assign (.z (.seq (.sr (.move ?_)))))
    refine .lss ?_
    refine .move ?_
    refine .cast (d := 14) (u := .bool true) rfl (congrArg Value.bool (by first | (simp; done) | (simp; omega) | omega)) ?_
    refine .gF ?_
    refine .gF ?_
    refine .pickT ?_
    refine .z ?_
    refine .condT rfl rfl ?_
    refine .sr ?_
    refine .call (hc := Tryz.call45) (sp := l10Awake) (h := ?_)
    rintro _ _ ⟨rfl, rfl⟩
    refine .assign (.z ?_)
    refine .ret (.thenRet (?_))
    exact .ret1 (h1 := .tmp (t := 2) rfl) ⟨_, ⟨rfl, rfl⟩, Am.auto⟩
  · by_cases h2 : 10 < n
    · refine .sr (.assign (.z (.seq (.sr (.move ?_)))))
      refine .lss ?_
      refine .move ?_
      refine .cast (d := 14) (u := .bool false) rfl (congrArg Value.bool (by first | (simp; done) | (simp; omega) | omega)) ?_
      refine .gT ?_
      refine .move ?_
      refine .gT ?_
      refine .gtr ?_
      refine .pickF ?_
      refine .z ?_
      refine .condT rfl (congrArg Value.bool (by first | (simp; done) | (simp; omega) | omega)) ?_
      refine .sr ?_
      refine .call (hc := Tryz.call45) (sp := l10Awake) (h := ?_)
      rintro _ _ ⟨rfl, rfl⟩
      refine .assign (.z ?_)
      refine .ret (.thenRet (?_))
      exact .ret1 (h1 := .tmp (t := 2) rfl) ⟨_, ⟨rfl, rfl⟩, Am.auto⟩
    · obtain ⟨N, rfl⟩ : ∃ N : Nat, n = N := ⟨n.toNat, by omega⟩
      refine .sr (.assign (.z (.seq (.sr (.move ?_)))))
      refine .lss ?_
      refine .move ?_
      refine .cast (d := 14) (u := .bool false) rfl (congrArg Value.bool (by first | (simp; done) | (simp; omega) | omega)) ?_
      refine .gT ?_
      refine .move ?_
      refine .gT ?_
      refine .gtr ?_
      refine .pickF ?_
      refine .z ?_
      refine .condF rfl (congrArg Value.bool (by first | (simp; done) | (simp; omega) | omega)) ?_
      refine .skip (.next (.sr ?_))
      refine .call (hc := Tryz.call46) (sp := l10Fresh q_is) (h := ?_)
      rintro _ _ ⟨d, f, m, rfl, rfl⟩
      rw [rootT_trL]
      refine .move ?_
      refine .extract ?_
      refine .extract ?_
      refine .extract ?_
      refine .extract ?_
      refine .assign (.assign (.assign (.assign (.z (.seq (.sr (.move ?_)))))))
      refine .not ?_
      refine .z ?_
      refine .condF rfl rfl ?_
      refine .skip (.next (.sr (.assign (.z (.seq (.sr (.assign (.z (.block ?_)))))))))
      refine .loopA (σ := Nat) (fun i => [(0, .int .i64 (N : Int)), (4, .pointer (some ⟨f, 0, none⟩)), (7, sv (deepP i)), (8, .int .i64 ((i : Nat) : Int))]) (fun i => FSR f qP (trL (chain 0 (min i 8))) :: F) (fun i => i ≤ N) (fun i => N - i) 0 (Nat.zero_le _) ?_
      rintro i hi
      refine .seq (.sr (.move (.move ?_)))
      refine .lss ?_
      refine .z ?_
      refine .cond rfl (fun hb => ?_) (fun hb => ?_)
      · have hlt : i < N := by have h : (i : Int) < (N : Int) := of_decide_eq_true hb; omega
        have hN : N ≤ 10 := by omega
        by_cases h8 : i < 8
        · rw [Nat.min_eq_left (show i ≤ 8 by omega)]
          refine .skip (.next (.seq (.block (.sr (.move ?_)))))
          refine .catS (deepP i) [47, 100] ?_ (by rw [deepP_length]; show 2 * i + 2 ≤ _; omega)
          refine .cast (d := 33) (u := sv (deepP (i + 1))) rfl rfl ?_
          refine .assign (.x (.move (.move ?_)))
          refine .call (hc := Tryz.call28) (sp := deepMk (f := f) (i := i) h8) (h := ?_)
          rintro _ _ ⟨rfl, rfl⟩
          refine .assign (.x (.move ?_))
          refine .lss ?_
          refine .move ?_
          refine .cast (d := 39) (u := .bool true) rfl (congrArg Value.bool (by first | (simp; done) | (simp; omega) | omega)) ?_
          refine .gT ?_
          refine .move ?_
          refine .gT ?_
          refine .nei ?_
          refine .pickT ?_
          refine .move ?_
          refine .cast (d := 43) (u := .bool false) rfl (congrArg Value.bool (by first | (simp; done) | (simp; omega) | omega)) ?_
          refine .gT ?_
          refine .move ?_
          refine .gT ?_
          refine .geq ?_
          refine .gT ?_
          refine .move ?_
          refine .cast (d := 46) (u := .bool false) rfl (congrArg Value.bool (by first | (simp; done) | (simp; omega) | omega)) ?_
          refine .gF ?_
          refine .gF ?_
          refine .gT ?_
          refine .pickF ?_
          refine .pickF ?_
          refine .z ?_
          refine .condF rfl rfl ?_
          refine .skip (.blockNormal (.next (.region (.move ?_))))
          refine .add ?_
          refine .assign (.nil ?_)
          refine .to (A := FSR f qP (trL (chain 0 (i + 1)))) (A' := FSR f qP (trL (chain 0 (min (i + 1) 8)))) (fun h hh => by rw [Nat.min_eq_left (by omega)]; exact hh) ?_
          refine .cast (d := 8) (u := .int .i64 ((i + 1 : Nat) : Int)) rfl (congrArg (Value.int .i64) (by omega)) ?_
          exact .back (i + 1) (by show i + 1 ≤ N; omega) (by show N - (i + 1) < N - i; omega)
        · rw [Nat.min_eq_right (show 8 ≤ i by omega)]
          refine .skip (.next (.seq (.block (.sr (.move ?_)))))
          refine .catS (deepP i) [47, 100] ?_ (by rw [deepP_length]; show 2 * i + 2 ≤ _; omega)
          refine .cast (d := 33) (u := sv (deepP (i + 1))) rfl rfl ?_
          refine .assign (.x (.move (.move ?_)))
          refine .call (hc := Tryz.call28) (sp := deepMkE (f := f) (i := i) (by omega) (by omega)) (h := ?_)
          rintro _ _ ⟨rfl, rfl⟩
          refine .assign (.x (.move ?_))
          refine .lss ?_
          refine .move ?_
          refine .cast (d := 39) (u := .bool false) rfl (congrArg Value.bool (by first | (simp; done) | (simp; omega) | omega)) ?_
          refine .gF ?_
          refine .gF ?_
          refine .pickF ?_
          refine .move ?_
          refine .gT ?_
          refine .move ?_
          refine .gT ?_
          refine .geq ?_
          refine .gT ?_
          refine .move ?_
          refine .cast (d := 46) (u := .bool true) rfl (congrArg Value.bool (by first | (simp; done) | (simp; omega) | omega)) ?_
          refine .gT ?_
          refine .move ?_
          refine .gT ?_
          refine .nei ?_
          refine .gT ?_
          refine .pickT ?_
          refine .pickF ?_
          refine .z ?_
          refine .condF rfl (congrArg Value.bool (by first | (simp; done) | (simp; omega) | omega)) ?_
          refine .skip (.blockNormal (.next (.region (.move ?_))))
          refine .add ?_
          refine .assign (.nil ?_)
          refine .to (A := FSR f qP (trL (chain 0 8))) (A' := FSR f qP (trL (chain 0 (min (i + 1) 8)))) (fun h hh => by rw [Nat.min_eq_right (by omega)]; exact hh) ?_
          refine .cast (d := 8) (u := .int .i64 ((i + 1 : Nat) : Int)) rfl (congrArg (Value.int .i64) (by omega)) ?_
          exact .back (i + 1) (by show i + 1 ≤ N; omega) (by show N - (i + 1) < N - i; omega)
      · have hge : i = N := by have h : ¬ (i : Int) < (N : Int) := of_decide_eq_false hb; omega
        subst hge
        have hpl : (deepP i).length ≤ 1000000 := by rw [deepP_length]; omega
        by_cases h8 : i ≤ 8
        · obtain ⟨j, rfl⟩ : ∃ j, i = j + 1 := ⟨i - 1, by omega⟩
          rw [Nat.min_eq_left h8]
          refine .exit (.thenExit (.thenExit (.blockExit (?_))))
          refine .next (.sr (.move (.move ?_)))
          refine .call (hc := Tryz.call25) (sp := fsStat (f := f) (p := qP) (T := trL (chain 0 (j + 1))) (path := deepP (j + 1)) q_is.ok (trL_ok (chain_ok (j + 1) 0 (by omega))) hpl) (h := ?_)
          rintro _ _ ⟨rfl, rfl⟩
          rw [deepStat (by omega)]
          simp only
          refine .move ?_
          refine .extract ?_
          refine .extract ?_
          refine .alloc z51 fun b10 => ?_
          refine .stV ?_ agg51
          refine .assign (.x (.move ?_))
          refine .eqi ?_
          refine .move ?_
          refine .cast (d := 59) (u := .bool true) rfl (congrArg Value.bool (by first | rfl | (simp; done) | (simp; omega) | omega)) ?_
          refine .gT ?_
          refine .ldA ?_ agg51
          refine .gT ?_
          refine .build ?_ (bdStD _ _)
          refine .gT ?_
          refine .eqStr (m := 2) (xs := [2, 0]) (ys := [2, 0]) ?_ qStI
          refine .pickT ?_
          refine .move ?_
          refine .cast (d := 64) (u := .bool true) rfl (congrArg Value.bool (by first | rfl | (simp; done) | (simp; omega) | omega)) ?_
          refine .gF ?_
          refine .gF ?_
          refine .gF ?_
          refine .gU ?_
          refine .gU ?_
          refine .gF ?_
          refine .pickT ?_
          refine .move ?_
          refine .gT ?_
          refine .call (hc := Tryz.call45) (sp := l10Awake) (h := ?_)
          rintro _ _ ⟨rfl, rfl⟩
          refine .pickT ?_
          refine .assign (.z ?_)
          refine .ret (?_)
          exact .ret1 (h1 := .tmp (t := 2) rfl) ⟨_, ⟨rfl, rfl⟩, Am.auto⟩
        · rw [Nat.min_eq_right (show 8 ≤ i by omega)]
          refine .exit (.thenExit (.thenExit (.blockExit (?_))))
          refine .next (.sr (.move (.move ?_)))
          refine .call (hc := Tryz.call25) (sp := fsStat (f := f) (p := qP) (T := trL (chain 0 8)) (path := deepP i) q_is.ok (trL_ok (chain_ok 8 0 (by omega))) hpl) (h := ?_)
          rintro _ _ ⟨rfl, rfl⟩
          rw [deepStatE (by omega) (by omega)]
          simp only
          refine .move ?_
          refine .extract ?_
          refine .extract ?_
          refine .alloc z51 fun b10 => ?_
          refine .stV ?_ agg51
          refine .assign (.x (.move ?_))
          refine .eqi ?_
          refine .move ?_
          refine .cast (d := 59) (u := .bool false) rfl (congrArg Value.bool (by first | (simp; done) | (simp; omega) | omega)) ?_
          refine .gF ?_
          refine .gF ?_
          refine .gF ?_
          refine .pickF ?_
          refine .move ?_
          refine .gT ?_
          refine .move ?_
          refine .gT ?_
          refine .gtr ?_
          refine .gT ?_
          refine .move ?_
          refine .cast (d := 67) (u := .bool true) rfl (congrArg Value.bool (by first | (simp; done) | (simp; omega) | omega)) ?_
          refine .gT ?_
          refine .move ?_
          refine .gT ?_
          refine .eqi ?_
          refine .gT ?_
          refine .pickT ?_
          refine .pickF ?_
          refine .move ?_
          refine .cast (d := 72) (u := .bool true) rfl (congrArg Value.bool (by first | (simp; done) | (simp; omega) | omega)) ?_
          refine .gT ?_
          refine .call (hc := Tryz.call45) (sp := l10Awake) (h := ?_)
          rintro _ _ ⟨rfl, rfl⟩
          refine .pickT ?_
          refine .assign (.z ?_)
          refine .ret (?_)
          exact .ret1 (h1 := .tmp (t := 2) rfl) ⟨_, ⟨rfl, rfl⟩, Am.auto⟩
end Go.Proofs.YtdmjkjeoamiedaaGreatDoor
end
