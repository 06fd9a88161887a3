/- A part of the proof of lawFsMany: texts of this work put together. -/
import Derived.Test.YtdmjkjeoamiedaaGreatDoorQo4
import Derived.KernelRfl
import Derived.Laws.Concat
set_option linter.unusedVariables false
set_option linter.unusedSimpArgs false
set_option linter.unusedSectionVars false
section
namespace Go.Proofs.YtdmjkjeoamiedaaGreatDoor
open Go
theorem sl188 : Tryz.prog.underlying 188 = some (.slice 192) := by kernel_rfl
theorem fo129_1 : fieldOk Tryz.prog 129 1 1 = true := by kernel_rfl
def RemErr (T : FT) (path : Bytes) (e : Nat) : Prop :=
  (parentT T path).2.2 = e ∨ ∃ d nm i fe, parentT T path = (d, nm, 0) ∧ findT T d nm = (i, fe) ∧ (fe = e ∨ (fe = 0 ∧ e = 7 ∧ ∃ sl, T i = some (.dir sl) ∧ entsS sl ≠ []))
def rmT (T : FT) (d : Nat) (sl : List Slot) (q i : Nat) : FT := updT (updT T d (some (.dir (setS sl q none)))) i none
def NodeT.bare : NodeT → Prop
  | .file _ => True
  | .dir sl => entsS sl = []
theorem fsRemoveCE {f s a c mp : Nat} {p : Pl} {T : FT} {path : Bytes} {b2 b3 e : Nat} (ho : PlOk p) (hT : TOk T) (hpl : path.length ≤ 1000000) (hm : RemErr T path e) (he : e ≠ 0) : Spec Tryz.prog 108 #[.pointer (some ⟨b2, 0, none⟩), .pointer (some ⟨b3, 0, none⟩)] [pt f (fO c a s false false false mp), LD mp T, IN s a c p (fmT T) (fmT T) 0 true, bun [pt b2 (.cells #[.pointer (some ⟨f, 0, none⟩)] 23 (0, 0)), pt b3 (.cells #[sv path] 9 (0, 0))]] fun F v M => v = nI e ∧ M = pt f (fO c a s false false false mp) :: LD mp T :: IN s a c p (fmT T) (fmT T) 0 true :: bun [pt b2 (.cells #[.pointer (some ⟨f, 0, none⟩)] 23 (0, 0)), pt b3 (.cells #[sv path] 9 (0, 0))] :: F := by
  refine Spec.intro Tryz.func108 rfl rfl fun B F => ?_
  simp only [Tryz.ntmps108, List.cons_append, List.nil_append, env0, Nat.reduceAdd]
  refine .openR (bun.opens _) fun _ _ => ?_
  simp only [List.cons_append, List.nil_append]
  rcases hm with hm | ⟨d, nm, i, fe, hpar, hfi, hm | ⟨rfl, rfl, sl, hTi, hne⟩⟩
  · obtain ⟨d, nm, pe, hpar⟩ : ∃ d nm pe, parentT T path = (d, nm, pe) := ⟨_, _, _, rfl⟩
    rw [hpar] at hm
    simp only at hm
    subst hm
    refine .sr (.assign (.x ?_))
    refine .ld ?_ sc23
    refine .ld ?_ sc9
    refine .call (hc := Tryz.call109) (sp := fsParent (f := f) (s := s) (a := a) (c := c) (mp := mp) (b := false) (ov := false) (dead := false) (p := p) (T := T) (F0 := fmT T) (W := 0) (op := true) (path := path) ho hT hpl) (h := ?_)
    rintro _ _ ⟨rfl, rfl⟩
    rw [hpar]
    refine .move ?_
    refine .extract ?_
    refine .extract ?_
    refine .extract ?_
    refine .assign (.assign (.assign (.z (.seq (.sr (.move ?_))))))
    refine .nei ?_
    refine .z ?_
    refine .condT rfl (congrArg Value.bool (by first | (simp; done) | (simp; omega) | omega)) ?_
    refine .sr (.move (.assign (.z ?_)))
    refine .ret (.thenRet (?_))
    refine .shutR (bun.opens [pt b2 (.cells #[.pointer (some ⟨f, 0, none⟩)] 23 (0, 0)), pt b3 (.cells #[sv path] 9 (0, 0))]) () trivial ?_
    exact .ret1 (h1 := .tmp (t := 2) rfl) ⟨_, ⟨rfl, rfl⟩, Am.auto⟩
  · subst hm
    refine .sr (.assign (.x ?_))
    refine .ld ?_ sc23
    refine .ld ?_ sc9
    refine .call (hc := Tryz.call109) (sp := fsParent (f := f) (s := s) (a := a) (c := c) (mp := mp) (b := false) (ov := false) (dead := false) (p := p) (T := T) (F0 := fmT T) (W := 0) (op := true) (path := path) ho hT hpl) (h := ?_)
    rintro _ _ ⟨rfl, rfl⟩
    rw [hpar]
    refine .move ?_
    refine .extract ?_
    refine .extract ?_
    refine .extract ?_
    refine .assign (.assign (.assign (.z (.seq (.sr (.move ?_))))))
    refine .nei ?_
    refine .z ?_
    refine .condF rfl (congrArg Value.bool (by first | (simp; done) | (simp; omega) | omega)) ?_
    refine .skip (.next (.sr ?_))
    refine .ld ?_ sc23
    refine .move (.move ?_)
    refine .call (hc := Tryz.call110) (sp := fsFind (f := f) (s := s) (a := a) (c := c) (mp := mp) (b := false) (ov := false) (dead := false) (p := p) (T := T) (F0 := fmT T) (W := 0) (op := true) (d := d) (nm := nm) ho hT) (h := ?_)
    rintro _ _ ⟨rfl, rfl⟩
    rw [hfi]
    refine .move ?_
    refine .extract ?_
    refine .extract ?_
    refine .assign (.assign (.z (.seq (.sr (.move ?_)))))
    refine .nei ?_
    refine .z ?_
    refine .condT rfl (congrArg Value.bool (by first | (simp; done) | (simp; omega) | omega)) ?_
    refine .sr (.move (.assign (.z ?_)))
    refine .ret (.thenRet (?_))
    refine .shutR (bun.opens [pt b2 (.cells #[.pointer (some ⟨f, 0, none⟩)] 23 (0, 0)), pt b3 (.cells #[sv path] 9 (0, 0))]) () trivial ?_
    exact .ret1 (h1 := .tmp (t := 2) rfl) ⟨_, ⟨rfl, rfl⟩, Am.auto⟩
  · refine .sr (.assign (.x ?_))
    refine .ld ?_ sc23
    refine .ld ?_ sc9
    refine .call (hc := Tryz.call109) (sp := fsParent (f := f) (s := s) (a := a) (c := c) (mp := mp) (b := false) (ov := false) (dead := false) (p := p) (T := T) (F0 := fmT T) (W := 0) (op := true) (path := path) ho hT hpl) (h := ?_)
    rintro _ _ ⟨rfl, rfl⟩
    rw [hpar]
    refine .move ?_
    refine .extract ?_
    refine .extract ?_
    refine .extract ?_
    refine .assign (.assign (.assign (.z (.seq (.sr (.move ?_))))))
    refine .nei ?_
    refine .z ?_
    refine .condF rfl (congrArg Value.bool (by first | (simp; done) | (simp; omega) | omega)) ?_
    refine .skip (.next (.sr ?_))
    refine .ld ?_ sc23
    refine .move (.move ?_)
    refine .call (hc := Tryz.call110) (sp := fsFind (f := f) (s := s) (a := a) (c := c) (mp := mp) (b := false) (ov := false) (dead := false) (p := p) (T := T) (F0 := fmT T) (W := 0) (op := true) (d := d) (nm := nm) ho hT) (h := ?_)
    rintro _ _ ⟨rfl, rfl⟩
    rw [hfi]
    refine .move ?_
    refine .extract ?_
    refine .extract ?_
    refine .assign (.assign (.z (.seq (.sr (.move ?_)))))
    refine .nei ?_
    refine .z ?_
    refine .condF rfl (congrArg Value.bool (by first | (simp; done) | (simp; omega) | omega)) ?_
    refine .skip (.next (.seq (.sr ?_)))
    refine .ld ?_ sc23
    refine .nilCheck ?_
    refine .fa ?_ fo129_2
    refine .ld ?_ sc126
    refine .move ?_
    refine .call (hc := Tryz.call111) (sp := dList (s := s) (a := a) (c := c) (p := p) (F0 := fmT T) (Fm := fmT T) (W := 0) (d := i) (op := true) (sl := sl) ho (fmT_some hTi) (hT _ _ hTi).1 (by have := (hT _ _ hTi).2; omega)) (h := ?_)
    rintro _ _ ⟨u, l, rfl, ⟨hpm, hso⟩, rfl⟩
    have hll := hpm.length_eq
    refine .fact (rowR_shape (el := 192) (size := 2) (v := u) (k := l.length) (xs := l.flatMap entL)) (fun ⟨A, cc, hu, hR, hc1, hc2, hlen⟩ => ?_)
    subst hu
    have hlp : 0 < l.length := by rw [hll]; exact List.length_pos_iff.2 hne
    refine .move ?_
    refine .extract ?_
    refine .extract ?_
    refine .assign (.assign (.x (.move ?_)))
    refine .eqi ?_
    refine .move ?_
    refine .cast (d := 41) (u := .bool true) rfl (congrArg Value.bool (by first | (simp; done) | (simp; omega) | omega)) ?_
    refine .gT ?_
    refine .move ?_
    refine .gT ?_
    refine .lenS ?_ sl188
    refine .gT ?_
    refine .gtr ?_
    refine .pickT ?_
    refine .z ?_
    refine .condT rfl (congrArg Value.bool (by first | (simp; done) | (simp; omega) | omega)) ?_
    refine .sr (.assign (.z ?_))
    refine .ret (.thenRet (?_))
    refine .shutR (bun.opens [pt b2 (.cells #[.pointer (some ⟨f, 0, none⟩)] 23 (0, 0)), pt b3 (.cells #[sv path] 9 (0, 0))]) () trivial ?_
    exact .ret1 (h1 := .tmp (t := 2) rfl) ⟨_, ⟨rfl, rfl⟩, Am.auto⟩
theorem fsRemoveC {f s a c mp : Nat} {p : Pl} {T : FT} {path : Bytes} {b2 b3 : Nat} (ho : PlOk p) (hT : TOk T) (hpl : path.length ≤ 1000000) {d i q : Nat} {nm : Bytes} {sl : List Slot} {x : NodeT} (hpar : parentT T path = (d, nm, 0)) (hd : T d = some (.dir sl)) (hnm : nameOk nm = true) (hl : lookS nm sl = some (q, i)) (hx : T i = some x) (hbx : x.bare) (hid : i ≠ d) (hi0 : i ≠ 0) (hw : Rw p 0 13) (hfit : tot (fmT T) p.ino ≤ p.dc) : Spec Tryz.prog 108 #[.pointer (some ⟨b2, 0, none⟩), .pointer (some ⟨b3, 0, none⟩)] [pt f (fO c a s false false false mp), LD mp T, IN s a c p (fmT T) (fmT T) 0 true, bun [pt b2 (.cells #[.pointer (some ⟨f, 0, none⟩)] 23 (0, 0)), pt b3 (.cells #[sv path] 9 (0, 0))]] fun F v M => v = okV ∧ M = pt f (fO c a s false false false mp) :: LD mp T :: IN s a c p (fmT T) (fmT (rmT T d sl q i)) 8 true :: bun [pt b2 (.cells #[.pointer (some ⟨f, 0, none⟩)] 23 (0, 0)), pt b3 (.cells #[sv path] 9 (0, 0))] :: F := by
  refine Spec.intro Tryz.func108 rfl rfl fun B F => ?_
  simp only [Tryz.ntmps108, List.cons_append, List.nil_append, env0, Nat.reduceAdd]
  refine .openR (bun.opens _) fun _ _ => ?_
  simp only [List.cons_append, List.nil_append]
  have hfi : findT T d nm = (i, 0) := by unfold findT; rw [if_pos hnm]; simp only [hd, hl]
  have hF1 : updM (fmT T) d (some (2, dirB (setS sl q none))) = fmT (updT T d (some (.dir (setS sl q none)))) := fmT_updS T d (.dir _)
  have hx1 : fmT (updT T d (some (.dir (setS sl q none)))) i = some x.f := fmT_some (by rw [updT_other _ _ hid]; exact hx)
  have hto := hT d sl hd
  cases x with
  | file b =>
    refine .sr (.assign (.x ?_))
    refine .ld ?_ sc23
    refine .ld ?_ sc9
    refine .call (hc := Tryz.call109) (sp := fsParent (f := f) (s := s) (a := a) (c := c) (mp := mp) (b := false) (ov := false) (dead := false) (p := p) (T := T) (F0 := fmT T) (W := 0) (op := true) (path := path) ho hT hpl) (h := ?_)
    rintro _ _ ⟨rfl, rfl⟩
    rw [hpar]
    refine .move ?_
    refine .extract ?_
    refine .extract ?_
    refine .extract ?_
    refine .assign (.assign (.assign (.z (.seq (.sr (.move ?_))))))
    refine .nei ?_
    refine .z ?_
    refine .condF rfl (congrArg Value.bool (by first | (simp; done) | (simp; omega) | omega)) ?_
    refine .skip (.next (.sr ?_))
    refine .ld ?_ sc23
    refine .move (.move ?_)
    refine .call (hc := Tryz.call110) (sp := fsFind (f := f) (s := s) (a := a) (c := c) (mp := mp) (b := false) (ov := false) (dead := false) (p := p) (T := T) (F0 := fmT T) (W := 0) (op := true) (d := d) (nm := nm) ho hT) (h := ?_)
    rintro _ _ ⟨rfl, rfl⟩
    rw [hfi]
    refine .move ?_
    refine .extract ?_
    refine .extract ?_
    refine .assign (.assign (.z (.seq (.sr (.move ?_)))))
    refine .nei ?_
    refine .z ?_
    refine .condF rfl (congrArg Value.bool (by first | (simp; done) | (simp; omega) | omega)) ?_
    refine .skip (.next (.seq (.sr ?_)))
    refine .ld ?_ sc23
    refine .nilCheck ?_
    refine .fa ?_ fo129_2
    refine .ld ?_ sc126
    refine .move ?_
    refine .call (hc := Tryz.call111) (sp := dListE (s := s) (a := a) (c := c) (p := p) (F0 := fmT T) (Fm := fmT T) (W := 0) (op := true) (d := (i : Int)) (e := 6) ho (.inr (.inr ⟨rfl, ⟨1, b, by omega, by rw [Int.toNat_natCast]; exact fmT_some hx, by decide⟩, rfl⟩)) (by decide)) (h := ?_)
    rintro _ _ ⟨rfl, rfl⟩
    refine .move ?_
    refine .extract ?_
    refine .extract ?_
    refine .assign (.assign (.x (.move ?_)))
    refine .eqi ?_
    refine .move ?_
    refine .cast (d := 41) (u := .bool false) rfl (congrArg Value.bool (by first | (simp; done) | (simp; omega) | omega)) ?_
    refine .gF ?_
    refine .gF ?_
    refine .gF ?_
    refine .pickF ?_
    refine .z ?_
    refine .condF rfl rfl ?_
    refine .skip (.next (.seq (.sr ?_)))
    refine .ld ?_ sc23
    refine .nilCheck ?_
    refine .fa ?_ fo129_2
    refine .ld ?_ sc126
    refine .move (.move ?_)
    refine .call (hc := Tryz.call100) (sp := dRemove (s := s) (a := a) (c := c) (p := p) (F0 := fmT T) (Fm := fmT T) (W := 0) (d := d) (nm := nm) (sl := sl) ho hnm (fmT_some hd) hto.1 (by omega) (lookS_some hl) hw hfit) (h := ?_)
    rintro _ _ ⟨rfl, rfl⟩
    rw [hF1]
    refine .assign (.x (.move ?_))
    refine .nei ?_
    refine .z ?_
    refine .condF rfl (congrArg Value.bool (by first | (simp; done) | (simp; omega) | omega)) ?_
    refine .skip (.next (.sr ?_))
    refine .ld ?_ sc23
    refine .nilCheck ?_
    refine .fa ?_ fo129_2
    refine .ld ?_ sc126
    refine .move ?_
    refine .call (hc := Tryz.call105) (sp := nDrop (s := s) (a := a) (c := c) (p := p) (F0 := fmT T) (F := fmT (updT T d (some (.dir (setS sl q none))))) (W := 0 + 8) (i := i) ho hx1 hi0 (by unfold Rw at hw ⊢; omega)) (h := ?_)
    rintro _ _ ⟨rfl, rfl⟩
    rw [show updM (fmT (updT T d (some (.dir (setS sl q none))))) i none = fmT (rmT T d sl q i) from fmT_updN _ _]
    refine .assign (.z ?_)
    refine .ret (?_)
    refine .shutR (bun.opens [pt b2 (.cells #[.pointer (some ⟨f, 0, none⟩)] 23 (0, 0)), pt b3 (.cells #[sv path] 9 (0, 0))]) () trivial ?_
    exact .ret1 (h1 := .tmp (t := 2) rfl) ⟨_, ⟨rfl, rfl⟩, Am.auto⟩
  | dir sl2 =>
    refine .sr (.assign (.x ?_))
    refine .ld ?_ sc23
    refine .ld ?_ sc9
    refine .call (hc := Tryz.call109) (sp := fsParent (f := f) (s := s) (a := a) (c := c) (mp := mp) (b := false) (ov := false) (dead := false) (p := p) (T := T) (F0 := fmT T) (W := 0) (op := true) (path := path) ho hT hpl) (h := ?_)
    rintro _ _ ⟨rfl, rfl⟩
    rw [hpar]
    refine .move ?_
    refine .extract ?_
    refine .extract ?_
    refine .extract ?_
    refine .assign (.assign (.assign (.z (.seq (.sr (.move ?_))))))
    refine .nei ?_
    refine .z ?_
    refine .condF rfl (congrArg Value.bool (by first | (simp; done) | (simp; omega) | omega)) ?_
    refine .skip (.next (.sr ?_))
    refine .ld ?_ sc23
    refine .move (.move ?_)
    refine .call (hc := Tryz.call110) (sp := fsFind (f := f) (s := s) (a := a) (c := c) (mp := mp) (b := false) (ov := false) (dead := false) (p := p) (T := T) (F0 := fmT T) (W := 0) (op := true) (d := d) (nm := nm) ho hT) (h := ?_)
    rintro _ _ ⟨rfl, rfl⟩
    rw [hfi]
    refine .move ?_
    refine .extract ?_
    refine .extract ?_
    refine .assign (.assign (.z (.seq (.sr (.move ?_)))))
    refine .nei ?_
    refine .z ?_
    refine .condF rfl (congrArg Value.bool (by first | (simp; done) | (simp; omega) | omega)) ?_
    refine .skip (.next (.seq (.sr ?_)))
    refine .ld ?_ sc23
    refine .nilCheck ?_
    refine .fa ?_ fo129_2
    refine .ld ?_ sc126
    refine .move ?_
    refine .call (hc := Tryz.call111) (sp := dList (s := s) (a := a) (c := c) (p := p) (F0 := fmT T) (Fm := fmT T) (W := 0) (d := i) (op := true) (sl := sl2) ho (fmT_some hx) (hT _ _ hx).1 (by have := (hT _ _ hx).2; omega)) (h := ?_)
    rintro _ _ ⟨u, l, rfl, ⟨hpm, hso⟩, rfl⟩
    have hll := hpm.length_eq
    refine .fact (rowR_shape (el := 192) (size := 2) (v := u) (k := l.length) (xs := l.flatMap entL)) (fun ⟨A, cc, hu, hR, hc1, hc2, hlen⟩ => ?_)
    subst hu
    have hlp : l.length = 0 := by have hb2 : entsS sl2 = [] := hbx; rw [hll, hb2]; rfl
    rw [hlp]
    refine .move ?_
    refine .extract ?_
    refine .extract ?_
    refine .assign (.assign (.x (.move ?_)))
    refine .eqi ?_
    refine .move ?_
    refine .cast (d := 41) (u := .bool true) rfl (congrArg Value.bool (by first | (simp; done) | (simp; omega) | omega)) ?_
    refine .gT ?_
    refine .move ?_
    refine .gT ?_
    refine .lenS ?_ sl188
    refine .gT ?_
    refine .gtr ?_
    refine .pickT ?_
    refine .z ?_
    refine .condF rfl (congrArg Value.bool (by first | (simp; done) | (simp; omega) | omega)) ?_
    refine .skip (.next (.seq (.sr ?_)))
    refine .ld ?_ sc23
    refine .nilCheck ?_
    refine .fa ?_ fo129_2
    refine .ld ?_ sc126
    refine .move (.move ?_)
    refine .call (hc := Tryz.call100) (sp := dRemove (s := s) (a := a) (c := c) (p := p) (F0 := fmT T) (Fm := fmT T) (W := 0) (d := d) (nm := nm) (sl := sl) ho hnm (fmT_some hd) hto.1 (by omega) (lookS_some hl) hw hfit) (h := ?_)
    rintro _ _ ⟨rfl, rfl⟩
    rw [hF1]
    refine .assign (.x (.move ?_))
    refine .nei ?_
    refine .z ?_
    refine .condF rfl (congrArg Value.bool (by first | (simp; done) | (simp; omega) | omega)) ?_
    refine .skip (.next (.sr ?_))
    refine .ld ?_ sc23
    refine .nilCheck ?_
    refine .fa ?_ fo129_2
    refine .ld ?_ sc126
    refine .move ?_
    refine .call (hc := Tryz.call105) (sp := nDrop (s := s) (a := a) (c := c) (p := p) (F0 := fmT T) (F := fmT (updT T d (some (.dir (setS sl q none))))) (W := 0 + 8) (i := i) ho hx1 hi0 (by unfold Rw at hw ⊢; omega)) (h := ?_)
    rintro _ _ ⟨rfl, rfl⟩
    rw [show updM (fmT (updT T d (some (.dir (setS sl q none))))) i none = fmT (rmT T d sl q i) from fmT_updN _ _]
    refine .assign (.z ?_)
    refine .ret (?_)
    refine .shutR (bun.opens [pt b2 (.cells #[.pointer (some ⟨f, 0, none⟩)] 23 (0, 0)), pt b3 (.cells #[sv path] 9 (0, 0))]) () trivial ?_
    exact .ret1 (h1 := .tmp (t := 2) rfl) ⟨_, ⟨rfl, rfl⟩, Am.auto⟩
theorem fsRemove {f : Nat} {p : Pl} {T : FT} {path : Bytes} (ho : PlOk p) (hT : TOk T) (hpl : path.length ≤ 1000000) {d i q : Nat} {nm : Bytes} {sl : List Slot} {x : NodeT} (hpar : parentT T path = (d, nm, 0)) (hd : T d = some (.dir sl)) (hnm : nameOk nm = true) (hl : lookS nm sl = some (q, i)) (hx : T i = some x) (hbx : x.bare) (hid : i ≠ d) (hi0 : i ≠ 0) (hw : Rw p 0 13) (hfit : tot (fmT T) p.ino ≤ p.dc) : Spec Tryz.prog 50 #[.pointer (some ⟨f, 0, none⟩), sv path] [FSR f p T] fun F v M => v = okV ∧ M = FSR f p (rmT T d sl q i) :: F := by
  refine Spec.intro Tryz.func50 rfl rfl fun B F => ?_
  simp only [Tryz.ntmps50, List.cons_append, List.nil_append, env0, Nat.reduceAdd]
  refine .openR (FSR.opens f p T) fun y _ => ?_
  obtain ⟨c, a, s, mp⟩ := y
  simp only [fsLs, List.cons_append, List.nil_append]
  refine .sr ?_
  refine .box fun b2 => ?_
  refine .box fun b3 => ?_
  refine .assign (.x ?_)
  refine .ld ?_ sc23
  refine .shutR (bun.opens [pt b2 (.cells #[.pointer (some ⟨f, 0, none⟩)] 23 (0, 0)), pt b3 (.cells #[sv path] 9 (0, 0))]) () trivial ?_
  refine .makeFuncB ?_
  refine .call (hc := Tryz.call92) (sp := fsChange (s := s) (a := a) (c := c) (p := p) (f := f) (mp := mp) (T := rmT T d sl q i) (S := T) ho (hc := Tryz.call108) (sp := (fsRemoveC (b2 := b2) (b3 := b3) ho hT hpl hpar hd hnm hl hx hbx hid hi0 hw hfit))) (h := ?_)
  rintro _ _ ⟨rfl, rfl⟩
  refine .assign (.z ?_)
  refine .ret (?_)
  refine .shutR (FSR.opens f p (rmT T d sl q i)) (c, a, s, mp) trivial ?_
  exact .ret1 (h1 := .tmp (t := 4) rfl) ⟨_, ⟨rfl, rfl⟩, Am.auto⟩
theorem fsRemoveE {f : Nat} {p : Pl} {T : FT} {path : Bytes} (ho : PlOk p) (hT : TOk T) (hpl : path.length ≤ 1000000) {e : Nat} (hm : RemErr T path e) (he : e ≠ 0) : Spec Tryz.prog 50 #[.pointer (some ⟨f, 0, none⟩), sv path] [FSR f p T] fun F v M => v = nI e ∧ M = FSR f p T :: F := by
  refine Spec.intro Tryz.func50 rfl rfl fun B F => ?_
  simp only [Tryz.ntmps50, List.cons_append, List.nil_append, env0, Nat.reduceAdd]
  refine .openR (FSR.opens f p T) fun y _ => ?_
  obtain ⟨c, a, s, mp⟩ := y
  simp only [fsLs, List.cons_append, List.nil_append]
  refine .sr ?_
  refine .box fun b2 => ?_
  refine .box fun b3 => ?_
  refine .assign (.x ?_)
  refine .ld ?_ sc23
  refine .shutR (bun.opens [pt b2 (.cells #[.pointer (some ⟨f, 0, none⟩)] 23 (0, 0)), pt b3 (.cells #[sv path] 9 (0, 0))]) () trivial ?_
  refine .makeFuncB ?_
  refine .call (hc := Tryz.call92) (sp := fsChangeE (s := s) (a := a) (c := c) (p := p) (f := f) (mp := mp) (T := T) (S := T) he ho (hc := Tryz.call108) (sp := (fsRemoveCE (b2 := b2) (b3 := b3) ho hT hpl hm he))) (h := ?_)
  rintro _ _ ⟨rfl, rfl⟩
  refine .assign (.z ?_)
  refine .ret (?_)
  refine .shutR (FSR.opens f p T) (c, a, s, mp) trivial ?_
  exact .ret1 (h1 := .tmp (t := 4) rfl) ⟨_, ⟨rfl, rfl⟩, Am.auto⟩
theorem fsFree {f : Nat} {p : Pl} {T : FT} (ho : PlOk p) : Spec Tryz.prog 52 #[.pointer (some ⟨f, 0, none⟩)] [FSR f p T] fun F v M => v = .tuple #[.int .i64 ((p.dc : Int) - tot (fmT T) p.ino), .int .i64 ((p.ino : Int) - cntF (fmT T) p.ino)] ∧ M = FSR f p T :: F := by
  refine Spec.intro Tryz.func52 rfl rfl fun B F => ?_
  simp only [Tryz.ntmps52, List.cons_append, List.nil_append, env0, Nat.reduceAdd]
  refine .openR (FSR.opens f p T) fun y _ => ?_
  obtain ⟨c, a, s, mp⟩ := y
  simp only [fsLs, List.cons_append, List.nil_append]
  refine .sr (.assign (.assign (.z (.seq (.sr (.move ?_))))))
  refine .eqNil ?_ ptr23
  refine .move ?_
  refine .gT ?_
  refine .move ?_
  refine .gT ?_
  refine .nilCheck ?_
  refine .gT ?_
  refine .fa ?_ fo129_0
  refine .gT ?_
  refine .ld ?_ sc124
  refine .gT ?_
  refine .eqNil ?_ ptr124
  refine .pickF ?_
  refine .z ?_
  refine .condF rfl rfl ?_
  refine .skip (.next (.sr (.move ?_)))
  refine .nilCheck ?_
  refine .fa ?_ fo129_1
  refine .ld ?_ sc125
  refine .call (hc := Tryz.call112) (sp := nFree (s := s) (a := a) (c := c) (p := p) (F0 := fmT T) (F := fmT T) (W := 0) (op := false) ho) (h := ?_)
  rintro _ _ ⟨rfl, rfl⟩
  refine .extract ?_
  refine .extract ?_
  refine .assign (.assign (.z ?_))
  refine .ret (?_)
  refine .shutR (FSR.opens f p T) (c, a, s, mp) trivial ?_
  exact .ret2 (h1 := .tmp (t := 2) rfl) (h2 := .tmp (t := 3) rfl) ⟨_, ⟨rfl, rfl⟩, Am.auto⟩
end Go.Proofs.YtdmjkjeoamiedaaGreatDoor
end
section
namespace Go.Proofs.YtdmjkjeoamiedaaGreatDoor
open Go
theorem un303 : Tryz.prog.underlying 303 = some (.int .u32) := by kernel_rfl
theorem fo199_0 : fieldOk Tryz.prog 199 0 0 = true := by kernel_rfl
def crcBit (c : Int) : Int := bxor .u32 (c.fdiv (2 ^ (min (1 : Int).toNat IntKind.u32.bits))) (band .u32 2197175160 (IntKind.u32.wrap (0 - band .u32 c 1)))
def crc8 (c : Int) : Nat → Int
  | 0 => c
  | j + 1 => crcBit (crc8 c j)
def crcK (xs : Bytes) (c : Int) : Nat → Int
  | 0 => c
  | k + 1 => crc8 (bxor .u32 (crcK xs c k) (IntKind.u32.wrap ((xs.getD k 0).toNat : Int))) 8
def crcI (xs : Bytes) : Int := icomp .u32 (crcK xs (icomp .u32 0) xs.length)
theorem crcI_range (xs : Bytes) : 0 ≤ crcI xs ∧ crcI xs < 4294967296 := by
  have : ∀ x, 0 ≤ IntKind.u32.wrap x ∧ IntKind.u32.wrap x < 4294967296 := fun x => by
    have : IntKind.u32.wrap x = x % 2 ^ 32 := by simp [IntKind.wrap, IntKind.bits, IntKind.signed]
    rw [this]; omega
  exact this _
theorem crcMore {R : HP} {A : Addr} {m c : Nat} {xs : Bytes} (hR : Reads R (some A) (bvs xs)) (hm : xs.length = m) (hl : m ≤ 1073741824) : Spec Tryz.prog 263 #[.int .u32 0, .slice (some A) m c] [R] fun F v M => v = .int .u32 (crcI xs) ∧ M = R :: F := by
  refine Spec.intro Tryz.func263 rfl rfl fun B F => ?_
  simp only [Tryz.ntmps263, List.cons_append, List.nil_append, env0, Nat.reduceAdd]
  subst hm
  obtain ⟨ab, ao, asp⟩ := A
  have hsp : asp = none := hR.1
  subst hsp
  refine .sr (.assign (.x (.move ?_)))
  refine .comp ?_
  refine .assign (.z (.seq (.sr (.move ?_))))
  refine .lenS ?_ sl33
  refine .move (.z (.block ?_))
  refine .loopA (σ := Nat) (fun k => [(0, .int .u32 (crcK xs (icomp .u32 0) k)), (9, .slice (some ⟨ab, ao, none⟩) xs.length c), (10, .int .i64 ((xs.length : Nat) : Int)), (11, .int .i64 ((k : Nat) : Int))]) (fun _ => R :: F) (fun k => k ≤ xs.length) (fun k => xs.length - k) 0 (Nat.zero_le _) ?_
  rintro k hk
  refine .sr ?_
  refine .lss ?_
  refine .z (.seq ?_)
  refine .cond rfl (fun hb => ?_) (fun hb => ?_)
  · have hlt : k < xs.length := by have h : (k : Int) < (xs.length : Int) := of_decide_eq_true hb; omega
    have hgk : (bvs xs)[((k : Nat) : Int).toNat]? = some (.int .u8 ((xs.getD k 0).toNat : Int)) := by rw [Int.toNat_natCast]; simp [bvs, hlt]; rfl
    refine .skip (.next (.seq (.block (.sr ?_))))
    refine .idx1 ?_ so33
    refine .ldR (i := ((k : Nat) : Int).toNat) ?_ sc5 hR hgk
    refine .assign (.x (.move (.move ?_)))
    refine .cvt ?_ un5 un303
    refine .xor ?_
    refine .assign (.x (.move (.z (.block ?_))))
    refine .loopA (σ := Nat) (fun j => [(0, .int .u32 (crc8 (bxor .u32 (crcK xs (icomp .u32 0) k) (IntKind.u32.wrap ((xs.getD k 0).toNat : Int))) j)), (9, .slice (some ⟨ab, ao, none⟩) xs.length c), (10, .int .i64 ((xs.length : Nat) : Int)), (11, .int .i64 ((k : Nat) : Int)), (19, .int .i64 ((j : Nat) : Int))]) (fun _ => R :: F) (fun j => j ≤ 8) (fun j => 8 - j) 0 (Nat.zero_le _) ?_
    rintro j hj
    refine .sr ?_
    refine .lss ?_
    refine .z (.seq ?_)
    refine .cond rfl (fun hb2 => ?_) (fun hb2 => ?_)
    · have hlt2 : j < 8 := by have h : (j : Int) < 8 := of_decide_eq_true hb2; omega
      refine .skip (.next (.seq (.block (.region (.move ?_)))))
      refine .shr ?_
      refine .move ?_
      refine .and ?_
      refine .negw ?_
      refine .and ?_
      refine .xor ?_
      refine .assign (.nil (.blockNormal (.next (.region ?_))))
      refine .add ?_
      refine .move (.nil ?_)
      refine .cast (d := 19) (u := .int .i64 ((j + 1 : Nat) : Int)) rfl (congrArg (Value.int .i64) (by omega)) ?_
      exact .back (j + 1) (by show j + 1 ≤ 8; omega) (by show 8 - (j + 1) < 8 - j; omega)
    · have hge2 : j = 8 := by have h : ¬ (j : Int) < 8 := of_decide_eq_false hb2; omega
      subst hge2
      refine .exit (.thenExit (.thenExit (.blockExit (?_))))
      refine .blockNormal (.next (.region ?_))
      refine .add ?_
      refine .move (.nil ?_)
      refine .cast (d := 11) (u := .int .i64 ((k + 1 : Nat) : Int)) rfl (congrArg (Value.int .i64) (by omega)) ?_
      exact .back (k + 1) (by show k + 1 ≤ xs.length; omega) (by show xs.length - (k + 1) < xs.length - k; omega)
  · have hge : k = xs.length := by have h : ¬ (k : Int) < (xs.length : Int) := of_decide_eq_false hb; omega
    subst hge
    refine .exit (.thenExit (.thenExit (.blockExit (?_))))
    refine .next (.sr (.move ?_))
    refine .comp ?_
    refine .assign (.z ?_)
    refine .ret (?_)
    exact .ret1 (h1 := .tmp (t := 4) rfl) ⟨_, ⟨rfl, rfl⟩, Am.auto⟩
theorem crcSum {R : HP} {A : Addr} {m c : Nat} {xs : Bytes} (hR : Reads R (some A) (bvs xs)) (hm : xs.length = m) (hl : m ≤ 1073741824) : Spec Tryz.prog 206 #[.slice (some A) m c] [R] fun F v M => v = .int .u32 (crcI xs) ∧ M = R :: F := by
  refine Spec.intro Tryz.func206 rfl rfl fun B F => ?_
  simp only [Tryz.ntmps206, List.cons_append, List.nil_append, env0, Nat.reduceAdd]
  refine .sr (.assign (.x (.move ?_)))
  refine .call (hc := Tryz.call263) (sp := crcMore hR hm hl) (h := ?_)
  rintro _ _ ⟨rfl, rfl⟩
  refine .assign (.z ?_)
  refine .ret (?_)
  exact .ret1 (h1 := .tmp (t := 2) rfl) ⟨_, ⟨rfl, rfl⟩, Am.auto⟩
theorem u64_wrap0 {a : Nat} (h : a < 2 ^ 64) : IntKind.u64.wrap ((a : Nat) : Int) = (a : Int) := by
  have : IntKind.u64.wrap ((a : Nat) : Int) = (a : Int) % 2 ^ 64 := by simp [IntKind.wrap, IntKind.bits, IntKind.signed]
  rw [this]; omega
theorem bsI7 (a b c d e f h : Int) : BuildSOk Tryz.prog 80 7 [(0, .int .i64 a), (1, .int .i64 b), (2, .int .i64 c), (3, .int .i64 d), (4, .int .i64 e), (5, .int .i64 f), (6, .int .i64 h)] 3 #[.int .i64 a, .int .i64 b, .int .i64 c, .int .i64 d, .int .i64 e, .int .i64 f, .int .i64 h] := fun w => by kernel_rfl
def plN (p : Pl) : List Nat := [p.n, p.ino, p.im, p.bm, p.tb, p.da, p.dc]
def magicS : Bytes := [66, 79, 76, 76, 65, 82, 68, 83]
def encN (nums : List Nat) : Nat → Bytes
  | 0 => magicS ++ List.replicate 504 0
  | i + 1 => put (encN nums i) (8 + 4 * i) 4 false (nums.getD i 0)
theorem encN_length (nums : List Nat) : ∀ i, (encN nums i).length = 512
  | 0 => by rw [encN, List.length_append, List.length_replicate]; rfl
  | i + 1 => by rw [encN, put_length]; exact encN_length nums i
theorem encN_seg (nums : List Nat) {k : Nat} (hk : k < 100) (hv : nums.getD k 0 < 2 ^ 32) : ∀ i, k < i → i ≤ 100 → beNat (seg (encN nums i) (8 + 4 * k) 4 false) = nums.getD k 0
  | i + 1, h1, h2 => by
    rw [encN]
    have hlen := encN_length nums i
    by_cases hki : k = i
    · subst hki
      exact seg_put (by omega) (by rw [show (256 : Nat) ^ 4 = 2 ^ 32 from by decide]; exact hv)
    · rw [seg_put_other (by omega)]
      exact encN_seg nums hk hv i (by omega) (by omega)
def supB (p : Pl) : Bytes := put (encN (plN p) 7) 36 4 false (crcI ((encN (plN p) 7).take 36)).toNat
theorem supB_length (p : Pl) : (supB p).length = 512 := by unfold supB; rw [put_length]; exact encN_length _ _
theorem plN_small {p : Pl} (h : PlIs p) : ∀ v ∈ plN p, v < 2 ^ 32 := by
  have h1 := h.im; have h2 := h.bm; have h3 := h.m1; have h4 := h.da; have h5 := h.dc; have h8 := h.n2; have h10 := h.i2
  intro v hv
  unfold plN at hv
  simp only [List.mem_cons, List.not_mem_nil, or_false] at hv
  rcases hv with rfl | rfl | rfl | rfl | rfl | rfl | rfl <;> omega
theorem supB_n {p : Pl} (h : PlIs p) : beNat (seg (supB p) 8 4 false) = p.n := by
  unfold supB
  rw [seg_put_other (by omega)]
  exact encN_seg (plN p) (k := 0) (by omega) (plN_small h _ (List.getElem_mem (l := plN p) (n := 0) (by show 0 < 7; decide))) 7 (by omega) (by omega)
theorem supB_ino {p : Pl} (h : PlIs p) : beNat (seg (supB p) 12 4 false) = p.ino := by
  unfold supB
  rw [seg_put_other (by omega)]
  exact encN_seg (plN p) (k := 1) (by omega) (plN_small h _ (List.getElem_mem (l := plN p) (n := 1) (by show 1 < 7; decide))) 7 (by omega) (by omega)
theorem layEnc {p : Pl} (h : PlIs p) : Spec Tryz.prog 136 #[.agg p.cells] [] fun F v M => ∃ g q, v = .slice (some ⟨g, 0, none⟩) 512 q ∧ (512 ≤ q ∧ q ≤ maxLen) ∧ M = buf g 5 q (bvs (supB p)) :: F := by
  refine Spec.intro Tryz.func136 rfl rfl fun B F => ?_
  simp only [Tryz.ntmps136, List.cons_append, List.nil_append, env0, Nat.reduceAdd]
  refine .sr ?_
  refine .box fun b1 => ?_
  refine .to (A := pt b1 (.cells p.cells 199 (0, 0))) (A' := pt b1 (.cells p.cells 199 (0, 0))) (fun h hh => hh) ?_
  refine .assign (.x ?_)
  refine .mkSN 512 z5 so33 (by decide) (by decide) fun b6 => ?_
  refine .assign (.x (.move ?_))
  refine .copyS magicS so33 ?_ (hdl := by rw [List.length_replicate]; decide)
  refine .to (r := .here) (A' := buf b6 5 512 (bvs (encN (plN p) 0))) (fun h hh => by
    have e1 : (List.replicate 512 (Value.int .u8 0)).take 0 ++ (bvs magicS).take (min magicS.length 512) ++ (List.replicate 512 (Value.int .u8 0)).drop (0 + min magicS.length 512) = bvs (encN (plN p) 0) := by
      rw [encN, bvs_append, bvs_replicate, List.take_zero, List.nil_append, List.drop_replicate]
      rfl
    rw [← e1]; exact hh) ?_
  refine .z (.seq (.sr ?_))
  refine .fa ?_ fo199_0
  refine .ld ?_ sc3
  refine .fa ?_ fo199_1
  refine .ld ?_ sc3
  refine .fa ?_ fo199_2
  refine .ld ?_ sc3
  refine .fa ?_ fo199_3
  refine .ld ?_ sc3
  refine .fa ?_ fo199_4
  refine .ld ?_ sc3
  refine .fa ?_ fo199_5
  refine .ld ?_ sc3
  refine .fa ?_ fo199_6
  refine .ld ?_ sc3
  refine .buildS (fun b23 => ?_) (bsI7 _ _ _ _ _ _ _)
  refine .lenS ?_ sl80
  refine .move (.z (.block ?_))
  refine .to (A := pt b23 (.cells #[.int .i64 (p.n : Int), .int .i64 (p.ino : Int), .int .i64 (p.im : Int), .int .i64 (p.bm : Int), .int .i64 (p.tb : Int), .int .i64 (p.da : Int), .int .i64 (p.dc : Int)] 3 (0, 0))) (A' := pt b23 (.cells (natsV (plN p)).toArray 3 (0, 0))) (fun h hh => hh) ?_
  refine .loopA (σ := Nat × Nat × Nat) (fun y => [(3, .slice (some ⟨y.2.1, 0, none⟩) 512 y.2.2), (23, .slice (some ⟨b23, 0, none⟩) 7 7), (24, .int .i64 7), (25, .int .i64 ((y.1 : Nat) : Int))]) (fun y => buf y.2.1 5 y.2.2 (bvs (encN (plN p) y.1)) :: pt b23 (.cells (natsV (plN p)).toArray 3 (0, 0)) :: F) (fun y => y.1 ≤ 7 ∧ 512 ≤ y.2.2 ∧ y.2.2 ≤ maxLen) (fun y => 7 - y.1) (0, b6, 512) ⟨Nat.zero_le _, Nat.le_refl _, by show 512 ≤ maxLen; decide⟩ ?_
  rintro y hy
  obtain ⟨k, gb, q⟩ := y
  obtain ⟨hk, hq1, hq2⟩ := hy
  simp only at hk hq1 hq2 ⊢
  refine .sr ?_
  refine .lss ?_
  refine .z (.seq ?_)
  refine .cond rfl (fun hb => ?_) (fun hb => ?_)
  · have hlt : k < 7 := by have h : (k : Int) < 7 := of_decide_eq_true hb; omega
    have hgk : (natsV (plN p))[((k : Nat) : Int).toNat]? = some (.int .i64 (((plN p).getD k 0 : Nat) : Int)) := by
      have hl7 : k < (plN p).length := hlt
      rw [Int.toNat_natCast, List.getD_eq_getElem?_getD, List.getElem?_eq_getElem hl7]
      unfold natsV ints
      simp [hl7]
    have hv : (plN p).getD k 0 < 2 ^ 32 := by
      have hl7 : k < (plN p).length := hlt
      rw [List.getD_eq_getElem?_getD, List.getElem?_eq_getElem hl7]
      exact plN_small h _ (List.getElem_mem hl7)
    have hlen := encN_length (plN p) k
    refine .skip (.next (.seq (.block (.sr (.move ?_)))))
    refine .idx1 ?_ so80
    refine .ldR (i := ((k : Nat) : Int).toNat) (R := pt b23 (.cells (natsV (plN p)).toArray 3 (0, 0))) ?_ sc3 Reads.pt hgk
    refine .assign (.assign (.y (.move (.move ?_))))
    refine .mul ?_
    refine .add ?_
    refine .move ?_
    refine .cvt ?_ un3 un134
    refine .cast (d := 36) (u := .int .u64 (((plN p).getD k 0 : Nat) : Int)) rfl (congrArg (Value.int .u64) (u64_wrap0 (by omega))) ?_
    refine .call (hc := Tryz.call74) (sp := bitsPut (xs := encN (plN p) k) (v := (plN p).getD k 0) Reads.buf hlen (by decide) (by omega) (by omega) (by omega) (by omega)) (h := ?_)
    rintro _ _ ⟨g', q', ⟨rfl, h1, h2⟩, rfl⟩
    refine .move ?_
    refine .extract ?_
    refine .extract ?_
    refine .assign (.nil (.blockNormal (.next (.region ?_))))
    refine .add ?_
    refine .move (.nil ?_)
    refine .to (r := .here) (A' := buf g' 5 q' (bvs (encN (plN p) (k + 1)))) (fun h hh => by
      rw [encN, show 8 + 4 * k = (8 + 4 * ((k : Nat) : Int)).toNat from by omega]; exact hh) ?_
    refine .cast (d := 25) (u := .int .i64 ((k + 1 : Nat) : Int)) rfl (congrArg (Value.int .i64) (by omega)) ?_
    exact .back (k + 1, g', q') ⟨by show k + 1 ≤ 7; omega, h1, h2⟩ (by show 7 - (k + 1) < 7 - k; omega)
  · have hge : k = 7 := by have h : ¬ (k : Int) < 7 := of_decide_eq_false hb; omega
    subst hge
    have hlen := encN_length (plN p) 7
    have hcr := crcI_range ((encN (plN p) 7).take 36)
    refine .exit (.thenExit (.thenExit (.blockExit (?_))))
    refine .next (.sr (.move (.move ?_)))
    refine .slcH ?_ so33
    refine .call (hc := Tryz.call206) (sp := crcSum (R := buf gb 5 q (bvs (encN (plN p) 7))) (xs := (encN (plN p) 7).take 36) (by rw [bvs_take]; exact Reads.buf.take 36) (by rw [List.length_take, hlen]; rfl) (by decide)) (h := ?_)
    rintro _ _ ⟨rfl, rfl⟩
    refine .cvt ?_ un303 un134
    refine .cast (d := 46) (u := .int .u64 (((crcI ((encN (plN p) 7).take 36)).toNat : Nat) : Int)) rfl (congrArg (Value.int .u64) (by rw [← u64_wrap0 (a := (crcI ((encN (plN p) 7).take 36)).toNat) (by omega)]; first | (congr 1; omega) | congr 1)) ?_
    refine .call (hc := Tryz.call74) (sp := bitsPut (xs := encN (plN p) 7) (v := (crcI ((encN (plN p) 7).take 36)).toNat) Reads.buf hlen (by decide) (by omega) (by omega) (by omega) (by omega)) (h := ?_)
    rintro _ _ ⟨g', q', ⟨rfl, h1, h2⟩, rfl⟩
    refine .move ?_
    refine .extract ?_
    refine .extract ?_
    refine .assign (.x (.move (.assign (.z ?_))))
    refine .ret (?_)
    exact .ret1 (h1 := .tmp (t := 2) rfl) ⟨_, ⟨g', q', rfl, ⟨h1, h2⟩, rfl⟩, Am.auto⟩
theorem bytesEq {R R2 : HP} {A A2 : Option Addr} {m c m2 c2 : Nat} {xs ys : Bytes} (hR : Reads R A (bvs xs)) (hm : xs.length = m) (hR2 : Reads R2 A2 (bvs ys)) (hm2 : ys.length = m2) : Spec Tryz.prog 225 #[.slice A m c, .slice A2 m2 c2] [R, R2] fun F v M => v = .bool (decide (xs = ys)) ∧ M = R :: R2 :: F := by
  refine Spec.intro Tryz.func225 rfl rfl fun B F => ?_
  simp only [Tryz.ntmps225, List.cons_append, List.nil_append, env0, Nat.reduceAdd]
  refine .sr (.assign (.x (.move ?_)))
  refine .cvtBS (R := R) (xs := xs) ?_ by33 st9 hR hm
  refine .move ?_
  refine .cvtBS (R := R2) (xs := ys) ?_ by33 st9 hR2 hm2
  refine .eqS xs ys ?_
  refine .assign (.z ?_)
  refine .ret (?_)
  exact .ret1 (h1 := .tmp (t := 4) rfl) ⟨_, ⟨rfl, rfl⟩, Am.auto⟩
theorem layDec {R : HP} {A : Addr} {cc : Nat} {p : Pl} (h : PlIs p) (hR : Reads R (some A) (bvs (supB p))) : Spec Tryz.prog 142 #[.slice (some A) 512 cc] [R] fun F v M => v = .tuple #[.agg p.cells, .int .i64 0] ∧ M = R :: F := by
  refine Spec.intro Tryz.func142 rfl rfl fun B F => ?_
  simp only [Tryz.ntmps142, List.cons_append, List.nil_append, env0, Nat.reduceAdd]
  have hl := supB_length p
  have h8 := h.n2
  have h10 := h.i2
  refine .sr ?_
  refine .alloc z199 fun b2 => ?_
  refine .assign (.x (.move ?_))
  refine .call (hc := Tryz.call143) (sp := bitsGet (p := 8) (size := 4) (big := false) hR hl (by decide) (by decide) (by decide) (by decide)) (h := ?_)
  rintro _ _ ⟨rfl, rfl⟩
  rw [show beNat (seg (supB p) (8 : Int).toNat (4 : Int).toNat false) = p.n from supB_n h]
  refine .move ?_
  refine .extract ?_
  refine .extract ?_
  refine .assign (.assign (.x (.move ?_)))
  refine .call (hc := Tryz.call143) (sp := bitsGet (p := 12) (size := 4) (big := false) hR hl (by decide) (by decide) (by decide) (by decide)) (h := ?_)
  rintro _ _ ⟨rfl, rfl⟩
  rw [show beNat (seg (supB p) (12 : Int).toNat (4 : Int).toNat false) = p.ino from supB_ino h]
  refine .move ?_
  refine .extract ?_
  refine .extract ?_
  refine .assign (.assign (.x (.move ?_)))
  refine .cvt ?_ un134 un3
  refine .cast (d := 22) (u := .int .i64 (p.n : Int)) rfl (congrArg (Value.int .i64) (IntWalk.i64_in _ (by omega))) ?_
  refine .move ?_
  refine .cvt ?_ un134 un3
  refine .cast (d := 24) (u := .int .i64 (p.ino : Int)) rfl (congrArg (Value.int .i64) (IntWalk.i64_in _ (by omega))) ?_
  refine .call (hc := Tryz.call129) (sp := layMake h) (h := ?_)
  rintro _ _ ⟨rfl, rfl⟩
  refine .move ?_
  refine .extract ?_
  refine .extract ?_
  refine .alloc z199 fun b8 => ?_
  refine .stV ?_ agg199
  refine .to (A := pt b8 (.cells p.cells 199 (0, 0))) (A' := pt b8 (.cells p.cells 199 (0, 0))) (fun h hh => hh) ?_
  refine .assign (.z (.seq (.sr (.move ?_))))
  refine .nei ?_
  refine .move ?_
  refine .cast (d := 30) (u := .bool false) rfl (congrArg Value.bool (by first | (simp; done) | (simp; omega) | omega)) ?_
  refine .gT ?_
  refine .ldA ?_ agg199
  refine .gT ?_
  refine .call (hc := Tryz.call136) (sp := layEnc h) (h := ?_)
  rintro _ _ ⟨gb, q, rfl, ⟨hq1, hq2⟩, rfl⟩
  refine .gT ?_
  refine .move ?_
  refine .gT ?_
  refine .call (hc := Tryz.call225) (sp := bytesEq (R := buf gb 5 q (bvs (supB p))) (R2 := R) (xs := supB p) (ys := supB p) Reads.buf hl hR hl) (h := ?_)
  rintro _ _ ⟨rfl, rfl⟩
  rw [decide_eq_true rfl]
  refine .gT ?_
  refine .not ?_
  refine .pickF ?_
  refine .z ?_
  refine .condF rfl rfl ?_
  refine .skip (.next (.sr ?_))
  refine .ldA ?_ agg199
  refine .stV ?_ agg199
  refine .assign (.z ?_)
  refine .ret (?_)
  exact .ret2 (h2 := .tmp (t := 3) rfl) ⟨_, ⟨rfl, rfl⟩, Am.auto⟩
structure DevOk (n : Nat) (V : Nat → Bytes) (J : JS) : Prop where
  ok : HeadsOk n J
  last : J.last < 2 ^ 64
  gen : J.gen < 2 ^ 64
  n1 : 246 ≤ n
  n2 : n ≤ 65536
  fit : Fit n J.ch
  home : ∀ k, 245 ≤ k → k < n → J.view k = V k
theorem DevOk.settled {n : Nat} {V : Nat → Bytes} {J : JS} (h : DevOk n V J) : DevOk n V J.settled := by
  refine ⟨h.ok.settled h.fit, h.last, h.gen, h.n1, h.n2, Fit.nil n, fun k h1 h2 => ?_⟩
  rw [← h.home k h1 h2]
  show (kget [] k).getD (lay J.cur J.ch k) = _
  rw [lay_view _ _ h.fit.apart]
  rfl
theorem tCommitD {c n d : Nat} {V0 V : Nat → Bytes} {D : List Nat} (ht : tagN (V0 1) = some d) (hn1 : 246 ≤ n) : Spec Tryz.prog 139 #[.pointer (some ⟨c, 0, none⟩)] [TR c n V0 V D true] fun F v M => ∃ J, v = okV ∧ DevOk n V J ∧ M = DevR d n J.cur 0 :: F := by
  refine Spec.opens (TR.opens c n V0 V D true) fun y hy => (cCommitF (c := c) (j := y.1) (d := y.2.1) (n := n) (S := y.2.2) hy.hop).post ?_
  rintro F v M ⟨L, hL, hW, hJ, rfl, rfl⟩
  obtain ⟨hdev, hok, hlast, hgen, hn2⟩ := hy.tg _ ht
  have hLf := hW.perm hL
  have hv : ∀ k, 245 ≤ k → k < n → (y.2.2.J.commits L).view k = V k := fun k h1 h2 => by
    rw [JS.view_commits hJ (hW.perm hL) k h1, kget_perm hL hW.apart]
    exact hy.h1 k h1 h2
  have hD : DevOk n V (y.2.2.J.commits L) := by
    unfold JS.commits at hv ⊢
    by_cases h0 : L = []
    · rw [if_pos h0] at hv ⊢
      exact ⟨hok, by omega, hgen, hn1, hn2, hJ, hv⟩
    · rw [if_neg h0] at hv ⊢
      have hnx : (y.2.2.J.commit L).last < 2 ^ 64 := Nat.mod_lt _ (by decide)
      exact ⟨hok.commit hgen hn2 hJ hLf hlast, hnx, hgen, hn1, hn2, hLf, hv⟩
  refine ⟨_, ⟨_, rfl, hD, rfl⟩, fun B w hs => ?_⟩
  subst hdev
  obtain ⟨x, hx, h1⟩ := Sat.opens hs (CR.opens c y.1 y.2.1 n _)
  have h2 := Sat.front (.there (.there .here)) h1
  obtain ⟨z, hz, h3⟩ := Sat.opens h2 (JR.opens y.1 y.2.1 n _)
  exact Sat.front (.there (.there (.there (.there .here)))) h3 |> fun h => Am.wk Am.auto B w h
theorem bdFS (c a s m : Nat) : BuildOk Tryz.prog 129 [(0, .pointer (some ⟨c, 0, none⟩)), (1, .pointer (some ⟨a, 0, none⟩)), (2, .pointer (some ⟨s, 0, none⟩)), (6, .map (some m))] #[.pointer (some ⟨c, 0, none⟩), .pointer (some ⟨a, 0, none⟩), .pointer (some ⟨s, 0, none⟩), .bool false, .bool false, .bool false, .map (some m)] := fun w => by kernel_rfl
theorem fsStand {j d : Nat} {p : Pl} {J : JS} {T : FT} (hn1 : 246 ≤ p.n) (hn2 : p.n ≤ 65536) : Spec Tryz.prog 132 #[.pointer (some ⟨j, 0, none⟩), .agg p.cells] [JR j d p.n J] fun F v M => ∃ f c a s mp, v = .pointer (some ⟨f, 0, none⟩) ∧ M = [pt f (fO c a s false false false mp), LD mp T, pt s (stO c a p), pt a (alO c p), CR c j d p.n ⟨J, [], false, false⟩] ++ F := by
  refine Spec.intro Tryz.func132 rfl rfl fun B F => ?_
  simp only [Tryz.ntmps132, List.cons_append, List.nil_append, env0, Nat.reduceAdd]
  refine .sr ?_
  refine .box fun b3 => ?_
  refine .to (A := pt b3 (.cells p.cells 199 (0, 0))) (A' := pt b3 (.cells p.cells 199 (0, 0))) (fun h hh => hh) ?_
  refine .assign (.x (.move ?_))
  refine .call (hc := Tryz.call201) (sp := cNew (n := p.n) hn1 hn2) (h := ?_)
  rintro _ _ ⟨c, rfl, rfl⟩
  refine .assign (.x (.move ?_))
  refine .ldA ?_ agg199
  refine .call (hc := Tryz.call202) (sp := alNew (p := p)) (h := ?_)
  rintro _ _ ⟨a, rfl, rfl⟩
  refine .assign (.x (.move (.move (.move (.move ?_)))))
  refine .ldA ?_ agg199
  refine .call (hc := Tryz.call203) (sp := inNew (p := p)) (h := ?_)
  rintro _ _ ⟨s, rfl, rfl⟩
  refine .mkMap fun m18 => ?_
  refine .build ?_ (bdFS _ _ _ _)
  refine .box fun b20 => ?_
  refine .assign (.z ?_)
  refine .ret (?_)
  refine .shutR (LD.opens m18 T) (#[], 0, []) (LDP.empty T 0) ?_
  exact .ret1 (h1 := .tmp (t := 4) rfl) ⟨_, ⟨b20, c, a, s, m18, rfl, rfl⟩, Am.auto⟩
def mkW (p : Pl) : Nat → Bytes := svV p (fmtA p (wr zeroD 245 (supB p))) 0 ⟨2, 0, List.replicate 11 0⟩
theorem fmtA_at (p : Pl) (V : Nat → Bytes) (k : Nat) : fmtA p V k = if p.bm ≤ k ∧ k < p.bm + (p.dc + 4095) / 4096 then fmtZ p p.bm p.dc else if p.im ≤ k ∧ k < p.im + (p.ino + 4095) / 4096 then fmtZ p p.im p.ino else V k := by
  unfold fmtA; rw [fmtV_at, fmtV_at]
theorem svV_other {p : Pl} {V : Nat → Bytes} {x : Nd} {k : Nat} (h : k ≠ p.tb) : svV p V 0 x k = V k := wr_other _ _ (by omega)
theorem mkW_sup {p : Pl} (h : PlIs p) : mkW p 245 = supB p := by
  have h1 := h.im; have h2 := h.bm; have h3 := h.m1
  unfold mkW
  rw [svV_other (by omega), fmtA_at, if_neg (by omega), if_neg (by omega)]
  unfold wr
  rw [if_pos rfl]
theorem mkW_home {p : Pl} (h : PlIs p) {k : Nat} (hk : 246 ≤ k) : mkW p k = freshW p k := by
  have h1 := h.im; have h2 := h.bm; have h3 := h.m1
  have key : ∀ v, 246 ≤ v → fmtA p (wr zeroD 245 (supB p)) v = freshV p v := fun v hv => by
    unfold freshV
    rw [fmtA_at, fmtA_at]
    split
    · rfl
    · split
      · rfl
      · unfold wr; rw [if_neg (by omega)]
  unfold mkW freshW svV
  generalize fmtA p (wr zeroD 245 (supB p)) = X at key ⊢
  unfold wr
  by_cases ht : k = p.tb + 0 / 8
  · rw [if_pos ht, if_pos ht, key _ (by omega)]
  · rw [if_neg ht, if_neg ht]; exact key k hk
theorem mkW_len {p : Pl} (h : PlIs p) : Len5 (mkW p) := by
  have h0 : Len5 (wr zeroD 245 (supB p)) := fun k => by unfold wr; split; exact supB_length p; exact zeros_length
  have h1 : Len5 (fmtA p (wr zeroD 245 (supB p))) := fun k => by
    rw [fmtA_at]
    split
    · exact fmtZ_length _ _ _
    · split
      · exact fmtZ_length _ _ _
      · exact h0 k
  exact svV_len h1 _ _
theorem mkW_rep {p : Pl} (h : PlIs p) : Rep p (cm0 (mkW p)) rootM := by
  have h1 := (fresh_rep h).mono h.ok (V' := mkW p) (mkW_len h) (fun v hv => mkW_home h (by have := h.im; omega))
  exact h1.cm h.ok
def tagV (d : Nat) : Nat → Bytes := fun k => if k = 1 then List.replicate (513 + d) 0 else zeros
theorem tagV_tag (d : Nat) : tagN (tagV d 1) = some d := by
  have hl : (tagV d 1).length = 513 + d := by
    show (List.replicate (513 + d) (0 : UInt8)).length = _
    rw [List.length_replicate]
  unfold tagN
  rw [hl, if_pos (Nat.le_add_right _ _), Nat.add_sub_cancel_left]
theorem tagV_home {d k : Nat} (h : 245 ≤ k) : tagV d k = zeros := if_neg (by omega)
end Go.Proofs.YtdmjkjeoamiedaaGreatDoor
end
section
namespace Go.Proofs.YtdmjkjeoamiedaaGreatDoor
open Go
theorem z23 : zeroOf Tryz.prog 23 = some (#[.pointer none]) := by kernel_rfl
theorem fmtB_room {p : Pl} (h : PlIs p) : Room (fmtB p [245]) := by
  have h1 := fmtD_length (fmtD [245] p.im ((p.ino + 4095) / 4096)) p.bm ((p.dc + 4095) / 4096)
  have h2 := fmtD_length [245] p.im ((p.ino + 4095) / 4096)
  have h3 := h.i2
  have h4 := h.n2
  have h5 := h.dc
  have h6 := h.i1
  have h7 := h.da
  have h8 := h.m1
  have h9 := h.bm
  unfold fmtB Room
  have : ([245] : List Nat).length = 1 := rfl
  omega
theorem bsF5 (f0 f1 f2 f3 f4 : Fn) (u0 u1 u2 u3 u4 c0 c1 c2 c3 c4 : Array Value) : BuildSOk Tryz.prog 220 5 [(0, .func f0 u0 c0), (1, .func f1 u1 c1), (2, .func f2 u2 c2), (3, .func f3 u3 c3), (4, .func f4 u4 c4)] 183 #[.func f0 u0 c0, .func f1 u1 c1, .func f2 u2 c2, .func f3 u3 c3, .func f4 u4 c4] := fun w => by kernel_rfl
def J0 : JS := ⟨beNat (seg (formatted zeroD 0) 8 8 false), 0, [], formatted zeroD⟩
theorem J0_ok {n : Nat} : HeadsOk n J0 := ⟨formatted0, rfl, fun i _ => .inl (formattedH _ i), fun _ => rfl, fun h => absurd rfl h⟩
theorem J0_gen : J0.gen < 2 ^ 64 := le8_lt _ _ _
theorem J0_view {k : Nat} (h : 245 ≤ k) : J0.view k = zeros := formattedK (by omega)
theorem J0_tag {n d : Nat} (hn : n ≤ 65536) : Tagged n d d J0 := ⟨rfl, J0_ok, Nat.lt_of_le_of_lt (Nat.le_refl 1) (by decide), J0_gen, hn⟩
theorem jOpenBad {d n t : Nat} {cur : Nat → Bytes} (hn : 246 ≤ n) (hmg : (cur 0).take 8 ≠ magicJ) : Spec Tryz.prog 140 #[.pointer (some ⟨d, 0, none⟩)] [DevR d n cur t] fun F v M => v = .tuple #[.pointer none, .int .i64 10] ∧ M = DevR d n cur t :: F := by
  refine Spec.intro Tryz.func140 rfl rfl fun B F => ?_
  simp only [Tryz.ntmps140, List.cons_append, List.nil_append, env0, Nat.reduceAdd]
  refine .sr (.assign (.assign (.z (.seq (.sr (.move ?_))))))
  refine .call (hc := Tryz.call130) (sp := devBlocksR (n := n) (t := t) (cur := cur)) (h := ?_)
  rintro _ _ ⟨rfl, rfl⟩
  refine .lss ?_
  refine .z ?_
  refine .condF rfl (congrArg Value.bool (by first | (simp; done) | (simp; omega) | omega)) ?_
  refine .skip (.next (.sr (.move ?_)))
  refine .call (hc := Tryz.call215) (sp := jFirst (n := n) (t := t) (cur := cur) (by omega)) (h := ?_)
  rintro _ _ ⟨rfl, rfl⟩
  refine .move ?_
  refine .extract ?_
  refine .extract ?_
  refine .cast (d := 20) (u := .bool false) rfl (congrArg Value.bool (decide_eq_false hmg)) ?_
  refine .assign (.assign (.z (.seq (.sr (.move ?_)))))
  refine .not ?_
  refine .z ?_
  refine .condT rfl rfl ?_
  refine .sr (.assign (.assign (.z ?_)))
  refine .ret (.thenRet (?_))
  exact .ret2 (h1 := .tmp (t := 2) rfl) (h2 := .tmp (t := 3) rfl) ⟨_, ⟨rfl, rfl⟩, Am.auto⟩
theorem zeroD_bad : (zeroD 0).take 8 ≠ magicJ := by
  show zeros.take 8 ≠ magicJ
  rw [zeros_take]; decide
theorem fsOpened {d n : Nat} (hn : 246 ≤ n) (hn2 : n ≤ 65536) : Spec Tryz.prog 131 #[.pointer (some ⟨d, 0, none⟩)] [DevR d n zeroD 0] fun F v M => ∃ j, v = .tuple #[.pointer (some ⟨j, 0, none⟩), .int .i64 0] ∧ M = JR j d n J0 :: F := by
  refine Spec.intro Tryz.func131 rfl rfl fun B F => ?_
  simp only [Tryz.ntmps131, List.cons_append, List.nil_append, env0, Nat.reduceAdd]
  refine .sr (.assign (.assign (.x (.move ?_))))
  refine .call (hc := Tryz.call140) (sp := jOpenBad (n := n) (t := 0) (cur := zeroD) hn zeroD_bad) (h := ?_)
  rintro _ _ ⟨rfl, rfl⟩
  refine .move ?_
  refine .extract ?_
  refine .extract ?_
  refine .assign (.assign (.z (.seq (.sr (.move ?_)))))
  refine .nei ?_
  refine .z ?_
  refine .condF rfl (congrArg Value.bool (by first | (simp; done) | (simp; omega) | omega)) ?_
  refine .skip (.next (.seq (.sr (.move ?_))))
  refine .call (hc := Tryz.call200) (sp := jFormat (n := n) (t := 0) (cur := zeroD) hn (by decide)) (h := ?_)
  rintro _ _ ⟨rfl, rfl⟩
  refine .assign (.x (.move ?_))
  refine .nei ?_
  refine .z ?_
  refine .condF rfl (congrArg Value.bool (by first | (simp; done) | (simp; omega) | omega)) ?_
  refine .skip (.next (.sr (.move ?_)))
  refine .call (hc := Tryz.call140) (sp := jOpen (n := n) (cur := formatted zeroD) hn hn2 formatted0 (fun i _ => formattedH _ i)) (h := ?_)
  rintro _ _ ⟨j, rfl, rfl⟩
  refine .extract ?_
  refine .extract ?_
  refine .assign (.assign (.z ?_))
  refine .ret (?_)
  exact .ret2 (h1 := .tmp (t := 2) rfl) (h2 := .tmp (t := 3) rfl) ⟨_, ⟨j, rfl, rfl⟩, Am.auto⟩
theorem fsMk1 {f s a c mp b8 b5 : Nat} {p : Pl} {V0 V : Nat → Bytes} (h : PlIs p) (hn : 246 ≤ p.n) : Spec Tryz.prog 134 #[.pointer (some ⟨b8, 0, none⟩), .pointer (some ⟨b5, 0, none⟩)] [pt b8 (.cells #[.pointer (some ⟨f, 0, none⟩)] 23 (0, 0)), pt f (fO c a s false false false mp), pt b5 (.cells p.cells 199 (0, 0)), TR c p.n V0 V [] true] fun F v M => v = okV ∧ M = pt b8 (.cells #[.pointer (some ⟨f, 0, none⟩)] 23 (0, 0)) :: pt f (fO c a s false false false mp) :: pt b5 (.cells p.cells 199 (0, 0)) :: TR c p.n V0 (wr V 245 (supB p)) [245] true :: F := by
  refine Spec.intro Tryz.func134 rfl rfl fun B F => ?_
  simp only [Tryz.ntmps134, List.cons_append, List.nil_append, env0, Nat.reduceAdd]
  refine .sr (.assign (.z (.seq ?_)))
  refine .dr ([pt b8 (.cells #[.pointer (some ⟨f, 0, none⟩)] 23 (0, 0)), pt f (fO c a s false false false mp), pt b5 (.cells p.cells 199 (0, 0))]) [] 8 mixed .autoJ ?_
  refine .tk 0 rfl (.ld sc23) ?_
  refine .tk 1 rfl .nilCheck ?_
  refine .tk 2 rfl (.fa fo129_0) ?_
  refine .tk 3 rfl (.ld sc124) ?_
  refine .tk 4 rfl (.ldA agg199) ?_
  refine .on 5 rfl fun hnp => ?_
  refine .call (hc := Tryz.call136) (sp := layEnc h) (h := ?_)
  rintro _ _ ⟨gb, q, rfl, ⟨hq1, hq2⟩, rfl⟩
  refine .nil (.wa hnp ?_)
  refine .on 6 rfl fun hnp => ?_
  refine .call (hc := Tryz.call135) (sp := tWrite (c := c) (n := p.n) (k := 245) (V0 := V0) (V := V) (D := []) (R := buf gb 5 q (bvs (supB p))) (xs := supB p) (by decide) (by omega) Reads.buf (supB_length p) rfl (.inr (by decide))) (h := ?_)
  rintro _ _ ⟨rfl, rfl⟩
  refine .nil (.wa hnp ?_)
  refine .tk 7 rfl .assign ?_
  refine .fin ?_
  refine .next ?_
  refine .ret (?_)
  exact .ret1 (h1 := .tmp (t := 2) rfl) ⟨_, ⟨rfl, rfl⟩, Am.auto⟩
theorem fsMkfs {d : Nat} {p : Pl} (h : PlIs p) : Spec Tryz.prog 63 #[.pointer (some ⟨d, 0, none⟩), .int .i64 (p.ino : Int)] [DevR d p.n zeroD 0] fun F v M => ∃ J, v = okV ∧ DevOk p.n (mkW p) J ∧ M = DevR d p.n J.cur 0 :: F := by
  refine Spec.intro Tryz.func63 rfl rfl fun B F => ?_
  simp only [Tryz.ntmps63, List.cons_append, List.nil_append, env0, Nat.reduceAdd]
  have hn2 := h.n2
  have h246 : 246 ≤ p.n := by have := h.bm; have := h.m1; have := h.da; have := h.dc; have := h.d1; omega
  refine .sr (.assign (.x (.move ?_)))
  refine .call (hc := Tryz.call130) (sp := devBlocksR (n := p.n) (t := 0) (cur := zeroD)) (h := ?_)
  rintro _ _ ⟨rfl, rfl⟩
  refine .move ?_
  refine .call (hc := Tryz.call129) (sp := layMake h) (h := ?_)
  rintro _ _ ⟨rfl, rfl⟩
  refine .move ?_
  refine .extract ?_
  refine .extract ?_
  refine .alloc z199 fun b5 => ?_
  refine .stV ?_ agg199
  refine .to (A := pt b5 (.cells p.cells 199 (0, 0))) (A' := pt b5 (.cells p.cells 199 (0, 0))) (fun h hh => hh) ?_
  refine .assign (.z (.seq (.sr (.move ?_))))
  refine .nei ?_
  refine .z ?_
  refine .condF rfl (congrArg Value.bool (by first | (simp; done) | (simp; omega) | omega)) ?_
  refine .skip (.next (.sr (.move ?_)))
  refine .call (hc := Tryz.call131) (sp := fsOpened (n := p.n) h246 hn2) (h := ?_)
  rintro _ _ ⟨j, rfl, rfl⟩
  refine .move ?_
  refine .extract ?_
  refine .extract ?_
  refine .assign (.assign (.z (.seq (.sr (.move ?_)))))
  refine .nei ?_
  refine .z ?_
  refine .condF rfl (congrArg Value.bool (by first | (simp; done) | (simp; omega) | omega)) ?_
  refine .skip (.next (.sr (.move ?_)))
  refine .ldA ?_ agg199
  refine .call (hc := Tryz.call132) (sp := fsStand (p := p) (T := fun _ => none) h246 hn2) (h := ?_)
  rintro _ _ ⟨f, c, a, s, mp, rfl, rfl⟩
  simp only [List.cons_append, List.nil_append]
  refine .shutR (TR.opens c p.n (tagV d) zeroD [] false) (j, d, ⟨J0, [], false, false⟩) ⟨rfl, (fun k h1 h2 => (J0_view h1).trans (tagV_home h1).symm), (fun k h1 h2 => J0_view h1), rfl, fun r hr => by rw [tagV_tag] at hr; injection hr with hr; subst hr; exact J0_tag hn2⟩ ?_
  refine .alloc z23 fun b8 => ?_
  refine .st ?_ sc23
  refine .z (.seq (.seq ?_))
  refine .dr ([pt b8 (.cells #[.pointer (some ⟨f, 0, none⟩)] 23 (0, 0)), pt f (fO c a s false false false mp)]) [] 24 mixed .autoJ ?_
  refine .tk 0 rfl (.ld sc23) ?_
  refine .tk 1 rfl .nilCheck ?_
  refine .tk 2 rfl (.fa fo129_0) ?_
  refine .tk 3 rfl (.ld sc124) ?_
  refine .tk 4 rfl .makeFuncB ?_
  refine .tk 5 rfl .makeFuncB ?_
  refine .tk 6 rfl (.ld sc23) ?_
  refine .tk 7 rfl .nilCheck ?_
  refine .tk 8 rfl (.fa fo129_1) ?_
  refine .tk 9 rfl (.ld sc125) ?_
  refine .tk 10 rfl .makeFuncB ?_
  refine .tk 11 rfl (.ld sc23) ?_
  refine .tk 12 rfl .nilCheck ?_
  refine .tk 13 rfl (.fa fo129_2) ?_
  refine .tk 14 rfl (.ld sc126) ?_
  refine .tk 15 rfl .makeFuncB ?_
  refine .tk 16 rfl (.ld sc23) ?_
  refine .tk 17 rfl .nilCheck ?_
  refine .tk 18 rfl (.fa fo129_0) ?_
  refine .tk 19 rfl (.ld sc124) ?_
  refine .tk 20 rfl .makeFuncB ?_
  refine .tk 23 rfl .move ?_
  refine .on 21 rfl fun hnp => ?_
  refine .buildS (fun b54 => ?_) (bsF5 _ _ _ _ _ _ _ _ _ _ _ _ _ _ _)
  refine .nil (.wa hnp ?_)
  refine .tk 22 rfl (.lenS sl220) ?_
  refine .fin ?_
  refine .next (.block ?_)
  refine .loopN 6 (RC.succ ?_)
  refine .sr ?_
  refine .lss ?_
  refine .z (.seq ?_)
  refine .condT rfl (congrArg Value.bool (by first | (simp; done) | (simp; omega) | omega)) ?_
  refine .skip (.next (.seq (.block (.sr ?_))))
  refine .idx1 ?_ so220
  refine .ld ?_ sc183
  refine .assign (.x (.move ?_))
  refine .callF (us := #[.pointer (some ⟨c, 0, none⟩)]) (cap := #[]) (vs := []) rfl rfl Tryz.call133 (Spec.bound (tBegin (n := p.n) (V0 := tagV d) (V := zeroD) (D := []))) ?_ (by repeat (first | exact .nil | (apply Tk.cons; focus ((repeat (first | exact .here | apply Rem.there)); done))))
  rintro _ _ ⟨rfl, rfl⟩
  refine .assign (.x (.move ?_))
  refine .nei ?_
  refine .z ?_
  refine .condF rfl (congrArg Value.bool (by first | (simp; done) | (simp; omega) | omega)) ?_
  refine .skip (.blockNormal (.next (.region ?_)))
  refine .add ?_
  refine .move (.nil ?_)
  refine .again (RC.succ ?_)
  refine .sr ?_
  refine .lss ?_
  refine .z (.seq ?_)
  refine .condT rfl (congrArg Value.bool (by first | (simp; done) | (simp; omega) | omega)) ?_
  refine .skip (.next (.seq (.block (.sr ?_))))
  refine .idx1 ?_ so220
  refine .ld ?_ sc183
  refine .assign (.x (.move ?_))
  refine .callF (us := #[]) (cap := #[.pointer (some ⟨b8, 0, none⟩), .pointer (some ⟨b5, 0, none⟩)]) (vs := []) rfl rfl Tryz.call134 (Spec.capt (fsMk1 (c := c) (f := f) (a := a) (s := s) (mp := mp) (V0 := tagV d) (V := zeroD) h h246)) ?_ (by repeat (first | exact .nil | (apply Tk.cons; focus ((repeat (first | exact .here | apply Rem.there)); done))))
  rintro _ _ ⟨rfl, rfl⟩
  refine .assign (.x (.move ?_))
  refine .nei ?_
  refine .z ?_
  refine .condF rfl (congrArg Value.bool (by first | (simp; done) | (simp; omega) | omega)) ?_
  refine .skip (.blockNormal (.next (.region ?_)))
  refine .add ?_
  refine .move (.nil ?_)
  refine .again (RC.succ ?_)
  refine .sr ?_
  refine .lss ?_
  refine .z (.seq ?_)
  refine .condT rfl (congrArg Value.bool (by first | (simp; done) | (simp; omega) | omega)) ?_
  refine .skip (.next (.seq (.block (.sr ?_))))
  refine .idx1 ?_ so220
  refine .ld ?_ sc183
  refine .assign (.x (.move ?_))
  refine .callF (us := #[.pointer (some ⟨a, 0, none⟩)]) (cap := #[]) (vs := []) rfl rfl Tryz.call137 (Spec.bound (alFormat (c := c) (V0 := tagV d) (V := wr zeroD 245 (supB p)) (D := [245]) h.ok (Nat.le_refl _))) ?_ (by repeat (first | exact .nil | (apply Tk.cons; focus ((repeat (first | exact .here | apply Rem.there)); done))))
  rintro _ _ ⟨rfl, rfl⟩
  simp only [List.cons_append, List.nil_append]
  refine .assign (.x (.move ?_))
  refine .nei ?_
  refine .z ?_
  refine .condF rfl (congrArg Value.bool (by first | (simp; done) | (simp; omega) | omega)) ?_
  refine .skip (.blockNormal (.next (.region ?_)))
  refine .add ?_
  refine .move (.nil ?_)
  refine .again (RC.succ ?_)
  refine .sr ?_
  refine .lss ?_
  refine .z (.seq ?_)
  refine .condT rfl (congrArg Value.bool (by first | (simp; done) | (simp; omega) | omega)) ?_
  refine .skip (.next (.seq (.block (.sr ?_))))
  refine .idx1 ?_ so220
  refine .ld ?_ sc183
  refine .assign (.x (.move ?_))
  refine .callF (us := #[.pointer (some ⟨s, 0, none⟩)]) (cap := #[]) (vs := []) rfl rfl Tryz.call138 (Spec.bound (inFormat (c := c) (a := a) (V0 := tagV d) (V := (fmtA p (wr zeroD 245 (supB p)))) (D := fmtB p [245]) h.ok (fmtB_room h))) ?_ (by repeat (first | exact .nil | (apply Tk.cons; focus ((repeat (first | exact .here | apply Rem.there)); done))))
  rintro _ _ ⟨rfl, rfl⟩
  simp only [List.cons_append, List.nil_append]
  refine .assign (.x (.move ?_))
  refine .nei ?_
  refine .z ?_
  refine .condF rfl (congrArg Value.bool (by first | (simp; done) | (simp; omega) | omega)) ?_
  refine .skip (.blockNormal (.next (.region ?_)))
  refine .add ?_
  refine .move (.nil ?_)
  refine .again (RC.succ ?_)
  refine .sr ?_
  refine .lss ?_
  refine .z (.seq ?_)
  refine .condT rfl (congrArg Value.bool (by first | (simp; done) | (simp; omega) | omega)) ?_
  refine .skip (.next (.seq (.block (.sr ?_))))
  refine .idx1 ?_ so220
  refine .ld ?_ sc183
  refine .assign (.x (.move ?_))
  refine .callF (us := #[.pointer (some ⟨c, 0, none⟩)]) (cap := #[]) (vs := []) rfl rfl Tryz.call139 (Spec.bound (tCommitD (n := p.n) (d := d) (V0 := tagV d) (V := mkW p) (D := insD (fmtB p [245]) (p.tb + 0 / 8)) (tagV_tag d) h246)) ?_ (by repeat (first | exact .nil | (apply Tk.cons; focus ((repeat (first | exact .here | apply Rem.there)); done))))
  rintro _ _ ⟨J, rfl, hJ, rfl⟩
  refine .assign (.x (.move ?_))
  refine .nei ?_
  refine .z ?_
  refine .condF rfl (congrArg Value.bool (by first | (simp; done) | (simp; omega) | omega)) ?_
  refine .skip (.blockNormal (.next (.region ?_)))
  refine .add ?_
  refine .move (.nil ?_)
  refine .again (RC.succ ?_)
  refine .sr ?_
  refine .lss ?_
  refine .z (.seq ?_)
  refine .condF rfl (congrArg Value.bool (by first | (simp; done) | (simp; omega) | omega)) ?_
  refine .exit (.thenExit (.thenExit (.blockExit (?_))))
  refine .next (.sr (.assign (.z ?_)))
  refine .ret (?_)
  exact .ret1 (h1 := .tmp (t := 4) rfl) ⟨_, ⟨J, rfl, hJ, rfl⟩, Am.auto⟩
theorem fsMount {d : Nat} {p : Pl} {J : JS} {V : Nat → Bytes} {T : FT} (h : PlIs p) (hJ : DevOk p.n V J) (hsup : V 245 = supB p) (hr : Rep p (cm0 V) (fmT T)) : Spec Tryz.prog 64 #[.pointer (some ⟨d, 0, none⟩)] [DevR d p.n J.cur 0] fun F v M => ∃ f, v = .tuple #[.pointer (some ⟨f, 0, none⟩), .int .i64 0] ∧ M = FSR f p T :: F := by
  refine Spec.intro Tryz.func64 rfl rfl fun B F => ?_
  simp only [Tryz.ntmps64, List.cons_append, List.nil_append, env0, Nat.reduceAdd]
  have hS := hJ.settled
  have hn1 := hJ.n1
  have hn2 := hJ.n2
  have hv := (hS.home 245 (by decide) (by omega)).trans hsup
  refine .sr (.assign (.assign (.x (.move ?_))))
  refine .call (hc := Tryz.call140) (sp := jOpenG (n := p.n) (J := J) hn1 hn2 hJ.ok hJ.last) (h := ?_)
  rintro _ _ ⟨j, rfl, rfl⟩
  refine .move ?_
  refine .extract ?_
  refine .extract ?_
  refine .assign (.assign (.z (.seq (.sr (.move ?_)))))
  refine .nei ?_
  refine .z ?_
  refine .condF rfl (congrArg Value.bool (by first | (simp; done) | (simp; omega) | omega)) ?_
  refine .skip (.next (.sr (.move ?_)))
  refine .call (hc := Tryz.call141) (sp := jRead (d := d) (n := p.n) (J := J.settled) (k := 245) (by decide) (by omega)) (h := ?_)
  rintro _ _ ⟨gb, q, rfl, ⟨hq1, hq2, hq3⟩, rfl⟩
  rw [hv]
  refine .move ?_
  refine .extract ?_
  refine .extract ?_
  refine .assign (.assign (.z (.seq (.sr (.move ?_)))))
  refine .nei ?_
  refine .z ?_
  refine .condF rfl (congrArg Value.bool (by first | (simp; done) | (simp; omega) | omega)) ?_
  refine .skip (.next (.sr (.move ?_)))
  refine .call (hc := Tryz.call142) (sp := layDec (R := buf gb 5 q (bvs (supB p))) h Reads.buf) (h := ?_)
  rintro _ _ ⟨rfl, rfl⟩
  refine .move ?_
  refine .extract ?_
  refine .extract ?_
  refine .alloc z199 fun b7 => ?_
  refine .stV ?_ agg199
  refine .to (A := pt b7 (.cells p.cells 199 (0, 0))) (A' := pt b7 (.cells p.cells 199 (0, 0))) (fun h hh => hh) ?_
  refine .assign (.z (.seq (.seq ?_)))
  refine .openR (JR.opens j d p.n J.settled) fun x hx => ?_
  simp only [jL, List.cons_append, List.nil_append]
  refine .dr ([pt b7 (.cells p.cells 199 (0, 0))]) [] 9 mixed .autoJ ?_
  refine .tk 0 rfl .move ?_
  refine .tk 1 rfl .nei ?_
  refine .tk 2 rfl .move ?_
  refine .tn 3 rfl (.fa fo199_0) ?_
  refine .tn 4 rfl (.ld sc3) ?_
  refine .tn 5 rfl .move ?_
  refine .on 6 rfl fun hnp => ?_
  refine .gT ?_
  refine .call (hc := Tryz.call130) (sp := devBlocksR (n := p.n) (t := 0) (cur := J.settled.cur)) (h := ?_)
  rintro _ _ ⟨rfl, rfl⟩
  refine .nil (.wa hnp ?_)
  refine .tn 7 rfl .nei ?_
  refine .tk 8 rfl .pickF ?_
  refine .fin ?_
  refine .next ?_
  refine .condF rfl (congrArg Value.bool (by first | (simp; done) | (simp; omega) | omega)) ?_
  refine .skip (.next (.sr ?_))
  refine .shutR (JR.opens j d p.n J.settled) x hx ?_
  refine .move ?_
  refine .ldA ?_ agg199
  refine .call (hc := Tryz.call132) (sp := fsStand (p := p) (T := T) hn1 hn2) (h := ?_)
  rintro _ _ ⟨f, c, a, s, mp, rfl, rfl⟩
  simp only [List.cons_append, List.nil_append]
  refine .shutR (TR.opens c p.n (cm0 V) (cm0 V) [] false) (j, d, ⟨J.settled, [], false, false⟩) ⟨rfl, (fun k h1 h2 => (hS.home k h1 h2).trans (cm0_home V (by omega)).symm), (fun k h1 h2 => (hS.home k h1 h2).trans (cm0_home V (by omega)).symm), rfl, fun r hr => by rw [cm0_tag] at hr; cases hr⟩ ?_
  refine .shutR (IN.opens s a c p (fmT T) (fmT T) 0 false) (cm0 V, cm0 V, []) ⟨hr, hr, Dk.nil p, Nat.zero_le _⟩ ?_
  refine .shutR (FSR.opens f p T) (c, a, s, mp) trivial ?_
  refine .assign (.assign (.z ?_))
  refine .ret (?_)
  exact .ret2 (h1 := .tmp (t := 2) rfl) (h2 := .tmp (t := 3) rfl) ⟨_, ⟨f, rfl, rfl⟩, Am.auto⟩
def rootT : FT := fun i => if i = 0 then some (.dir []) else none
theorem fmT_root : fmT rootT = rootM := by
  funext i
  unfold fmT rootT rootM
  by_cases h : i = 0
  · rw [if_pos h, if_pos h]; rfl
  · rw [if_neg h, if_neg h]; rfl
theorem fsMountNew {d : Nat} {p : Pl} {J : JS} (h : PlIs p) (hJ : DevOk p.n (mkW p) J) : Spec Tryz.prog 64 #[.pointer (some ⟨d, 0, none⟩)] [DevR d p.n J.cur 0] fun F v M => ∃ f, v = .tuple #[.pointer (some ⟨f, 0, none⟩), .int .i64 0] ∧ M = FSR f p rootT :: F :=
  fsMount h hJ (mkW_sup h) (by rw [fmT_root]; exact mkW_rep h)
end Go.Proofs.YtdmjkjeoamiedaaGreatDoor
end
section
namespace Go.Proofs.YtdmjkjeoamiedaaGreatDoor
open Go
section
variable {P : Program} {B : Base} {n : Fr} {Q Q' : Exit → Act → World → Prop} {e : Env} {L : List HP} {ops : Array Oper} {l : List Oper}
variable {d : Nat} {ty : TypeId} {pos : String} {af : Array Edge} {x y z : Operand} {gd : Option (Nat × Bool)}
theorem made_flat (zs : List Value) (hz : 0 < zs.length) (k : Nat) : (madeCells zs.toArray (k * zs.length)).toList = (List.replicate k zs).flatten := by
  apply List.ext_getElem?
  intro i
  have hl : ∀ k, ((List.replicate k zs).flatten).length = k * zs.length := fun k => by
    induction k with
    | zero => simp
    | succ k ih => rw [List.replicate_succ, List.flatten_cons, List.length_append, ih, Nat.succ_mul]; omega
  have key : ∀ k i, i < k * zs.length → ((List.replicate k zs).flatten)[i]? = zs[i % zs.length]? := by
    intro k
    induction k with
    | zero => intro i h; omega
    | succ k ih =>
      intro i h
      rw [List.replicate_succ, List.flatten_cons]
      by_cases hi : i < zs.length
      · rw [List.getElem?_append_left hi, Nat.mod_eq_of_lt hi]
      · rw [List.getElem?_append_right (by omega), ih (i - zs.length) (by rw [Nat.succ_mul] at h; omega)]
        rw [← Nat.mod_eq_sub_mod (by omega)]
  by_cases h : i < k * zs.length
  · rw [key k i h]
    have hm : i % zs.length < zs.length := Nat.mod_lt _ hz
    simp [madeCells, h, hm]
  · rw [List.getElem?_eq_none (l := (List.replicate k zs).flatten) (by rw [hl]; omega), List.getElem?_eq_none (by simp [madeCells]; omega)]
theorem WL.mkSt {t el bytes size : Nat} {k : Nat} {zs : List Value} (hz : zeroOf P el = some zs.toArray) (hzl : zs.length = size) (hs0 : 0 < size) (h : ∀ b, WL P B n ops l Q ((d, .slice (some ⟨b, 0, none⟩) k k) :: e) (row b el (List.replicate k zs).flatten :: L))
    (ht : sliceOk P t el size bytes = true) (hb : bytes * k ≤ 281474976710656) (hm : k ≤ 9223372036854775807) (hx : evo e x = some (.int .i64 (k : Int)) := by rfl) (hy : evo e y = some (.int .i64 (k : Int)) := by rfl) (hd : Nat.ble (d + 1) n.k = true := by rfl) :
    WL P B n ops (⟨some d, .makeSlice t x y, ty, pos, af, none⟩ :: l) Q e L :=
  WL.step rfl fun a w ha hs => by
    obtain ⟨hu, i, z, hi, hsz, hby, hzz⟩ := slice_of ht
    have hzc : z.cells = zs.toArray := by
      unfold zeroOf at hz
      simpa [hi, hzz] using hz
    have hb2 : (bytes : Int) * (k : Int) ≤ 281474976710656 := by
      have h1 : ((bytes * k : Nat) : Int) ≤ 281474976710656 := by omega
      rwa [Int.natCast_mul] at h1
    have hr := run_make (P := P) w t el i z hu hi hzz .i64 .i64 k k (by omega) (Int.le_refl _) (by rw [hby]; exact hb2) (by omega)
    rw [hsz, hzc, Int.toNat_natCast] at hr
    have hcells := made_flat zs (by omega) k
    rw [hzl] at hcells
    have hrow : ∀ b h, pt b (.cells (madeCells zs.toArray (k * size)) el (0, 0)) h → row b el (List.replicate k zs).flatten h := fun b h hh => by
      unfold row
      rw [← hcells, Array.toArray_toList]
      exact hh
    refine ⟨_, _, _, _, ?_, ha.put hd _, (hs.new _).imp (L := []) (hrow _), h w.heap.size⟩
    simp only [execOp, ha.eval hx, ha.eval hy]
    rw [Sem.run_bind, hr]
    rfl
end
end Go.Proofs.YtdmjkjeoamiedaaGreatDoor
end
section
namespace Go.Proofs.YtdmjkjeoamiedaaGreatDoor
open Go
abbrev TL := List (Nat × NodeT)
def trL (l : TL) : FT := fun i => kget l i
theorem trL_put (l : TL) (i : Nat) (x : NodeT) : updT (trL l) i (some x) = trL (kput l i x) := by
  funext j
  unfold updT trL
  rw [kget_put]
theorem trL_mk (l : TL) (d : Nat) (sl : List Slot) (nm : Bytes) (i : Nat) (x : NodeT) : mkT (trL l) d sl nm i x = trL (kput (kput l i x) d (.dir (setS sl (freeS sl) (some (nm, i))))) := by
  unfold mkT
  rw [trL_put, trL_put]
theorem kget_of_mem {κ α : Type} [DecidableEq κ] {l : List (κ × α)} {k : κ} {v : α} (h : kget l k = some v) : (k, v) ∈ l := by
  induction l with
  | nil => cases h
  | cons p r ih =>
    obtain ⟨k', v'⟩ := p
    unfold kget at h
    split at h
    · rename_i hk
      injection h with h
      subst hk; subst h
      exact List.mem_cons_self ..
    · exact List.mem_cons_of_mem _ (ih h)
def NodeT.ok : NodeT → Prop
  | .file _ => True
  | .dir sl => DirOk sl ∧ sl.length ≤ 1000
theorem trL_ok {l : TL} (h : ∀ e ∈ l, e.2.ok) : TOk (trL l) := fun d sl hd => h _ (kget_of_mem hd)
theorem DirOk.consS {r : List Slot} (h : DirOk r) {nm : Bytes} {k : Nat} (hn : 1 ≤ nm.length ∧ nm.length ≤ 50) (hk : k < 4294967296) (hl : lookS nm r = none) : DirOk (some (nm, k) :: r) := by
  have hno := lookS_none hl
  refine ⟨fun q n i hq => ?_, fun p q n i j hp hq => ?_⟩
  · cases q with
    | zero => injection hq with hq; injection hq with hq; injection hq with h1 h2; subst h1; subst h2; exact ⟨hn, hk⟩
    | succ q => exact h.nm q n i hq
  · cases p with
    | zero =>
      injection hp with hp; injection hp with hp; injection hp with h1 h2
      subst h1
      cases q with
      | zero => rfl
      | succ q => exact absurd hq (hno q j)
    | succ p =>
      cases q with
      | zero =>
        injection hq with hq; injection hq with hq; injection hq with h1 h2
        subst h1
        exact absurd hp (hno p i)
      | succ q => rw [h.one p q n i j hp hq]
theorem DirOk.one1 {nm : Bytes} {k : Nat} (hn : 1 ≤ nm.length ∧ nm.length ≤ 50) (hk : k < 4294967296) : DirOk [some (nm, k)] := DirOk.nil.consS hn hk rfl
def totL : TL → Nat
  | [] => 0
  | e :: l => has e.2.size + totL l
theorem tot_no {F : FM} (h : ∀ i, F i = none) : ∀ n, tot F n = 0
  | 0 => rfl
  | n + 1 => by rw [tot, tot_no h n, h]; rfl
theorem trL_cons (k : Nat) (x : NodeT) (l : TL) : trL ((k, x) :: l) = updT (trL l) k (some x) := by
  funext j
  unfold updT trL
  rfl
theorem tot_trL {n : Nat} : ∀ {l : TL}, (l.map (·.1)).Nodup → (∀ e ∈ l, e.1 < n) → tot (fmT (trL l)) n = totL l
  | [], _, _ => tot_no (fun i => rfl) n
  | (k, x) :: l, hn, hb => by
    rw [List.map_cons, List.nodup_cons] at hn
    have ih := tot_trL hn.2 (fun e he => hb e (List.mem_cons_of_mem _ he))
    have h := tot_upd' (fmT (trL l)) (hb (k, x) (List.mem_cons_self ..)) (some x.f)
    rw [fmT_updS, ← trL_cons, fmT_none (show trL l k = none from kget_none.2 hn.1), ih] at h
    have h2 : hasO (some x.f) = has x.size := by show has x.f.2.length = _; rw [x.f_size]
    rw [h2] at h
    have h3 : hasO none = 0 := rfl
    show tot (fmT (trL ((k, x) :: l))) n = has x.size + totL l
    have h4 : tot (fmT (trL ((k, x) :: l))) n + hasO none = totL l + has x.size := h
    omega
theorem cntB_succ (f : Nat → Bool) (n : Nat) : cntB f (n + 1) = cntB f n + (if f n then 1 else 0) := by
  unfold cntB
  rw [List.range_succ, List.filter_append, List.length_append]
  cases h : f n <;> simp [h]
theorem rootT_trL : rootT = trL [(0, .dir [])] := by
  funext i
  unfold rootT trL
  by_cases h : i = 0
  · subst h; rfl
  · rw [if_neg h]
    unfold kget
    rw [if_neg h]; rfl
end Go.Proofs.YtdmjkjeoamiedaaGreatDoor
end
section
namespace Go.Proofs.YtdmjkjeoamiedaaGreatDoor
open Go
theorem fsCreateL {f : Nat} {p : Pl} {l l' : TL} {path : Bytes} {d i : Nat} {nm : Bytes} {sl : List Slot} (ho : PlOk p) (hok : ∀ e ∈ l, e.2.ok) (hn : (l.map (·.1)).Nodup) (hb : ∀ e ∈ l, e.1 < p.ino) (hpl : path.length ≤ 1000000) (hp : path ≠ [47]) (hpar : parentT (trL l) path = (d, nm, 0)) (hfi : findT (trL l) d nm = (0, 4)) (hd : kget l d = some (.dir sl)) (hi : i < p.ino) (hTi : kget l i = none) (hlo : ∀ j < i, kget l j ≠ none)
    (hw : Rw p 0 14) (hfit : totL l + has (max (64 * sl.length) (64 * freeS sl + 64)) ≤ p.dc + has (64 * sl.length)) (hl' : kput (kput l i (.file [])) d (.dir (setS sl (freeS sl) (some (nm, i)))) = l') :
    Spec Tryz.prog 17 #[.pointer (some ⟨f, 0, none⟩), sv path] [FSR f p (trL l)] fun F v M => v = okV ∧ M = FSR f p (trL l') :: F := by
  have := fsCreate (f := f) (p := p) (T := trL l) (path := path) (d := d) (i := i) (nm := nm) (sl := sl) (x := .file []) ho (trL_ok hok) hpl hp hpar hfi hd hi hTi hlo rfl rfl hw (by rw [tot_trL hn hb]; exact hfit)
  rwa [trL_mk, hl'] at this
theorem fsMkdirL {f : Nat} {p : Pl} {l l' : TL} {path : Bytes} {d i : Nat} {nm : Bytes} {sl : List Slot} (ho : PlOk p) (hok : ∀ e ∈ l, e.2.ok) (hn : (l.map (·.1)).Nodup) (hb : ∀ e ∈ l, e.1 < p.ino) (hpl : path.length ≤ 1000000) (hp : path ≠ [47]) (hpar : parentT (trL l) path = (d, nm, 0)) (hfi : findT (trL l) d nm = (0, 4)) (hd : kget l d = some (.dir sl)) (hi : i < p.ino) (hTi : kget l i = none) (hlo : ∀ j < i, kget l j ≠ none)
    (hw : Rw p 0 14) (hfit : totL l + has (max (64 * sl.length) (64 * freeS sl + 64)) ≤ p.dc + has (64 * sl.length)) (hl' : kput (kput l i (.dir [])) d (.dir (setS sl (freeS sl) (some (nm, i)))) = l') :
    Spec Tryz.prog 28 #[.pointer (some ⟨f, 0, none⟩), sv path] [FSR f p (trL l)] fun F v M => v = okV ∧ M = FSR f p (trL l') :: F := by
  have := fsMkdir (f := f) (p := p) (T := trL l) (path := path) (d := d) (i := i) (nm := nm) (sl := sl) (x := .dir []) ho (trL_ok hok) hpl hp hpar hfi hd hi hTi hlo rfl rfl hw (by rw [tot_trL hn hb]; exact hfit)
  rwa [trL_mk, hl'] at this
theorem fsAppendL {f : Nat} {p : Pl} {l l' : TL} {path : Bytes} {i m cc : Nat} {fb bs : Bytes} {R : HP} {A : Option Addr} (ho : PlOk p) (hok : ∀ e ∈ l, e.2.ok) (hn : (l.map (·.1)).Nodup) (hb : ∀ e ∈ l, e.1 < p.ino) (hpl : path.length ≤ 1000000) (hft : fileT (trL l) path = (i, 1, fb.length, 0)) (hTi : kget l i = some (.file fb)) (hR : bs = [] ∨ Reads R A (bvs bs)) (hm : bs.length = m) (hcc : m ≤ cc) (hcb : cc ≤ maxLen)
    (hw : Rw p 0 (has (fb.length + m) - has fb.length + (m + 511) / 512 + 10)) (hbg : fb.length + m ≤ 70656) (hfit : totL l + has (fb.length + m) ≤ p.dc + has fb.length) (hl' : kput l i (.file (wrB fb fb.length bs)) = l') :
    Spec Tryz.prog 18 #[.pointer (some ⟨f, 0, none⟩), sv path, .slice A m cc] [FSR f p (trL l), R] fun F v M => v = okV ∧ M = FSR f p (trL l') :: R :: F := by
  have hmx : max fb.length (fb.length + m) = fb.length + m := Nat.max_eq_right (Nat.le_add_right _ _)
  have := fsAppend (f := f) (p := p) (T := trL l) (path := path) (i := i) (fb := fb) (bs := bs) (R := R) (A := A) (m := m) (cc := cc) ho (trL_ok hok) hpl hft hTi hR hm hcc hcb (by rw [hmx]; exact hw) (Nat.le_refl _) hbg (by rw [hmx, tot_trL hn hb]; exact hfit)
  rwa [trL_put, hl'] at this
theorem okNil : NodeT.ok (.dir []) := ⟨DirOk.nil, by decide⟩
theorem ok1 {nm : Bytes} {k : Nat} (hn : 1 ≤ nm.length ∧ nm.length ≤ 50) (hk : k < 4294967296) : NodeT.ok (.dir [some (nm, k)]) := ⟨DirOk.one1 hn hk, by show 1 ≤ 1000; decide⟩
theorem lt_of_all {l : TL} {n : Nat} (h : (l.all fun e => decide (e.1 < n)) = true) : ∀ e ∈ l, e.1 < n := fun e he => by simpa using List.all_eq_true.1 h e he
end Go.Proofs.YtdmjkjeoamiedaaGreatDoor
end
section
namespace Go.Proofs.YtdmjkjeoamiedaaGreatDoor
open Go
def pD (n ino : Nat) : Pl := ⟨n, ino, 246, 247, 248, 248 + (ino + 7) / 8, n - (248 + (ino + 7) / 8)⟩
theorem pD_is {n ino : Nat} (h1 : 1 ≤ ino) (h2 : ino ≤ 4096) (hn : 249 + (ino + 7) / 8 ≤ n) (hn2 : n ≤ 4000) : PlIs (pD n ino) := by
  refine ⟨?_, ?_, ?_, ?_, ?_, ?_, ?_, ?_, ?_, ?_, ?_⟩
  all_goals (simp only [pD]; try first | omega | (left; omega))
end Go.Proofs.YtdmjkjeoamiedaaGreatDoor
end
section
namespace Go.Proofs.YtdmjkjeoamiedaaGreatDoor
open Go
theorem z244 : zeroOf Tryz.prog 244 = some (#[.int .i64 0, .slice none 0 0]) := by kernel_rfl
theorem fo247_1 : fieldOk Tryz.prog 247 1 7 = true := by kernel_rfl
theorem sc245 : scalarOk Tryz.prog 245 = true := by kernel_rfl
theorem so245 : sliceOk Tryz.prog 245 244 2 32 = true := by kernel_rfl
theorem fo244_0 : fieldOk Tryz.prog 244 0 0 = true := by kernel_rfl
theorem bdSto (a b c d e f h : Int) (A : Option Addr) (k cc : Nat) : BuildOk Tryz.prog 247 [(0, .agg #[.int .i64 a, .int .i64 b, .int .i64 c, .int .i64 d, .int .i64 e, .int .i64 f, .int .i64 h]), (1, .slice A k cc)] #[.int .i64 a, .int .i64 b, .int .i64 c, .int .i64 d, .int .i64 e, .int .i64 f, .int .i64 h, .slice A k cc, .int .i64 0, .slice none 0 0] := fun w => by kernel_rfl
theorem bdRF (s : Nat) : BuildOk Tryz.prog 159 [(0, .pointer (some ⟨s, 0, none⟩))] #[.pointer (some ⟨s, 0, none⟩), .pointer none, .bool false] := fun w => by kernel_rfl
theorem flat_pos {k : Nat} (h : 1 ≤ k) : 0 < ((List.replicate k [Value.int .i64 0, .slice none 0 0]).flatten).length := by
  obtain ⟨j, rfl⟩ : ∃ j, k = j + 1 := ⟨k - 1, by omega⟩
  rw [List.replicate_succ, List.flatten_cons, List.length_append]
  exact Nat.lt_of_lt_of_le (by decide : 0 < [Value.int .i64 0, Value.slice none 0 0].length) (Nat.le_add_right _ _)
theorem refStore0 {p : Pl} (h1 : 1 ≤ p.ino) (h2 : p.ino ≤ 4096) : Spec Tryz.prog 117 #[.agg p.cells] [] fun F v M => ∃ s, v = .pointer (some ⟨s, 0, none⟩) ∧ M = F := by
  refine Spec.intro Tryz.func117 rfl rfl fun B F => ?_
  simp only [Tryz.ntmps117, List.cons_append, List.nil_append, env0, Nat.reduceAdd]
  refine .sr ?_
  refine .box fun b1 => ?_
  refine .to (A := pt b1 (.cells p.cells 199 (0, 0))) (A' := pt b1 (.cells p.cells 199 (0, 0))) (fun h hh => hh) ?_
  refine .assign (.z (.seq ?_))
  refine .dr ([pt b1 (.cells p.cells 199 (0, 0))]) [] 7 mixed .autoJ ?_
  refine .tk 0 rfl (.ldA agg199) ?_
  refine .tk 1 rfl (.fa fo199_1) ?_
  refine .tk 2 rfl (.ld sc3) ?_
  refine .on 3 rfl fun hnp => ?_
  refine .mkSt (k := p.ino) (zs := [.int .i64 0, .slice none 0 0]) z244 rfl (by decide) (fun b7 => ?_) so245 (by omega) (by omega)
  refine .nil (.wa hnp ?_)
  refine .tk 4 rfl (.build (bdSto _ _ _ _ _ _ _ _ _ _)) ?_
  refine .on 5 rfl fun hnp => ?_
  refine .box fun b9 => ?_
  refine .nil (.wa hnp ?_)
  refine .tk 6 rfl .assign ?_
  refine .fin ?_
  refine .next (.sr (.move ?_))
  refine .nilCheck ?_
  refine .fa ?_ fo247_1
  refine .ld ?_ sc245
  refine .idx ?_ so245
  refine .fa ?_ fo244_0
  refine .stL (xs := (List.replicate p.ino [Value.int .i64 0, .slice none 0 0]).flatten) (i := 0) ?_ sc3 (flat_pos h1)
  refine .x (.move (.assign (.z ?_)))
  refine .ret (?_)
  exact .ret1 (h1 := .tmp (t := 2) rfl) ⟨_, ⟨b9, rfl, rfl⟩, Am.auto⟩
theorem refMakeOk {p : Pl} (h : PlIs p) : Spec Tryz.prog 116 #[nI p.n, nI p.ino] [] fun F v M => v = .tuple #[.agg p.cells, .int .i64 0] ∧ M = F := by
  have h2 := h.bm; have h3 := h.m1; have h4 := h.da; have h5 := h.dc; have h8 := h.n2; have h9 := h.i1; have h10 := h.i2; have h11 := h.d1
  refine Spec.post (refMakeS (n := p.n) (ino := p.ino) (by omega) h8 h9 h10) ?_
  rintro F v M ⟨⟨q, hq, hn, hi, rfl⟩ | ⟨rfl, hno⟩, rfl⟩
  · rw [hq.one h hn hi]; exact ⟨_, ⟨rfl, rfl⟩, Wk.refl⟩
  · exact absurd (hno p h rfl rfl) id
theorem refFs0 {p : Pl} (h : PlIs p) : Spec Tryz.prog 57 #[nI p.n, nI p.ino] [] fun F v M => ∃ m, v = .tuple #[.pointer (some ⟨m, 0, none⟩), .int .i64 0] ∧ M = F := by
  refine Spec.intro Tryz.func57 rfl rfl fun B F => ?_
  simp only [Tryz.ntmps57, List.cons_append, List.nil_append, env0, Nat.reduceAdd]
  refine .sr (.assign (.assign (.x (.move (.move ?_)))))
  refine .call (hc := Tryz.call116) (sp := refMakeOk h) (h := ?_)
  rintro _ _ ⟨rfl, hM⟩
  obtain rfl := hM.symm
  refine .move ?_
  refine .extract ?_
  refine .extract ?_
  refine .alloc z199 fun b6 => ?_
  refine .stV ?_ agg199
  refine .to (A := pt b6 (.cells p.cells 199 (0, 0))) (A' := pt b6 (.cells p.cells 199 (0, 0))) (fun h hh => hh) ?_
  refine .assign (.z (.seq (.sr (.move ?_))))
  refine .nei ?_
  refine .z ?_
  refine .condF rfl (congrArg Value.bool (by first | (simp; done) | (simp; omega) | omega)) ?_
  refine .skip (.next (.sr ?_))
  refine .ldA ?_ agg199
  refine .call (hc := Tryz.call117) (sp := refStore0 (p := p) h.i1 h.i2) (h := ?_)
  rintro _ _ ⟨s, rfl, rfl⟩
  refine .build ?_ (bdRF _)
  refine .box fun b20 => ?_
  refine .assign (.assign (.z ?_))
  refine .ret (?_)
  exact .ret2 (h1 := .tmp (t := 4) rfl) (h2 := .tmp (t := 5) rfl) ⟨_, ⟨b20, rfl, rfl⟩, Am.auto⟩
theorem has_up (n : Nat) : has n ≤ (n + 511) / 512 + 1 := by
  unfold has dat
  split <;> omega
end Go.Proofs.YtdmjkjeoamiedaaGreatDoor
end
section
namespace Go.Proofs.YtdmjkjeoamiedaaGreatDoor
open Go
def nmM (i : Nat) : Bytes := [UInt8.ofNat (97 + i % 26), UInt8.ofNat (97 + i / 26)]
theorem nmM_ok : ∀ i, i < 42 → nameOk (nmM i) = true := by decide +kernel
theorem nmM_inj : ∀ i, i < 42 → ∀ j, j < 42 → nmM i = nmM j → i = j := by decide +kernel
theorem nmM_parts : ∀ i, i < 42 → partsT (47 :: nmM i) = some [nmM i] := by decide +kernel
def msl (g k : Nat) : List Slot := (List.range k).map fun i => if i < g then none else some (nmM i, i + 1)
def mT (g k : Nat) : FT := fun j => if j = 0 then some (.dir (msl g k)) else if g < j ∧ j ≤ k then some (.file []) else none
theorem msl_length (g k : Nat) : (msl g k).length = k := by unfold msl; rw [List.length_map, List.length_range]
theorem msl_get {g k i : Nat} (h : i < k) : (msl g k)[i]? = some (if i < g then none else some (nmM i, i + 1)) := by
  unfold msl
  rw [List.getElem?_map, List.getElem?_range h]; rfl
theorem msl_at {g k q : Nat} {x : Slot} (h : (msl g k)[q]? = some x) : q < k ∧ x = if q < g then none else some (nmM q, q + 1) := by
  have hq : q < k := by
    by_cases hq : q < k
    · exact hq
    · rw [List.getElem?_eq_none (by rw [msl_length]; omega)] at h; cases h
  rw [msl_get hq] at h
  exact ⟨hq, (Option.some.inj h).symm⟩
theorem msl_some {g k q i : Nat} {nm : Bytes} (h : (msl g k)[q]? = some (some (nm, i))) : q < k ∧ g ≤ q ∧ nm = nmM q ∧ i = q + 1 := by
  obtain ⟨h1, h2⟩ := msl_at h
  split at h2
  · cases h2
  · injection h2 with h2
    injection h2 with h2 h3
    exact ⟨h1, by omega, h2, h3⟩
theorem msl_ok {g k : Nat} (h : k ≤ 42) : DirOk (msl g k) := by
  refine ⟨fun q nm i hq => ?_, fun q r nm i j hq hr => ?_⟩
  · obtain ⟨h1, _, h2, h3⟩ := msl_some hq
    subst h2; subst h3
    exact ⟨nameOk_len (nmM_ok q (by omega)), by omega⟩
  · obtain ⟨h1, _, h2, _⟩ := msl_some hq
    obtain ⟨h3, _, h4, _⟩ := msl_some hr
    exact nmM_inj q (by omega) r (by omega) (by rw [← h2, ← h4])
theorem full_free' {sl : List Slot} (h : ∀ q : Nat, sl[q]? ≠ some none) : freeS sl = sl.length := by
  unfold freeS
  cases hf : freeF sl sl.length with
  | none => rfl
  | some r => exact absurd (freeF_some hf).2.1 (h r)
theorem msl_free (k : Nat) : freeS (msl 0 k) = k := by
  rw [full_free' (fun q h => by have := (msl_at h).2; rw [if_neg (Nat.not_lt_zero _)] at this; cases this), msl_length]
theorem msl_succ (k : Nat) : setS (msl 0 k) k (some (nmM k, k + 1)) = msl 0 (k + 1) := by
  have e1 : (msl 0 k).take k = msl 0 k := List.take_of_length_le (by rw [msl_length]; exact Nat.le_refl _)
  have e2 : (msl 0 k).drop (k + 1) = [] := List.drop_eq_nil_of_le (by rw [msl_length]; omega)
  unfold setS
  rw [e1, e2]
  unfold msl
  rw [List.range_succ, List.map_append]; rfl
theorem msl_gone {g k : Nat} (h : g < k) : setS (msl g k) g none = msl (g + 1) k := by
  have hl := msl_length g k
  refine List.ext_getElem? fun j => ?_
  by_cases hjg : j = g
  · subst hjg
    rw [setS_same (by omega), msl_get h, if_pos (by omega)]
  · rw [setS_other (by omega) hjg]
    by_cases hjk : j < k
    · rw [msl_get hjk, msl_get hjk]
      by_cases hlt : j < g
      · rw [if_pos hlt, if_pos (by omega)]
      · rw [if_neg hlt, if_neg (by omega)]
    · rw [List.getElem?_eq_none (by rw [msl_length]; omega), List.getElem?_eq_none (by rw [msl_length]; omega)]
theorem mT_root : mT 0 0 = rootT := by
  funext j
  unfold mT rootT
  by_cases h : j = 0
  · rw [if_pos h, if_pos h]; rfl
  · rw [if_neg h, if_neg h, if_neg (by omega)]
theorem mT_0 (g k : Nat) : mT g k 0 = some (.dir (msl g k)) := if_pos rfl
theorem mT_in {g k j : Nat} (h : g < j) (h2 : j ≤ k) : mT g k j = some (.file []) := by unfold mT; rw [if_neg (by omega), if_pos ⟨h, h2⟩]
theorem mT_out {g k j : Nat} (h : j ≠ 0) (h2 : j ≤ g ∨ k < j) : mT g k j = none := by unfold mT; rw [if_neg h, if_neg (by omega)]
theorem mT_ok {g k : Nat} (h : k ≤ 42) : TOk (mT g k) := by
  intro d sl hd
  by_cases hd0 : d = 0
  · subst hd0
    rw [mT_0] at hd
    injection hd with hd; injection hd with hd; subst hd
    exact ⟨msl_ok h, by rw [msl_length]; omega⟩
  · unfold mT at hd
    rw [if_neg hd0] at hd
    split at hd
    · injection hd with hd; cases hd
    · cases hd
theorem mT_mk (k : Nat) : mkT (mT 0 k) 0 (msl 0 k) (nmM k) (k + 1) (.file []) = mT 0 (k + 1) := by
  funext j
  unfold mkT
  rw [msl_free, msl_succ]
  by_cases h0 : j = 0
  · subst h0; rw [updT_same, mT_0]
  · rw [updT_other _ _ h0]
    by_cases hj : j = k + 1
    · subst hj; rw [updT_same, mT_in (by omega) (Nat.le_refl _)]
    · rw [updT_other _ _ hj]
      by_cases hjk : j ≤ k
      · rw [mT_in (by omega) hjk, mT_in (by omega) (by omega)]
      · rw [mT_out h0 (by omega), mT_out h0 (by omega)]
theorem mT_rm {g k : Nat} (h : g < k) : rmT (mT g k) 0 (msl g k) g (g + 1) = mT (g + 1) k := by
  funext j
  unfold rmT
  rw [msl_gone h]
  by_cases hj : j = g + 1
  · subst hj; rw [updT_same, mT_out (by omega) (by omega)]
  · rw [updT_other _ _ hj]
    by_cases h0 : j = 0
    · subst h0; rw [updT_same, mT_0]
    · rw [updT_other _ _ h0]
      by_cases hb : g + 1 < j ∧ j ≤ k
      · rw [mT_in (by omega) hb.2, mT_in hb.1 hb.2]
      · rw [mT_out h0 (by omega), mT_out h0 (by omega)]
theorem mT_par {g k i : Nat} (h : i < 42) : parentT (mT g k) (47 :: nmM i) = (0, nmM i, 0) := by
  unfold parentT
  rw [nmM_parts i h]
  simp only
  rw [if_neg (by exact nofun)]
  rfl
theorem mT_find {g k : Nat} (h : k < 42) : findT (mT g k) 0 (nmM k) = (0, 4) := by
  have hl : lookS (nmM k) (msl g k) = none := by
    cases hc : lookS (nmM k) (msl g k) with
    | none => rfl
    | some x =>
      obtain ⟨q, i⟩ := x
      obtain ⟨h1, _, h2, _⟩ := msl_some (lookS_some hc)
      have := nmM_inj k h q (by omega) h2
      omega
  unfold findT
  rw [if_pos (nmM_ok k h), mT_0]
  simp only [hl]
theorem msl_look {g k i : Nat} (h : k ≤ 42) (hg : g ≤ i) (hi : i < k) : lookS (nmM i) (msl g k) = some (i, i + 1) :=
  lookS_of (msl_ok h) (by rw [msl_get hi, if_neg (by omega)])
theorem mT_tot (g k : Nat) : ∀ n, 1 ≤ n → tot (fmT (mT g k)) n = has (64 * k)
  | 1, _ => by
    show 0 + hasO (fmT (mT g k) 0) = _
    rw [fmT_some (mT_0 g k)]
    show 0 + has (dirB (msl g k)).length = _
    rw [dirB_length, msl_length, Nat.zero_add]
  | n + 2, _ => by
    rw [tot, mT_tot g k (n + 1) (by omega)]
    have : hasO (fmT (mT g k) (n + 1)) = 0 := by
      by_cases hb : g < n + 1 ∧ n + 1 ≤ k
      · rw [fmT_some (mT_in hb.1 hb.2)]; show has 0 = 0; rfl
      · rw [fmT_none (mT_out (by omega) (by omega))]; show 0 = 0; rfl
    rw [this]; rfl
theorem mT_cnt {g k : Nat} (hg : g ≤ k) : ∀ n, k < n → cntF (fmT (mT g k)) n = 1 + (k - g) := by
  have key : ∀ n, cntB (fun i => ((fmT (mT g k)) i).isSome) (n + 1) = 1 + (min n k - min n g) := by
    intro n
    induction n with
    | zero =>
      rw [cntB_succ, if_pos (by rw [fmT_some (mT_0 g k)]; rfl)]
      rfl
    | succ n ih =>
      rw [cntB_succ, ih]
      by_cases hb : g < n + 1 ∧ n + 1 ≤ k
      · rw [if_pos (by rw [fmT_some (mT_in hb.1 hb.2)]; rfl)]; omega
      · rw [if_neg (by rw [fmT_none (mT_out (by omega) (by omega))]; exact nofun)]; omega
  intro n hn
  obtain ⟨m, rfl⟩ : ∃ m, n = m + 1 := ⟨n - 1, by omega⟩
  show cntB _ (m + 1) = _
  rw [key]; omega
theorem many_is {n : Nat} (h1 : 1 ≤ n) (h2 : n ≤ 40) : PlIs (pD 500 n) := pD_is h1 (by omega) (by omega) (by omega)
theorem has_small {n : Nat} (h : n ≤ 42) : has (64 * n) ≤ 7 := by
  have := has_up (64 * n); omega
section
variable {f n k g : Nat}
theorem mCr (h1 : k + 1 < n) (h2 : n ≤ 40) : Spec Tryz.prog 17 #[.pointer (some ⟨f, 0, none⟩), sv (47 :: nmM k)] [FSR f (pD 500 n) (mT 0 k)] fun F v M => v = okV ∧ M = FSR f (pD 500 n) (mT 0 (k + 1)) :: F := by
  have h3 := has_small (n := k) (by omega)
  have h4 := has_small (n := k + 1) (by omega)
  have hd : (pD 500 n).dc = 500 - (248 + (n + 7) / 8) := rfl
  have := fsCreate (f := f) (p := pD 500 n) (T := mT 0 k) (path := 47 :: nmM k) (d := 0) (i := k + 1) (nm := nmM k) (sl := msl 0 k) (x := .file []) (many_is (by omega) h2).ok (mT_ok (by omega)) (by show 3 ≤ 1000000; decide) (fun hh => by have := congrArg List.length hh; cases this) (mT_par (by omega)) (mT_find (by omega)) (mT_0 0 k) (by show k + 1 < n; exact h1) (mT_out (by omega) (by omega)) (fun j hj => by
    by_cases h0 : j = 0
    · subst h0; rw [mT_0]; exact nofun
    · rw [mT_in (by omega) (by omega)]; exact nofun) rfl rfl (.inr (by show 248 - 245 + 0 + 14 ≤ 60; decide)) (by
    rw [mT_tot 0 k _ (by show 1 ≤ n; omega), msl_free, msl_length, Nat.max_eq_right (by omega), hd]
    rw [show 64 * k + 64 = 64 * (k + 1) from by omega]
    omega)
  rwa [mT_mk] at this
theorem mCrFull (h1 : n ≤ k + 1) (h0 : k + 1 ≤ n) (h2 : n ≤ 40) {i : Nat} (hi : i < 42) (hki : k ≤ i) : Spec Tryz.prog 17 #[.pointer (some ⟨f, 0, none⟩), sv (47 :: nmM i)] [FSR f (pD 500 n) (mT 0 k)] fun F v M => v = nI 3 ∧ M = FSR f (pD 500 n) (mT 0 k) :: F := by
  have hl : lookS (nmM i) (msl 0 k) = none := by
    cases hc : lookS (nmM i) (msl 0 k) with
    | none => rfl
    | some x =>
      obtain ⟨q, j⟩ := x
      obtain ⟨h1, _, h2, _⟩ := msl_some (lookS_some hc)
      have := nmM_inj i hi q (by omega) h2
      omega
  have hfi : findT (mT 0 k) 0 (nmM i) = (0, 4) := by
    unfold findT
    rw [if_pos (nmM_ok i hi), mT_0]
    simp only [hl]
  exact fsCreateFull (f := f) (p := pD 500 n) (T := mT 0 k) (path := 47 :: nmM i) (d := 0) (nm := nmM i) (sl := msl 0 k) (many_is (by omega) h2).ok (mT_ok (by omega)) (by show 3 ≤ 1000000; decide) (fun hh => by have := congrArg List.length hh; cases this) (mT_par hi) hfi (mT_0 0 k) (fun j hj => by
    have hj : j < n := hj
    by_cases h0 : j = 0
    · subst h0; rw [mT_0]; exact nofun
    · rw [mT_in (by omega) (by omega)]; exact nofun) (.inr (by show 248 - 245 + 0 + 14 ≤ 60; decide))
theorem mRm (h1 : g < k) (hkn : k < n) (h2 : n ≤ 40) : Spec Tryz.prog 50 #[.pointer (some ⟨f, 0, none⟩), sv (47 :: nmM g)] [FSR f (pD 500 n) (mT g k)] fun F v M => v = okV ∧ M = FSR f (pD 500 n) (mT (g + 1) k) :: F := by
  have h3 := has_small (n := k) (by omega)
  have hd : (pD 500 n).dc = 500 - (248 + (n + 7) / 8) := rfl
  have := fsRemove (f := f) (p := pD 500 n) (T := mT g k) (path := 47 :: nmM g) (d := 0) (i := g + 1) (q := g) (nm := nmM g) (sl := msl g k) (x := .file []) (many_is (by omega) h2).ok (mT_ok (by omega)) (by show 3 ≤ 1000000; decide) (mT_par (by omega)) (mT_0 g k) (nmM_ok g (by omega)) (msl_look (by omega) (Nat.le_refl _) h1) (mT_in (by omega) (by omega)) trivial (by omega) (by omega) (.inr (by show 248 - 245 + 0 + 13 ≤ 60; decide)) (by
    rw [mT_tot g k _ (by show 1 ≤ n; omega), hd]
    omega)
  rwa [mT_rm h1] at this
end
end Go.Proofs.YtdmjkjeoamiedaaGreatDoor
end
section
namespace Go.Proofs.YtdmjkjeoamiedaaGreatDoor
open Go
section
variable {P : Program} {B : Base} {n : Fr} {Q Q' : Exit → Act → World → Prop} {e : Env} {L : List HP} {ops : Array Oper} {l : List Oper}
variable {d : Nat} {ty : TypeId} {pos : String} {af : Array Edge} {x y z : Operand} {gd : Option (Nat × Bool)}
theorem bstr_append (xs ys : Bytes) : bstr xs ++ bstr ys = bstr (xs ++ ys) := by
  apply ByteArray.ext
  simp [bstr]
theorem Qt.catS {t u : TypeId} (xs ys : Bytes) (hl : xs.length + ys.length ≤ 9223372036854775807) (hx : evo e x = some (sv xs) := by rfl) (hy : evo e y = some (sv ys) := by rfl) :
    Qt P B n e L ⟨some d, .binOp .add t x y u, ty, pos, af, gd⟩ (sv (xs ++ ys)) :=
  Qt.strs (xs := bstr xs) (ys := bstr ys) (fun w => by
    rw [binOp_string_add, run_string_add_sum w _ _ (by rw [bstr_size, bstr_size]; exact hl), bstr_append]; rfl) hx hy
theorem WL.catS {t u : TypeId} (xs ys : Bytes) (h : WL P B n ops l Q ((d, sv (xs ++ ys)) :: e) L) (hl : xs.length + ys.length ≤ 9223372036854775807) (hx : evo e x = some (sv xs) := by rfl) (hy : evo e y = some (sv ys) := by rfl) (hd : Nat.ble (d + 1) n.k = true := by rfl) :
    WL P B n ops (⟨some d, .binOp .add t x y u, ty, pos, af, none⟩ :: l) Q e L := WL.pure h hd (Qt.catS xs ys hl hx hy)
end
end Go.Proofs.YtdmjkjeoamiedaaGreatDoor
end
section
namespace Go.Proofs.YtdmjkjeoamiedaaGreatDoor
open Go
def mayT (from_ to : Bytes) : Bool := match partsT from_, partsT to with
  | some a, some b => decide (0 < a.length) && decide (0 < b.length) && !decide (to.take (from_ ++ [47]).length = from_ ++ [47])
  | _, _ => false
theorem hasPreS {xs ps : Bytes} : Spec Tryz.prog 175 #[sv xs, sv ps] [] fun F v M => v = .bool (decide (xs.take ps.length = ps)) ∧ M = F := by
  refine Spec.intro Tryz.func175 rfl rfl fun B F => ?_
  simp only [Tryz.ntmps175, List.cons_append, List.nil_append, env0, Nat.reduceAdd]
  refine .sr (.assign (.x (.move (.move ?_))))
  refine .call (hc := Tryz.call248) (sp := hasPre) (h := ?_)
  rintro _ _ ⟨rfl, rfl⟩
  refine .assign (.z ?_)
  refine .ret (?_)
  exact .ret1 (h1 := .tmp (t := 4) rfl) ⟨_, ⟨rfl, rfl⟩, Am.auto⟩
theorem fsMay {xs ys : Bytes} (hx : xs.length ≤ 1000000) (hy : ys.length ≤ 1000000) : Spec Tryz.prog 94 #[sv xs, sv ys] [] fun F v M => v = .bool (mayT xs ys) ∧ M = F := by
  refine Spec.intro Tryz.func94 rfl rfl fun B F => ?_
  simp only [Tryz.ntmps94, List.cons_append, List.nil_append, env0, Nat.reduceAdd]
  cases hpx : partsT xs with
  | none =>
    cases hpy : partsT ys with
    | none =>
      have hmt : mayT xs ys = false := by unfold mayT; rw [hpx]
      refine .sr (.assign (.x (.move ?_)))
      refine .call (hc := Tryz.call154) (sp := fsPartsNo hx hpx) (h := ?_)
      rintro _ _ ⟨rfl, hM⟩
      obtain rfl := hM.symm
      refine .move ?_
      refine .extract ?_
      refine .extract ?_
      refine .assign (.assign (.x (.move ?_)))
      refine .call (hc := Tryz.call154) (sp := fsPartsNo hy hpy) (h := ?_)
      rintro _ _ ⟨rfl, hM⟩
      obtain rfl := hM.symm
      refine .move ?_
      refine .extract ?_
      refine .extract ?_
      refine .assign (.assign (.x (.move ?_)))
      refine .eqi ?_
      refine .move ?_
      refine .cast (d := 21) (u := .bool false) rfl (congrArg Value.bool (by first | (simp; done) | (exact decide_eq_true (by omega)) | (exact decide_eq_false (by omega)) | (simp; omega) | omega)) ?_
      refine .gF ?_
      refine .gF ?_
      refine .pickF ?_
      refine .move ?_
      refine .gF ?_
      refine .gF ?_
      refine .gF ?_
      refine .pickF ?_
      refine .move ?_
      refine .gF ?_
      refine .gF ?_
      refine .gF ?_
      refine .pickF ?_
      refine .move ?_
      refine .gF ?_
      refine .gF ?_
      refine .gF ?_
      refine .gF ?_
      refine .gF ?_
      refine .pickF ?_
      refine .assign (.z ?_)
      refine .ret (?_)
      exact .ret1 (h1 := .tmp (t := 4) rfl) ⟨_, ⟨by rw [hmt], rfl⟩, Am.auto⟩
    | some ly =>
      have hmt : mayT xs ys = false := by unfold mayT; rw [hpx]
      refine .sr (.assign (.x (.move ?_)))
      refine .call (hc := Tryz.call154) (sp := fsPartsNo hx hpx) (h := ?_)
      rintro _ _ ⟨rfl, hM⟩
      obtain rfl := hM.symm
      refine .move ?_
      refine .extract ?_
      refine .extract ?_
      refine .assign (.assign (.x (.move ?_)))
      refine .call (hc := Tryz.call154) (sp := fsParts hy hpy) (h := ?_)
      rintro _ _ ⟨uy, rfl, rfl⟩
      refine .fact (rowR_shape (el := 9) (size := 1) (v := uy) (k := ly.length) (xs := svs ly)) (fun ⟨Ay, ccy, huy, hRy, hc1y, hc2y, hleny⟩ => ?_)
      subst huy
      refine .move ?_
      refine .extract ?_
      refine .extract ?_
      refine .assign (.assign (.x (.move ?_)))
      refine .eqi ?_
      refine .move ?_
      refine .cast (d := 21) (u := .bool false) rfl (congrArg Value.bool (by first | (simp; done) | (exact decide_eq_true (by omega)) | (exact decide_eq_false (by omega)) | (simp; omega) | omega)) ?_
      refine .gF ?_
      refine .gF ?_
      refine .pickF ?_
      refine .move ?_
      refine .gF ?_
      refine .gF ?_
      refine .gF ?_
      refine .pickF ?_
      refine .move ?_
      refine .gF ?_
      refine .gF ?_
      refine .gF ?_
      refine .pickF ?_
      refine .move ?_
      refine .gF ?_
      refine .gF ?_
      refine .gF ?_
      refine .gF ?_
      refine .gF ?_
      refine .pickF ?_
      refine .assign (.z ?_)
      refine .ret (?_)
      exact .ret1 (h1 := .tmp (t := 4) rfl) ⟨_, ⟨by rw [hmt], rfl⟩, Am.auto⟩
  | some lx =>
    cases hpy : partsT ys with
    | none =>
      have hmt : mayT xs ys = false := by unfold mayT; rw [hpx, hpy]
      refine .sr (.assign (.x (.move ?_)))
      refine .call (hc := Tryz.call154) (sp := fsParts hx hpx) (h := ?_)
      rintro _ _ ⟨ux, rfl, rfl⟩
      refine .fact (rowR_shape (el := 9) (size := 1) (v := ux) (k := lx.length) (xs := svs lx)) (fun ⟨Ax, ccx, hux, hRx, hc1x, hc2x, hlenx⟩ => ?_)
      subst hux
      refine .move ?_
      refine .extract ?_
      refine .extract ?_
      refine .assign (.assign (.x (.move ?_)))
      refine .call (hc := Tryz.call154) (sp := fsPartsNo hy hpy) (h := ?_)
      rintro _ _ ⟨rfl, hM⟩
      obtain rfl := hM.symm
      refine .move ?_
      refine .extract ?_
      refine .extract ?_
      refine .assign (.assign (.x (.move ?_)))
      refine .eqi ?_
      refine .move ?_
      refine .cast (d := 21) (u := .bool true) rfl (congrArg Value.bool (by first | (simp; done) | (exact decide_eq_true (by omega)) | (exact decide_eq_false (by omega)) | (simp; omega) | omega)) ?_
      refine .gT ?_
      refine .move ?_
      refine .gT ?_
      refine .eqi ?_
      refine .pickT ?_
      refine .move ?_
      refine .cast (d := 25) (u := .bool false) rfl (congrArg Value.bool (by first | (simp; done) | (exact decide_eq_true (by omega)) | (exact decide_eq_false (by omega)) | (simp; omega) | omega)) ?_
      refine .gF ?_
      refine .gF ?_
      refine .gF ?_
      refine .pickF ?_
      refine .move ?_
      refine .gF ?_
      refine .gF ?_
      refine .gF ?_
      refine .pickF ?_
      refine .move ?_
      refine .gF ?_
      refine .gF ?_
      refine .gF ?_
      refine .gF ?_
      refine .gF ?_
      refine .pickF ?_
      refine .assign (.z ?_)
      refine .ret (?_)
      exact .ret1 (h1 := .tmp (t := 4) rfl) ⟨_, ⟨by rw [hmt], rfl⟩, Am.auto⟩
    | some ly =>
      have hmt : mayT xs ys = (decide (0 < lx.length) && decide (0 < ly.length) && !decide (ys.take (xs ++ [47]).length = xs ++ [47])) := by unfold mayT; rw [hpx, hpy]
      by_cases h1 : 0 < lx.length
      · by_cases h2 : 0 < ly.length
        · refine .sr (.assign (.x (.move ?_)))
          refine .call (hc := Tryz.call154) (sp := fsParts hx hpx) (h := ?_)
          rintro _ _ ⟨ux, rfl, rfl⟩
          refine .fact (rowR_shape (el := 9) (size := 1) (v := ux) (k := lx.length) (xs := svs lx)) (fun ⟨Ax, ccx, hux, hRx, hc1x, hc2x, hlenx⟩ => ?_)
          subst hux
          refine .move ?_
          refine .extract ?_
          refine .extract ?_
          refine .assign (.assign (.x (.move ?_)))
          refine .call (hc := Tryz.call154) (sp := fsParts hy hpy) (h := ?_)
          rintro _ _ ⟨uy, rfl, rfl⟩
          refine .fact (rowR_shape (el := 9) (size := 1) (v := uy) (k := ly.length) (xs := svs ly)) (fun ⟨Ay, ccy, huy, hRy, hc1y, hc2y, hleny⟩ => ?_)
          subst huy
          refine .move ?_
          refine .extract ?_
          refine .extract ?_
          refine .assign (.assign (.x (.move ?_)))
          refine .eqi ?_
          refine .move ?_
          refine .cast (d := 21) (u := .bool true) rfl (congrArg Value.bool (by first | (simp; done) | (exact decide_eq_true (by omega)) | (exact decide_eq_false (by omega)) | (simp; omega) | omega)) ?_
          refine .gT ?_
          refine .move ?_
          refine .gT ?_
          refine .eqi ?_
          refine .pickT ?_
          refine .move ?_
          refine .cast (d := 25) (u := .bool true) rfl (congrArg Value.bool (by first | (simp; done) | (exact decide_eq_true (by omega)) | (exact decide_eq_false (by omega)) | (simp; omega) | omega)) ?_
          refine .gT ?_
          refine .move ?_
          refine .gT ?_
          refine .lenS ?_ sl92
          refine .gT ?_
          refine .gtr ?_
          refine .pickT ?_
          refine .move ?_
          refine .cast (d := 30) (u := .bool true) rfl (congrArg Value.bool (by first | (simp; done) | (exact decide_eq_true (by omega)) | (exact decide_eq_false (by omega)) | (simp; omega) | omega)) ?_
          refine .gT ?_
          refine .move ?_
          refine .gT ?_
          refine .lenS ?_ sl92
          refine .gT ?_
          refine .gtr ?_
          refine .pickT ?_
          refine .move ?_
          refine .cast (d := 35) (u := .bool true) rfl (congrArg Value.bool (by first | (simp; done) | (exact decide_eq_true (by omega)) | (exact decide_eq_false (by omega)) | (simp; omega) | omega)) ?_
          refine .gT ?_
          refine .move ?_
          refine .gT ?_
          refine .move ?_
          refine .gT ?_
          refine .catS xs [47] ?_ (by simp only [List.length_cons, List.length_nil]; omega)
          refine .gT ?_
          refine .call (hc := Tryz.call175) (sp := hasPreS (xs := ys) (ps := xs ++ [47])) (h := ?_)
          rintro _ _ ⟨rfl, rfl⟩
          refine .gT ?_
          refine .not ?_
          refine .pickT ?_
          refine .assign (.z ?_)
          refine .ret (?_)
          exact .ret1 (h1 := .tmp (t := 4) rfl) ⟨_, ⟨by rw [hmt, decide_eq_true h1, decide_eq_true h2]; rfl, rfl⟩, Am.auto⟩
        · refine .sr (.assign (.x (.move ?_)))
          refine .call (hc := Tryz.call154) (sp := fsParts hx hpx) (h := ?_)
          rintro _ _ ⟨ux, rfl, rfl⟩
          refine .fact (rowR_shape (el := 9) (size := 1) (v := ux) (k := lx.length) (xs := svs lx)) (fun ⟨Ax, ccx, hux, hRx, hc1x, hc2x, hlenx⟩ => ?_)
          subst hux
          refine .move ?_
          refine .extract ?_
          refine .extract ?_
          refine .assign (.assign (.x (.move ?_)))
          refine .call (hc := Tryz.call154) (sp := fsParts hy hpy) (h := ?_)
          rintro _ _ ⟨uy, rfl, rfl⟩
          refine .fact (rowR_shape (el := 9) (size := 1) (v := uy) (k := ly.length) (xs := svs ly)) (fun ⟨Ay, ccy, huy, hRy, hc1y, hc2y, hleny⟩ => ?_)
          subst huy
          refine .move ?_
          refine .extract ?_
          refine .extract ?_
          refine .assign (.assign (.x (.move ?_)))
          refine .eqi ?_
          refine .move ?_
          refine .cast (d := 21) (u := .bool true) rfl (congrArg Value.bool (by first | (simp; done) | (exact decide_eq_true (by omega)) | (exact decide_eq_false (by omega)) | (simp; omega) | omega)) ?_
          refine .gT ?_
          refine .move ?_
          refine .gT ?_
          refine .eqi ?_
          refine .pickT ?_
          refine .move ?_
          refine .cast (d := 25) (u := .bool true) rfl (congrArg Value.bool (by first | (simp; done) | (exact decide_eq_true (by omega)) | (exact decide_eq_false (by omega)) | (simp; omega) | omega)) ?_
          refine .gT ?_
          refine .move ?_
          refine .gT ?_
          refine .lenS ?_ sl92
          refine .gT ?_
          refine .gtr ?_
          refine .pickT ?_
          refine .move ?_
          refine .cast (d := 30) (u := .bool true) rfl (congrArg Value.bool (by first | (simp; done) | (exact decide_eq_true (by omega)) | (exact decide_eq_false (by omega)) | (simp; omega) | omega)) ?_
          refine .gT ?_
          refine .move ?_
          refine .gT ?_
          refine .lenS ?_ sl92
          refine .gT ?_
          refine .gtr ?_
          refine .pickT ?_
          refine .move ?_
          refine .cast (d := 35) (u := .bool false) rfl (congrArg Value.bool (by first | (simp; done) | (exact decide_eq_true (by omega)) | (exact decide_eq_false (by omega)) | (simp; omega) | omega)) ?_
          refine .gF ?_
          refine .gF ?_
          refine .gF ?_
          refine .gF ?_
          refine .gF ?_
          refine .pickF ?_
          refine .assign (.z ?_)
          refine .ret (?_)
          exact .ret1 (h1 := .tmp (t := 4) rfl) ⟨_, ⟨by rw [hmt, decide_eq_true h1, decide_eq_false h2]; rfl, rfl⟩, Am.auto⟩
      · refine .sr (.assign (.x (.move ?_)))
        refine .call (hc := Tryz.call154) (sp := fsParts hx hpx) (h := ?_)
        rintro _ _ ⟨ux, rfl, rfl⟩
        refine .fact (rowR_shape (el := 9) (size := 1) (v := ux) (k := lx.length) (xs := svs lx)) (fun ⟨Ax, ccx, hux, hRx, hc1x, hc2x, hlenx⟩ => ?_)
        subst hux
        refine .move ?_
        refine .extract ?_
        refine .extract ?_
        refine .assign (.assign (.x (.move ?_)))
        refine .call (hc := Tryz.call154) (sp := fsParts hy hpy) (h := ?_)
        rintro _ _ ⟨uy, rfl, rfl⟩
        refine .fact (rowR_shape (el := 9) (size := 1) (v := uy) (k := ly.length) (xs := svs ly)) (fun ⟨Ay, ccy, huy, hRy, hc1y, hc2y, hleny⟩ => ?_)
        subst huy
        refine .move ?_
        refine .extract ?_
        refine .extract ?_
        refine .assign (.assign (.x (.move ?_)))
        refine .eqi ?_
        refine .move ?_
        refine .cast (d := 21) (u := .bool true) rfl (congrArg Value.bool (by first | (simp; done) | (exact decide_eq_true (by omega)) | (exact decide_eq_false (by omega)) | (simp; omega) | omega)) ?_
        refine .gT ?_
        refine .move ?_
        refine .gT ?_
        refine .eqi ?_
        refine .pickT ?_
        refine .move ?_
        refine .cast (d := 25) (u := .bool true) rfl (congrArg Value.bool (by first | (simp; done) | (exact decide_eq_true (by omega)) | (exact decide_eq_false (by omega)) | (simp; omega) | omega)) ?_
        refine .gT ?_
        refine .move ?_
        refine .gT ?_
        refine .lenS ?_ sl92
        refine .gT ?_
        refine .gtr ?_
        refine .pickT ?_
        refine .move ?_
        refine .cast (d := 30) (u := .bool false) rfl (congrArg Value.bool (by first | (simp; done) | (exact decide_eq_true (by omega)) | (exact decide_eq_false (by omega)) | (simp; omega) | omega)) ?_
        refine .gF ?_
        refine .gF ?_
        refine .gF ?_
        refine .pickF ?_
        refine .move ?_
        refine .gF ?_
        refine .gF ?_
        refine .gF ?_
        refine .gF ?_
        refine .gF ?_
        refine .pickF ?_
        refine .assign (.z ?_)
        refine .ret (?_)
        exact .ret1 (h1 := .tmp (t := 4) rfl) ⟨_, ⟨by rw [hmt, decide_eq_false h1]; rfl, rfl⟩, Am.auto⟩
theorem fsRenameC0 {f s a c mp : Nat} {p : Pl} {T : FT} {from_ to : Bytes} {b3 b4 b5 : Nat} (h1 : from_.length ≤ 1000000) (h2 : to.length ≤ 1000000) (hm : mayT from_ to = false) : Spec Tryz.prog 93 #[.pointer (some ⟨b4, 0, none⟩), .pointer (some ⟨b5, 0, none⟩), .pointer (some ⟨b3, 0, none⟩)] [pt f (fO c a s false false false mp), LD mp T, IN s a c p (fmT T) (fmT T) 0 true, bun [pt b3 (.cells #[.pointer (some ⟨f, 0, none⟩)] 23 (0, 0)), pt b4 (.cells #[sv from_] 9 (0, 0)), pt b5 (.cells #[sv to] 9 (0, 0))]] fun F v M => v = nI 1 ∧ M = pt f (fO c a s false false false mp) :: LD mp T :: IN s a c p (fmT T) (fmT T) 0 true :: bun [pt b3 (.cells #[.pointer (some ⟨f, 0, none⟩)] 23 (0, 0)), pt b4 (.cells #[sv from_] 9 (0, 0)), pt b5 (.cells #[sv to] 9 (0, 0))] :: F := by
  refine Spec.intro Tryz.func93 rfl rfl fun B F => ?_
  simp only [Tryz.ntmps93, List.cons_append, List.nil_append, env0, Nat.reduceAdd]
  refine .openR (bun.opens _) fun _ _ => ?_
  simp only [List.cons_append, List.nil_append]
  refine .sr (.assign (.z (.seq (.sr ?_))))
  refine .ld ?_ sc9
  refine .ld ?_ sc9
  refine .call (hc := Tryz.call94) (sp := fsMay h1 h2) (h := ?_)
  rintro _ _ ⟨rfl, rfl⟩
  rw [hm]
  refine .not ?_
  refine .z ?_
  refine .condT rfl rfl ?_
  refine .sr (.assign (.z ?_))
  refine .ret (.thenRet (?_))
  refine .shutR (bun.opens [pt b3 (.cells #[.pointer (some ⟨f, 0, none⟩)] 23 (0, 0)), pt b4 (.cells #[sv from_] 9 (0, 0)), pt b5 (.cells #[sv to] 9 (0, 0))]) () trivial ?_
  exact .ret1 (h1 := .tmp (t := 3) rfl) ⟨_, ⟨rfl, rfl⟩, Am.auto⟩
theorem fsRenameNo {f : Nat} {p : Pl} {T : FT} {from_ to : Bytes} (ho : PlOk p) (h1 : from_.length ≤ 1000000) (h2 : to.length ≤ 1000000) (hm : mayT from_ to = false) : Spec Tryz.prog 47 #[.pointer (some ⟨f, 0, none⟩), sv from_, sv to] [FSR f p T] fun F v M => v = nI 1 ∧ M = FSR f p T :: F := by
  refine Spec.intro Tryz.func47 rfl rfl fun B F => ?_
  simp only [Tryz.ntmps47, List.cons_append, List.nil_append, env0, Nat.reduceAdd]
  refine .openR (FSR.opens f p T) fun y _ => ?_
  obtain ⟨c, a, s, mp⟩ := y
  simp only [fsLs, List.cons_append, List.nil_append]
  refine .sr ?_
  refine .box fun b3 => ?_
  refine .box fun b4 => ?_
  refine .box fun b5 => ?_
  refine .assign (.x ?_)
  refine .ld ?_ sc23
  refine .shutR (bun.opens [pt b3 (.cells #[.pointer (some ⟨f, 0, none⟩)] 23 (0, 0)), pt b4 (.cells #[sv from_] 9 (0, 0)), pt b5 (.cells #[sv to] 9 (0, 0))]) () trivial ?_
  refine .makeFuncB ?_
  refine .call (hc := Tryz.call92) (sp := fsChangeE (s := s) (a := a) (c := c) (p := p) (f := f) (mp := mp) (T := T) (S := T) (e := 1) (by decide) ho (hc := Tryz.call93) (sp := (fsRenameC0 (b3 := b3) (b4 := b4) (b5 := b5) h1 h2 hm))) (h := ?_)
  rintro _ _ ⟨rfl, rfl⟩
  refine .assign (.z ?_)
  refine .ret (?_)
  refine .shutR (FSR.opens f p T) (c, a, s, mp) trivial ?_
  exact .ret1 (h1 := .tmp (t := 6) rfl) ⟨_, ⟨rfl, rfl⟩, Am.auto⟩
theorem l10Fresh {p : Pl} (h : PlIs p) : Spec Tryz.prog 46 #[nI p.n, nI p.ino] [] fun F v M => ∃ d f m, v = .tuple #[.pointer (some ⟨d, 0, none⟩), .pointer (some ⟨f, 0, none⟩), .pointer (some ⟨m, 0, none⟩), .bool true] ∧ M = FSR f p rootT :: F := by
  refine Spec.intro Tryz.func46 rfl rfl fun B F => ?_
  simp only [Tryz.ntmps46, List.cons_append, List.nil_append, env0, Nat.reduceAdd]
  have hn2 := h.n2
  have h246 : 246 ≤ p.n := by have := h.bm; have := h.m1; have := h.da; have := h.dc; have := h.d1; omega
  refine .sr (.assign (.assign (.assign (.assign (.x (.move ?_))))))
  refine .call (hc := Tryz.call62) (sp := devNew (n := p.n) (by omega) (by omega)) (h := ?_)
  rintro _ _ ⟨d, rfl, rfl⟩
  refine .move ?_
  refine .extract ?_
  refine .extract ?_
  refine .assign (.assign (.x (.move (.move ?_))))
  refine .call (hc := Tryz.call57) (sp := refFs0 h) (h := ?_)
  rintro _ _ ⟨m, rfl, rfl⟩
  refine .move ?_
  refine .extract ?_
  refine .extract ?_
  refine .assign (.assign (.z (.seq (.sr (.move ?_)))))
  refine .nei ?_
  refine .move ?_
  refine .cast (d := 27) (u := .bool false) rfl (congrArg Value.bool (by first | (simp; done) | (simp; omega) | omega)) ?_
  refine .gT ?_
  refine .move ?_
  refine .gT ?_
  refine .nei ?_
  refine .pickF ?_
  refine .move ?_
  refine .cast (d := 31) (u := .bool false) rfl (congrArg Value.bool (by first | (simp; done) | (simp; omega) | omega)) ?_
  refine .gT ?_
  refine .move ?_
  refine .gT ?_
  refine .eqNil ?_ ptr22
  refine .pickF ?_
  refine .move ?_
  refine .gT ?_
  refine .move ?_
  refine .gT ?_
  refine .move ?_
  refine .gT ?_
  refine .call (hc := Tryz.call63) (sp := fsMkfs h) (h := ?_)
  rintro _ _ ⟨J, rfl, hJ, rfl⟩
  refine .gT ?_
  refine .nei ?_
  refine .pickF ?_
  refine .z ?_
  refine .condF rfl (congrArg Value.bool (by first | (simp; done) | (simp; omega) | omega)) ?_
  refine .skip (.next (.sr (.move ?_)))
  refine .call (hc := Tryz.call64) (sp := fsMountNew h hJ) (h := ?_)
  rintro _ _ ⟨f, rfl, rfl⟩
  refine .move ?_
  refine .extract ?_
  refine .extract ?_
  refine .assign (.assign (.x (.move (.move (.move (.move ?_))))))
  refine .eqi ?_
  refine .move ?_
  refine .gT ?_
  refine .move ?_
  refine .gT ?_
  refine .neNil ?_ ptr23
  refine .pickT ?_
  refine .assign (.assign (.assign (.assign (.z ?_))))
  refine .ret (?_)
  exact .ret4 (h1 := .tmp (t := 4) rfl) (h2 := .tmp (t := 5) rfl) (h3 := .tmp (t := 6) rfl) (h4 := .tmp (t := 7) rfl) ⟨_, ⟨d, f, m, rfl, rfl⟩, Am.auto⟩
end Go.Proofs.YtdmjkjeoamiedaaGreatDoor
end
section
namespace Go.Proofs.YtdmjkjeoamiedaaGreatDoor
open Go
def someB (n c : Nat) : Bytes := (List.range n).map fun i => UInt8.ofNat (c + i / 7)
theorem someB_length (n c : Nat) : (someB n c).length = n := by simp [someB]
def partB (f : Nat → UInt8) (n k : Nat) : Bytes := (List.range n).map fun j => if j < k then f j else 0
theorem partB_length (f : Nat → UInt8) (n k : Nat) : (partB f n k).length = n := by simp [partB]
theorem partB_zero (f : Nat → UInt8) (n : Nat) : partB f n 0 = List.replicate n 0 := by
  unfold partB
  simp only [Nat.not_lt_zero, if_false]
  rw [List.map_const', List.length_range]
theorem partB_all (f : Nat → UInt8) (n : Nat) : partB f n n = (List.range n).map f := by
  unfold partB
  apply List.map_congr_left
  intro j hj
  rw [if_pos (List.mem_range.1 hj)]
theorem partB_set (f : Nat → UInt8) {n k : Nat} (h : k < n) : (partB f n k).set k (f k) = partB f n (k + 1) := by
  apply List.ext_getElem
  · simp [partB]
  · intro j h1 h2
    simp only [partB, List.getElem_set, List.getElem_map, List.getElem_range]
    by_cases hj : k = j
    · subst hj; rw [if_pos rfl, if_pos (by omega)]
    · rw [if_neg hj]
      by_cases h3 : j < k
      · rw [if_pos h3, if_pos (by omega)]
      · rw [if_neg h3, if_neg (by omega)]
theorem wrap_ofNat (v : Nat) : Value.int .u8 (IntKind.u8.wrap (v : Int)) = bv (UInt8.ofNat v) := by
  unfold bv
  rw [IntKind.wrap_u8, UInt8.toNat_ofNat']
  congr 1
theorem alikeSome {n c : Nat} (hn : n ≤ 100000) (hc : c ≤ 100000) : Spec Tryz.prog 19 #[.int .i64 (n : Int), .int .i64 (c : Int)] [] fun F v M => ∃ b, v = .slice (some ⟨b, 0, none⟩) n n ∧ M = buf b 5 n (bvs (someB n c)) :: F := by
  refine Spec.intro Tryz.func19 rfl rfl fun B F => ?_
  simp only [Tryz.ntmps19, List.cons_append, List.nil_append, env0, Nat.reduceAdd]
  refine .sr (.assign (.x (.move ?_)))
  refine .mkS (k := (n : Int)) z5 (fun b8 => ?_) so33 (by omega) (by omega) (by omega)
  refine .cast (d := 8) (u := .slice (some ⟨b8, 0, none⟩) n n) rfl (by rw [Int.toNat_natCast]) ?_
  refine .to (A := buf b8 5 (n : Int).toNat (List.replicate (n : Int).toNat (.int .u8 0))) (A' := buf b8 5 n (bvs (partB (fun i => UInt8.ofNat (c + i / 7)) n 0))) (fun h hh => by rw [partB_zero, bvs_replicate]; rw [Int.toNat_natCast] at hh; exact hh) ?_
  refine .assign (.z (.seq (.sr (.assign (.z (.block ?_))))))
  refine .loopA (σ := Nat) (fun i => [(0, .int .i64 (n : Int)), (1, .int .i64 (c : Int)), (5, .slice (some ⟨b8, 0, none⟩) n n), (6, .int .i64 (i : Int))]) (fun i => buf b8 5 n (bvs (partB (fun i => UInt8.ofNat (c + i / 7)) n i)) :: F) (fun i => i ≤ n) (fun i => n - i) 0 (Nat.zero_le _) ?_
  rintro i hi
  refine .seq (.sr (.move (.move ?_)))
  refine .lss ?_
  refine .z ?_
  refine .cond rfl (fun hb => ?_) (fun hb => ?_)
  · have hlt : i < n := by have := of_decide_eq_true hb; omega
    refine .skip (.next (.seq (.block (.region (.move (.move (.move (.move ?_))))))))
    refine .quo ?_
    refine .add ?_
    refine .cast (d := 19) (u := .int .i64 ((c + i / 7 : Nat) : Int)) rfl (congrArg (Value.int .i64) (by omega)) ?_
    refine .cvt ?_ un3 un5
    refine .cast (d := 20) (u := bv (UInt8.ofNat (c + i / 7))) rfl (wrap_ofNat _) ?_
    refine .idx1 ?_ so33
    refine .stB ?_ sc5 (show 0 + ((i : Nat) : Int).toNat < (bvs (partB (fun i => UInt8.ofNat (c + i / 7)) n i)).length by rw [bvs_length, partB_length]; omega)
    refine .nil (.blockNormal (.next (.region (.move ?_))))
    refine .add ?_
    refine .assign (.nil ?_)
    refine .to (A := buf b8 5 n ((bvs (partB (fun i => UInt8.ofNat (c + i / 7)) n i)).set (0 + ((i : Nat) : Int).toNat) (bv (UInt8.ofNat (c + i / 7))))) (A' := buf b8 5 n (bvs (partB (fun i => UInt8.ofNat (c + i / 7)) n (i + 1)))) (fun h hh => by rw [← partB_set (fun i => UInt8.ofNat (c + i / 7)) hlt, bvs_set]; rw [show 0 + ((i : Nat) : Int).toNat = i from by omega] at hh; exact hh) ?_
    refine .cast (d := 6) (u := .int .i64 ((i + 1 : Nat) : Int)) rfl (congrArg (Value.int .i64) (by omega)) ?_
    exact .back (i + 1) (by omega) (by omega)
  · have hge : ¬ i < n := by have := of_decide_eq_false hb; omega
    have hin : i = n := by omega
    subst hin
    refine .exit (.thenExit (.thenExit (.blockExit (?_))))
    refine .next (.sr (.move (.assign (.z ?_))))
    refine .ret (?_)
    refine .to (A := buf b8 5 i (bvs (partB (fun i => UInt8.ofNat (c + i / 7)) i i))) (A' := buf b8 5 i (bvs (someB i c))) (fun h hh => by rw [partB_all] at hh; exact hh) ?_
    exact .ret1 (h1 := .tmp (t := 4) rfl) ⟨_, ⟨b8, rfl, rfl⟩, Am.auto⟩
end Go.Proofs.YtdmjkjeoamiedaaGreatDoor
end
section
namespace Go.Proofs.YtdmjkjeoamiedaaGreatDoor
open Go
abbrev awL0 : TL := [(0, .dir [])]
abbrev awL1 : TL := [(0, .dir [some ([97], 1)]), (1, .dir [])]
abbrev awL2 (b : Bytes) : TL := [(0, .dir [some ([97], 1)]), (1, .dir [some ([120], 2)]), (2, .file b)]
theorem awL0_ok : ∀ e ∈ awL0, e.2.ok := by
  intro e he
  simp only [awL0, List.mem_cons, List.not_mem_nil, or_false] at he
  subst he
  exact okNil
theorem awL1_ok : ∀ e ∈ awL1, e.2.ok := by
  intro e he
  simp only [awL1, List.mem_cons, List.not_mem_nil, or_false] at he
  rcases he with rfl | rfl
  · exact ok1 (by decide) (by decide)
  · exact okNil
theorem awL2_ok (b : Bytes) : ∀ e ∈ awL2 b, e.2.ok := by
  intro e he
  simp only [awL2, List.mem_cons, List.not_mem_nil, or_false] at he
  rcases he with rfl | rfl | rfl
  · exact ok1 (by decide) (by decide)
  · exact ok1 (by decide) (by decide)
  · exact trivial
theorem p10_is : PlIs (pD 400 16) := pD_is (by decide) (by decide) (by decide) (by decide)
theorem awMk {f : Nat} : Spec Tryz.prog 28 #[.pointer (some ⟨f, 0, none⟩), sv [47, 97]] [FSR f (pD 400 16) (trL awL0)] fun F v M => v = okV ∧ M = FSR f (pD 400 16) (trL awL1) :: F :=
  fsMkdirL (d := 0) (i := 1) (nm := [97]) (sl := []) p10_is.ok awL0_ok (by decide) (lt_of_all rfl) (by decide) (by decide) rfl rfl rfl (by decide) rfl (fun j hj => by
    obtain rfl : j = 0 := by omega
    intro h; cases h) (.inr (by decide)) (by decide) rfl
theorem awCr {f : Nat} : Spec Tryz.prog 17 #[.pointer (some ⟨f, 0, none⟩), sv [47, 97, 47, 120]] [FSR f (pD 400 16) (trL awL1)] fun F v M => v = okV ∧ M = FSR f (pD 400 16) (trL (awL2 [])) :: F :=
  fsCreateL (d := 1) (i := 2) (nm := [120]) (sl := []) p10_is.ok awL1_ok (by decide) (lt_of_all rfl) (by decide) (by decide) rfl rfl rfl (by decide) rfl (fun j hj => by
    rcases j with _ | _ | j
    · intro h; cases h
    · intro h; cases h
    · omega) (.inr (by decide)) (by decide) rfl
theorem awAp {f m cc : Nat} {bs : Bytes} {R : HP} {A : Option Addr} (hR : bs = [] ∨ Reads R A (bvs bs)) (hm : bs.length = 600) (hcc : 600 ≤ cc) (hcb : cc ≤ maxLen) : Spec Tryz.prog 18 #[.pointer (some ⟨f, 0, none⟩), sv [47, 97, 47, 120], .slice A 600 cc] [FSR f (pD 400 16) (trL (awL2 [])), R] fun F v M => v = okV ∧ M = FSR f (pD 400 16) (trL (awL2 (wrB [] 0 bs))) :: R :: F :=
  fsAppendL (i := 2) (fb := []) p10_is.ok (awL2_ok []) (by show [0, 1, 2].Nodup; decide) (lt_of_all rfl) (by decide) rfl rfl hR hm hcc hcb (.inr (by decide)) (by decide) (by decide) rfl
theorem awTot (b : Bytes) (h : b.length = 600) : tot (fmT (trL (awL2 b))) (pD 400 16).ino = 4 := by
  rw [tot_trL (by show [0, 1, 2].Nodup; decide) (lt_of_all rfl)]
  show has 64 + (has 64 + (has b.length + 0)) = 4
  rw [h]; rfl
theorem awTot0 : tot (fmT (trL awL0)) (pD 400 16).ino = 0 := by
  rw [tot_trL (by decide) (lt_of_all rfl)]
  rfl
theorem l10Awake : Spec Tryz.prog 45 #[] [] fun F v M => v = .bool true ∧ M = F := by
  refine Spec.intro Tryz.func45 rfl rfl fun B F => ?_
  simp only [Tryz.ntmps45, List.cons_append, List.nil_append, env0, Nat.reduceAdd]
  have hWl := someB_length 600 1
  obtain ⟨Wn, hWn⟩ : ∃ Wn, someB 600 1 = Wn := ⟨_, rfl⟩
  rw [hWn] at hWl
  have hwl : (wrB [] 0 Wn).length = 600 := by rw [wrB_length, hWl]; rfl
  refine .sr (.assign (.x ?_))
  refine .call (hc := Tryz.call46) (sp := l10Fresh p10_is) (h := ?_)
  rintro _ _ ⟨d, f, m, rfl, rfl⟩
  rw [rootT_trL]
  refine .move ?_
  refine .extract ?_
  refine .extract ?_
  refine .extract ?_
  refine .extract ?_
  refine .assign (.assign (.assign (.assign (.z (.seq (.sr (.move ?_)))))))
  refine .not ?_
  refine .z ?_
  refine .condF rfl rfl ?_
  refine .skip (.next (.sr (.move ?_)))
  refine .call (hc := Tryz.call52) (sp := fsFree (f := f) (p := pD 400 16) (T := trL awL0) p10_is.ok) (h := ?_)
  rintro _ _ ⟨rfl, rfl⟩
  rw [awTot0]
  refine .move ?_
  refine .extract ?_
  refine .extract ?_
  refine .assign (.assign (.z (.seq (.sr (.move ?_)))))
  refine .call (hc := Tryz.call28) (sp := awMk (f := f)) (h := ?_)
  rintro _ _ ⟨rfl, rfl⟩
  refine .nei ?_
  refine .move ?_
  refine .cast (d := 25) (u := .bool false) rfl (congrArg Value.bool (by first | (simp; done) | (simp; omega) | omega)) ?_
  refine .gT ?_
  refine .move ?_
  refine .gT ?_
  refine .call (hc := Tryz.call17) (sp := awCr (f := f)) (h := ?_)
  rintro _ _ ⟨rfl, rfl⟩
  refine .gT ?_
  refine .nei ?_
  refine .pickF ?_
  refine .move ?_
  refine .cast (d := 30) (u := .bool false) rfl (congrArg Value.bool (by first | (simp; done) | (simp; omega) | omega)) ?_
  refine .gT ?_
  refine .move ?_
  refine .gT ?_
  refine .call (hc := Tryz.call19) (sp := alikeSome (n := 600) (c := 1) (by decide) (by decide)) (h := ?_)
  rintro _ _ ⟨bs, rfl, rfl⟩
  rw [hWn]
  refine .gT ?_
  refine .call (hc := Tryz.call18) (sp := awAp (f := f) (m := 600) (cc := 600) (bs := Wn) (R := buf bs 5 600 (bvs Wn)) (A := some ⟨bs, 0, none⟩) (.inr Reads.buf) hWl (Nat.le_refl _) (by decide)) (h := ?_)
  rintro _ _ ⟨rfl, rfl⟩
  refine .gT ?_
  refine .nei ?_
  refine .pickF ?_
  refine .z ?_
  refine .condF rfl (congrArg Value.bool (by first | (simp; done) | (simp; omega) | omega)) ?_
  refine .skip (.next (.sr (.move ?_)))
  refine .call (hc := Tryz.call52) (sp := fsFree (f := f) (p := pD 400 16) (T := trL (awL2 (wrB [] 0 Wn))) p10_is.ok) (h := ?_)
  rintro _ _ ⟨rfl, rfl⟩
  rw [awTot _ hwl]
  refine .move ?_
  refine .extract ?_
  refine .extract ?_
  refine .assign (.assign (.x (.move (.move ?_))))
  refine .sub ?_
  refine .eqi ?_
  refine .move ?_
  refine .cast (d := 45) (u := .bool true) rfl (congrArg Value.bool (by first | (simp; done) | (simp; omega) | omega)) ?_
  refine .gT ?_
  refine .move ?_
  refine .gT ?_
  refine .call (hc := Tryz.call47) (sp := fsRenameNo (f := f) (p := pD 400 16) (T := trL (awL2 (wrB [] 0 Wn))) (from_ := [47, 97]) (to := [47, 97, 47, 98]) p10_is.ok (by decide) (by decide) rfl) (h := ?_)
  rintro _ _ ⟨rfl, rfl⟩
  refine .gT ?_
  refine .eqi ?_
  refine .pickT ?_
  refine .move ?_
  refine .cast (d := 50) (u := .bool true) rfl (congrArg Value.bool (by first | (simp; done) | (simp; omega) | omega)) ?_
  refine .gT ?_
  refine .move ?_
  refine .gT ?_
  refine .call (hc := Tryz.call50) (sp := fsRemoveE (f := f) (p := pD 400 16) (T := trL (awL2 (wrB [] 0 Wn))) (path := [47, 97]) (e := 7) p10_is.ok (trL_ok (awL2_ok _)) (by decide) (.inr ⟨0, [97], 1, 0, rfl, rfl, .inr ⟨rfl, rfl, [some ([120], 2)], rfl, fun h => by cases h⟩⟩) (by decide)) (h := ?_)
  rintro _ _ ⟨rfl, rfl⟩
  refine .gT ?_
  refine .eqi ?_
  refine .pickT ?_
  refine .assign (.z ?_)
  refine .ret (?_)
  exact .ret1 (h1 := .tmp (t := 0) rfl) ⟨_, ⟨rfl, rfl⟩, Am.auto⟩
end Go.Proofs.YtdmjkjeoamiedaaGreatDoor
end
section
namespace Go.Proofs.YtdmjkjeoamiedaaGreatDoor
open Go
theorem agg192 : aggOk Tryz.prog 192 2 = true := by kernel_rfl
theorem fo192_0 : fieldOk Tryz.prog 192 0 0 = true := by kernel_rfl
abbrev SortE (l : List Ent) : Prop := l.Pairwise fun x y => ¬ y.1 < x.1
theorem entF_length (l : List Ent) : (l.flatMap entL).length = l.length * 2 := flat_length (enc := entL) (m := 2) entL_length l
theorem entF_get {l : List Ent} {i : Nat} {x : Ent} (h : l[i]? = some x) : (l.flatMap entL)[i * 2]? = some (sv x.1) ∧ (l.flatMap entL)[i * 2 + 1]? = some (nI x.2) := by
  induction l generalizing i with
  | nil => cases h
  | cons a l ih =>
    rw [List.flatMap_cons]
    cases i with
    | zero =>
      injection h with h; subst h
      exact ⟨rfl, rfl⟩
    | succ i =>
      have := ih (i := i) h
      rw [show (i + 1) * 2 = i * 2 + 2 from by omega]
      constructor
      · rw [List.getElem?_append_right (by show 2 ≤ _; omega)]
        show (l.flatMap entL)[i * 2 + 2 - 2]? = _
        rw [Nat.add_sub_cancel]; exact this.1
      · rw [List.getElem?_append_right (by show 2 ≤ _; omega)]
        show (l.flatMap entL)[i * 2 + 2 + 1 - 2]? = _
        rw [show i * 2 + 2 + 1 - 2 = i * 2 + 1 from by omega]; exact this.2
theorem entF_part {l : List Ent} {i : Nat} {x : Ent} (h : l[i]? = some x) : ((l.flatMap entL).drop (i * 2)).take 2 = entL x := by
  have h1 := entF_get h
  refine List.ext_getElem? fun j => ?_
  rw [List.getElem?_take]
  split
  · rename_i hj
    rw [List.getElem?_drop]
    rcases j with _ | _ | j
    · exact h1.1
    · exact h1.2
    · omega
  · rename_i hj
    rw [List.getElem?_eq_none (by show 2 ≤ j; omega)]
theorem bsSn (a : ByteArray) : BuildSOk Tryz.prog 92 1 [(0, .string a)] 9 #[.string a] := fun w => by kernel_rfl
theorem take_succ' {α : Type} {l : List α} {k : Nat} (h : k < l.length) : l.take (k + 1) = l.take k ++ [l[k]] := List.take_succ_eq_append_getElem h
theorem fsList {f : Nat} {p : Pl} {T : FT} {path : Bytes} (ho : PlOk p) (hT : TOk T) (hpl : path.length ≤ 1000000) {i z : Nat} {sl : List Slot} (hl : leadsT T path = (i, 2, z, 0)) (hd : T i = some (.dir sl)) : Spec Tryz.prog 51 #[.pointer (some ⟨f, 0, none⟩), sv path] [FSR f p T] fun F v M => ∃ u l, v = .tuple #[u, .int .i64 0] ∧ ((l : List Ent).Perm (entsS sl) ∧ SortE l) ∧ M = rowR 9 1 u (l.map (·.1)).length (svs (l.map (·.1))) :: FSR f p T :: F := by
  refine Spec.intro Tryz.func51 rfl rfl fun B F => ?_
  simp only [Tryz.ntmps51, List.cons_append, List.nil_append, env0, Nat.reduceAdd]
  refine .openR (FSR.opens f p T) fun y _ => ?_
  obtain ⟨c, a, s, mp⟩ := y
  simp only [fsLs, List.cons_append, List.nil_append]
  have hto := hT i sl hd
  refine .sr (.assign (.assign (.x (.move (.move ?_)))))
  refine .call (hc := Tryz.call77) (sp := fsLeads (f := f) (s := s) (a := a) (c := c) (mp := mp) (b := false) (ov := false) (dead := false) (p := p) (T := T) (F0 := fmT T) (W := 0) (op := false) (path := path) ho hT hpl) (h := ?_)
  rintro _ _ ⟨rfl, rfl⟩
  rw [hl]
  refine .move ?_
  refine .extract ?_
  refine .extract ?_
  refine .extract ?_
  refine .alloc z51 fun b7 => ?_
  refine .assign ?_
  refine .stV ?_ agg51
  refine .assign (.z (.seq (.sr (.move ?_))))
  refine .nei ?_
  refine .z ?_
  refine .condF rfl (congrArg Value.bool (by first | (simp; done) | (simp; omega) | omega)) ?_
  refine .skip (.next (.sr (.move ?_)))
  refine .nilCheck ?_
  refine .fa ?_ fo129_2
  refine .ld ?_ sc126
  refine .move ?_
  refine .call (hc := Tryz.call111) (sp := dList (s := s) (a := a) (c := c) (p := p) (F0 := fmT T) (Fm := fmT T) (W := 0) (d := i) (op := false) (sl := sl) ho (fmT_some hd) hto.1 (by omega)) (h := ?_)
  rintro _ _ ⟨u, l, rfl, ⟨hlp, hls⟩, rfl⟩
  have hll := hlp.length_eq
  have hle := entsS_length (sl := sl)
  refine .fact (rowR_shape (el := 192) (size := 2) (v := u) (k := l.length) (xs := l.flatMap entL)) (fun ⟨A, cc, hu, hR0, hc1, hc2, hlen⟩ => ?_)
  subst hu
  refine .move ?_
  refine .extract ?_
  refine .extract ?_
  refine .assign (.assign (.z (.seq (.sr (.move ?_)))))
  refine .nei ?_
  refine .z ?_
  refine .condF rfl (congrArg Value.bool (by first | (simp; done) | (simp; omega) | omega)) ?_
  refine .skip (.next (.sr (.assign ?_)))
  refine .emp (rowR.nil (e := 9) (size := 1) _) ?_
  refine .z (.seq (.sr (.move ?_)))
  refine .lenS ?_ sl188
  refine .move (.z (.block ?_))
  refine .loopA (σ := Nat × Value) (fun y => [(10, y.2), (35, .slice A l.length cc), (36, .int .i64 (l.length : Int)), (37, .int .i64 ((y.1 : Nat) : Int))]) (fun y => [rowR 9 1 y.2 y.1 (svs ((l.map (·.1)).take y.1)), rowR 192 2 (.slice A l.length cc) l.length (l.flatMap entL), pt f (fO c a s false false false mp), LD mp T, IN s a c p (fmT T) (fmT T) 0 false] ++ F) (fun y => y.1 ≤ l.length) (fun y => l.length - y.1) (0, .slice none 0 0) (Nat.zero_le _) ?_
  rintro y hk
  obtain ⟨k, o⟩ := y
  simp only at hk ⊢
  refine .sr ?_
  refine .lss ?_
  refine .z (.seq ?_)
  refine .cond rfl (fun hb => ?_) (fun hb => ?_)
  · have hlt : k < l.length := by have h : (k : Int) < (l.length : Int) := of_decide_eq_true hb; omega
    rcases A with _ | ⟨ab, ao, asp⟩
    · exact absurd (congrArg List.length (show l.flatMap entL = [] from hR0)) (by rw [entF_length, List.length_nil]; omega)
    have hsp : asp = none := hR0.1
    subst hsp
    have hlk : l[k]? = some l[k] := List.getElem?_eq_getElem hlt
    have hml : (l.map (·.1)).length = l.length := List.length_map ..
    refine .skip (.next (.seq (.block (.sr ?_))))
    refine .idx ?_ so188
    refine .ldAR (i := ((k : Nat) : Int).toNat * 2) (us := entL l[k]) ?_ agg192 hR0 (by rw [Int.toNat_natCast]; exact entF_part hlk) (by rw [entF_length, Int.toNat_natCast]; omega)
    refine .alloc z192 fun b12 => ?_
    refine .stV ?_ agg192
    refine .y (.move ?_)
    refine .fa ?_ fo192_0
    refine .ld ?_ sc9
    refine .buildS (fun b44 => ?_) (bsSn _)
    refine .append (m := 1) (news := [sv l[k].1]) so92 (by decide) (by repeat (first | exact .here | apply Rem.there | apply Repl.there | apply Mem.there)) Reads.pt (by repeat (first | exact .here | apply Rem.there | apply Repl.there | apply Mem.there)) rfl (by intro x hx; simp only [List.mem_cons, List.not_mem_nil, or_false] at hx; subst hx; rfl) (by show k + 1 ≤ maxLen; unfold maxLen; omega) (by show (k + 1) * _ ≤ _; omega) ⟨_, z9, rfl⟩ (fun u2 hu2 => ?_)
    refine .assign (.nil (.blockNormal (.next (.region ?_))))
    refine .add ?_
    refine .move (.nil ?_)
    refine .to (A := rowR 9 1 u2 (k + 1) (svs ((l.map (·.1)).take k) ++ [sv l[k].1])) (A' := rowR 9 1 u2 (k + 1) (svs ((l.map (·.1)).take (k + 1)))) (fun h hh => by rw [take_succ' (by omega), List.getElem_map]; unfold svs at hh ⊢; rw [List.map_append]; exact hh) ?_
    refine .cast (d := 37) (u := .int .i64 ((k + 1 : Nat) : Int)) rfl (congrArg (Value.int .i64) (by omega)) ?_
    exact .back (k + 1, u2) (by show k + 1 ≤ l.length; omega) (by show l.length - (k + 1) < l.length - k; omega)
  · have hge : k = l.length := by have h : ¬ (k : Int) < (l.length : Int) := of_decide_eq_false hb; omega
    subst hge
    have hml : (l.map (·.1)).length = l.length := List.length_map ..
    rw [List.take_of_length_le (Nat.le_of_eq hml)]
    refine .exit (.thenExit (.thenExit (.blockExit (?_))))
    refine .next (.sr (.move (.assign (.assign (.z ?_)))))
    refine .ret (?_)
    refine .shutR (FSR.opens f p T) (c, a, s, mp) trivial ?_
    exact .ret2 (h1 := .tmp (t := 4) rfl) (h2 := .tmp (t := 5) rfl) ⟨_, ⟨o, l, rfl, ⟨hlp, hls⟩, by rw [hml]⟩, Am.auto⟩
end Go.Proofs.YtdmjkjeoamiedaaGreatDoor
end
section
namespace Go.Proofs.YtdmjkjeoamiedaaGreatDoor
open Go
theorem bs2M (v0 v1 : Int) : BuildSOk Tryz.prog 33 2 [(0, .int .u8 v0), (1, .int .u8 v1)] 5 #[.int .u8 v0, .int .u8 v1] := fun w => by kernel_rfl
theorem ents_msl (g : Nat) : ∀ k, (entsS (msl g k)).length = k - g
  | 0 => by rw [Nat.zero_sub]; rfl
  | k + 1 => by
    have h : msl g (k + 1) = msl g k ++ [if k < g then none else some (nmM k, k + 1)] := by
      unfold msl
      rw [List.range_succ, List.map_append]; rfl
    have ih := ents_msl g k
    unfold entsS at ih ⊢
    rw [h, List.filterMap_append, List.length_append, ih]
    by_cases hk : k < g
    · rw [if_pos hk]
      show k - g + 0 = _
      omega
    · rw [if_neg hk]
      show k - g + 1 = _
      omega
theorem lawFsMany {n k : Int} (hn : -9223372036854775808 ≤ n ∧ n ≤ 9223372036854775807) (hk : -9223372036854775808 ≤ k ∧ k ≤ 9223372036854775807) : Spec Tryz.prog 10 #[.int .i64 n, .int .i64 k] [] fun F v M => v = .bool true ∧ M = F := by
  refine Spec.intro Tryz.func10 rfl rfl fun B F => ?_
  simp only [Tryz.ntmps10, List.cons_append, List.nil_append, env0, Nat.reduceAdd]
  by_cases h1 : n < 1
  · refine .sr (.assign (.z (.seq (.sr (.move ?_)))))
    refine .lss ?_
    refine .move ?_
    refine .cast (d := 19) (u := .bool true) rfl (congrArg Value.bool (by first | (simp; done) | (simp; omega) | omega)) ?_
    refine .gF ?_
    refine .gF ?_
    refine .pickT ?_
    refine .move ?_
    refine .gF ?_
    refine .gF ?_
    refine .pickT ?_
    refine .move ?_
    refine .gF ?_
    refine .gF ?_
    refine .pickT ?_
    refine .z ?_
    refine .condT rfl rfl ?_
    refine .sr ?_
    refine .call (hc := Tryz.call45) (sp := l10Awake) (h := ?_)
    rintro _ _ ⟨rfl, rfl⟩
    refine .assign (.z ?_)
    refine .ret (.thenRet (?_))
    exact .ret1 (h1 := .tmp (t := 4) rfl) ⟨_, ⟨rfl, rfl⟩, Am.auto⟩
  · by_cases h2 : 40 < n
    · refine .sr (.assign (.z (.seq (.sr (.move ?_)))))
      refine .lss ?_
      refine .move ?_
      refine .cast (d := 19) (u := .bool false) rfl (congrArg Value.bool (by first | (simp; done) | (simp; omega) | omega)) ?_
      refine .gT ?_
      refine .move ?_
      refine .gT ?_
      refine .gtr ?_
      refine .pickF ?_
      refine .move ?_
      refine .cast (d := 23) (u := .bool true) rfl (congrArg Value.bool (by first | (simp; done) | (simp; omega) | omega)) ?_
      refine .gF ?_
      refine .gF ?_
      refine .pickT ?_
      refine .move ?_
      refine .gF ?_
      refine .gF ?_
      refine .pickT ?_
      refine .z ?_
      refine .condT rfl rfl ?_
      refine .sr ?_
      refine .call (hc := Tryz.call45) (sp := l10Awake) (h := ?_)
      rintro _ _ ⟨rfl, rfl⟩
      refine .assign (.z ?_)
      refine .ret (.thenRet (?_))
      exact .ret1 (h1 := .tmp (t := 4) rfl) ⟨_, ⟨rfl, rfl⟩, Am.auto⟩
    · by_cases h3 : k < 0
      · refine .sr (.assign (.z (.seq (.sr (.move ?_)))))
        refine .lss ?_
        refine .move ?_
        refine .cast (d := 19) (u := .bool false) rfl (congrArg Value.bool (by first | (simp; done) | (simp; omega) | omega)) ?_
        refine .gT ?_
        refine .move ?_
        refine .gT ?_
        refine .gtr ?_
        refine .pickF ?_
        refine .move ?_
        refine .cast (d := 23) (u := .bool false) rfl (congrArg Value.bool (by first | (simp; done) | (simp; omega) | omega)) ?_
        refine .gT ?_
        refine .move ?_
        refine .gT ?_
        refine .lss ?_
        refine .pickF ?_
        refine .move ?_
        refine .cast (d := 27) (u := .bool true) rfl (congrArg Value.bool (by first | (simp; done) | (simp; omega) | omega)) ?_
        refine .gF ?_
        refine .gF ?_
        refine .pickT ?_
        refine .z ?_
        refine .condT rfl rfl ?_
        refine .sr ?_
        refine .call (hc := Tryz.call45) (sp := l10Awake) (h := ?_)
        rintro _ _ ⟨rfl, rfl⟩
        refine .assign (.z ?_)
        refine .ret (.thenRet (?_))
        exact .ret1 (h1 := .tmp (t := 4) rfl) ⟨_, ⟨rfl, rfl⟩, Am.auto⟩
      · by_cases h4 : 40 < k
        · refine .sr (.assign (.z (.seq (.sr (.move ?_)))))
          refine .lss ?_
          refine .move ?_
          refine .cast (d := 19) (u := .bool false) rfl (congrArg Value.bool (by first | (simp; done) | (simp; omega) | omega)) ?_
          refine .gT ?_
          refine .move ?_
          refine .gT ?_
          refine .gtr ?_
          refine .pickF ?_
          refine .move ?_
          refine .cast (d := 23) (u := .bool false) rfl (congrArg Value.bool (by first | (simp; done) | (simp; omega) | omega)) ?_
          refine .gT ?_
          refine .move ?_
          refine .gT ?_
          refine .lss ?_
          refine .pickF ?_
          refine .move ?_
          refine .cast (d := 27) (u := .bool false) rfl (congrArg Value.bool (by first | (simp; done) | (simp; omega) | omega)) ?_
          refine .gT ?_
          refine .move ?_
          refine .gT ?_
          refine .gtr ?_
          refine .pickF ?_
          refine .z ?_
          refine .condT rfl (congrArg Value.bool (by first | (simp; done) | (simp; omega) | omega)) ?_
          refine .sr ?_
          refine .call (hc := Tryz.call45) (sp := l10Awake) (h := ?_)
          rintro _ _ ⟨rfl, rfl⟩
          refine .assign (.z ?_)
          refine .ret (.thenRet (?_))
          exact .ret1 (h1 := .tmp (t := 4) rfl) ⟨_, ⟨rfl, rfl⟩, Am.auto⟩
        · obtain ⟨I, rfl⟩ : ∃ N : Nat, n = N := ⟨n.toNat, by omega⟩
          obtain ⟨G, rfl⟩ : ∃ N : Nat, k = N := ⟨k.toNat, by omega⟩
          have hI1 : 1 ≤ I := by omega
          have hI2 : I ≤ 40 := by omega
          have hG : G ≤ 40 := by omega
          refine .sr (.assign (.z (.seq (.sr (.move ?_)))))
          refine .lss ?_
          refine .move ?_
          refine .cast (d := 19) (u := .bool false) rfl (congrArg Value.bool (by first | (simp; done) | (simp; omega) | omega)) ?_
          refine .gT ?_
          refine .move ?_
          refine .gT ?_
          refine .gtr ?_
          refine .pickF ?_
          refine .move ?_
          refine .cast (d := 23) (u := .bool false) rfl (congrArg Value.bool (by first | (simp; done) | (simp; omega) | omega)) ?_
          refine .gT ?_
          refine .move ?_
          refine .gT ?_
          refine .lss ?_
          refine .pickF ?_
          refine .move ?_
          refine .cast (d := 27) (u := .bool false) rfl (congrArg Value.bool (by first | (simp; done) | (simp; omega) | omega)) ?_
          refine .gT ?_
          refine .move ?_
          refine .gT ?_
          refine .gtr ?_
          refine .pickF ?_
          refine .z ?_
          refine .condF rfl (congrArg Value.bool (by first | (simp; done) | (simp; omega) | omega)) ?_
          refine .skip (.next (.sr (.move ?_)))
          refine .call (hc := Tryz.call46) (sp := l10Fresh (many_is hI1 hI2)) (h := ?_)
          rintro _ _ ⟨d, f, m, rfl, rfl⟩
          rw [← mT_root]
          refine .move ?_
          refine .extract ?_
          refine .extract ?_
          refine .extract ?_
          refine .extract ?_
          refine .assign (.assign (.assign (.assign (.z (.seq (.sr (.move ?_)))))))
          refine .not ?_
          refine .z ?_
          refine .condF rfl rfl ?_
          refine .skip (.next (.seq (.sr (.assign (.z (.block ?_))))))
          refine .loopA (σ := Nat) (fun i => [(0, .int .i64 (I : Int)), (1, .int .i64 (G : Int)), (6, .pointer (some ⟨f, 0, none⟩)), (9, .int .i64 ((i : Nat) : Int))]) (fun i => FSR f (pD 500 I) (mT 0 (min i (I - 1))) :: F) (fun i => i ≤ I + 2) (fun i => I + 2 - i) 0 (Nat.zero_le _) ?_
          rintro i hi
          refine .seq (.sr (.move (.move ?_)))
          refine .add ?_
          refine .lss ?_
          refine .z ?_
          refine .cond rfl (fun hb => ?_) (fun hb => ?_)
          · have hlt : i < I + 2 := by have h : (i : Int) < (I : Int) + 2 := of_decide_eq_true hb; omega
            by_cases h8 : i + 1 < I
            · rw [Nat.min_eq_left (show i ≤ I - 1 by omega)]
              refine .skip (.next (.seq (.block (.sr (.move (.move ?_))))))
              refine .rem ?_
              refine .add ?_
              refine .cvt ?_ un3 un5
              refine .cast (d := 51) (u := bv (UInt8.ofNat (97 + i % 26))) rfl (congrArg (Value.int .u8) (by rw [UInt8.toNat_ofNat', IntWalk.u8_in _ (by omega)]; omega)) ?_
              refine .move ?_
              refine .quo ?_
              refine .add ?_
              refine .cvt ?_ un3 un5
              refine .cast (d := 55) (u := bv (UInt8.ofNat (97 + i / 26))) rfl (congrArg (Value.int .u8) (by rw [UInt8.toNat_ofNat', IntWalk.u8_in _ (by omega)]; omega)) ?_
              refine .buildS (fun b56 => ?_) (bs2M _ _)
              refine .to (A' := buf b56 5 2 (bvs [UInt8.ofNat (97 + i % 26), UInt8.ofNat (97 + i / 26)])) (buf_of_pt rfl) ?_
              refine .cvtBS (xs := [UInt8.ofNat (97 + i % 26), UInt8.ofNat (97 + i / 26)]) ?_ by33 st9 Reads.buf rfl
              refine .catS [47] [UInt8.ofNat (97 + i % 26), UInt8.ofNat (97 + i / 26)] ?_ (Nat.le_of_ble_eq_true rfl)
              refine .cast (d := 58) (u := sv (47 :: nmM i)) rfl rfl ?_
              refine .call (hc := Tryz.call17) (sp := mCr (f := f) (k := i) h8 hI2) (h := ?_)
              rintro _ _ ⟨rfl, rfl⟩
              refine .assign (.x (.move (.move ?_)))
              refine .sub ?_
              refine .lss ?_
              refine .move ?_
              refine .cast (d := 64) (u := .bool true) rfl (congrArg Value.bool (by first | (simp; done) | (simp; omega) | omega)) ?_
              refine .gT ?_
              refine .move ?_
              refine .gT ?_
              refine .nei ?_
              refine .pickT ?_
              refine .move ?_
              refine .cast (d := 68) (u := .bool false) rfl (congrArg Value.bool (by first | (simp; done) | (simp; omega) | omega)) ?_
              refine .gT ?_
              refine .move ?_
              refine .gT ?_
              refine .move ?_
              refine .gT ?_
              refine .sub ?_
              refine .gT ?_
              refine .geq ?_
              refine .gT ?_
              refine .move ?_
              refine .cast (d := 73) (u := .bool false) rfl (congrArg Value.bool (by first | (simp; done) | (simp; omega) | omega)) ?_
              refine .gF ?_
              refine .gF ?_
              refine .gT ?_
              refine .pickF ?_
              refine .pickF ?_
              refine .z ?_
              refine .condF rfl rfl ?_
              refine .skip (.blockNormal (.next (.region (.move ?_))))
              refine .add ?_
              refine .assign (.nil ?_)
              refine .to (A := FSR f (pD 500 I) (mT 0 (i + 1))) (A' := FSR f (pD 500 I) (mT 0 (min (i + 1) (I - 1)))) (fun h hh => by rw [Nat.min_eq_left (by omega)]; exact hh) ?_
              refine .cast (d := 9) (u := .int .i64 ((i + 1 : Nat) : Int)) rfl (congrArg (Value.int .i64) (by omega)) ?_
              exact .back (i + 1) (by show i + 1 ≤ I + 2; omega) (by show I + 2 - (i + 1) < I + 2 - i; omega)
            · rw [Nat.min_eq_right (show I - 1 ≤ i by omega)]
              refine .skip (.next (.seq (.block (.sr (.move (.move ?_))))))
              refine .rem ?_
              refine .add ?_
              refine .cvt ?_ un3 un5
              refine .cast (d := 51) (u := bv (UInt8.ofNat (97 + i % 26))) rfl (congrArg (Value.int .u8) (by rw [UInt8.toNat_ofNat', IntWalk.u8_in _ (by omega)]; omega)) ?_
              refine .move ?_
              refine .quo ?_
              refine .add ?_
              refine .cvt ?_ un3 un5
              refine .cast (d := 55) (u := bv (UInt8.ofNat (97 + i / 26))) rfl (congrArg (Value.int .u8) (by rw [UInt8.toNat_ofNat', IntWalk.u8_in _ (by omega)]; omega)) ?_
              refine .buildS (fun b56 => ?_) (bs2M _ _)
              refine .to (A' := buf b56 5 2 (bvs [UInt8.ofNat (97 + i % 26), UInt8.ofNat (97 + i / 26)])) (buf_of_pt rfl) ?_
              refine .cvtBS (xs := [UInt8.ofNat (97 + i % 26), UInt8.ofNat (97 + i / 26)]) ?_ by33 st9 Reads.buf rfl
              refine .catS [47] [UInt8.ofNat (97 + i % 26), UInt8.ofNat (97 + i / 26)] ?_ (Nat.le_of_ble_eq_true rfl)
              refine .cast (d := 58) (u := sv (47 :: nmM i)) rfl rfl ?_
              refine .call (hc := Tryz.call17) (sp := mCrFull (f := f) (k := I - 1) (n := I) (by omega) (by omega) hI2 (i := i) (by omega) (by omega)) (h := ?_)
              rintro _ _ ⟨rfl, rfl⟩
              refine .assign (.x (.move (.move ?_)))
              refine .sub ?_
              refine .lss ?_
              refine .move ?_
              refine .cast (d := 64) (u := .bool false) rfl (congrArg Value.bool (by first | (simp; done) | (simp; omega) | omega)) ?_
              refine .gF ?_
              refine .gF ?_
              refine .pickF ?_
              refine .move ?_
              refine .gT ?_
              refine .move ?_
              refine .gT ?_
              refine .move ?_
              refine .gT ?_
              refine .sub ?_
              refine .gT ?_
              refine .geq ?_
              refine .gT ?_
              refine .move ?_
              refine .cast (d := 73) (u := .bool true) rfl (congrArg Value.bool (by first | (simp; done) | (simp; omega) | omega)) ?_
              refine .gT ?_
              refine .move ?_
              refine .gT ?_
              refine .nei ?_
              refine .gT ?_
              refine .pickT ?_
              refine .pickF ?_
              refine .z ?_
              refine .condF rfl (congrArg Value.bool (by first | (simp; done) | (simp; omega) | omega)) ?_
              refine .skip (.blockNormal (.next (.region (.move ?_))))
              refine .add ?_
              refine .assign (.nil ?_)
              refine .to (A := FSR f (pD 500 I) (mT 0 (I - 1))) (A' := FSR f (pD 500 I) (mT 0 (min (i + 1) (I - 1)))) (fun h hh => by rw [Nat.min_eq_right (by omega)]; exact hh) ?_
              refine .cast (d := 9) (u := .int .i64 ((i + 1 : Nat) : Int)) rfl (congrArg (Value.int .i64) (by omega)) ?_
              exact .back (i + 1) (by show i + 1 ≤ I + 2; omega) (by show I + 2 - (i + 1) < I + 2 - i; omega)
          · have hge : i = I + 2 := by have h : ¬ (i : Int) < (I : Int) + 2 := of_decide_eq_false hb; omega
            subst hge
            rw [Nat.min_eq_right (show I - 1 ≤ I + 2 by omega)]
            refine .exit (.thenExit (.thenExit (.blockExit (?_))))
            refine .next (.sr (.assign (.z (.seq (.sr (.assign (.z (.block ?_))))))))
            refine .loopA (σ := Nat) (fun j => [(0, .int .i64 (I : Int)), (1, .int .i64 (G : Int)), (6, .pointer (some ⟨f, 0, none⟩)), (11, .int .i64 ((j : Nat) : Int)), (12, .int .i64 ((j : Nat) : Int))]) (fun j => FSR f (pD 500 I) (mT j (I - 1)) :: F) (fun j => j ≤ I - 1) (fun j => I - 1 - j) 0 (Nat.zero_le _) ?_
            rintro j hj
            refine .seq (.sr (.move (.move ?_)))
            refine .lss ?_
            refine .move ?_
            by_cases hjG : j < G
            · by_cases hjI : j < I - 1
              · refine .cast (d := 81) (u := .bool true) rfl (congrArg Value.bool (by first | (simp; done) | (simp; omega) | omega)) ?_
                refine .gT ?_
                refine .move ?_
                refine .gT ?_
                refine .move ?_
                refine .gT ?_
                refine .sub ?_
                refine .gT ?_
                refine .lss ?_
                refine .pickT ?_
                refine .z ?_
                refine .condT rfl (congrArg Value.bool (by first | (simp; done) | (simp; omega) | omega)) ?_
                refine .skip (.next (.seq (.block (.seq (.sr (.move (.move ?_)))))))
                refine .rem ?_
                refine .add ?_
                refine .cvt ?_ un3 un5
                refine .cast (d := 93) (u := bv (UInt8.ofNat (97 + j % 26))) rfl (congrArg (Value.int .u8) (by rw [UInt8.toNat_ofNat', IntWalk.u8_in _ (by omega)]; omega)) ?_
                refine .move ?_
                refine .quo ?_
                refine .add ?_
                refine .cvt ?_ un3 un5
                refine .cast (d := 97) (u := bv (UInt8.ofNat (97 + j / 26))) rfl (congrArg (Value.int .u8) (by rw [UInt8.toNat_ofNat', IntWalk.u8_in _ (by omega)]; omega)) ?_
                refine .buildS (fun b98 => ?_) (bs2M _ _)
                refine .to (A' := buf b98 5 2 (bvs [UInt8.ofNat (97 + j % 26), UInt8.ofNat (97 + j / 26)])) (buf_of_pt rfl) ?_
                refine .cvtBS (xs := [UInt8.ofNat (97 + j % 26), UInt8.ofNat (97 + j / 26)]) ?_ by33 st9 Reads.buf rfl
                refine .catS [47] [UInt8.ofNat (97 + j % 26), UInt8.ofNat (97 + j / 26)] ?_ (Nat.le_of_ble_eq_true rfl)
                refine .cast (d := 100) (u := sv (47 :: nmM j)) rfl rfl ?_
                refine .call (hc := Tryz.call50) (sp := mRm (f := f) (g := j) (k := I - 1) (n := I) hjI (by omega) hI2) (h := ?_)
                rintro _ _ ⟨rfl, rfl⟩
                refine .nei ?_
                refine .z ?_
                refine .condF rfl (congrArg Value.bool (by first | (simp; done) | (simp; omega) | omega)) ?_
                refine .skip (.next (.region (.move ?_)))
                refine .add ?_
                refine .assign (.nil (.blockNormal (.next (.region (.move ?_)))))
                refine .add ?_
                refine .assign (.nil ?_)
                refine .cast (d := 11) (u := .int .i64 ((j + 1 : Nat) : Int)) rfl (congrArg (Value.int .i64) (by omega)) ?_
                refine .cast (d := 12) (u := .int .i64 ((j + 1 : Nat) : Int)) rfl (congrArg (Value.int .i64) (by omega)) ?_
                exact .back (j + 1) (by show j + 1 ≤ I - 1; omega) (by show I - 1 - (j + 1) < I - 1 - j; omega)
              · have hc := mT_cnt (g := j) (k := I - 1) hj I (by omega)
                have hel := ents_msl j (I - 1)
                refine .cast (d := 81) (u := .bool true) rfl (congrArg Value.bool (by first | (simp; done) | (simp; omega) | omega)) ?_
                refine .gT ?_
                refine .move ?_
                refine .gT ?_
                refine .move ?_
                refine .gT ?_
                refine .sub ?_
                refine .gT ?_
                refine .lss ?_
                refine .pickT ?_
                refine .z ?_
                refine .condF rfl (congrArg Value.bool (by first | (simp; done) | (simp; omega) | omega)) ?_
                refine .exit (.thenExit (.thenExit (.blockExit (?_))))
                refine .next (.sr (.move ?_))
                refine .call (hc := Tryz.call51) (sp := fsList (f := f) (p := pD 500 I) (T := mT j (I - 1)) (path := [47]) (i := 0) (z := (NodeT.dir (msl j (I - 1))).size) (sl := msl j (I - 1)) (many_is hI1 hI2).ok (mT_ok (by omega)) (by decide) rfl (mT_0 _ _)) (h := ?_)
                rintro _ _ ⟨u, l, rfl, ⟨hlp, hls⟩, rfl⟩
                have hll := hlp.length_eq
                rw [hel] at hll
                have hml : (l.map (·.1)).length = I - 1 - j := by rw [List.length_map, hll]
                refine .fact (rowR_shape (el := 9) (size := 1) (v := u) (k := (l.map (·.1)).length) (xs := svs (l.map (·.1)))) (fun ⟨A, cc, hu, hR0, hc1, hc2, hlen⟩ => ?_)
                subst hu
                refine .move ?_
                refine .extract ?_
                refine .extract ?_
                refine .assign (.assign (.x (.move ?_)))
                refine .call (hc := Tryz.call52) (sp := fsFree (f := f) (p := pD 500 I) (T := mT j (I - 1)) (many_is hI1 hI2).ok) (h := ?_)
                rintro _ _ ⟨rfl, rfl⟩
                rw [show (pD 500 I).ino = I from rfl, hc]
                refine .move ?_
                refine .extract ?_
                refine .extract ?_
                refine .assign (.assign (.x (.move ?_)))
                refine .eqi ?_
                refine .move ?_
                refine .cast (d := 117) (u := .bool true) rfl (congrArg Value.bool (by first | (simp; done) | (simp; omega) | omega)) ?_
                refine .gT ?_
                refine .move ?_
                refine .gT ?_
                refine .lenS ?_ sl92
                refine .gT ?_
                refine .move ?_
                refine .gT ?_
                refine .sub ?_
                refine .gT ?_
                refine .move ?_
                refine .gT ?_
                refine .sub ?_
                refine .gT ?_
                refine .eqi ?_
                refine .pickT ?_
                refine .move ?_
                refine .cast (d := 126) (u := .bool true) rfl (congrArg Value.bool (by first | (simp; done) | (simp; omega) | omega)) ?_
                refine .gT ?_
                refine .move ?_
                refine .gT ?_
                refine .move ?_
                refine .gT ?_
                refine .eqi ?_
                refine .pickT ?_
                refine .move ?_
                refine .cast (d := 131) (u := .bool true) rfl (congrArg Value.bool (by first | (simp; done) | (simp; omega) | omega)) ?_
                refine .gT ?_
                refine .call (hc := Tryz.call45) (sp := l10Awake) (h := ?_)
                rintro _ _ ⟨rfl, rfl⟩
                refine .pickT ?_
                refine .assign (.z ?_)
                refine .ret (?_)
                exact .ret1 (h1 := .tmp (t := 4) rfl) ⟨_, ⟨rfl, rfl⟩, Am.auto⟩
            · have hc := mT_cnt (g := j) (k := I - 1) hj I (by omega)
              have hel := ents_msl j (I - 1)
              refine .cast (d := 81) (u := .bool false) rfl (congrArg Value.bool (by first | (simp; done) | (simp; omega) | omega)) ?_
              refine .gF ?_
              refine .gF ?_
              refine .gF ?_
              refine .gF ?_
              refine .pickF ?_
              refine .z ?_
              refine .condF rfl rfl ?_
              refine .exit (.thenExit (.thenExit (.blockExit (?_))))
              refine .next (.sr (.move ?_))
              refine .call (hc := Tryz.call51) (sp := fsList (f := f) (p := pD 500 I) (T := mT j (I - 1)) (path := [47]) (i := 0) (z := (NodeT.dir (msl j (I - 1))).size) (sl := msl j (I - 1)) (many_is hI1 hI2).ok (mT_ok (by omega)) (by decide) rfl (mT_0 _ _)) (h := ?_)
              rintro _ _ ⟨u, l, rfl, ⟨hlp, hls⟩, rfl⟩
              have hll := hlp.length_eq
              rw [hel] at hll
              have hml : (l.map (·.1)).length = I - 1 - j := by rw [List.length_map, hll]
              refine .fact (rowR_shape (el := 9) (size := 1) (v := u) (k := (l.map (·.1)).length) (xs := svs (l.map (·.1)))) (fun ⟨A, cc, hu, hR0, hc1, hc2, hlen⟩ => ?_)
              subst hu
              refine .move ?_
              refine .extract ?_
              refine .extract ?_
              refine .assign (.assign (.x (.move ?_)))
              refine .call (hc := Tryz.call52) (sp := fsFree (f := f) (p := pD 500 I) (T := mT j (I - 1)) (many_is hI1 hI2).ok) (h := ?_)
              rintro _ _ ⟨rfl, rfl⟩
              rw [show (pD 500 I).ino = I from rfl, hc]
              refine .move ?_
              refine .extract ?_
              refine .extract ?_
              refine .assign (.assign (.x (.move ?_)))
              refine .eqi ?_
              refine .move ?_
              refine .cast (d := 117) (u := .bool true) rfl (congrArg Value.bool (by first | (simp; done) | (simp; omega) | omega)) ?_
              refine .gT ?_
              refine .move ?_
              refine .gT ?_
              refine .lenS ?_ sl92
              refine .gT ?_
              refine .move ?_
              refine .gT ?_
              refine .sub ?_
              refine .gT ?_
              refine .move ?_
              refine .gT ?_
              refine .sub ?_
              refine .gT ?_
              refine .eqi ?_
              refine .pickT ?_
              refine .move ?_
              refine .cast (d := 126) (u := .bool true) rfl (congrArg Value.bool (by first | (simp; done) | (simp; omega) | omega)) ?_
              refine .gT ?_
              refine .move ?_
              refine .gT ?_
              refine .move ?_
              refine .gT ?_
              refine .eqi ?_
              refine .pickT ?_
              refine .move ?_
              refine .cast (d := 131) (u := .bool true) rfl (congrArg Value.bool (by first | (simp; done) | (simp; omega) | omega)) ?_
              refine .gT ?_
              refine .call (hc := Tryz.call45) (sp := l10Awake) (h := ?_)
              rintro _ _ ⟨rfl, rfl⟩
              refine .pickT ?_
              refine .assign (.z ?_)
              refine .ret (?_)
              exact .ret1 (h1 := .tmp (t := 4) rfl) ⟨_, ⟨rfl, rfl⟩, Am.auto⟩
end Go.Proofs.YtdmjkjeoamiedaaGreatDoor
end
