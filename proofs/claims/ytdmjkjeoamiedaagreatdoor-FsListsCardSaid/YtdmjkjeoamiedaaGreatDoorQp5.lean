/- A part of the proof of lawFsLists: texts of this work put together. -/
import Derived.Test.YtdmjkjeoamiedaaGreatDoorQp4
import Derived.KernelRfl
import Derived.Laws.Concat
set_option linter.unusedVariables false
set_option linter.unusedSimpArgs false
set_option linter.unusedSectionVars false
section
namespace Go.Proofs.YtdmjkjeoamiedaaGreatDoor
open Go
theorem sc23 : scalarOk Tryz.prog 23 = true := by kernel_rfl
theorem sc131 : scalarOk Tryz.prog 131 = true := by kernel_rfl
def makeE (T : FT) (path : Bytes) : Nat :=
  if path = [47] then 5 else if (parentT T path).2.2 ≠ 0 then (parentT T path).2.2 else if (findT T (parentT T path).1 (parentT T path).2.1).2 = 4 then 0 else if (findT T (parentT T path).1 (parentT T path).2.1).2 = 0 then 5 else (findT T (parentT T path).1 (parentT T path).2.1).2
theorem findT_no {T : FT} {d : Nat} {nm : Bytes} {sl : List Slot} (h : (findT T d nm).2 = 4) (hd : T d = some (.dir sl)) : nameOk nm = true ∧ lookS nm sl = none := by
  unfold findT at h
  split at h
  · rename_i hn
    refine ⟨hn, ?_⟩
    simp only [hd] at h
    split at h
    · cases h
    · assumption
  · cases h
def NodeT.empty : NodeT → Prop
  | .file b => b = []
  | .dir sl => sl = []
theorem NodeT.empty_f {x : NodeT} (h : x.empty) : x.f = (x.kind, []) := by
  cases x with
  | file b => cases h; rfl
  | dir sl => cases h; rfl
def mkT (T : FT) (d : Nat) (sl : List Slot) (nm : Bytes) (i : Nat) (x : NodeT) : FT := updT (updT T i (some x)) d (some (.dir (setS sl (freeS sl) (some (nm, i)))))
theorem fsMakeCE {f s a c mp : Nat} {p : Pl} {T : FT} {path : Bytes} {bp bf bk kind : Nat} (ho : PlOk p) (hT : TOk T) (hpl : path.length ≤ 1000000) {e : Nat} (hm : makeE T path = e) (he : e ≠ 0) : Spec Tryz.prog 144 #[.pointer (some ⟨bp, 0, none⟩), .pointer (some ⟨bf, 0, none⟩), .pointer (some ⟨bk, 0, none⟩)] [pt f (fO c a s false false false mp), LD mp T, IN s a c p (fmT T) (fmT T) 0 true, bun [pt bp (.cells #[sv path] 9 (0, 0)), pt bf (.cells #[.pointer (some ⟨f, 0, none⟩)] 23 (0, 0)), pt bk (.cells #[nI kind] 3 (0, 0))]] fun F v M => v = nI e ∧ M = pt f (fO c a s false false false mp) :: LD mp T :: IN s a c p (fmT T) (fmT T) 0 true :: bun [pt bp (.cells #[sv path] 9 (0, 0)), pt bf (.cells #[.pointer (some ⟨f, 0, none⟩)] 23 (0, 0)), pt bk (.cells #[nI kind] 3 (0, 0))] :: F := by
  refine Spec.intro Tryz.func144 rfl rfl fun B F => ?_
  simp only [Tryz.ntmps144, List.cons_append, List.nil_append, env0, Nat.reduceAdd]
  refine .openR (bun.opens _) fun _ _ => ?_
  simp only [List.cons_append, List.nil_append]
  by_cases hp : path = [47]
  · have he5 : e = 5 := by rw [← hm]; unfold makeE; rw [if_pos hp]
    subst he5
    refine .sr (.assign (.z (.seq (.sr ?_))))
    refine .ld ?_ sc9
    refine .eqS path [47] ?_
    refine .cast (d := 11) (u := .bool true) rfl (congrArg Value.bool (decide_eq_true hp)) ?_
    refine .z ?_
    refine .condT rfl rfl ?_
    refine .sr (.assign (.z ?_))
    refine .ret (.thenRet (?_))
    refine .shutR (bun.opens [pt bp (.cells #[sv path] 9 (0, 0)), pt bf (.cells #[.pointer (some ⟨f, 0, none⟩)] 23 (0, 0)), pt bk (.cells #[nI kind] 3 (0, 0))]) () trivial ?_
    exact .ret1 (h1 := .tmp (t := 3) rfl) ⟨_, ⟨rfl, rfl⟩, Am.auto⟩
  · unfold makeE at hm
    rw [if_neg hp] at hm
    obtain ⟨d, nm, pe, hpar⟩ : ∃ d nm pe, parentT T path = (d, nm, pe) := ⟨_, _, _, rfl⟩
    rw [hpar] at hm
    simp only at hm
    by_cases hpe : pe = 0
    · subst hpe
      rw [if_neg (by decide)] at hm
      obtain ⟨i, fe, hfi⟩ : ∃ i fe, findT T d nm = (i, fe) := ⟨_, _, rfl⟩
      rw [hfi] at hm
      simp only at hm
      have hfe4 : fe ≠ 4 := fun h => he (by rw [← hm, if_pos h])
      rw [if_neg hfe4] at hm
      by_cases hf0 : fe = 0
      · subst hf0
        rw [if_pos rfl] at hm
        subst hm
        refine .sr (.assign (.z (.seq (.sr ?_))))
        refine .ld ?_ sc9
        refine .eqS path [47] ?_
        refine .cast (d := 11) (u := .bool false) rfl (congrArg Value.bool (decide_eq_false hp)) ?_
        refine .z ?_
        refine .condF rfl rfl ?_
        refine .skip (.next (.sr ?_))
        refine .ld ?_ sc23
        refine .ld ?_ sc9
        refine .call (hc := Tryz.call109) (sp := fsParent (f := f) (s := s) (a := a) (c := c) (mp := mp) (b := false) (ov := false) (dead := false) (p := p) (T := T) (F0 := fmT T) (W := 0) (op := true) (path := path) ho hT hpl) (h := ?_)
        rintro _ _ ⟨rfl, rfl⟩
        rw [hpar]
        refine .move ?_
        refine .extract ?_
        refine .extract ?_
        refine .extract ?_
        refine .assign (.assign (.assign (.z (.seq (.sr (.move ?_))))))
        refine .nei ?_
        refine .z ?_
        refine .condF rfl (congrArg Value.bool (by first | (simp; done) | (simp; omega) | omega)) ?_
        refine .skip (.next (.seq (.sr ?_)))
        refine .ld ?_ sc23
        refine .move (.move ?_)
        refine .call (hc := Tryz.call110) (sp := fsFind (f := f) (s := s) (a := a) (c := c) (mp := mp) (b := false) (ov := false) (dead := false) (p := p) (T := T) (F0 := fmT T) (W := 0) (op := true) (d := d) (nm := nm) ho hT) (h := ?_)
        rintro _ _ ⟨rfl, rfl⟩
        rw [hfi]
        refine .move ?_
        refine .extract ?_
        refine .extract ?_
        refine .assign (.assign (.x (.move ?_)))
        refine .nei ?_
        refine .z ?_
        refine .condT rfl (congrArg Value.bool (by first | (simp; done) | (simp; omega) | omega)) ?_
        refine .seq (.sr (.move ?_))
        refine .eqi ?_
        refine .z ?_
        refine .condT rfl (congrArg Value.bool (by first | (simp; done) | (simp; omega) | omega)) ?_
        refine .sr (.assign (.z ?_))
        refine .ret (.thenRet (.thenRet (?_)))
        refine .shutR (bun.opens [pt bp (.cells #[sv path] 9 (0, 0)), pt bf (.cells #[.pointer (some ⟨f, 0, none⟩)] 23 (0, 0)), pt bk (.cells #[nI kind] 3 (0, 0))]) () trivial ?_
        exact .ret1 (h1 := .tmp (t := 3) rfl) ⟨_, ⟨rfl, rfl⟩, Am.auto⟩
      · rw [if_neg hf0] at hm
        subst hm
        refine .sr (.assign (.z (.seq (.sr ?_))))
        refine .ld ?_ sc9
        refine .eqS path [47] ?_
        refine .cast (d := 11) (u := .bool false) rfl (congrArg Value.bool (decide_eq_false hp)) ?_
        refine .z ?_
        refine .condF rfl rfl ?_
        refine .skip (.next (.sr ?_))
        refine .ld ?_ sc23
        refine .ld ?_ sc9
        refine .call (hc := Tryz.call109) (sp := fsParent (f := f) (s := s) (a := a) (c := c) (mp := mp) (b := false) (ov := false) (dead := false) (p := p) (T := T) (F0 := fmT T) (W := 0) (op := true) (path := path) ho hT hpl) (h := ?_)
        rintro _ _ ⟨rfl, rfl⟩
        rw [hpar]
        refine .move ?_
        refine .extract ?_
        refine .extract ?_
        refine .extract ?_
        refine .assign (.assign (.assign (.z (.seq (.sr (.move ?_))))))
        refine .nei ?_
        refine .z ?_
        refine .condF rfl (congrArg Value.bool (by first | (simp; done) | (simp; omega) | omega)) ?_
        refine .skip (.next (.seq (.sr ?_)))
        refine .ld ?_ sc23
        refine .move (.move ?_)
        refine .call (hc := Tryz.call110) (sp := fsFind (f := f) (s := s) (a := a) (c := c) (mp := mp) (b := false) (ov := false) (dead := false) (p := p) (T := T) (F0 := fmT T) (W := 0) (op := true) (d := d) (nm := nm) ho hT) (h := ?_)
        rintro _ _ ⟨rfl, rfl⟩
        rw [hfi]
        refine .move ?_
        refine .extract ?_
        refine .extract ?_
        refine .assign (.assign (.x (.move ?_)))
        refine .nei ?_
        refine .z ?_
        refine .condT rfl (congrArg Value.bool (by first | (simp; done) | (simp; omega) | omega)) ?_
        refine .seq (.sr (.move ?_))
        refine .eqi ?_
        refine .z ?_
        refine .condF rfl (congrArg Value.bool (by first | (simp; done) | (simp; omega) | omega)) ?_
        refine .skip (.next (.sr (.move (.assign (.z ?_)))))
        refine .ret (.thenRet (?_))
        refine .shutR (bun.opens [pt bp (.cells #[sv path] 9 (0, 0)), pt bf (.cells #[.pointer (some ⟨f, 0, none⟩)] 23 (0, 0)), pt bk (.cells #[nI kind] 3 (0, 0))]) () trivial ?_
        exact .ret1 (h1 := .tmp (t := 3) rfl) ⟨_, ⟨rfl, rfl⟩, Am.auto⟩
    · rw [if_pos hpe] at hm
      subst hm
      refine .sr (.assign (.z (.seq (.sr ?_))))
      refine .ld ?_ sc9
      refine .eqS path [47] ?_
      refine .cast (d := 11) (u := .bool false) rfl (congrArg Value.bool (decide_eq_false hp)) ?_
      refine .z ?_
      refine .condF rfl rfl ?_
      refine .skip (.next (.sr ?_))
      refine .ld ?_ sc23
      refine .ld ?_ sc9
      refine .call (hc := Tryz.call109) (sp := fsParent (f := f) (s := s) (a := a) (c := c) (mp := mp) (b := false) (ov := false) (dead := false) (p := p) (T := T) (F0 := fmT T) (W := 0) (op := true) (path := path) ho hT hpl) (h := ?_)
      rintro _ _ ⟨rfl, rfl⟩
      rw [hpar]
      refine .move ?_
      refine .extract ?_
      refine .extract ?_
      refine .extract ?_
      refine .assign (.assign (.assign (.z (.seq (.sr (.move ?_))))))
      refine .nei ?_
      refine .z ?_
      refine .condT rfl (congrArg Value.bool (by first | (simp; done) | (simp; omega) | omega)) ?_
      refine .sr (.move (.assign (.z ?_)))
      refine .ret (.thenRet (?_))
      refine .shutR (bun.opens [pt bp (.cells #[sv path] 9 (0, 0)), pt bf (.cells #[.pointer (some ⟨f, 0, none⟩)] 23 (0, 0)), pt bk (.cells #[nI kind] 3 (0, 0))]) () trivial ?_
      exact .ret1 (h1 := .tmp (t := 3) rfl) ⟨_, ⟨rfl, rfl⟩, Am.auto⟩
theorem fsMakeC {f s a c mp : Nat} {p : Pl} {T : FT} {path : Bytes} {bp bf bk kind : Nat} (ho : PlOk p) (hT : TOk T) (hpl : path.length ≤ 1000000) {d i : Nat} {nm : Bytes} {sl : List Slot} {x : NodeT} (hp : path ≠ [47]) (hpar : parentT T path = (d, nm, 0)) (hfi : findT T d nm = (0, 4)) (hd : T d = some (.dir sl)) (hi : i < p.ino) (hTi : T i = none) (hb : ∀ j < i, T j ≠ none) (hx : x.empty) (hk : x.kind = kind) (hw : Rw p 0 14) (hfit : tot (fmT T) p.ino + has (max (64 * sl.length) (64 * freeS sl + 64)) ≤ p.dc + has (64 * sl.length)) : Spec Tryz.prog 144 #[.pointer (some ⟨bp, 0, none⟩), .pointer (some ⟨bf, 0, none⟩), .pointer (some ⟨bk, 0, none⟩)] [pt f (fO c a s false false false mp), LD mp T, IN s a c p (fmT T) (fmT T) 0 true, bun [pt bp (.cells #[sv path] 9 (0, 0)), pt bf (.cells #[.pointer (some ⟨f, 0, none⟩)] 23 (0, 0)), pt bk (.cells #[nI kind] 3 (0, 0))]] fun F v M => v = okV ∧ M = pt f (fO c a s false false false mp) :: LD mp T :: IN s a c p (fmT T) (fmT (mkT T d sl nm i x)) 9 true :: bun [pt bp (.cells #[sv path] 9 (0, 0)), pt bf (.cells #[.pointer (some ⟨f, 0, none⟩)] 23 (0, 0)), pt bk (.cells #[nI kind] 3 (0, 0))] :: F := by
  refine Spec.intro Tryz.func144 rfl rfl fun B F => ?_
  simp only [Tryz.ntmps144, List.cons_append, List.nil_append, env0, Nat.reduceAdd]
  refine .openR (bun.opens _) fun _ _ => ?_
  simp only [List.cons_append, List.nil_append]
  have hlk := findT_no (by rw [hfi]) hd
  have hto := hT d sl hd
  have hfl := freeS_le sl
  have hne : d ≠ i := fun h => by rw [h, hTi] at hd; cases hd
  have hx0 : x.f = (kind, []) := by rw [NodeT.empty_f hx, hk]
  have hk12 : kind = 1 ∨ kind = 2 := by
    rw [← hk]
    cases x with
    | file b => exact .inl rfl
    | dir sl => exact .inr rfl
  have hF1 : updM (fmT T) i (some (kind, [])) = fmT (updT T i (some x)) := by rw [← hx0, fmT_updS]
  have hi32 : i < 4294967296 := by have := ho.i2; omega
  have htot : tot (fmT (updT T i (some x))) p.ino = tot (fmT T) p.ino := by
    have h := tot_upd' (fmT T) hi (some (kind, []))
    rw [hF1, fmT_none hTi] at h
    have h1 : hasO none = 0 := rfl
    have h2 : hasO (some (kind, ([] : Bytes))) = 0 := by show has 0 = 0; rfl
    omega
  have hd1 : fmT (updT T i (some x)) d = some (2, dirB sl) := by
    have : updT T i (some x) d = some (.dir sl) := by rw [updT_other _ _ hne]; exact hd
    exact fmT_some this
  refine .sr (.assign (.z (.seq (.sr ?_))))
  refine .ld ?_ sc9
  refine .eqS path [47] ?_
  refine .cast (d := 11) (u := .bool false) rfl (congrArg Value.bool (decide_eq_false hp)) ?_
  refine .z ?_
  refine .condF rfl rfl ?_
  refine .skip (.next (.sr ?_))
  refine .ld ?_ sc23
  refine .ld ?_ sc9
  refine .call (hc := Tryz.call109) (sp := fsParent (f := f) (s := s) (a := a) (c := c) (mp := mp) (b := false) (ov := false) (dead := false) (p := p) (T := T) (F0 := fmT T) (W := 0) (op := true) (path := path) ho hT hpl) (h := ?_)
  rintro _ _ ⟨rfl, rfl⟩
  rw [hpar]
  refine .move ?_
  refine .extract ?_
  refine .extract ?_
  refine .extract ?_
  refine .assign (.assign (.assign (.z (.seq (.sr (.move ?_))))))
  refine .nei ?_
  refine .z ?_
  refine .condF rfl (congrArg Value.bool (by first | (simp; done) | (simp; omega) | omega)) ?_
  refine .skip (.next (.seq (.sr ?_)))
  refine .ld ?_ sc23
  refine .move (.move ?_)
  refine .call (hc := Tryz.call110) (sp := fsFind (f := f) (s := s) (a := a) (c := c) (mp := mp) (b := false) (ov := false) (dead := false) (p := p) (T := T) (F0 := fmT T) (W := 0) (op := true) (d := d) (nm := nm) ho hT) (h := ?_)
  rintro _ _ ⟨rfl, rfl⟩
  rw [hfi]
  refine .move ?_
  refine .extract ?_
  refine .extract ?_
  refine .assign (.assign (.x (.move ?_)))
  refine .nei ?_
  refine .z ?_
  refine .condF rfl (congrArg Value.bool (by first | (simp; done) | (simp; omega) | omega)) ?_
  refine .skip (.next (.seq ?_))
  refine .dr ([pt bf (.cells #[.pointer (some ⟨f, 0, none⟩)] 23 (0, 0)), pt bk (.cells #[nI kind] 3 (0, 0)), pt f (fO c a s false false false mp)]) [] 11 mixed .autoJ ?_
  refine .tk 0 rfl (.ld sc23) ?_
  refine .tk 1 rfl .nilCheck ?_
  refine .tk 2 rfl (.fa fo129_2) ?_
  refine .tk 3 rfl (.ld sc126) ?_
  refine .tk 4 rfl (.ld sc3) ?_
  refine .on 5 rfl fun hnp => ?_
  refine .call (hc := Tryz.call145) (sp := nMake (s := s) (a := a) (c := c) (p := p) (F0 := fmT T) (F := fmT T) (W := 0) (i := i) (k := kind) ho hk12 (hw.less (by omega)) hi (fmT_none hTi) (fun j hj h => by have := hb j hj; unfold fmT at h; cases hj2 : T j with | none => exact this hj2 | some y => rw [hj2] at h; cases h)) (h := ?_)
  rintro _ _ ⟨rfl, rfl⟩
  rw [hF1]
  refine .nil (.wa hnp ?_)
  refine .tk 6 rfl .move ?_
  refine .tk 7 rfl .extract ?_
  refine .tk 8 rfl .extract ?_
  refine .tk 9 rfl .assign ?_
  refine .tk 10 rfl .assign ?_
  refine .fin ?_
  refine .next (.seq (.sr (.move ?_)))
  refine .nei ?_
  refine .z ?_
  refine .condF rfl (congrArg Value.bool (by first | (simp; done) | (simp; omega) | omega)) ?_
  refine .skip (.next (.sr ?_))
  refine .ld ?_ sc23
  refine .nilCheck ?_
  refine .fa ?_ fo129_2
  refine .ld ?_ sc126
  refine .move (.move (.move ?_))
  refine .call (hc := Tryz.call98) (sp := dAdd (s := s) (a := a) (c := c) (p := p) (F0 := fmT T) (Fm := fmT (updT T i (some x))) (W := 0 + 1) (d := d) (nm := nm) (sl := sl) ho hlk.1 hd1 hto.1 (by omega) (lookS_none hlk.2) (i := i) hi32 (by unfold Rw at hw ⊢; omega) (by omega) (by rw [htot]; exact hfit)) (h := ?_)
  rintro _ _ ⟨rfl, rfl⟩
  rw [show updM (fmT (updT T i (some x))) d (some (2, dirB (setS sl (freeS sl) (some (nm, i))))) = (fmT (mkT T d sl nm i x)) from fmT_updS _ _ (.dir _)]
  refine .assign (.z ?_)
  refine .ret (?_)
  refine .shutR (bun.opens [pt bp (.cells #[sv path] 9 (0, 0)), pt bf (.cells #[.pointer (some ⟨f, 0, none⟩)] 23 (0, 0)), pt bk (.cells #[nI kind] 3 (0, 0))]) () trivial ?_
  exact .ret1 (h1 := .tmp (t := 3) rfl) ⟨_, ⟨rfl, rfl⟩, Am.auto⟩
def fsLs (f : Nat) (p : Pl) (T : FT) (y : Nat × Nat × Nat × Nat) : List HP := [pt f (fO y.1 y.2.1 y.2.2.1 false false false y.2.2.2), LD y.2.2.2 T, IN y.2.2.1 y.2.1 y.1 p (fmT T) (fmT T) 0 false]
def FSR (f : Nat) (p : Pl) (T : FT) : HP := fun h => ∃ y, True ∧ star (fsLs f p T y) h
theorem FSR.opens (f : Nat) (p : Pl) (T : FT) : Opens (FSR f p T) (fun _ => True) (fsLs f p T) := ⟨fun h hh => hh, fun x hp h hh => ⟨x, hp, hh⟩⟩
attribute [irreducible] FSR
theorem fsMake {f : Nat} {p : Pl} {T : FT} {kind : Nat} {path : Bytes} (ho : PlOk p) (hT : TOk T) (hpl : path.length ≤ 1000000) {d i : Nat} {nm : Bytes} {sl : List Slot} {x : NodeT} (hp : path ≠ [47]) (hpar : parentT T path = (d, nm, 0)) (hfi : findT T d nm = (0, 4)) (hd : T d = some (.dir sl)) (hi : i < p.ino) (hTi : T i = none) (hb : ∀ j < i, T j ≠ none) (hx : x.empty) (hk : x.kind = kind) (hw : Rw p 0 14) (hfit : tot (fmT T) p.ino + has (max (64 * sl.length) (64 * freeS sl + 64)) ≤ p.dc + has (64 * sl.length)) : Spec Tryz.prog 68 #[.pointer (some ⟨f, 0, none⟩), sv path, nI kind] [FSR f p T] fun F v M => v = okV ∧ M = FSR f p (mkT T d sl nm i x) :: F := by
  refine Spec.intro Tryz.func68 rfl rfl fun B F => ?_
  simp only [Tryz.ntmps68, List.cons_append, List.nil_append, env0, Nat.reduceAdd]
  refine .openR (FSR.opens f p T) fun y _ => ?_
  obtain ⟨c, a, s, mp⟩ := y
  simp only [fsLs, List.cons_append, List.nil_append]
  refine .sr ?_
  refine .box fun b3 => ?_
  refine .box fun b4 => ?_
  refine .box fun b5 => ?_
  refine .assign (.x ?_)
  refine .ld ?_ sc23
  refine .makeFuncB ?_
  refine .shutR (bun.opens [pt b4 (.cells #[sv path] 9 (0, 0)), pt b3 (.cells #[.pointer (some ⟨f, 0, none⟩)] 23 (0, 0)), pt b5 (.cells #[nI kind] 3 (0, 0))]) () trivial ?_
  refine .call (hc := Tryz.call92) (sp := fsChange (s := s) (a := a) (c := c) (p := p) (f := f) (mp := mp) (T := mkT T d sl nm i x) (S := T) ho (hc := Tryz.call144) (sp := (fsMakeC (bp := b4) (bf := b3) (bk := b5) ho hT hpl hp hpar hfi hd hi hTi hb hx hk hw hfit))) (h := ?_)
  rintro _ _ ⟨rfl, rfl⟩
  refine .assign (.z ?_)
  refine .ret (?_)
  refine .shutR (FSR.opens f p (mkT T d sl nm i x)) (c, a, s, mp) trivial ?_
  exact .ret1 (h1 := .tmp (t := 6) rfl) ⟨_, ⟨rfl, rfl⟩, Am.auto⟩
theorem fsMakeE {f : Nat} {p : Pl} {T : FT} {kind : Nat} {path : Bytes} (ho : PlOk p) (hT : TOk T) (hpl : path.length ≤ 1000000) {e : Nat} (hm : makeE T path = e) (he : e ≠ 0) : Spec Tryz.prog 68 #[.pointer (some ⟨f, 0, none⟩), sv path, nI kind] [FSR f p T] fun F v M => v = nI e ∧ M = FSR f p T :: F := by
  refine Spec.intro Tryz.func68 rfl rfl fun B F => ?_
  simp only [Tryz.ntmps68, List.cons_append, List.nil_append, env0, Nat.reduceAdd]
  refine .openR (FSR.opens f p T) fun y _ => ?_
  obtain ⟨c, a, s, mp⟩ := y
  simp only [fsLs, List.cons_append, List.nil_append]
  refine .sr ?_
  refine .box fun b3 => ?_
  refine .box fun b4 => ?_
  refine .box fun b5 => ?_
  refine .assign (.x ?_)
  refine .ld ?_ sc23
  refine .makeFuncB ?_
  refine .shutR (bun.opens [pt b4 (.cells #[sv path] 9 (0, 0)), pt b3 (.cells #[.pointer (some ⟨f, 0, none⟩)] 23 (0, 0)), pt b5 (.cells #[nI kind] 3 (0, 0))]) () trivial ?_
  refine .call (hc := Tryz.call92) (sp := fsChangeE (s := s) (a := a) (c := c) (p := p) (f := f) (mp := mp) (T := T) (S := T) he ho (hc := Tryz.call144) (sp := (fsMakeCE (bp := b4) (bf := b3) (bk := b5) ho hT hpl hm he))) (h := ?_)
  rintro _ _ ⟨rfl, rfl⟩
  refine .assign (.z ?_)
  refine .ret (?_)
  refine .shutR (FSR.opens f p T) (c, a, s, mp) trivial ?_
  exact .ret1 (h1 := .tmp (t := 6) rfl) ⟨_, ⟨rfl, rfl⟩, Am.auto⟩
theorem fsCreate {f : Nat} {p : Pl} {T : FT} {path : Bytes} (ho : PlOk p) (hT : TOk T) (hpl : path.length ≤ 1000000) {d i : Nat} {nm : Bytes} {sl : List Slot} {x : NodeT} (hp : path ≠ [47]) (hpar : parentT T path = (d, nm, 0)) (hfi : findT T d nm = (0, 4)) (hd : T d = some (.dir sl)) (hi : i < p.ino) (hTi : T i = none) (hb : ∀ j < i, T j ≠ none) (hx : x.empty) (hk : x.kind = 1) (hw : Rw p 0 14) (hfit : tot (fmT T) p.ino + has (max (64 * sl.length) (64 * freeS sl + 64)) ≤ p.dc + has (64 * sl.length)) : Spec Tryz.prog 17 #[.pointer (some ⟨f, 0, none⟩), sv path] [FSR f p T] fun F v M => v = okV ∧ M = FSR f p (mkT T d sl nm i x) :: F := by
  refine Spec.intro Tryz.func17 rfl rfl fun B F => ?_
  simp only [Tryz.ntmps17, List.cons_append, List.nil_append, env0, Nat.reduceAdd]
  refine .sr (.assign (.x (.move (.move ?_))))
  refine .call (hc := Tryz.call68) (sp := fsMake (f := f) (p := p) (T := T) (kind := 1) ho hT hpl hp hpar hfi hd hi hTi hb hx hk hw hfit) (h := ?_)
  rintro _ _ ⟨rfl, rfl⟩
  refine .assign (.z ?_)
  refine .ret (?_)
  exact .ret1 (h1 := .tmp (t := 4) rfl) ⟨_, ⟨rfl, rfl⟩, Am.auto⟩
theorem fsCreateE {f : Nat} {p : Pl} {T : FT} {path : Bytes} (ho : PlOk p) (hT : TOk T) (hpl : path.length ≤ 1000000) {e : Nat} (hm : makeE T path = e) (he : e ≠ 0) : Spec Tryz.prog 17 #[.pointer (some ⟨f, 0, none⟩), sv path] [FSR f p T] fun F v M => v = nI e ∧ M = FSR f p T :: F := by
  refine Spec.intro Tryz.func17 rfl rfl fun B F => ?_
  simp only [Tryz.ntmps17, List.cons_append, List.nil_append, env0, Nat.reduceAdd]
  refine .sr (.assign (.x (.move (.move ?_))))
  refine .call (hc := Tryz.call68) (sp := fsMakeE (f := f) (p := p) (T := T) (kind := 1) ho hT hpl hm he) (h := ?_)
  rintro _ _ ⟨rfl, rfl⟩
  refine .assign (.z ?_)
  refine .ret (?_)
  exact .ret1 (h1 := .tmp (t := 4) rfl) ⟨_, ⟨rfl, rfl⟩, Am.auto⟩
theorem fsMkdir {f : Nat} {p : Pl} {T : FT} {path : Bytes} (ho : PlOk p) (hT : TOk T) (hpl : path.length ≤ 1000000) {d i : Nat} {nm : Bytes} {sl : List Slot} {x : NodeT} (hp : path ≠ [47]) (hpar : parentT T path = (d, nm, 0)) (hfi : findT T d nm = (0, 4)) (hd : T d = some (.dir sl)) (hi : i < p.ino) (hTi : T i = none) (hb : ∀ j < i, T j ≠ none) (hx : x.empty) (hk : x.kind = 2) (hw : Rw p 0 14) (hfit : tot (fmT T) p.ino + has (max (64 * sl.length) (64 * freeS sl + 64)) ≤ p.dc + has (64 * sl.length)) : Spec Tryz.prog 28 #[.pointer (some ⟨f, 0, none⟩), sv path] [FSR f p T] fun F v M => v = okV ∧ M = FSR f p (mkT T d sl nm i x) :: F := by
  refine Spec.intro Tryz.func28 rfl rfl fun B F => ?_
  simp only [Tryz.ntmps28, List.cons_append, List.nil_append, env0, Nat.reduceAdd]
  refine .sr (.assign (.x (.move (.move ?_))))
  refine .call (hc := Tryz.call68) (sp := fsMake (f := f) (p := p) (T := T) (kind := 2) ho hT hpl hp hpar hfi hd hi hTi hb hx hk hw hfit) (h := ?_)
  rintro _ _ ⟨rfl, rfl⟩
  refine .assign (.z ?_)
  refine .ret (?_)
  exact .ret1 (h1 := .tmp (t := 4) rfl) ⟨_, ⟨rfl, rfl⟩, Am.auto⟩
theorem fsEditC {f s a c mp : Nat} {p : Pl} {T : FT} {k : FuncId} {cap : Array Value} {R R2 : HP} {path : Bytes} {bp bf bd : Nat} (ho : PlOk p) (hT : TOk T) (hpl : path.length ≤ 1000000) {i z e W : Nat} {F1 : FM} (hft : fileT T path = (i, 1, z, 0)) (hc : ∀ args w, (callFunc k args).run Tryz.prog w = .ok (.enter k args) w)
    (sp : Spec Tryz.prog k (#[nI i, .agg #[nI 1, nI z]] ++ cap) [pt f (fO c a s false false false mp), LD mp T, IN s a c p (fmT T) (fmT T) 0 true, R] fun F v M => v = nI e ∧ M = pt f (fO c a s false false false mp) :: LD mp T :: IN s a c p (fmT T) F1 W true :: R2 :: F) : Spec Tryz.prog 146 #[.pointer (some ⟨bf, 0, none⟩), .pointer (some ⟨bp, 0, none⟩), .pointer (some ⟨bd, 0, none⟩)] [pt f (fO c a s false false false mp), LD mp T, IN s a c p (fmT T) (fmT T) 0 true, bun [pt bf (.cells #[.pointer (some ⟨f, 0, none⟩)] 23 (0, 0)), pt bp (.cells #[sv path] 9 (0, 0)), pt bd (.cells #[.func (.func k) #[] cap] 131 (0, 0)), R]] fun F v M => v = nI e ∧ M = pt f (fO c a s false false false mp) :: LD mp T :: IN s a c p (fmT T) F1 W true :: bun [pt bf (.cells #[.pointer (some ⟨f, 0, none⟩)] 23 (0, 0)), pt bp (.cells #[sv path] 9 (0, 0)), pt bd (.cells #[.func (.func k) #[] cap] 131 (0, 0)), R2] :: F := by
  refine Spec.intro Tryz.func146 rfl rfl fun B F => ?_
  simp only [Tryz.ntmps146, List.cons_append, List.nil_append, env0, Nat.reduceAdd]
  refine .openR (bun.opens _) fun _ _ => ?_
  simp only [List.cons_append, List.nil_append]
  refine .sr (.assign (.x ?_))
  refine .ld ?_ sc23
  refine .ld ?_ sc9
  refine .call (hc := Tryz.call106) (sp := fsFileAt (f := f) (s := s) (a := a) (c := c) (mp := mp) (b := false) (ov := false) (dead := false) (p := p) (T := T) (F0 := fmT T) (W := 0) (op := true) (path := path) ho hT hpl) (h := ?_)
  rintro _ _ ⟨rfl, rfl⟩
  rw [hft]
  refine .move ?_
  refine .extract ?_
  refine .extract ?_
  refine .extract ?_
  refine .alloc z51 fun b5 => ?_
  refine .assign ?_
  refine .stV ?_ agg51
  refine .assign (.z (.seq (.sr (.move ?_))))
  refine .nei ?_
  refine .z ?_
  refine .condF rfl (congrArg Value.bool (by first | (simp; done) | (simp; omega) | omega)) ?_
  refine .skip (.next (.sr ?_))
  refine .ld ?_ sc131
  refine .move ?_
  refine .ldA ?_ agg51
  refine .callV (vs := [nI i, .agg #[nI 1, nI z]]) (hc := hc) (sp := sp) (h := ?_)
  rintro _ _ ⟨rfl, rfl⟩
  refine .assign (.z ?_)
  refine .ret (?_)
  refine .shutR (bun.opens [pt bf (.cells #[.pointer (some ⟨f, 0, none⟩)] 23 (0, 0)), pt bp (.cells #[sv path] 9 (0, 0)), pt bd (.cells #[.func (.func k) #[] cap] 131 (0, 0)), R2]) () trivial ?_
  exact .ret1 (h1 := .tmp (t := 3) rfl) ⟨_, ⟨rfl, rfl⟩, Am.auto⟩
theorem fsEdit {f s a c mp : Nat} {p : Pl} {T : FT} {k : FuncId} {cap : Array Value} {R R2 : HP} {path : Bytes} (ho : PlOk p) (hT : TOk T) (hpl : path.length ≤ 1000000) {i z W : Nat} {T2 : FT} (hft : fileT T path = (i, 1, z, 0)) (hc : ∀ args w, (callFunc k args).run Tryz.prog w = .ok (.enter k args) w)
    (sp : Spec Tryz.prog k (#[nI i, .agg #[nI 1, nI z]] ++ cap) [pt f (fO c a s false false false mp), LD mp T, IN s a c p (fmT T) (fmT T) 0 true, R] fun F v M => v = okV ∧ M = pt f (fO c a s false false false mp) :: LD mp T :: IN s a c p (fmT T) (fmT T2) W true :: R2 :: F) : Spec Tryz.prog 69 #[.pointer (some ⟨f, 0, none⟩), sv path, .func (.func k) #[] cap] [pt f (fO c a s false false false mp), LD mp T, IN s a c p (fmT T) (fmT T) 0 false, R] fun F v M => v = okV ∧ M = pt f (fO c a s false false false mp) :: LD mp T2 :: IN s a c p (fmT T2) (fmT T2) 0 false :: R2 :: F := by
  refine Spec.intro Tryz.func69 rfl rfl fun B F => ?_
  simp only [Tryz.ntmps69, List.cons_append, List.nil_append, env0, Nat.reduceAdd]
  refine .sr ?_
  refine .box fun b3 => ?_
  refine .box fun b4 => ?_
  refine .box fun b5 => ?_
  refine .assign (.x ?_)
  refine .ld ?_ sc23
  refine .makeFuncB ?_
  refine .shutR (bun.opens [pt b3 (.cells #[.pointer (some ⟨f, 0, none⟩)] 23 (0, 0)), pt b4 (.cells #[sv path] 9 (0, 0)), pt b5 (.cells #[.func (.func k) #[] cap] 131 (0, 0)), R]) () trivial ?_
  refine .call (hc := Tryz.call92) (sp := fsChange (s := s) (a := a) (c := c) (p := p) (f := f) (mp := mp) (T := T2) (S := T) ho (hc := Tryz.call146) (sp := (fsEditC (bf := b3) (bp := b4) (bd := b5) (k := k) (cap := cap) (R := R) ho hT hpl (e := 0) hft hc sp))) (h := ?_)
  rintro _ _ ⟨rfl, rfl⟩
  refine .assign (.z ?_)
  refine .ret (?_)
  refine .openR (bun.opens _) fun _ _ => ?_
  simp only [List.cons_append, List.nil_append]
  exact .ret1 (h1 := .tmp (t := 6) rfl) ⟨_, ⟨rfl, rfl⟩, Am.auto⟩
theorem fsAppendC {f s a c mp : Nat} {p : Pl} {T : FT} {x3 x5 : Nat} {i m cc : Nat} {fb bs : Bytes} {R : HP} {A : Option Addr} (hTi : T i = some (.file fb)) (hR : bs = [] ∨ Reads R A (bvs bs)) (hm : bs.length = m) (hcc : m ≤ cc) (hcb : cc ≤ maxLen) (hw : Rw p 0 (has (max fb.length (fb.length + m)) - has fb.length + (m + 511) / 512 + 10)) (hat : fb.length ≤ fb.length) (hbg : fb.length + m ≤ 70656) (hfit : tot (fmT T) p.ino + has (max fb.length (fb.length + m)) ≤ p.dc + has fb.length) (ho : PlOk p) : Spec Tryz.prog 70 (#[nI i, .agg #[nI 1, nI fb.length]] ++ #[.pointer (some ⟨x3, 0, none⟩), .pointer (some ⟨x5, 0, none⟩)]) [pt f (fO c a s false false false mp), LD mp T, IN s a c p (fmT T) (fmT T) 0 true, bun [pt x3 (.cells #[.pointer (some ⟨f, 0, none⟩)] 23 (0, 0)), pt x5 (.cells #[.slice A m cc] 33 (0, 0)), R]] fun F v M => v = okV ∧ M = pt f (fO c a s false false false mp) :: LD mp T :: IN s a c p (fmT T) (fmT (updT T i (some (.file (wrB fb fb.length bs))))) (0 + (has (max fb.length (fb.length + m)) - has fb.length) + (m + 511) / 512 + 5) true :: bun [pt x3 (.cells #[.pointer (some ⟨f, 0, none⟩)] 23 (0, 0)), pt x5 (.cells #[.slice A m cc] 33 (0, 0)), R] :: F := by
  refine Spec.intro Tryz.func70 rfl rfl fun B F => ?_
  simp only [Tryz.ntmps70, List.cons_append, List.nil_append, env0, Nat.reduceAdd]
  refine .openR (bun.opens _) fun _ _ => ?_
  simp only [List.cons_append, List.nil_append]
  refine .sr ?_
  refine .box fun b5 => ?_
  refine .assign (.z (.seq ?_))
  refine .dr ([pt x3 (.cells #[.pointer (some ⟨f, 0, none⟩)] 23 (0, 0)), pt x5 (.cells #[.slice A m cc] 33 (0, 0)), pt f (fO c a s false false false mp), pt b5 (.cells #[nI 1, nI fb.length] 51 (0, 0))]) [] 10 mixed .autoJ ?_
  refine .tk 0 rfl (.ld sc23) ?_
  refine .tk 1 rfl .nilCheck ?_
  refine .tk 2 rfl (.fa fo129_2) ?_
  refine .tk 3 rfl (.ld sc126) ?_
  refine .tk 4 rfl .move ?_
  refine .tk 5 rfl (.fa fo51_1) ?_
  refine .tk 6 rfl (.ld sc3) ?_
  refine .tk 7 rfl (.ld sc33) ?_
  refine .on 8 rfl fun hnp => ?_
  refine .call (hc := Tryz.call71) (sp := nWrite (s := s) (a := a) (c := c) (p := p) (F0 := fmT T) (F := fmT T) (W := 0) (i := i) (at' := fb.length) (f := (1, fb)) (bs := bs) ho (fmT_some hTi) hw hR hm hcc hcb hat hbg hfit) (h := ?_)
  rintro _ _ ⟨rfl, rfl⟩
  rw [show updM (fmT T) i (some (1, wrB fb fb.length bs)) = fmT (updT T i (some (.file (wrB fb fb.length bs)))) from fmT_updS T i (.file _)]
  refine .nil (.wa hnp ?_)
  refine .tk 9 rfl .assign ?_
  refine .fin ?_
  refine .next ?_
  refine .ret (?_)
  refine .shutR (bun.opens [pt x3 (.cells #[.pointer (some ⟨f, 0, none⟩)] 23 (0, 0)), pt x5 (.cells #[.slice A m cc] 33 (0, 0)), R]) () trivial ?_
  exact .ret1 (h1 := .tmp (t := 6) rfl) ⟨_, ⟨rfl, rfl⟩, Am.auto⟩
theorem fsAppend {f : Nat} {p : Pl} {T : FT} {path : Bytes} (ho : PlOk p) (hT : TOk T) (hpl : path.length ≤ 1000000) {i m cc : Nat} {fb bs : Bytes} {R : HP} {A : Option Addr} (hft : fileT T path = (i, 1, fb.length, 0)) (hTi : T i = some (.file fb)) (hR : bs = [] ∨ Reads R A (bvs bs)) (hm : bs.length = m) (hcc : m ≤ cc) (hcb : cc ≤ maxLen) (hw : Rw p 0 (has (max fb.length (fb.length + m)) - has fb.length + (m + 511) / 512 + 10)) (hat : fb.length ≤ fb.length) (hbg : fb.length + m ≤ 70656) (hfit : tot (fmT T) p.ino + has (max fb.length (fb.length + m)) ≤ p.dc + has fb.length) : Spec Tryz.prog 18 #[.pointer (some ⟨f, 0, none⟩), sv path, .slice A m cc] [FSR f p T, R] fun F v M => v = okV ∧ M = FSR f p (updT T i (some (.file (wrB fb fb.length bs)))) :: R :: F := by
  refine Spec.intro Tryz.func18 rfl rfl fun B F => ?_
  simp only [Tryz.ntmps18, List.cons_append, List.nil_append, env0, Nat.reduceAdd]
  refine .openR (FSR.opens f p T) fun y _ => ?_
  obtain ⟨c, a, s, mp⟩ := y
  simp only [fsLs, List.cons_append, List.nil_append]
  refine .sr ?_
  refine .box fun b3 => ?_
  refine .box fun b5 => ?_
  refine .assign (.x ?_)
  refine .ld ?_ sc23
  refine .move ?_
  refine .makeFuncB ?_
  refine .shutR (bun.opens [pt b3 (.cells #[.pointer (some ⟨f, 0, none⟩)] 23 (0, 0)), pt b5 (.cells #[.slice A m cc] 33 (0, 0)), R]) () trivial ?_
  refine .call (hc := Tryz.call69) (sp := fsEdit (s := s) (a := a) (c := c) (p := p) (f := f) (mp := mp) (T := T) (T2 := (updT T i (some (.file (wrB fb fb.length bs))))) (W := (0 + (has (max fb.length (fb.length + m)) - has fb.length) + (m + 511) / 512 + 5)) ho hT hpl hft (hc := Tryz.call70) (sp := fsAppendC (x3 := b3) (x5 := b5) hTi hR hm hcc hcb hw hat hbg hfit ho)) (h := ?_)
  rintro _ _ ⟨rfl, rfl⟩
  refine .assign (.z ?_)
  refine .ret (?_)
  refine .openR (bun.opens _) fun _ _ => ?_
  simp only [List.cons_append, List.nil_append]
  refine .shutR (FSR.opens f p (updT T i (some (.file (wrB fb fb.length bs))))) (c, a, s, mp) trivial ?_
  exact .ret1 (h1 := .tmp (t := 6) rfl) ⟨_, ⟨rfl, rfl⟩, Am.auto⟩
end Go.Proofs.YtdmjkjeoamiedaaGreatDoor
end
section
namespace Go.Proofs.YtdmjkjeoamiedaaGreatDoor
open Go
theorem sl188 : Tryz.prog.underlying 188 = some (.slice 192) := by kernel_rfl
theorem fo129_1 : fieldOk Tryz.prog 129 1 1 = true := by kernel_rfl
def RemErr (T : FT) (path : Bytes) (e : Nat) : Prop :=
  (parentT T path).2.2 = e ∨ ∃ d nm i fe, parentT T path = (d, nm, 0) ∧ findT T d nm = (i, fe) ∧ (fe = e ∨ (fe = 0 ∧ e = 7 ∧ ∃ sl, T i = some (.dir sl) ∧ entsS sl ≠ []))
theorem fsRemoveCE {f s a c mp : Nat} {p : Pl} {T : FT} {path : Bytes} {b2 b3 e : Nat} (ho : PlOk p) (hT : TOk T) (hpl : path.length ≤ 1000000) (hm : RemErr T path e) (he : e ≠ 0) : Spec Tryz.prog 108 #[.pointer (some ⟨b2, 0, none⟩), .pointer (some ⟨b3, 0, none⟩)] [pt f (fO c a s false false false mp), LD mp T, IN s a c p (fmT T) (fmT T) 0 true, bun [pt b2 (.cells #[.pointer (some ⟨f, 0, none⟩)] 23 (0, 0)), pt b3 (.cells #[sv path] 9 (0, 0))]] fun F v M => v = nI e ∧ M = pt f (fO c a s false false false mp) :: LD mp T :: IN s a c p (fmT T) (fmT T) 0 true :: bun [pt b2 (.cells #[.pointer (some ⟨f, 0, none⟩)] 23 (0, 0)), pt b3 (.cells #[sv path] 9 (0, 0))] :: F := by
  refine Spec.intro Tryz.func108 rfl rfl fun B F => ?_
  simp only [Tryz.ntmps108, List.cons_append, List.nil_append, env0, Nat.reduceAdd]
  refine .openR (bun.opens _) fun _ _ => ?_
  simp only [List.cons_append, List.nil_append]
  rcases hm with hm | ⟨d, nm, i, fe, hpar, hfi, hm | ⟨rfl, rfl, sl, hTi, hne⟩⟩
  · obtain ⟨d, nm, pe, hpar⟩ : ∃ d nm pe, parentT T path = (d, nm, pe) := ⟨_, _, _, rfl⟩
    rw [hpar] at hm
    simp only at hm
    subst hm
    refine .sr (.assign (.x ?_))
    refine .ld ?_ sc23
    refine .ld ?_ sc9
    refine .call (hc := Tryz.call109) (sp := fsParent (f := f) (s := s) (a := a) (c := c) (mp := mp) (b := false) (ov := false) (dead := false) (p := p) (T := T) (F0 := fmT T) (W := 0) (op := true) (path := path) ho hT hpl) (h := ?_)
    rintro _ _ ⟨rfl, rfl⟩
    rw [hpar]
    refine .move ?_
    refine .extract ?_
    refine .extract ?_
    refine .extract ?_
    refine .assign (.assign (.assign (.z (.seq (.sr (.move ?_))))))
    refine .nei ?_
    refine .z ?_
    refine .condT rfl (congrArg Value.bool (by first | (simp; done) | (simp; omega) | omega)) ?_
    refine .sr (.move (.assign (.z ?_)))
    refine .ret (.thenRet (?_))
    refine .shutR (bun.opens [pt b2 (.cells #[.pointer (some ⟨f, 0, none⟩)] 23 (0, 0)), pt b3 (.cells #[sv path] 9 (0, 0))]) () trivial ?_
    exact .ret1 (h1 := .tmp (t := 2) rfl) ⟨_, ⟨rfl, rfl⟩, Am.auto⟩
  · subst hm
    refine .sr (.assign (.x ?_))
    refine .ld ?_ sc23
    refine .ld ?_ sc9
    refine .call (hc := Tryz.call109) (sp := fsParent (f := f) (s := s) (a := a) (c := c) (mp := mp) (b := false) (ov := false) (dead := false) (p := p) (T := T) (F0 := fmT T) (W := 0) (op := true) (path := path) ho hT hpl) (h := ?_)
    rintro _ _ ⟨rfl, rfl⟩
    rw [hpar]
    refine .move ?_
    refine .extract ?_
    refine .extract ?_
    refine .extract ?_
    refine .assign (.assign (.assign (.z (.seq (.sr (.move ?_))))))
    refine .nei ?_
    refine .z ?_
    refine .condF rfl (congrArg Value.bool (by first | (simp; done) | (simp; omega) | omega)) ?_
    refine .skip (.next (.sr ?_))
    refine .ld ?_ sc23
    refine .move (.move ?_)
    refine .call (hc := Tryz.call110) (sp := fsFind (f := f) (s := s) (a := a) (c := c) (mp := mp) (b := false) (ov := false) (dead := false) (p := p) (T := T) (F0 := fmT T) (W := 0) (op := true) (d := d) (nm := nm) ho hT) (h := ?_)
    rintro _ _ ⟨rfl, rfl⟩
    rw [hfi]
    refine .move ?_
    refine .extract ?_
    refine .extract ?_
    refine .assign (.assign (.z (.seq (.sr (.move ?_)))))
    refine .nei ?_
    refine .z ?_
    refine .condT rfl (congrArg Value.bool (by first | (simp; done) | (simp; omega) | omega)) ?_
    refine .sr (.move (.assign (.z ?_)))
    refine .ret (.thenRet (?_))
    refine .shutR (bun.opens [pt b2 (.cells #[.pointer (some ⟨f, 0, none⟩)] 23 (0, 0)), pt b3 (.cells #[sv path] 9 (0, 0))]) () trivial ?_
    exact .ret1 (h1 := .tmp (t := 2) rfl) ⟨_, ⟨rfl, rfl⟩, Am.auto⟩
  · refine .sr (.assign (.x ?_))
    refine .ld ?_ sc23
    refine .ld ?_ sc9
    refine .call (hc := Tryz.call109) (sp := fsParent (f := f) (s := s) (a := a) (c := c) (mp := mp) (b := false) (ov := false) (dead := false) (p := p) (T := T) (F0 := fmT T) (W := 0) (op := true) (path := path) ho hT hpl) (h := ?_)
    rintro _ _ ⟨rfl, rfl⟩
    rw [hpar]
    refine .move ?_
    refine .extract ?_
    refine .extract ?_
    refine .extract ?_
    refine .assign (.assign (.assign (.z (.seq (.sr (.move ?_))))))
    refine .nei ?_
    refine .z ?_
    refine .condF rfl (congrArg Value.bool (by first | (simp; done) | (simp; omega) | omega)) ?_
    refine .skip (.next (.sr ?_))
    refine .ld ?_ sc23
    refine .move (.move ?_)
    refine .call (hc := Tryz.call110) (sp := fsFind (f := f) (s := s) (a := a) (c := c) (mp := mp) (b := false) (ov := false) (dead := false) (p := p) (T := T) (F0 := fmT T) (W := 0) (op := true) (d := d) (nm := nm) ho hT) (h := ?_)
    rintro _ _ ⟨rfl, rfl⟩
    rw [hfi]
    refine .move ?_
    refine .extract ?_
    refine .extract ?_
    refine .assign (.assign (.z (.seq (.sr (.move ?_)))))
    refine .nei ?_
    refine .z ?_
    refine .condF rfl (congrArg Value.bool (by first | (simp; done) | (simp; omega) | omega)) ?_
    refine .skip (.next (.seq (.sr ?_)))
    refine .ld ?_ sc23
    refine .nilCheck ?_
    refine .fa ?_ fo129_2
    refine .ld ?_ sc126
    refine .move ?_
    refine .call (hc := Tryz.call111) (sp := dList (s := s) (a := a) (c := c) (p := p) (F0 := fmT T) (Fm := fmT T) (W := 0) (d := i) (op := true) (sl := sl) ho (fmT_some hTi) (hT _ _ hTi).1 (by have := (hT _ _ hTi).2; omega)) (h := ?_)
    rintro _ _ ⟨u, l, rfl, ⟨hpm, hso⟩, rfl⟩
    have hll := hpm.length_eq
    refine .fact (rowR_shape (el := 192) (size := 2) (v := u) (k := l.length) (xs := l.flatMap entL)) (fun ⟨A, cc, hu, hR, hc1, hc2, hlen⟩ => ?_)
    subst hu
    have hlp : 0 < l.length := by rw [hll]; exact List.length_pos_iff.2 hne
    refine .move ?_
    refine .extract ?_
    refine .extract ?_
    refine .assign (.assign (.x (.move ?_)))
    refine .eqi ?_
    refine .move ?_
    refine .cast (d := 41) (u := .bool true) rfl (congrArg Value.bool (by first | (simp; done) | (simp; omega) | omega)) ?_
    refine .gT ?_
    refine .move ?_
    refine .gT ?_
    refine .lenS ?_ sl188
    refine .gT ?_
    refine .gtr ?_
    refine .pickT ?_
    refine .z ?_
    refine .condT rfl (congrArg Value.bool (by first | (simp; done) | (simp; omega) | omega)) ?_
    refine .sr (.assign (.z ?_))
    refine .ret (.thenRet (?_))
    refine .shutR (bun.opens [pt b2 (.cells #[.pointer (some ⟨f, 0, none⟩)] 23 (0, 0)), pt b3 (.cells #[sv path] 9 (0, 0))]) () trivial ?_
    exact .ret1 (h1 := .tmp (t := 2) rfl) ⟨_, ⟨rfl, rfl⟩, Am.auto⟩
theorem fsRemoveE {f : Nat} {p : Pl} {T : FT} {path : Bytes} (ho : PlOk p) (hT : TOk T) (hpl : path.length ≤ 1000000) {e : Nat} (hm : RemErr T path e) (he : e ≠ 0) : Spec Tryz.prog 50 #[.pointer (some ⟨f, 0, none⟩), sv path] [FSR f p T] fun F v M => v = nI e ∧ M = FSR f p T :: F := by
  refine Spec.intro Tryz.func50 rfl rfl fun B F => ?_
  simp only [Tryz.ntmps50, List.cons_append, List.nil_append, env0, Nat.reduceAdd]
  refine .openR (FSR.opens f p T) fun y _ => ?_
  obtain ⟨c, a, s, mp⟩ := y
  simp only [fsLs, List.cons_append, List.nil_append]
  refine .sr ?_
  refine .box fun b2 => ?_
  refine .box fun b3 => ?_
  refine .assign (.x ?_)
  refine .ld ?_ sc23
  refine .shutR (bun.opens [pt b2 (.cells #[.pointer (some ⟨f, 0, none⟩)] 23 (0, 0)), pt b3 (.cells #[sv path] 9 (0, 0))]) () trivial ?_
  refine .makeFuncB ?_
  refine .call (hc := Tryz.call92) (sp := fsChangeE (s := s) (a := a) (c := c) (p := p) (f := f) (mp := mp) (T := T) (S := T) he ho (hc := Tryz.call108) (sp := (fsRemoveCE (b2 := b2) (b3 := b3) ho hT hpl hm he))) (h := ?_)
  rintro _ _ ⟨rfl, rfl⟩
  refine .assign (.z ?_)
  refine .ret (?_)
  refine .shutR (FSR.opens f p T) (c, a, s, mp) trivial ?_
  exact .ret1 (h1 := .tmp (t := 4) rfl) ⟨_, ⟨rfl, rfl⟩, Am.auto⟩
theorem fsFree {f : Nat} {p : Pl} {T : FT} (ho : PlOk p) : Spec Tryz.prog 52 #[.pointer (some ⟨f, 0, none⟩)] [FSR f p T] fun F v M => v = .tuple #[.int .i64 ((p.dc : Int) - tot (fmT T) p.ino), .int .i64 ((p.ino : Int) - cntF (fmT T) p.ino)] ∧ M = FSR f p T :: F := by
  refine Spec.intro Tryz.func52 rfl rfl fun B F => ?_
  simp only [Tryz.ntmps52, List.cons_append, List.nil_append, env0, Nat.reduceAdd]
  refine .openR (FSR.opens f p T) fun y _ => ?_
  obtain ⟨c, a, s, mp⟩ := y
  simp only [fsLs, List.cons_append, List.nil_append]
  refine .sr (.assign (.assign (.z (.seq (.sr (.move ?_))))))
  refine .eqNil ?_ ptr23
  refine .move ?_
  refine .gT ?_
  refine .move ?_
  refine .gT ?_
  refine .nilCheck ?_
  refine .gT ?_
  refine .fa ?_ fo129_0
  refine .gT ?_
  refine .ld ?_ sc124
  refine .gT ?_
  refine .eqNil ?_ ptr124
  refine .pickF ?_
  refine .z ?_
  refine .condF rfl rfl ?_
  refine .skip (.next (.sr (.move ?_)))
  refine .nilCheck ?_
  refine .fa ?_ fo129_1
  refine .ld ?_ sc125
  refine .call (hc := Tryz.call112) (sp := nFree (s := s) (a := a) (c := c) (p := p) (F0 := fmT T) (F := fmT T) (W := 0) (op := false) ho) (h := ?_)
  rintro _ _ ⟨rfl, rfl⟩
  refine .extract ?_
  refine .extract ?_
  refine .assign (.assign (.z ?_))
  refine .ret (?_)
  refine .shutR (FSR.opens f p T) (c, a, s, mp) trivial ?_
  exact .ret2 (h1 := .tmp (t := 2) rfl) (h2 := .tmp (t := 3) rfl) ⟨_, ⟨rfl, rfl⟩, Am.auto⟩
end Go.Proofs.YtdmjkjeoamiedaaGreatDoor
end
section
namespace Go.Proofs.YtdmjkjeoamiedaaGreatDoor
open Go
theorem un303 : Tryz.prog.underlying 303 = some (.int .u32) := by kernel_rfl
theorem fo199_0 : fieldOk Tryz.prog 199 0 0 = true := by kernel_rfl
def crcBit (c : Int) : Int := bxor .u32 (c.fdiv (2 ^ (min (1 : Int).toNat IntKind.u32.bits))) (band .u32 2197175160 (IntKind.u32.wrap (0 - band .u32 c 1)))
def crc8 (c : Int) : Nat → Int
  | 0 => c
  | j + 1 => crcBit (crc8 c j)
def crcK (xs : Bytes) (c : Int) : Nat → Int
  | 0 => c
  | k + 1 => crc8 (bxor .u32 (crcK xs c k) (IntKind.u32.wrap ((xs.getD k 0).toNat : Int))) 8
def crcI (xs : Bytes) : Int := icomp .u32 (crcK xs (icomp .u32 0) xs.length)
theorem crcI_range (xs : Bytes) : 0 ≤ crcI xs ∧ crcI xs < 4294967296 := by
  have : ∀ x, 0 ≤ IntKind.u32.wrap x ∧ IntKind.u32.wrap x < 4294967296 := fun x => by
    have : IntKind.u32.wrap x = x % 2 ^ 32 := by simp [IntKind.wrap, IntKind.bits, IntKind.signed]
    rw [this]; omega
  exact this _
theorem crcMore {R : HP} {A : Addr} {m c : Nat} {xs : Bytes} (hR : Reads R (some A) (bvs xs)) (hm : xs.length = m) (hl : m ≤ 1073741824) : Spec Tryz.prog 263 #[.int .u32 0, .slice (some A) m c] [R] fun F v M => v = .int .u32 (crcI xs) ∧ M = R :: F := by
  refine Spec.intro Tryz.func263 rfl rfl fun B F => ?_
  simp only [Tryz.ntmps263, List.cons_append, List.nil_append, env0, Nat.reduceAdd]
  subst hm
  obtain ⟨ab, ao, asp⟩ := A
  have hsp : asp = none := hR.1
  subst hsp
  refine .sr (.assign (.x (.move ?_)))
  refine .comp ?_
  refine .assign (.z (.seq (.sr (.move ?_))))
  refine .lenS ?_ sl33
  refine .move (.z (.block ?_))
  refine .loopA (σ := Nat) (fun k => [(0, .int .u32 (crcK xs (icomp .u32 0) k)), (9, .slice (some ⟨ab, ao, none⟩) xs.length c), (10, .int .i64 ((xs.length : Nat) : Int)), (11, .int .i64 ((k : Nat) : Int))]) (fun _ => R :: F) (fun k => k ≤ xs.length) (fun k => xs.length - k) 0 (Nat.zero_le _) ?_
  rintro k hk
  refine .sr ?_
  refine .lss ?_
  refine .z (.seq ?_)
  refine .cond rfl (fun hb => ?_) (fun hb => ?_)
  · have hlt : k < xs.length := by have h : (k : Int) < (xs.length : Int) := of_decide_eq_true hb; omega
    have hgk : (bvs xs)[((k : Nat) : Int).toNat]? = some (.int .u8 ((xs.getD k 0).toNat : Int)) := by rw [Int.toNat_natCast]; simp [bvs, hlt]; rfl
    refine .skip (.next (.seq (.block (.sr ?_))))
    refine .idx1 ?_ so33
    refine .ldR (i := ((k : Nat) : Int).toNat) ?_ sc5 hR hgk
    refine .assign (.x (.move (.move ?_)))
    refine .cvt ?_ un5 un303
    refine .xor ?_
    refine .assign (.x (.move (.z (.block ?_))))
    refine .loopA (σ := Nat) (fun j => [(0, .int .u32 (crc8 (bxor .u32 (crcK xs (icomp .u32 0) k) (IntKind.u32.wrap ((xs.getD k 0).toNat : Int))) j)), (9, .slice (some ⟨ab, ao, none⟩) xs.length c), (10, .int .i64 ((xs.length : Nat) : Int)), (11, .int .i64 ((k : Nat) : Int)), (19, .int .i64 ((j : Nat) : Int))]) (fun _ => R :: F) (fun j => j ≤ 8) (fun j => 8 - j) 0 (Nat.zero_le _) ?_
    rintro j hj
    refine .sr ?_
    refine .lss ?_
    refine .z (.seq ?_)
    refine .cond rfl (fun hb2 => ?_) (fun hb2 => ?_)
    · have hlt2 : j < 8 := by have h : (j : Int) < 8 := of_decide_eq_true hb2; omega
      refine .skip (.next (.seq (.block (.region (.move ?_)))))
      refine .shr ?_
      refine .move ?_
      refine .and ?_
      refine .negw ?_
      refine .and ?_
      refine .xor ?_
      refine .assign (.nil (.blockNormal (.next (.region ?_))))
      refine .add ?_
      refine .move (.nil ?_)
      refine .cast (d := 19) (u := .int .i64 ((j + 1 : Nat) : Int)) rfl (congrArg (Value.int .i64) (by omega)) ?_
      exact .back (j + 1) (by show j + 1 ≤ 8; omega) (by show 8 - (j + 1) < 8 - j; omega)
    · have hge2 : j = 8 := by have h : ¬ (j : Int) < 8 := of_decide_eq_false hb2; omega
      subst hge2
      refine .exit (.thenExit (.thenExit (.blockExit (?_))))
      refine .blockNormal (.next (.region ?_))
      refine .add ?_
      refine .move (.nil ?_)
      refine .cast (d := 11) (u := .int .i64 ((k + 1 : Nat) : Int)) rfl (congrArg (Value.int .i64) (by omega)) ?_
      exact .back (k + 1) (by show k + 1 ≤ xs.length; omega) (by show xs.length - (k + 1) < xs.length - k; omega)
  · have hge : k = xs.length := by have h : ¬ (k : Int) < (xs.length : Int) := of_decide_eq_false hb; omega
    subst hge
    refine .exit (.thenExit (.thenExit (.blockExit (?_))))
    refine .next (.sr (.move ?_))
    refine .comp ?_
    refine .assign (.z ?_)
    refine .ret (?_)
    exact .ret1 (h1 := .tmp (t := 4) rfl) ⟨_, ⟨rfl, rfl⟩, Am.auto⟩
theorem crcSum {R : HP} {A : Addr} {m c : Nat} {xs : Bytes} (hR : Reads R (some A) (bvs xs)) (hm : xs.length = m) (hl : m ≤ 1073741824) : Spec Tryz.prog 206 #[.slice (some A) m c] [R] fun F v M => v = .int .u32 (crcI xs) ∧ M = R :: F := by
  refine Spec.intro Tryz.func206 rfl rfl fun B F => ?_
  simp only [Tryz.ntmps206, List.cons_append, List.nil_append, env0, Nat.reduceAdd]
  refine .sr (.assign (.x (.move ?_)))
  refine .call (hc := Tryz.call263) (sp := crcMore hR hm hl) (h := ?_)
  rintro _ _ ⟨rfl, rfl⟩
  refine .assign (.z ?_)
  refine .ret (?_)
  exact .ret1 (h1 := .tmp (t := 2) rfl) ⟨_, ⟨rfl, rfl⟩, Am.auto⟩
theorem u64_wrap0 {a : Nat} (h : a < 2 ^ 64) : IntKind.u64.wrap ((a : Nat) : Int) = (a : Int) := by
  have : IntKind.u64.wrap ((a : Nat) : Int) = (a : Int) % 2 ^ 64 := by simp [IntKind.wrap, IntKind.bits, IntKind.signed]
  rw [this]; omega
theorem bsI7 (a b c d e f h : Int) : BuildSOk Tryz.prog 80 7 [(0, .int .i64 a), (1, .int .i64 b), (2, .int .i64 c), (3, .int .i64 d), (4, .int .i64 e), (5, .int .i64 f), (6, .int .i64 h)] 3 #[.int .i64 a, .int .i64 b, .int .i64 c, .int .i64 d, .int .i64 e, .int .i64 f, .int .i64 h] := fun w => by kernel_rfl
def plN (p : Pl) : List Nat := [p.n, p.ino, p.im, p.bm, p.tb, p.da, p.dc]
def magicS : Bytes := [66, 79, 76, 76, 65, 82, 68, 83]
def encN (nums : List Nat) : Nat → Bytes
  | 0 => magicS ++ List.replicate 504 0
  | i + 1 => put (encN nums i) (8 + 4 * i) 4 false (nums.getD i 0)
theorem encN_length (nums : List Nat) : ∀ i, (encN nums i).length = 512
  | 0 => by rw [encN, List.length_append, List.length_replicate]; rfl
  | i + 1 => by rw [encN, put_length]; exact encN_length nums i
theorem encN_seg (nums : List Nat) {k : Nat} (hk : k < 100) (hv : nums.getD k 0 < 2 ^ 32) : ∀ i, k < i → i ≤ 100 → beNat (seg (encN nums i) (8 + 4 * k) 4 false) = nums.getD k 0
  | i + 1, h1, h2 => by
    rw [encN]
    have hlen := encN_length nums i
    by_cases hki : k = i
    · subst hki
      exact seg_put (by omega) (by rw [show (256 : Nat) ^ 4 = 2 ^ 32 from by decide]; exact hv)
    · rw [seg_put_other (by omega)]
      exact encN_seg nums hk hv i (by omega) (by omega)
def supB (p : Pl) : Bytes := put (encN (plN p) 7) 36 4 false (crcI ((encN (plN p) 7).take 36)).toNat
theorem supB_length (p : Pl) : (supB p).length = 512 := by unfold supB; rw [put_length]; exact encN_length _ _
theorem plN_small {p : Pl} (h : PlIs p) : ∀ v ∈ plN p, v < 2 ^ 32 := by
  have h1 := h.im; have h2 := h.bm; have h3 := h.m1; have h4 := h.da; have h5 := h.dc; have h8 := h.n2; have h10 := h.i2
  intro v hv
  unfold plN at hv
  simp only [List.mem_cons, List.not_mem_nil, or_false] at hv
  rcases hv with rfl | rfl | rfl | rfl | rfl | rfl | rfl <;> omega
theorem supB_n {p : Pl} (h : PlIs p) : beNat (seg (supB p) 8 4 false) = p.n := by
  unfold supB
  rw [seg_put_other (by omega)]
  exact encN_seg (plN p) (k := 0) (by omega) (plN_small h _ (List.getElem_mem (l := plN p) (n := 0) (by show 0 < 7; decide))) 7 (by omega) (by omega)
theorem supB_ino {p : Pl} (h : PlIs p) : beNat (seg (supB p) 12 4 false) = p.ino := by
  unfold supB
  rw [seg_put_other (by omega)]
  exact encN_seg (plN p) (k := 1) (by omega) (plN_small h _ (List.getElem_mem (l := plN p) (n := 1) (by show 1 < 7; decide))) 7 (by omega) (by omega)
theorem layEnc {p : Pl} (h : PlIs p) : Spec Tryz.prog 136 #[.agg p.cells] [] fun F v M => ∃ g q, v = .slice (some ⟨g, 0, none⟩) 512 q ∧ (512 ≤ q ∧ q ≤ maxLen) ∧ M = buf g 5 q (bvs (supB p)) :: F := by
  refine Spec.intro Tryz.func136 rfl rfl fun B F => ?_
  simp only [Tryz.ntmps136, List.cons_append, List.nil_append, env0, Nat.reduceAdd]
  refine .sr ?_
  refine .box fun b1 => ?_
  refine .to (A := pt b1 (.cells p.cells 199 (0, 0))) (A' := pt b1 (.cells p.cells 199 (0, 0))) (fun h hh => hh) ?_
  refine .assign (.x ?_)
  refine .mkSN 512 z5 so33 (by decide) (by decide) fun b6 => ?_
  refine .assign (.x (.move ?_))
  refine .copyS magicS so33 ?_ (hdl := by rw [List.length_replicate]; decide)
  refine .to (r := .here) (A' := buf b6 5 512 (bvs (encN (plN p) 0))) (fun h hh => by
    have e1 : (List.replicate 512 (Value.int .u8 0)).take 0 ++ (bvs magicS).take (min magicS.length 512) ++ (List.replicate 512 (Value.int .u8 0)).drop (0 + min magicS.length 512) = bvs (encN (plN p) 0) := by
      rw [encN, bvs_append, bvs_replicate, List.take_zero, List.nil_append, List.drop_replicate]
      rfl
    rw [← e1]; exact hh) ?_
  refine .z (.seq (.sr ?_))
  refine .fa ?_ fo199_0
  refine .ld ?_ sc3
  refine .fa ?_ fo199_1
  refine .ld ?_ sc3
  refine .fa ?_ fo199_2
  refine .ld ?_ sc3
  refine .fa ?_ fo199_3
  refine .ld ?_ sc3
  refine .fa ?_ fo199_4
  refine .ld ?_ sc3
  refine .fa ?_ fo199_5
  refine .ld ?_ sc3
  refine .fa ?_ fo199_6
  refine .ld ?_ sc3
  refine .buildS (fun b23 => ?_) (bsI7 _ _ _ _ _ _ _)
  refine .lenS ?_ sl80
  refine .move (.z (.block ?_))
  refine .to (A := pt b23 (.cells #[.int .i64 (p.n : Int), .int .i64 (p.ino : Int), .int .i64 (p.im : Int), .int .i64 (p.bm : Int), .int .i64 (p.tb : Int), .int .i64 (p.da : Int), .int .i64 (p.dc : Int)] 3 (0, 0))) (A' := pt b23 (.cells (natsV (plN p)).toArray 3 (0, 0))) (fun h hh => hh) ?_
  refine .loopA (σ := Nat × Nat × Nat) (fun y => [(3, .slice (some ⟨y.2.1, 0, none⟩) 512 y.2.2), (23, .slice (some ⟨b23, 0, none⟩) 7 7), (24, .int .i64 7), (25, .int .i64 ((y.1 : Nat) : Int))]) (fun y => buf y.2.1 5 y.2.2 (bvs (encN (plN p) y.1)) :: pt b23 (.cells (natsV (plN p)).toArray 3 (0, 0)) :: F) (fun y => y.1 ≤ 7 ∧ 512 ≤ y.2.2 ∧ y.2.2 ≤ maxLen) (fun y => 7 - y.1) (0, b6, 512) ⟨Nat.zero_le _, Nat.le_refl _, by show 512 ≤ maxLen; decide⟩ ?_
  rintro y hy
  obtain ⟨k, gb, q⟩ := y
  obtain ⟨hk, hq1, hq2⟩ := hy
  simp only at hk hq1 hq2 ⊢
  refine .sr ?_
  refine .lss ?_
  refine .z (.seq ?_)
  refine .cond rfl (fun hb => ?_) (fun hb => ?_)
  · have hlt : k < 7 := by have h : (k : Int) < 7 := of_decide_eq_true hb; omega
    have hgk : (natsV (plN p))[((k : Nat) : Int).toNat]? = some (.int .i64 (((plN p).getD k 0 : Nat) : Int)) := by
      have hl7 : k < (plN p).length := hlt
      rw [Int.toNat_natCast, List.getD_eq_getElem?_getD, List.getElem?_eq_getElem hl7]
      unfold natsV ints
      simp [hl7]
    have hv : (plN p).getD k 0 < 2 ^ 32 := by
      have hl7 : k < (plN p).length := hlt
      rw [List.getD_eq_getElem?_getD, List.getElem?_eq_getElem hl7]
      exact plN_small h _ (List.getElem_mem hl7)
    have hlen := encN_length (plN p) k
    refine .skip (.next (.seq (.block (.sr (.move ?_)))))
    refine .idx1 ?_ so80
    refine .ldR (i := ((k : Nat) : Int).toNat) (R := pt b23 (.cells (natsV (plN p)).toArray 3 (0, 0))) ?_ sc3 Reads.pt hgk
    refine .assign (.assign (.y (.move (.move ?_))))
    refine .mul ?_
    refine .add ?_
    refine .move ?_
    refine .cvt ?_ un3 un134
    refine .cast (d := 36) (u := .int .u64 (((plN p).getD k 0 : Nat) : Int)) rfl (congrArg (Value.int .u64) (u64_wrap0 (by omega))) ?_
    refine .call (hc := Tryz.call74) (sp := bitsPut (xs := encN (plN p) k) (v := (plN p).getD k 0) Reads.buf hlen (by decide) (by omega) (by omega) (by omega) (by omega)) (h := ?_)
    rintro _ _ ⟨g', q', ⟨rfl, h1, h2⟩, rfl⟩
    refine .move ?_
    refine .extract ?_
    refine .extract ?_
    refine .assign (.nil (.blockNormal (.next (.region ?_))))
    refine .add ?_
    refine .move (.nil ?_)
    refine .to (r := .here) (A' := buf g' 5 q' (bvs (encN (plN p) (k + 1)))) (fun h hh => by
      rw [encN, show 8 + 4 * k = (8 + 4 * ((k : Nat) : Int)).toNat from by omega]; exact hh) ?_
    refine .cast (d := 25) (u := .int .i64 ((k + 1 : Nat) : Int)) rfl (congrArg (Value.int .i64) (by omega)) ?_
    exact .back (k + 1, g', q') ⟨by show k + 1 ≤ 7; omega, h1, h2⟩ (by show 7 - (k + 1) < 7 - k; omega)
  · have hge : k = 7 := by have h : ¬ (k : Int) < 7 := of_decide_eq_false hb; omega
    subst hge
    have hlen := encN_length (plN p) 7
    have hcr := crcI_range ((encN (plN p) 7).take 36)
    refine .exit (.thenExit (.thenExit (.blockExit (?_))))
    refine .next (.sr (.move (.move ?_)))
    refine .slcH ?_ so33
    refine .call (hc := Tryz.call206) (sp := crcSum (R := buf gb 5 q (bvs (encN (plN p) 7))) (xs := (encN (plN p) 7).take 36) (by rw [bvs_take]; exact Reads.buf.take 36) (by rw [List.length_take, hlen]; rfl) (by decide)) (h := ?_)
    rintro _ _ ⟨rfl, rfl⟩
    refine .cvt ?_ un303 un134
    refine .cast (d := 46) (u := .int .u64 (((crcI ((encN (plN p) 7).take 36)).toNat : Nat) : Int)) rfl (congrArg (Value.int .u64) (by rw [← u64_wrap0 (a := (crcI ((encN (plN p) 7).take 36)).toNat) (by omega)]; first | (congr 1; omega) | congr 1)) ?_
    refine .call (hc := Tryz.call74) (sp := bitsPut (xs := encN (plN p) 7) (v := (crcI ((encN (plN p) 7).take 36)).toNat) Reads.buf hlen (by decide) (by omega) (by omega) (by omega) (by omega)) (h := ?_)
    rintro _ _ ⟨g', q', ⟨rfl, h1, h2⟩, rfl⟩
    refine .move ?_
    refine .extract ?_
    refine .extract ?_
    refine .assign (.x (.move (.assign (.z ?_))))
    refine .ret (?_)
    exact .ret1 (h1 := .tmp (t := 2) rfl) ⟨_, ⟨g', q', rfl, ⟨h1, h2⟩, rfl⟩, Am.auto⟩
theorem bytesEq {R R2 : HP} {A A2 : Option Addr} {m c m2 c2 : Nat} {xs ys : Bytes} (hR : Reads R A (bvs xs)) (hm : xs.length = m) (hR2 : Reads R2 A2 (bvs ys)) (hm2 : ys.length = m2) : Spec Tryz.prog 225 #[.slice A m c, .slice A2 m2 c2] [R, R2] fun F v M => v = .bool (decide (xs = ys)) ∧ M = R :: R2 :: F := by
  refine Spec.intro Tryz.func225 rfl rfl fun B F => ?_
  simp only [Tryz.ntmps225, List.cons_append, List.nil_append, env0, Nat.reduceAdd]
  refine .sr (.assign (.x (.move ?_)))
  refine .cvtBS (R := R) (xs := xs) ?_ by33 st9 hR hm
  refine .move ?_
  refine .cvtBS (R := R2) (xs := ys) ?_ by33 st9 hR2 hm2
  refine .eqS xs ys ?_
  refine .assign (.z ?_)
  refine .ret (?_)
  exact .ret1 (h1 := .tmp (t := 4) rfl) ⟨_, ⟨rfl, rfl⟩, Am.auto⟩
theorem layDec {R : HP} {A : Addr} {cc : Nat} {p : Pl} (h : PlIs p) (hR : Reads R (some A) (bvs (supB p))) : Spec Tryz.prog 142 #[.slice (some A) 512 cc] [R] fun F v M => v = .tuple #[.agg p.cells, .int .i64 0] ∧ M = R :: F := by
  refine Spec.intro Tryz.func142 rfl rfl fun B F => ?_
  simp only [Tryz.ntmps142, List.cons_append, List.nil_append, env0, Nat.reduceAdd]
  have hl := supB_length p
  have h8 := h.n2
  have h10 := h.i2
  refine .sr ?_
  refine .alloc z199 fun b2 => ?_
  refine .assign (.x (.move ?_))
  refine .call (hc := Tryz.call143) (sp := bitsGet (p := 8) (size := 4) (big := false) hR hl (by decide) (by decide) (by decide) (by decide)) (h := ?_)
  rintro _ _ ⟨rfl, rfl⟩
  rw [show beNat (seg (supB p) (8 : Int).toNat (4 : Int).toNat false) = p.n from supB_n h]
  refine .move ?_
  refine .extract ?_
  refine .extract ?_
  refine .assign (.assign (.x (.move ?_)))
  refine .call (hc := Tryz.call143) (sp := bitsGet (p := 12) (size := 4) (big := false) hR hl (by decide) (by decide) (by decide) (by decide)) (h := ?_)
  rintro _ _ ⟨rfl, rfl⟩
  rw [show beNat (seg (supB p) (12 : Int).toNat (4 : Int).toNat false) = p.ino from supB_ino h]
  refine .move ?_
  refine .extract ?_
  refine .extract ?_
  refine .assign (.assign (.x (.move ?_)))
  refine .cvt ?_ un134 un3
  refine .cast (d := 22) (u := .int .i64 (p.n : Int)) rfl (congrArg (Value.int .i64) (IntWalk.i64_in _ (by omega))) ?_
  refine .move ?_
  refine .cvt ?_ un134 un3
  refine .cast (d := 24) (u := .int .i64 (p.ino : Int)) rfl (congrArg (Value.int .i64) (IntWalk.i64_in _ (by omega))) ?_
  refine .call (hc := Tryz.call129) (sp := layMake h) (h := ?_)
  rintro _ _ ⟨rfl, rfl⟩
  refine .move ?_
  refine .extract ?_
  refine .extract ?_
  refine .alloc z199 fun b8 => ?_
  refine .stV ?_ agg199
  refine .to (A := pt b8 (.cells p.cells 199 (0, 0))) (A' := pt b8 (.cells p.cells 199 (0, 0))) (fun h hh => hh) ?_
  refine .assign (.z (.seq (.sr (.move ?_))))
  refine .nei ?_
  refine .move ?_
  refine .cast (d := 30) (u := .bool false) rfl (congrArg Value.bool (by first | (simp; done) | (simp; omega) | omega)) ?_
  refine .gT ?_
  refine .ldA ?_ agg199
  refine .gT ?_
  refine .call (hc := Tryz.call136) (sp := layEnc h) (h := ?_)
  rintro _ _ ⟨gb, q, rfl, ⟨hq1, hq2⟩, rfl⟩
  refine .gT ?_
  refine .move ?_
  refine .gT ?_
  refine .call (hc := Tryz.call225) (sp := bytesEq (R := buf gb 5 q (bvs (supB p))) (R2 := R) (xs := supB p) (ys := supB p) Reads.buf hl hR hl) (h := ?_)
  rintro _ _ ⟨rfl, rfl⟩
  rw [decide_eq_true rfl]
  refine .gT ?_
  refine .not ?_
  refine .pickF ?_
  refine .z ?_
  refine .condF rfl rfl ?_
  refine .skip (.next (.sr ?_))
  refine .ldA ?_ agg199
  refine .stV ?_ agg199
  refine .assign (.z ?_)
  refine .ret (?_)
  exact .ret2 (h2 := .tmp (t := 3) rfl) ⟨_, ⟨rfl, rfl⟩, Am.auto⟩
structure DevOk (n : Nat) (V : Nat → Bytes) (J : JS) : Prop where
  ok : HeadsOk n J
  last : J.last < 2 ^ 64
  gen : J.gen < 2 ^ 64
  n1 : 246 ≤ n
  n2 : n ≤ 65536
  fit : Fit n J.ch
  home : ∀ k, 245 ≤ k → k < n → J.view k = V k
theorem DevOk.settled {n : Nat} {V : Nat → Bytes} {J : JS} (h : DevOk n V J) : DevOk n V J.settled := by
  refine ⟨h.ok.settled h.fit, h.last, h.gen, h.n1, h.n2, Fit.nil n, fun k h1 h2 => ?_⟩
  rw [← h.home k h1 h2]
  show (kget [] k).getD (lay J.cur J.ch k) = _
  rw [lay_view _ _ h.fit.apart]
  rfl
theorem tCommitD {c n d : Nat} {V0 V : Nat → Bytes} {D : List Nat} (ht : tagN (V0 1) = some d) (hn1 : 246 ≤ n) : Spec Tryz.prog 139 #[.pointer (some ⟨c, 0, none⟩)] [TR c n V0 V D true] fun F v M => ∃ J, v = okV ∧ DevOk n V J ∧ M = DevR d n J.cur 0 :: F := by
  refine Spec.opens (TR.opens c n V0 V D true) fun y hy => (cCommitF (c := c) (j := y.1) (d := y.2.1) (n := n) (S := y.2.2) hy.hop).post ?_
  rintro F v M ⟨L, hL, hW, hJ, rfl, rfl⟩
  obtain ⟨hdev, hok, hlast, hgen, hn2⟩ := hy.tg _ ht
  have hLf := hW.perm hL
  have hv : ∀ k, 245 ≤ k → k < n → (y.2.2.J.commits L).view k = V k := fun k h1 h2 => by
    rw [JS.view_commits hJ (hW.perm hL) k h1, kget_perm hL hW.apart]
    exact hy.h1 k h1 h2
  have hD : DevOk n V (y.2.2.J.commits L) := by
    unfold JS.commits at hv ⊢
    by_cases h0 : L = []
    · rw [if_pos h0] at hv ⊢
      exact ⟨hok, by omega, hgen, hn1, hn2, hJ, hv⟩
    · rw [if_neg h0] at hv ⊢
      have hnx : (y.2.2.J.commit L).last < 2 ^ 64 := Nat.mod_lt _ (by decide)
      exact ⟨hok.commit hgen hn2 hJ hLf hlast, hnx, hgen, hn1, hn2, hLf, hv⟩
  refine ⟨_, ⟨_, rfl, hD, rfl⟩, fun B w hs => ?_⟩
  subst hdev
  obtain ⟨x, hx, h1⟩ := Sat.opens hs (CR.opens c y.1 y.2.1 n _)
  have h2 := Sat.front (.there (.there .here)) h1
  obtain ⟨z, hz, h3⟩ := Sat.opens h2 (JR.opens y.1 y.2.1 n _)
  exact Sat.front (.there (.there (.there (.there .here)))) h3 |> fun h => Am.wk Am.auto B w h
theorem bdFS (c a s m : Nat) : BuildOk Tryz.prog 129 [(0, .pointer (some ⟨c, 0, none⟩)), (1, .pointer (some ⟨a, 0, none⟩)), (2, .pointer (some ⟨s, 0, none⟩)), (6, .map (some m))] #[.pointer (some ⟨c, 0, none⟩), .pointer (some ⟨a, 0, none⟩), .pointer (some ⟨s, 0, none⟩), .bool false, .bool false, .bool false, .map (some m)] := fun w => by kernel_rfl
theorem fsStand {j d : Nat} {p : Pl} {J : JS} {T : FT} (hn1 : 246 ≤ p.n) (hn2 : p.n ≤ 65536) : Spec Tryz.prog 132 #[.pointer (some ⟨j, 0, none⟩), .agg p.cells] [JR j d p.n J] fun F v M => ∃ f c a s mp, v = .pointer (some ⟨f, 0, none⟩) ∧ M = [pt f (fO c a s false false false mp), LD mp T, pt s (stO c a p), pt a (alO c p), CR c j d p.n ⟨J, [], false, false⟩] ++ F := by
  refine Spec.intro Tryz.func132 rfl rfl fun B F => ?_
  simp only [Tryz.ntmps132, List.cons_append, List.nil_append, env0, Nat.reduceAdd]
  refine .sr ?_
  refine .box fun b3 => ?_
  refine .to (A := pt b3 (.cells p.cells 199 (0, 0))) (A' := pt b3 (.cells p.cells 199 (0, 0))) (fun h hh => hh) ?_
  refine .assign (.x (.move ?_))
  refine .call (hc := Tryz.call201) (sp := cNew (n := p.n) hn1 hn2) (h := ?_)
  rintro _ _ ⟨c, rfl, rfl⟩
  refine .assign (.x (.move ?_))
  refine .ldA ?_ agg199
  refine .call (hc := Tryz.call202) (sp := alNew (p := p)) (h := ?_)
  rintro _ _ ⟨a, rfl, rfl⟩
  refine .assign (.x (.move (.move (.move (.move ?_)))))
  refine .ldA ?_ agg199
  refine .call (hc := Tryz.call203) (sp := inNew (p := p)) (h := ?_)
  rintro _ _ ⟨s, rfl, rfl⟩
  refine .mkMap fun m18 => ?_
  refine .build ?_ (bdFS _ _ _ _)
  refine .box fun b20 => ?_
  refine .assign (.z ?_)
  refine .ret (?_)
  refine .shutR (LD.opens m18 T) (#[], 0, []) (LDP.empty T 0) ?_
  exact .ret1 (h1 := .tmp (t := 4) rfl) ⟨_, ⟨b20, c, a, s, m18, rfl, rfl⟩, Am.auto⟩
def mkW (p : Pl) : Nat → Bytes := svV p (fmtA p (wr zeroD 245 (supB p))) 0 ⟨2, 0, List.replicate 11 0⟩
theorem fmtA_at (p : Pl) (V : Nat → Bytes) (k : Nat) : fmtA p V k = if p.bm ≤ k ∧ k < p.bm + (p.dc + 4095) / 4096 then fmtZ p p.bm p.dc else if p.im ≤ k ∧ k < p.im + (p.ino + 4095) / 4096 then fmtZ p p.im p.ino else V k := by
  unfold fmtA; rw [fmtV_at, fmtV_at]
theorem svV_other {p : Pl} {V : Nat → Bytes} {x : Nd} {k : Nat} (h : k ≠ p.tb) : svV p V 0 x k = V k := wr_other _ _ (by omega)
theorem mkW_sup {p : Pl} (h : PlIs p) : mkW p 245 = supB p := by
  have h1 := h.im; have h2 := h.bm; have h3 := h.m1
  unfold mkW
  rw [svV_other (by omega), fmtA_at, if_neg (by omega), if_neg (by omega)]
  unfold wr
  rw [if_pos rfl]
theorem mkW_home {p : Pl} (h : PlIs p) {k : Nat} (hk : 246 ≤ k) : mkW p k = freshW p k := by
  have h1 := h.im; have h2 := h.bm; have h3 := h.m1
  have key : ∀ v, 246 ≤ v → fmtA p (wr zeroD 245 (supB p)) v = freshV p v := fun v hv => by
    unfold freshV
    rw [fmtA_at, fmtA_at]
    split
    · rfl
    · split
      · rfl
      · unfold wr; rw [if_neg (by omega)]
  unfold mkW freshW svV
  generalize fmtA p (wr zeroD 245 (supB p)) = X at key ⊢
  unfold wr
  by_cases ht : k = p.tb + 0 / 8
  · rw [if_pos ht, if_pos ht, key _ (by omega)]
  · rw [if_neg ht, if_neg ht]; exact key k hk
theorem mkW_len {p : Pl} (h : PlIs p) : Len5 (mkW p) := by
  have h0 : Len5 (wr zeroD 245 (supB p)) := fun k => by unfold wr; split; exact supB_length p; exact zeros_length
  have h1 : Len5 (fmtA p (wr zeroD 245 (supB p))) := fun k => by
    rw [fmtA_at]
    split
    · exact fmtZ_length _ _ _
    · split
      · exact fmtZ_length _ _ _
      · exact h0 k
  exact svV_len h1 _ _
theorem mkW_rep {p : Pl} (h : PlIs p) : Rep p (cm0 (mkW p)) rootM := by
  have h1 := (fresh_rep h).mono h.ok (V' := mkW p) (mkW_len h) (fun v hv => mkW_home h (by have := h.im; omega))
  exact h1.cm h.ok
def tagV (d : Nat) : Nat → Bytes := fun k => if k = 1 then List.replicate (513 + d) 0 else zeros
theorem tagV_tag (d : Nat) : tagN (tagV d 1) = some d := by
  have hl : (tagV d 1).length = 513 + d := by
    show (List.replicate (513 + d) (0 : UInt8)).length = _
    rw [List.length_replicate]
  unfold tagN
  rw [hl, if_pos (Nat.le_add_right _ _), Nat.add_sub_cancel_left]
theorem tagV_home {d k : Nat} (h : 245 ≤ k) : tagV d k = zeros := if_neg (by omega)
end Go.Proofs.YtdmjkjeoamiedaaGreatDoor
end
section
namespace Go.Proofs.YtdmjkjeoamiedaaGreatDoor
open Go
theorem z23 : zeroOf Tryz.prog 23 = some (#[.pointer none]) := by kernel_rfl
theorem fmtB_room {p : Pl} (h : PlIs p) : Room (fmtB p [245]) := by
  have h1 := fmtD_length (fmtD [245] p.im ((p.ino + 4095) / 4096)) p.bm ((p.dc + 4095) / 4096)
  have h2 := fmtD_length [245] p.im ((p.ino + 4095) / 4096)
  have h3 := h.i2
  have h4 := h.n2
  have h5 := h.dc
  have h6 := h.i1
  have h7 := h.da
  have h8 := h.m1
  have h9 := h.bm
  unfold fmtB Room
  have : ([245] : List Nat).length = 1 := rfl
  omega
theorem bsF5 (f0 f1 f2 f3 f4 : Fn) (u0 u1 u2 u3 u4 c0 c1 c2 c3 c4 : Array Value) : BuildSOk Tryz.prog 220 5 [(0, .func f0 u0 c0), (1, .func f1 u1 c1), (2, .func f2 u2 c2), (3, .func f3 u3 c3), (4, .func f4 u4 c4)] 183 #[.func f0 u0 c0, .func f1 u1 c1, .func f2 u2 c2, .func f3 u3 c3, .func f4 u4 c4] := fun w => by kernel_rfl
def J0 : JS := ⟨beNat (seg (formatted zeroD 0) 8 8 false), 0, [], formatted zeroD⟩
theorem J0_ok {n : Nat} : HeadsOk n J0 := ⟨formatted0, rfl, fun i _ => .inl (formattedH _ i), fun _ => rfl, fun h => absurd rfl h⟩
theorem J0_gen : J0.gen < 2 ^ 64 := le8_lt _ _ _
theorem J0_view {k : Nat} (h : 245 ≤ k) : J0.view k = zeros := formattedK (by omega)
theorem J0_tag {n d : Nat} (hn : n ≤ 65536) : Tagged n d d J0 := ⟨rfl, J0_ok, Nat.lt_of_le_of_lt (Nat.le_refl 1) (by decide), J0_gen, hn⟩
theorem jOpenBad {d n t : Nat} {cur : Nat → Bytes} (hn : 246 ≤ n) (hmg : (cur 0).take 8 ≠ magicJ) : Spec Tryz.prog 140 #[.pointer (some ⟨d, 0, none⟩)] [DevR d n cur t] fun F v M => v = .tuple #[.pointer none, .int .i64 10] ∧ M = DevR d n cur t :: F := by
  refine Spec.intro Tryz.func140 rfl rfl fun B F => ?_
  simp only [Tryz.ntmps140, List.cons_append, List.nil_append, env0, Nat.reduceAdd]
  refine .sr (.assign (.assign (.z (.seq (.sr (.move ?_))))))
  refine .call (hc := Tryz.call130) (sp := devBlocksR (n := n) (t := t) (cur := cur)) (h := ?_)
  rintro _ _ ⟨rfl, rfl⟩
  refine .lss ?_
  refine .z ?_
  refine .condF rfl (congrArg Value.bool (by first | (simp; done) | (simp; omega) | omega)) ?_
  refine .skip (.next (.sr (.move ?_)))
  refine .call (hc := Tryz.call215) (sp := jFirst (n := n) (t := t) (cur := cur) (by omega)) (h := ?_)
  rintro _ _ ⟨rfl, rfl⟩
  refine .move ?_
  refine .extract ?_
  refine .extract ?_
  refine .cast (d := 20) (u := .bool false) rfl (congrArg Value.bool (decide_eq_false hmg)) ?_
  refine .assign (.assign (.z (.seq (.sr (.move ?_)))))
  refine .not ?_
  refine .z ?_
  refine .condT rfl rfl ?_
  refine .sr (.assign (.assign (.z ?_)))
  refine .ret (.thenRet (?_))
  exact .ret2 (h1 := .tmp (t := 2) rfl) (h2 := .tmp (t := 3) rfl) ⟨_, ⟨rfl, rfl⟩, Am.auto⟩
theorem zeroD_bad : (zeroD 0).take 8 ≠ magicJ := by
  show zeros.take 8 ≠ magicJ
  rw [zeros_take]; decide
theorem fsOpened {d n : Nat} (hn : 246 ≤ n) (hn2 : n ≤ 65536) : Spec Tryz.prog 131 #[.pointer (some ⟨d, 0, none⟩)] [DevR d n zeroD 0] fun F v M => ∃ j, v = .tuple #[.pointer (some ⟨j, 0, none⟩), .int .i64 0] ∧ M = JR j d n J0 :: F := by
  refine Spec.intro Tryz.func131 rfl rfl fun B F => ?_
  simp only [Tryz.ntmps131, List.cons_append, List.nil_append, env0, Nat.reduceAdd]
  refine .sr (.assign (.assign (.x (.move ?_))))
  refine .call (hc := Tryz.call140) (sp := jOpenBad (n := n) (t := 0) (cur := zeroD) hn zeroD_bad) (h := ?_)
  rintro _ _ ⟨rfl, rfl⟩
  refine .move ?_
  refine .extract ?_
  refine .extract ?_
  refine .assign (.assign (.z (.seq (.sr (.move ?_)))))
  refine .nei ?_
  refine .z ?_
  refine .condF rfl (congrArg Value.bool (by first | (simp; done) | (simp; omega) | omega)) ?_
  refine .skip (.next (.seq (.sr (.move ?_))))
  refine .call (hc := Tryz.call200) (sp := jFormat (n := n) (t := 0) (cur := zeroD) hn (by decide)) (h := ?_)
  rintro _ _ ⟨rfl, rfl⟩
  refine .assign (.x (.move ?_))
  refine .nei ?_
  refine .z ?_
  refine .condF rfl (congrArg Value.bool (by first | (simp; done) | (simp; omega) | omega)) ?_
  refine .skip (.next (.sr (.move ?_)))
  refine .call (hc := Tryz.call140) (sp := jOpen (n := n) (cur := formatted zeroD) hn hn2 formatted0 (fun i _ => formattedH _ i)) (h := ?_)
  rintro _ _ ⟨j, rfl, rfl⟩
  refine .extract ?_
  refine .extract ?_
  refine .assign (.assign (.z ?_))
  refine .ret (?_)
  exact .ret2 (h1 := .tmp (t := 2) rfl) (h2 := .tmp (t := 3) rfl) ⟨_, ⟨j, rfl, rfl⟩, Am.auto⟩
theorem fsMk1 {f s a c mp b8 b5 : Nat} {p : Pl} {V0 V : Nat → Bytes} (h : PlIs p) (hn : 246 ≤ p.n) : Spec Tryz.prog 134 #[.pointer (some ⟨b8, 0, none⟩), .pointer (some ⟨b5, 0, none⟩)] [pt b8 (.cells #[.pointer (some ⟨f, 0, none⟩)] 23 (0, 0)), pt f (fO c a s false false false mp), pt b5 (.cells p.cells 199 (0, 0)), TR c p.n V0 V [] true] fun F v M => v = okV ∧ M = pt b8 (.cells #[.pointer (some ⟨f, 0, none⟩)] 23 (0, 0)) :: pt f (fO c a s false false false mp) :: pt b5 (.cells p.cells 199 (0, 0)) :: TR c p.n V0 (wr V 245 (supB p)) [245] true :: F := by
  refine Spec.intro Tryz.func134 rfl rfl fun B F => ?_
  simp only [Tryz.ntmps134, List.cons_append, List.nil_append, env0, Nat.reduceAdd]
  refine .sr (.assign (.z (.seq ?_)))
  refine .dr ([pt b8 (.cells #[.pointer (some ⟨f, 0, none⟩)] 23 (0, 0)), pt f (fO c a s false false false mp), pt b5 (.cells p.cells 199 (0, 0))]) [] 8 mixed .autoJ ?_
  refine .tk 0 rfl (.ld sc23) ?_
  refine .tk 1 rfl .nilCheck ?_
  refine .tk 2 rfl (.fa fo129_0) ?_
  refine .tk 3 rfl (.ld sc124) ?_
  refine .tk 4 rfl (.ldA agg199) ?_
  refine .on 5 rfl fun hnp => ?_
  refine .call (hc := Tryz.call136) (sp := layEnc h) (h := ?_)
  rintro _ _ ⟨gb, q, rfl, ⟨hq1, hq2⟩, rfl⟩
  refine .nil (.wa hnp ?_)
  refine .on 6 rfl fun hnp => ?_
  refine .call (hc := Tryz.call135) (sp := tWrite (c := c) (n := p.n) (k := 245) (V0 := V0) (V := V) (D := []) (R := buf gb 5 q (bvs (supB p))) (xs := supB p) (by decide) (by omega) Reads.buf (supB_length p) rfl (.inr (by decide))) (h := ?_)
  rintro _ _ ⟨rfl, rfl⟩
  refine .nil (.wa hnp ?_)
  refine .tk 7 rfl .assign ?_
  refine .fin ?_
  refine .next ?_
  refine .ret (?_)
  exact .ret1 (h1 := .tmp (t := 2) rfl) ⟨_, ⟨rfl, rfl⟩, Am.auto⟩
theorem fsMkfs {d : Nat} {p : Pl} (h : PlIs p) : Spec Tryz.prog 63 #[.pointer (some ⟨d, 0, none⟩), .int .i64 (p.ino : Int)] [DevR d p.n zeroD 0] fun F v M => ∃ J, v = okV ∧ DevOk p.n (mkW p) J ∧ M = DevR d p.n J.cur 0 :: F := by
  refine Spec.intro Tryz.func63 rfl rfl fun B F => ?_
  simp only [Tryz.ntmps63, List.cons_append, List.nil_append, env0, Nat.reduceAdd]
  have hn2 := h.n2
  have h246 : 246 ≤ p.n := by have := h.bm; have := h.m1; have := h.da; have := h.dc; have := h.d1; omega
  refine .sr (.assign (.x (.move ?_)))
  refine .call (hc := Tryz.call130) (sp := devBlocksR (n := p.n) (t := 0) (cur := zeroD)) (h := ?_)
  rintro _ _ ⟨rfl, rfl⟩
  refine .move ?_
  refine .call (hc := Tryz.call129) (sp := layMake h) (h := ?_)
  rintro _ _ ⟨rfl, rfl⟩
  refine .move ?_
  refine .extract ?_
  refine .extract ?_
  refine .alloc z199 fun b5 => ?_
  refine .stV ?_ agg199
  refine .to (A := pt b5 (.cells p.cells 199 (0, 0))) (A' := pt b5 (.cells p.cells 199 (0, 0))) (fun h hh => hh) ?_
  refine .assign (.z (.seq (.sr (.move ?_))))
  refine .nei ?_
  refine .z ?_
  refine .condF rfl (congrArg Value.bool (by first | (simp; done) | (simp; omega) | omega)) ?_
  refine .skip (.next (.sr (.move ?_)))
  refine .call (hc := Tryz.call131) (sp := fsOpened (n := p.n) h246 hn2) (h := ?_)
  rintro _ _ ⟨j, rfl, rfl⟩
  refine .move ?_
  refine .extract ?_
  refine .extract ?_
  refine .assign (.assign (.z (.seq (.sr (.move ?_)))))
  refine .nei ?_
  refine .z ?_
  refine .condF rfl (congrArg Value.bool (by first | (simp; done) | (simp; omega) | omega)) ?_
  refine .skip (.next (.sr (.move ?_)))
  refine .ldA ?_ agg199
  refine .call (hc := Tryz.call132) (sp := fsStand (p := p) (T := fun _ => none) h246 hn2) (h := ?_)
  rintro _ _ ⟨f, c, a, s, mp, rfl, rfl⟩
  simp only [List.cons_append, List.nil_append]
  refine .shutR (TR.opens c p.n (tagV d) zeroD [] false) (j, d, ⟨J0, [], false, false⟩) ⟨rfl, (fun k h1 h2 => (J0_view h1).trans (tagV_home h1).symm), (fun k h1 h2 => J0_view h1), rfl, fun r hr => by rw [tagV_tag] at hr; injection hr with hr; subst hr; exact J0_tag hn2⟩ ?_
  refine .alloc z23 fun b8 => ?_
  refine .st ?_ sc23
  refine .z (.seq (.seq ?_))
  refine .dr ([pt b8 (.cells #[.pointer (some ⟨f, 0, none⟩)] 23 (0, 0)), pt f (fO c a s false false false mp)]) [] 24 mixed .autoJ ?_
  refine .tk 0 rfl (.ld sc23) ?_
  refine .tk 1 rfl .nilCheck ?_
  refine .tk 2 rfl (.fa fo129_0) ?_
  refine .tk 3 rfl (.ld sc124) ?_
  refine .tk 4 rfl .makeFuncB ?_
  refine .tk 5 rfl .makeFuncB ?_
  refine .tk 6 rfl (.ld sc23) ?_
  refine .tk 7 rfl .nilCheck ?_
  refine .tk 8 rfl (.fa fo129_1) ?_
  refine .tk 9 rfl (.ld sc125) ?_
  refine .tk 10 rfl .makeFuncB ?_
  refine .tk 11 rfl (.ld sc23) ?_
  refine .tk 12 rfl .nilCheck ?_
  refine .tk 13 rfl (.fa fo129_2) ?_
  refine .tk 14 rfl (.ld sc126) ?_
  refine .tk 15 rfl .makeFuncB ?_
  refine .tk 16 rfl (.ld sc23) ?_
  refine .tk 17 rfl .nilCheck ?_
  refine .tk 18 rfl (.fa fo129_0) ?_
  refine .tk 19 rfl (.ld sc124) ?_
  refine .tk 20 rfl .makeFuncB ?_
  refine .tk 23 rfl .move ?_
  refine .on 21 rfl fun hnp => ?_
  refine .buildS (fun b54 => ?_) (bsF5 _ _ _ _ _ _ _ _ _ _ _ _ _ _ _)
  refine .nil (.wa hnp ?_)
  refine .tk 22 rfl (.lenS sl220) ?_
  refine .fin ?_
  refine .next (.block ?_)
  refine .loopN 6 (RC.succ ?_)
  refine .sr ?_
  refine .lss ?_
  refine .z (.seq ?_)
  refine .condT rfl (congrArg Value.bool (by first | (simp; done) | (simp; omega) | omega)) ?_
  refine .skip (.next (.seq (.block (.sr ?_))))
  refine .idx1 ?_ so220
  refine .ld ?_ sc183
  refine .assign (.x (.move ?_))
  refine .callF (us := #[.pointer (some ⟨c, 0, none⟩)]) (cap := #[]) (vs := []) rfl rfl Tryz.call133 (Spec.bound (tBegin (n := p.n) (V0 := tagV d) (V := zeroD) (D := []))) ?_ (by repeat (first | exact .nil | (apply Tk.cons; focus ((repeat (first | exact .here | apply Rem.there)); done))))
  rintro _ _ ⟨rfl, rfl⟩
  refine .assign (.x (.move ?_))
  refine .nei ?_
  refine .z ?_
  refine .condF rfl (congrArg Value.bool (by first | (simp; done) | (simp; omega) | omega)) ?_
  refine .skip (.blockNormal (.next (.region ?_)))
  refine .add ?_
  refine .move (.nil ?_)
  refine .again (RC.succ ?_)
  refine .sr ?_
  refine .lss ?_
  refine .z (.seq ?_)
  refine .condT rfl (congrArg Value.bool (by first | (simp; done) | (simp; omega) | omega)) ?_
  refine .skip (.next (.seq (.block (.sr ?_))))
  refine .idx1 ?_ so220
  refine .ld ?_ sc183
  refine .assign (.x (.move ?_))
  refine .callF (us := #[]) (cap := #[.pointer (some ⟨b8, 0, none⟩), .pointer (some ⟨b5, 0, none⟩)]) (vs := []) rfl rfl Tryz.call134 (Spec.capt (fsMk1 (c := c) (f := f) (a := a) (s := s) (mp := mp) (V0 := tagV d) (V := zeroD) h h246)) ?_ (by repeat (first | exact .nil | (apply Tk.cons; focus ((repeat (first | exact .here | apply Rem.there)); done))))
  rintro _ _ ⟨rfl, rfl⟩
  refine .assign (.x (.move ?_))
  refine .nei ?_
  refine .z ?_
  refine .condF rfl (congrArg Value.bool (by first | (simp; done) | (simp; omega) | omega)) ?_
  refine .skip (.blockNormal (.next (.region ?_)))
  refine .add ?_
  refine .move (.nil ?_)
  refine .again (RC.succ ?_)
  refine .sr ?_
  refine .lss ?_
  refine .z (.seq ?_)
  refine .condT rfl (congrArg Value.bool (by first | (simp; done) | (simp; omega) | omega)) ?_
  refine .skip (.next (.seq (.block (.sr ?_))))
  refine .idx1 ?_ so220
  refine .ld ?_ sc183
  refine .assign (.x (.move ?_))
  refine .callF (us := #[.pointer (some ⟨a, 0, none⟩)]) (cap := #[]) (vs := []) rfl rfl Tryz.call137 (Spec.bound (alFormat (c := c) (V0 := tagV d) (V := wr zeroD 245 (supB p)) (D := [245]) h.ok (Nat.le_refl _))) ?_ (by repeat (first | exact .nil | (apply Tk.cons; focus ((repeat (first | exact .here | apply Rem.there)); done))))
  rintro _ _ ⟨rfl, rfl⟩
  simp only [List.cons_append, List.nil_append]
  refine .assign (.x (.move ?_))
  refine .nei ?_
  refine .z ?_
  refine .condF rfl (congrArg Value.bool (by first | (simp; done) | (simp; omega) | omega)) ?_
  refine .skip (.blockNormal (.next (.region ?_)))
  refine .add ?_
  refine .move (.nil ?_)
  refine .again (RC.succ ?_)
  refine .sr ?_
  refine .lss ?_
  refine .z (.seq ?_)
  refine .condT rfl (congrArg Value.bool (by first | (simp; done) | (simp; omega) | omega)) ?_
  refine .skip (.next (.seq (.block (.sr ?_))))
  refine .idx1 ?_ so220
  refine .ld ?_ sc183
  refine .assign (.x (.move ?_))
  refine .callF (us := #[.pointer (some ⟨s, 0, none⟩)]) (cap := #[]) (vs := []) rfl rfl Tryz.call138 (Spec.bound (inFormat (c := c) (a := a) (V0 := tagV d) (V := (fmtA p (wr zeroD 245 (supB p)))) (D := fmtB p [245]) h.ok (fmtB_room h))) ?_ (by repeat (first | exact .nil | (apply Tk.cons; focus ((repeat (first | exact .here | apply Rem.there)); done))))
  rintro _ _ ⟨rfl, rfl⟩
  simp only [List.cons_append, List.nil_append]
  refine .assign (.x (.move ?_))
  refine .nei ?_
  refine .z ?_
  refine .condF rfl (congrArg Value.bool (by first | (simp; done) | (simp; omega) | omega)) ?_
  refine .skip (.blockNormal (.next (.region ?_)))
  refine .add ?_
  refine .move (.nil ?_)
  refine .again (RC.succ ?_)
  refine .sr ?_
  refine .lss ?_
  refine .z (.seq ?_)
  refine .condT rfl (congrArg Value.bool (by first | (simp; done) | (simp; omega) | omega)) ?_
  refine .skip (.next (.seq (.block (.sr ?_))))
  refine .idx1 ?_ so220
  refine .ld ?_ sc183
  refine .assign (.x (.move ?_))
  refine .callF (us := #[.pointer (some ⟨c, 0, none⟩)]) (cap := #[]) (vs := []) rfl rfl Tryz.call139 (Spec.bound (tCommitD (n := p.n) (d := d) (V0 := tagV d) (V := mkW p) (D := insD (fmtB p [245]) (p.tb + 0 / 8)) (tagV_tag d) h246)) ?_ (by repeat (first | exact .nil | (apply Tk.cons; focus ((repeat (first | exact .here | apply Rem.there)); done))))
  rintro _ _ ⟨J, rfl, hJ, rfl⟩
  refine .assign (.x (.move ?_))
  refine .nei ?_
  refine .z ?_
  refine .condF rfl (congrArg Value.bool (by first | (simp; done) | (simp; omega) | omega)) ?_
  refine .skip (.blockNormal (.next (.region ?_)))
  refine .add ?_
  refine .move (.nil ?_)
  refine .again (RC.succ ?_)
  refine .sr ?_
  refine .lss ?_
  refine .z (.seq ?_)
  refine .condF rfl (congrArg Value.bool (by first | (simp; done) | (simp; omega) | omega)) ?_
  refine .exit (.thenExit (.thenExit (.blockExit (?_))))
  refine .next (.sr (.assign (.z ?_)))
  refine .ret (?_)
  exact .ret1 (h1 := .tmp (t := 4) rfl) ⟨_, ⟨J, rfl, hJ, rfl⟩, Am.auto⟩
theorem fsMount {d : Nat} {p : Pl} {J : JS} {V : Nat → Bytes} {T : FT} (h : PlIs p) (hJ : DevOk p.n V J) (hsup : V 245 = supB p) (hr : Rep p (cm0 V) (fmT T)) : Spec Tryz.prog 64 #[.pointer (some ⟨d, 0, none⟩)] [DevR d p.n J.cur 0] fun F v M => ∃ f, v = .tuple #[.pointer (some ⟨f, 0, none⟩), .int .i64 0] ∧ M = FSR f p T :: F := by
  refine Spec.intro Tryz.func64 rfl rfl fun B F => ?_
  simp only [Tryz.ntmps64, List.cons_append, List.nil_append, env0, Nat.reduceAdd]
  have hS := hJ.settled
  have hn1 := hJ.n1
  have hn2 := hJ.n2
  have hv := (hS.home 245 (by decide) (by omega)).trans hsup
  refine .sr (.assign (.assign (.x (.move ?_))))
  refine .call (hc := Tryz.call140) (sp := jOpenG (n := p.n) (J := J) hn1 hn2 hJ.ok hJ.last) (h := ?_)
  rintro _ _ ⟨j, rfl, rfl⟩
  refine .move ?_
  refine .extract ?_
  refine .extract ?_
  refine .assign (.assign (.z (.seq (.sr (.move ?_)))))
  refine .nei ?_
  refine .z ?_
  refine .condF rfl (congrArg Value.bool (by first | (simp; done) | (simp; omega) | omega)) ?_
  refine .skip (.next (.sr (.move ?_)))
  refine .call (hc := Tryz.call141) (sp := jRead (d := d) (n := p.n) (J := J.settled) (k := 245) (by decide) (by omega)) (h := ?_)
  rintro _ _ ⟨gb, q, rfl, ⟨hq1, hq2, hq3⟩, rfl⟩
  rw [hv]
  refine .move ?_
  refine .extract ?_
  refine .extract ?_
  refine .assign (.assign (.z (.seq (.sr (.move ?_)))))
  refine .nei ?_
  refine .z ?_
  refine .condF rfl (congrArg Value.bool (by first | (simp; done) | (simp; omega) | omega)) ?_
  refine .skip (.next (.sr (.move ?_)))
  refine .call (hc := Tryz.call142) (sp := layDec (R := buf gb 5 q (bvs (supB p))) h Reads.buf) (h := ?_)
  rintro _ _ ⟨rfl, rfl⟩
  refine .move ?_
  refine .extract ?_
  refine .extract ?_
  refine .alloc z199 fun b7 => ?_
  refine .stV ?_ agg199
  refine .to (A := pt b7 (.cells p.cells 199 (0, 0))) (A' := pt b7 (.cells p.cells 199 (0, 0))) (fun h hh => hh) ?_
  refine .assign (.z (.seq (.seq ?_)))
  refine .openR (JR.opens j d p.n J.settled) fun x hx => ?_
  simp only [jL, List.cons_append, List.nil_append]
  refine .dr ([pt b7 (.cells p.cells 199 (0, 0))]) [] 9 mixed .autoJ ?_
  refine .tk 0 rfl .move ?_
  refine .tk 1 rfl .nei ?_
  refine .tk 2 rfl .move ?_
  refine .tn 3 rfl (.fa fo199_0) ?_
  refine .tn 4 rfl (.ld sc3) ?_
  refine .tn 5 rfl .move ?_
  refine .on 6 rfl fun hnp => ?_
  refine .gT ?_
  refine .call (hc := Tryz.call130) (sp := devBlocksR (n := p.n) (t := 0) (cur := J.settled.cur)) (h := ?_)
  rintro _ _ ⟨rfl, rfl⟩
  refine .nil (.wa hnp ?_)
  refine .tn 7 rfl .nei ?_
  refine .tk 8 rfl .pickF ?_
  refine .fin ?_
  refine .next ?_
  refine .condF rfl (congrArg Value.bool (by first | (simp; done) | (simp; omega) | omega)) ?_
  refine .skip (.next (.sr ?_))
  refine .shutR (JR.opens j d p.n J.settled) x hx ?_
  refine .move ?_
  refine .ldA ?_ agg199
  refine .call (hc := Tryz.call132) (sp := fsStand (p := p) (T := T) hn1 hn2) (h := ?_)
  rintro _ _ ⟨f, c, a, s, mp, rfl, rfl⟩
  simp only [List.cons_append, List.nil_append]
  refine .shutR (TR.opens c p.n (cm0 V) (cm0 V) [] false) (j, d, ⟨J.settled, [], false, false⟩) ⟨rfl, (fun k h1 h2 => (hS.home k h1 h2).trans (cm0_home V (by omega)).symm), (fun k h1 h2 => (hS.home k h1 h2).trans (cm0_home V (by omega)).symm), rfl, fun r hr => by rw [cm0_tag] at hr; cases hr⟩ ?_
  refine .shutR (IN.opens s a c p (fmT T) (fmT T) 0 false) (cm0 V, cm0 V, []) ⟨hr, hr, Dk.nil p, Nat.zero_le _⟩ ?_
  refine .shutR (FSR.opens f p T) (c, a, s, mp) trivial ?_
  refine .assign (.assign (.z ?_))
  refine .ret (?_)
  exact .ret2 (h1 := .tmp (t := 2) rfl) (h2 := .tmp (t := 3) rfl) ⟨_, ⟨f, rfl, rfl⟩, Am.auto⟩
def rootT : FT := fun i => if i = 0 then some (.dir []) else none
theorem fmT_root : fmT rootT = rootM := by
  funext i
  unfold fmT rootT rootM
  by_cases h : i = 0
  · rw [if_pos h, if_pos h]; rfl
  · rw [if_neg h, if_neg h]; rfl
theorem fsMountNew {d : Nat} {p : Pl} {J : JS} (h : PlIs p) (hJ : DevOk p.n (mkW p) J) : Spec Tryz.prog 64 #[.pointer (some ⟨d, 0, none⟩)] [DevR d p.n J.cur 0] fun F v M => ∃ f, v = .tuple #[.pointer (some ⟨f, 0, none⟩), .int .i64 0] ∧ M = FSR f p rootT :: F :=
  fsMount h hJ (mkW_sup h) (by rw [fmT_root]; exact mkW_rep h)
end Go.Proofs.YtdmjkjeoamiedaaGreatDoor
end
section
namespace Go.Proofs.YtdmjkjeoamiedaaGreatDoor
open Go
section
variable {P : Program} {B : Base} {n : Fr} {Q Q' : Exit → Act → World → Prop} {e : Env} {L : List HP} {ops : Array Oper} {l : List Oper}
variable {d : Nat} {ty : TypeId} {pos : String} {af : Array Edge} {x y z : Operand} {gd : Option (Nat × Bool)}
theorem made_flat (zs : List Value) (hz : 0 < zs.length) (k : Nat) : (madeCells zs.toArray (k * zs.length)).toList = (List.replicate k zs).flatten := by
  apply List.ext_getElem?
  intro i
  have hl : ∀ k, ((List.replicate k zs).flatten).length = k * zs.length := fun k => by
    induction k with
    | zero => simp
    | succ k ih => rw [List.replicate_succ, List.flatten_cons, List.length_append, ih, Nat.succ_mul]; omega
  have key : ∀ k i, i < k * zs.length → ((List.replicate k zs).flatten)[i]? = zs[i % zs.length]? := by
    intro k
    induction k with
    | zero => intro i h; omega
    | succ k ih =>
      intro i h
      rw [List.replicate_succ, List.flatten_cons]
      by_cases hi : i < zs.length
      · rw [List.getElem?_append_left hi, Nat.mod_eq_of_lt hi]
      · rw [List.getElem?_append_right (by omega), ih (i - zs.length) (by rw [Nat.succ_mul] at h; omega)]
        rw [← Nat.mod_eq_sub_mod (by omega)]
  by_cases h : i < k * zs.length
  · rw [key k i h]
    have hm : i % zs.length < zs.length := Nat.mod_lt _ hz
    simp [madeCells, h, hm]
  · rw [List.getElem?_eq_none (l := (List.replicate k zs).flatten) (by rw [hl]; omega), List.getElem?_eq_none (by simp [madeCells]; omega)]
theorem WL.mkSt {t el bytes size : Nat} {k : Nat} {zs : List Value} (hz : zeroOf P el = some zs.toArray) (hzl : zs.length = size) (hs0 : 0 < size) (h : ∀ b, WL P B n ops l Q ((d, .slice (some ⟨b, 0, none⟩) k k) :: e) (row b el (List.replicate k zs).flatten :: L))
    (ht : sliceOk P t el size bytes = true) (hb : bytes * k ≤ 281474976710656) (hm : k ≤ 9223372036854775807) (hx : evo e x = some (.int .i64 (k : Int)) := by rfl) (hy : evo e y = some (.int .i64 (k : Int)) := by rfl) (hd : Nat.ble (d + 1) n.k = true := by rfl) :
    WL P B n ops (⟨some d, .makeSlice t x y, ty, pos, af, none⟩ :: l) Q e L :=
  WL.step rfl fun a w ha hs => by
    obtain ⟨hu, i, z, hi, hsz, hby, hzz⟩ := slice_of ht
    have hzc : z.cells = zs.toArray := by
      unfold zeroOf at hz
      simpa [hi, hzz] using hz
    have hb2 : (bytes : Int) * (k : Int) ≤ 281474976710656 := by
      have h1 : ((bytes * k : Nat) : Int) ≤ 281474976710656 := by omega
      rwa [Int.natCast_mul] at h1
    have hr := run_make (P := P) w t el i z hu hi hzz .i64 .i64 k k (by omega) (Int.le_refl _) (by rw [hby]; exact hb2) (by omega)
    rw [hsz, hzc, Int.toNat_natCast] at hr
    have hcells := made_flat zs (by omega) k
    rw [hzl] at hcells
    have hrow : ∀ b h, pt b (.cells (madeCells zs.toArray (k * size)) el (0, 0)) h → row b el (List.replicate k zs).flatten h := fun b h hh => by
      unfold row
      rw [← hcells, Array.toArray_toList]
      exact hh
    refine ⟨_, _, _, _, ?_, ha.put hd _, (hs.new _).imp (L := []) (hrow _), h w.heap.size⟩
    simp only [execOp, ha.eval hx, ha.eval hy]
    rw [Sem.run_bind, hr]
    rfl
end
end Go.Proofs.YtdmjkjeoamiedaaGreatDoor
end
section
namespace Go.Proofs.YtdmjkjeoamiedaaGreatDoor
open Go
abbrev TL := List (Nat × NodeT)
def trL (l : TL) : FT := fun i => kget l i
theorem trL_put (l : TL) (i : Nat) (x : NodeT) : updT (trL l) i (some x) = trL (kput l i x) := by
  funext j
  unfold updT trL
  rw [kget_put]
theorem trL_mk (l : TL) (d : Nat) (sl : List Slot) (nm : Bytes) (i : Nat) (x : NodeT) : mkT (trL l) d sl nm i x = trL (kput (kput l i x) d (.dir (setS sl (freeS sl) (some (nm, i))))) := by
  unfold mkT
  rw [trL_put, trL_put]
theorem kget_of_mem {κ α : Type} [DecidableEq κ] {l : List (κ × α)} {k : κ} {v : α} (h : kget l k = some v) : (k, v) ∈ l := by
  induction l with
  | nil => cases h
  | cons p r ih =>
    obtain ⟨k', v'⟩ := p
    unfold kget at h
    split at h
    · rename_i hk
      injection h with h
      subst hk; subst h
      exact List.mem_cons_self ..
    · exact List.mem_cons_of_mem _ (ih h)
def NodeT.ok : NodeT → Prop
  | .file _ => True
  | .dir sl => DirOk sl ∧ sl.length ≤ 1000
theorem trL_ok {l : TL} (h : ∀ e ∈ l, e.2.ok) : TOk (trL l) := fun d sl hd => h _ (kget_of_mem hd)
theorem DirOk.consS {r : List Slot} (h : DirOk r) {nm : Bytes} {k : Nat} (hn : 1 ≤ nm.length ∧ nm.length ≤ 50) (hk : k < 4294967296) (hl : lookS nm r = none) : DirOk (some (nm, k) :: r) := by
  have hno := lookS_none hl
  refine ⟨fun q n i hq => ?_, fun p q n i j hp hq => ?_⟩
  · cases q with
    | zero => injection hq with hq; injection hq with hq; injection hq with h1 h2; subst h1; subst h2; exact ⟨hn, hk⟩
    | succ q => exact h.nm q n i hq
  · cases p with
    | zero =>
      injection hp with hp; injection hp with hp; injection hp with h1 h2
      subst h1
      cases q with
      | zero => rfl
      | succ q => exact absurd hq (hno q j)
    | succ p =>
      cases q with
      | zero =>
        injection hq with hq; injection hq with hq; injection hq with h1 h2
        subst h1
        exact absurd hp (hno p i)
      | succ q => rw [h.one p q n i j hp hq]
theorem DirOk.one1 {nm : Bytes} {k : Nat} (hn : 1 ≤ nm.length ∧ nm.length ≤ 50) (hk : k < 4294967296) : DirOk [some (nm, k)] := DirOk.nil.consS hn hk rfl
def totL : TL → Nat
  | [] => 0
  | e :: l => has e.2.size + totL l
theorem tot_no {F : FM} (h : ∀ i, F i = none) : ∀ n, tot F n = 0
  | 0 => rfl
  | n + 1 => by rw [tot, tot_no h n, h]; rfl
theorem trL_cons (k : Nat) (x : NodeT) (l : TL) : trL ((k, x) :: l) = updT (trL l) k (some x) := by
  funext j
  unfold updT trL
  rfl
theorem tot_trL {n : Nat} : ∀ {l : TL}, (l.map (·.1)).Nodup → (∀ e ∈ l, e.1 < n) → tot (fmT (trL l)) n = totL l
  | [], _, _ => tot_no (fun i => rfl) n
  | (k, x) :: l, hn, hb => by
    rw [List.map_cons, List.nodup_cons] at hn
    have ih := tot_trL hn.2 (fun e he => hb e (List.mem_cons_of_mem _ he))
    have h := tot_upd' (fmT (trL l)) (hb (k, x) (List.mem_cons_self ..)) (some x.f)
    rw [fmT_updS, ← trL_cons, fmT_none (show trL l k = none from kget_none.2 hn.1), ih] at h
    have h2 : hasO (some x.f) = has x.size := by show has x.f.2.length = _; rw [x.f_size]
    rw [h2] at h
    have h3 : hasO none = 0 := rfl
    show tot (fmT (trL ((k, x) :: l))) n = has x.size + totL l
    have h4 : tot (fmT (trL ((k, x) :: l))) n + hasO none = totL l + has x.size := h
    omega
theorem rootT_trL : rootT = trL [(0, .dir [])] := by
  funext i
  unfold rootT trL
  by_cases h : i = 0
  · subst h; rfl
  · rw [if_neg h]
    unfold kget
    rw [if_neg h]; rfl
end Go.Proofs.YtdmjkjeoamiedaaGreatDoor
end
section
namespace Go.Proofs.YtdmjkjeoamiedaaGreatDoor
open Go
theorem fsCreateL {f : Nat} {p : Pl} {l l' : TL} {path : Bytes} {d i : Nat} {nm : Bytes} {sl : List Slot} (ho : PlOk p) (hok : ∀ e ∈ l, e.2.ok) (hn : (l.map (·.1)).Nodup) (hb : ∀ e ∈ l, e.1 < p.ino) (hpl : path.length ≤ 1000000) (hp : path ≠ [47]) (hpar : parentT (trL l) path = (d, nm, 0)) (hfi : findT (trL l) d nm = (0, 4)) (hd : kget l d = some (.dir sl)) (hi : i < p.ino) (hTi : kget l i = none) (hlo : ∀ j < i, kget l j ≠ none)
    (hw : Rw p 0 14) (hfit : totL l + has (max (64 * sl.length) (64 * freeS sl + 64)) ≤ p.dc + has (64 * sl.length)) (hl' : kput (kput l i (.file [])) d (.dir (setS sl (freeS sl) (some (nm, i)))) = l') :
    Spec Tryz.prog 17 #[.pointer (some ⟨f, 0, none⟩), sv path] [FSR f p (trL l)] fun F v M => v = okV ∧ M = FSR f p (trL l') :: F := by
  have := fsCreate (f := f) (p := p) (T := trL l) (path := path) (d := d) (i := i) (nm := nm) (sl := sl) (x := .file []) ho (trL_ok hok) hpl hp hpar hfi hd hi hTi hlo rfl rfl hw (by rw [tot_trL hn hb]; exact hfit)
  rwa [trL_mk, hl'] at this
theorem fsMkdirL {f : Nat} {p : Pl} {l l' : TL} {path : Bytes} {d i : Nat} {nm : Bytes} {sl : List Slot} (ho : PlOk p) (hok : ∀ e ∈ l, e.2.ok) (hn : (l.map (·.1)).Nodup) (hb : ∀ e ∈ l, e.1 < p.ino) (hpl : path.length ≤ 1000000) (hp : path ≠ [47]) (hpar : parentT (trL l) path = (d, nm, 0)) (hfi : findT (trL l) d nm = (0, 4)) (hd : kget l d = some (.dir sl)) (hi : i < p.ino) (hTi : kget l i = none) (hlo : ∀ j < i, kget l j ≠ none)
    (hw : Rw p 0 14) (hfit : totL l + has (max (64 * sl.length) (64 * freeS sl + 64)) ≤ p.dc + has (64 * sl.length)) (hl' : kput (kput l i (.dir [])) d (.dir (setS sl (freeS sl) (some (nm, i)))) = l') :
    Spec Tryz.prog 28 #[.pointer (some ⟨f, 0, none⟩), sv path] [FSR f p (trL l)] fun F v M => v = okV ∧ M = FSR f p (trL l') :: F := by
  have := fsMkdir (f := f) (p := p) (T := trL l) (path := path) (d := d) (i := i) (nm := nm) (sl := sl) (x := .dir []) ho (trL_ok hok) hpl hp hpar hfi hd hi hTi hlo rfl rfl hw (by rw [tot_trL hn hb]; exact hfit)
  rwa [trL_mk, hl'] at this
theorem fsAppendL {f : Nat} {p : Pl} {l l' : TL} {path : Bytes} {i m cc : Nat} {fb bs : Bytes} {R : HP} {A : Option Addr} (ho : PlOk p) (hok : ∀ e ∈ l, e.2.ok) (hn : (l.map (·.1)).Nodup) (hb : ∀ e ∈ l, e.1 < p.ino) (hpl : path.length ≤ 1000000) (hft : fileT (trL l) path = (i, 1, fb.length, 0)) (hTi : kget l i = some (.file fb)) (hR : bs = [] ∨ Reads R A (bvs bs)) (hm : bs.length = m) (hcc : m ≤ cc) (hcb : cc ≤ maxLen)
    (hw : Rw p 0 (has (fb.length + m) - has fb.length + (m + 511) / 512 + 10)) (hbg : fb.length + m ≤ 70656) (hfit : totL l + has (fb.length + m) ≤ p.dc + has fb.length) (hl' : kput l i (.file (wrB fb fb.length bs)) = l') :
    Spec Tryz.prog 18 #[.pointer (some ⟨f, 0, none⟩), sv path, .slice A m cc] [FSR f p (trL l), R] fun F v M => v = okV ∧ M = FSR f p (trL l') :: R :: F := by
  have hmx : max fb.length (fb.length + m) = fb.length + m := Nat.max_eq_right (Nat.le_add_right _ _)
  have := fsAppend (f := f) (p := p) (T := trL l) (path := path) (i := i) (fb := fb) (bs := bs) (R := R) (A := A) (m := m) (cc := cc) ho (trL_ok hok) hpl hft hTi hR hm hcc hcb (by rw [hmx]; exact hw) (Nat.le_refl _) hbg (by rw [hmx, tot_trL hn hb]; exact hfit)
  rwa [trL_put, hl'] at this
theorem okNil : NodeT.ok (.dir []) := ⟨DirOk.nil, by decide⟩
theorem ok1 {nm : Bytes} {k : Nat} (hn : 1 ≤ nm.length ∧ nm.length ≤ 50) (hk : k < 4294967296) : NodeT.ok (.dir [some (nm, k)]) := ⟨DirOk.one1 hn hk, by show 1 ≤ 1000; decide⟩
theorem lt_of_all {l : TL} {n : Nat} (h : (l.all fun e => decide (e.1 < n)) = true) : ∀ e ∈ l, e.1 < n := fun e he => by simpa using List.all_eq_true.1 h e he
end Go.Proofs.YtdmjkjeoamiedaaGreatDoor
end
section
namespace Go.Proofs.YtdmjkjeoamiedaaGreatDoor
open Go
abbrev Prd := Nat × Nat × Nat
def PrdOk (r : Prd) : Prop := 1 ≤ r.1 ∧ r.1 < 2 ^ 63 ∧ r.2.1 < 2 ^ 63 ∧ r.2.2 ≤ 2 ^ 50
structure POk (L : List Prd) : Prop where
  each : ∀ r ∈ L, PrdOk r
  one : ∀ q r (hq : q < L.length) (hr : r < L.length), L[q].1 = L[r].1 → q = r
  few : L.length ≤ 60
end Go.Proofs.YtdmjkjeoamiedaaGreatDoor
end
section
namespace Go.Proofs.YtdmjkjeoamiedaaGreatDoor
open Go
theorem POk.take {L : List Prd} (h : POk L) (k : Nat) : POk (L.take k) := by
  refine ⟨fun r hr => h.each r (List.mem_of_mem_take hr), fun q r hq hr he => ?_, by rw [List.length_take]; have := h.few; omega⟩
  rw [List.length_take] at hq hr
  rw [List.getElem_take, List.getElem_take] at he
  exact h.one q r (by omega) (by omega) he
end Go.Proofs.YtdmjkjeoamiedaaGreatDoor
end
section
namespace Go.Proofs.YtdmjkjeoamiedaaGreatDoor
open Go
def pD (n ino : Nat) : Pl := ⟨n, ino, 246, 247, 248, 248 + (ino + 7) / 8, n - (248 + (ino + 7) / 8)⟩
theorem pD_is {n ino : Nat} (h1 : 1 ≤ ino) (h2 : ino ≤ 4096) (hn : 249 + (ino + 7) / 8 ≤ n) (hn2 : n ≤ 4000) : PlIs (pD n ino) := by
  refine ⟨?_, ?_, ?_, ?_, ?_, ?_, ?_, ?_, ?_, ?_, ?_⟩
  all_goals (simp only [pD]; try first | omega | (left; omega))
end Go.Proofs.YtdmjkjeoamiedaaGreatDoor
end
section
namespace Go.Proofs.YtdmjkjeoamiedaaGreatDoor
open Go
theorem z244 : zeroOf Tryz.prog 244 = some (#[.int .i64 0, .slice none 0 0]) := by kernel_rfl
theorem fo247_1 : fieldOk Tryz.prog 247 1 7 = true := by kernel_rfl
theorem sc245 : scalarOk Tryz.prog 245 = true := by kernel_rfl
theorem so245 : sliceOk Tryz.prog 245 244 2 32 = true := by kernel_rfl
theorem fo244_0 : fieldOk Tryz.prog 244 0 0 = true := by kernel_rfl
theorem bdSto (a b c d e f h : Int) (A : Option Addr) (k cc : Nat) : BuildOk Tryz.prog 247 [(0, .agg #[.int .i64 a, .int .i64 b, .int .i64 c, .int .i64 d, .int .i64 e, .int .i64 f, .int .i64 h]), (1, .slice A k cc)] #[.int .i64 a, .int .i64 b, .int .i64 c, .int .i64 d, .int .i64 e, .int .i64 f, .int .i64 h, .slice A k cc, .int .i64 0, .slice none 0 0] := fun w => by kernel_rfl
theorem bdRF (s : Nat) : BuildOk Tryz.prog 159 [(0, .pointer (some ⟨s, 0, none⟩))] #[.pointer (some ⟨s, 0, none⟩), .pointer none, .bool false] := fun w => by kernel_rfl
theorem p11_is : PlIs (pD 500 40) := pD_is (by decide) (by decide) (by decide) (by decide)
theorem flat_pos {k : Nat} (h : 1 ≤ k) : 0 < ((List.replicate k [Value.int .i64 0, .slice none 0 0]).flatten).length := by
  obtain ⟨j, rfl⟩ : ∃ j, k = j + 1 := ⟨k - 1, by omega⟩
  rw [List.replicate_succ, List.flatten_cons, List.length_append]
  exact Nat.lt_of_lt_of_le (by decide : 0 < [Value.int .i64 0, Value.slice none 0 0].length) (Nat.le_add_right _ _)
theorem refStore0 {p : Pl} (h1 : 1 ≤ p.ino) (h2 : p.ino ≤ 4096) : Spec Tryz.prog 117 #[.agg p.cells] [] fun F v M => ∃ s, v = .pointer (some ⟨s, 0, none⟩) ∧ M = F := by
  refine Spec.intro Tryz.func117 rfl rfl fun B F => ?_
  simp only [Tryz.ntmps117, List.cons_append, List.nil_append, env0, Nat.reduceAdd]
  refine .sr ?_
  refine .box fun b1 => ?_
  refine .to (A := pt b1 (.cells p.cells 199 (0, 0))) (A' := pt b1 (.cells p.cells 199 (0, 0))) (fun h hh => hh) ?_
  refine .assign (.z (.seq ?_))
  refine .dr ([pt b1 (.cells p.cells 199 (0, 0))]) [] 7 mixed .autoJ ?_
  refine .tk 0 rfl (.ldA agg199) ?_
  refine .tk 1 rfl (.fa fo199_1) ?_
  refine .tk 2 rfl (.ld sc3) ?_
  refine .on 3 rfl fun hnp => ?_
  refine .mkSt (k := p.ino) (zs := [.int .i64 0, .slice none 0 0]) z244 rfl (by decide) (fun b7 => ?_) so245 (by omega) (by omega)
  refine .nil (.wa hnp ?_)
  refine .tk 4 rfl (.build (bdSto _ _ _ _ _ _ _ _ _ _)) ?_
  refine .on 5 rfl fun hnp => ?_
  refine .box fun b9 => ?_
  refine .nil (.wa hnp ?_)
  refine .tk 6 rfl .assign ?_
  refine .fin ?_
  refine .next (.sr (.move ?_))
  refine .nilCheck ?_
  refine .fa ?_ fo247_1
  refine .ld ?_ sc245
  refine .idx ?_ so245
  refine .fa ?_ fo244_0
  refine .stL (xs := (List.replicate p.ino [Value.int .i64 0, .slice none 0 0]).flatten) (i := 0) ?_ sc3 (flat_pos h1)
  refine .x (.move (.assign (.z ?_)))
  refine .ret (?_)
  exact .ret1 (h1 := .tmp (t := 2) rfl) ⟨_, ⟨b9, rfl, rfl⟩, Am.auto⟩
theorem refMakeOk {p : Pl} (h : PlIs p) : Spec Tryz.prog 116 #[nI p.n, nI p.ino] [] fun F v M => v = .tuple #[.agg p.cells, .int .i64 0] ∧ M = F := by
  have h2 := h.bm; have h3 := h.m1; have h4 := h.da; have h5 := h.dc; have h8 := h.n2; have h9 := h.i1; have h10 := h.i2; have h11 := h.d1
  refine Spec.post (refMakeS (n := p.n) (ino := p.ino) (by omega) h8 h9 h10) ?_
  rintro F v M ⟨⟨q, hq, hn, hi, rfl⟩ | ⟨rfl, hno⟩, rfl⟩
  · rw [hq.one h hn hi]; exact ⟨_, ⟨rfl, rfl⟩, Wk.refl⟩
  · exact absurd (hno p h rfl rfl) id
theorem refFs0 {p : Pl} (h : PlIs p) : Spec Tryz.prog 57 #[nI p.n, nI p.ino] [] fun F v M => ∃ m, v = .tuple #[.pointer (some ⟨m, 0, none⟩), .int .i64 0] ∧ M = F := by
  refine Spec.intro Tryz.func57 rfl rfl fun B F => ?_
  simp only [Tryz.ntmps57, List.cons_append, List.nil_append, env0, Nat.reduceAdd]
  refine .sr (.assign (.assign (.x (.move (.move ?_)))))
  refine .call (hc := Tryz.call116) (sp := refMakeOk h) (h := ?_)
  rintro _ _ ⟨rfl, hM⟩
  obtain rfl := hM.symm
  refine .move ?_
  refine .extract ?_
  refine .extract ?_
  refine .alloc z199 fun b6 => ?_
  refine .stV ?_ agg199
  refine .to (A := pt b6 (.cells p.cells 199 (0, 0))) (A' := pt b6 (.cells p.cells 199 (0, 0))) (fun h hh => hh) ?_
  refine .assign (.z (.seq (.sr (.move ?_))))
  refine .nei ?_
  refine .z ?_
  refine .condF rfl (congrArg Value.bool (by first | (simp; done) | (simp; omega) | omega)) ?_
  refine .skip (.next (.sr ?_))
  refine .ldA ?_ agg199
  refine .call (hc := Tryz.call117) (sp := refStore0 (p := p) h.i1 h.i2) (h := ?_)
  rintro _ _ ⟨s, rfl, rfl⟩
  refine .build ?_ (bdRF _)
  refine .box fun b20 => ?_
  refine .assign (.assign (.z ?_))
  refine .ret (?_)
  exact .ret2 (h1 := .tmp (t := 4) rfl) (h2 := .tmp (t := 5) rfl) ⟨_, ⟨b20, rfl, rfl⟩, Am.auto⟩
theorem has_up (n : Nat) : has n ≤ (n + 511) / 512 + 1 := by
  unfold has dat
  split <;> omega
end Go.Proofs.YtdmjkjeoamiedaaGreatDoor
end
section
namespace Go.Proofs.YtdmjkjeoamiedaaGreatDoor
open Go
theorem full_free' {sl : List Slot} (h : ∀ q : Nat, sl[q]? ≠ some none) : freeS sl = sl.length := by
  unfold freeS
  cases hf : freeF sl sl.length with
  | none => rfl
  | some r => exact absurd (freeF_some hf).2.1 (h r)
theorem has_small {n : Nat} (h : n ≤ 42) : has (64 * n) ≤ 7 := by
  have := has_up (64 * n); omega
end Go.Proofs.YtdmjkjeoamiedaaGreatDoor
end
section
namespace Go.Proofs.YtdmjkjeoamiedaaGreatDoor
open Go
section
variable {P : Program} {B : Base} {n : Fr} {Q Q' : Exit → Act → World → Prop} {e : Env} {L : List HP} {ops : Array Oper} {l : List Oper}
variable {d : Nat} {ty : TypeId} {pos : String} {af : Array Edge} {x y z : Operand} {gd : Option (Nat × Bool)}
theorem bstr_append (xs ys : Bytes) : bstr xs ++ bstr ys = bstr (xs ++ ys) := by
  apply ByteArray.ext
  simp [bstr]
theorem Qt.catS {t u : TypeId} (xs ys : Bytes) (hl : xs.length + ys.length ≤ 9223372036854775807) (hx : evo e x = some (sv xs) := by rfl) (hy : evo e y = some (sv ys) := by rfl) :
    Qt P B n e L ⟨some d, .binOp .add t x y u, ty, pos, af, gd⟩ (sv (xs ++ ys)) :=
  Qt.strs (xs := bstr xs) (ys := bstr ys) (fun w => by
    rw [binOp_string_add, run_string_add_sum w _ _ (by rw [bstr_size, bstr_size]; exact hl), bstr_append]; rfl) hx hy
theorem WL.catS {t u : TypeId} (xs ys : Bytes) (h : WL P B n ops l Q ((d, sv (xs ++ ys)) :: e) L) (hl : xs.length + ys.length ≤ 9223372036854775807) (hx : evo e x = some (sv xs) := by rfl) (hy : evo e y = some (sv ys) := by rfl) (hd : Nat.ble (d + 1) n.k = true := by rfl) :
    WL P B n ops (⟨some d, .binOp .add t x y u, ty, pos, af, none⟩ :: l) Q e L := WL.pure h hd (Qt.catS xs ys hl hx hy)
end
end Go.Proofs.YtdmjkjeoamiedaaGreatDoor
end
section
namespace Go.Proofs.YtdmjkjeoamiedaaGreatDoor
open Go
def mayT (from_ to : Bytes) : Bool := match partsT from_, partsT to with
  | some a, some b => decide (0 < a.length) && decide (0 < b.length) && !decide (to.take (from_ ++ [47]).length = from_ ++ [47])
  | _, _ => false
theorem hasPreS {xs ps : Bytes} : Spec Tryz.prog 175 #[sv xs, sv ps] [] fun F v M => v = .bool (decide (xs.take ps.length = ps)) ∧ M = F := by
  refine Spec.intro Tryz.func175 rfl rfl fun B F => ?_
  simp only [Tryz.ntmps175, List.cons_append, List.nil_append, env0, Nat.reduceAdd]
  refine .sr (.assign (.x (.move (.move ?_))))
  refine .call (hc := Tryz.call248) (sp := hasPre) (h := ?_)
  rintro _ _ ⟨rfl, rfl⟩
  refine .assign (.z ?_)
  refine .ret (?_)
  exact .ret1 (h1 := .tmp (t := 4) rfl) ⟨_, ⟨rfl, rfl⟩, Am.auto⟩
theorem fsMay {xs ys : Bytes} (hx : xs.length ≤ 1000000) (hy : ys.length ≤ 1000000) : Spec Tryz.prog 94 #[sv xs, sv ys] [] fun F v M => v = .bool (mayT xs ys) ∧ M = F := by
  refine Spec.intro Tryz.func94 rfl rfl fun B F => ?_
  simp only [Tryz.ntmps94, List.cons_append, List.nil_append, env0, Nat.reduceAdd]
  cases hpx : partsT xs with
  | none =>
    cases hpy : partsT ys with
    | none =>
      have hmt : mayT xs ys = false := by unfold mayT; rw [hpx]
      refine .sr (.assign (.x (.move ?_)))
      refine .call (hc := Tryz.call154) (sp := fsPartsNo hx hpx) (h := ?_)
      rintro _ _ ⟨rfl, hM⟩
      obtain rfl := hM.symm
      refine .move ?_
      refine .extract ?_
      refine .extract ?_
      refine .assign (.assign (.x (.move ?_)))
      refine .call (hc := Tryz.call154) (sp := fsPartsNo hy hpy) (h := ?_)
      rintro _ _ ⟨rfl, hM⟩
      obtain rfl := hM.symm
      refine .move ?_
      refine .extract ?_
      refine .extract ?_
      refine .assign (.assign (.x (.move ?_)))
      refine .eqi ?_
      refine .move ?_
      refine .cast (d := 21) (u := .bool false) rfl (congrArg Value.bool (by first | (simp; done) | (exact decide_eq_true (by omega)) | (exact decide_eq_false (by omega)) | (simp; omega) | omega)) ?_
      refine .gF ?_
      refine .gF ?_
      refine .pickF ?_
      refine .move ?_
      refine .gF ?_
      refine .gF ?_
      refine .gF ?_
      refine .pickF ?_
      refine .move ?_
      refine .gF ?_
      refine .gF ?_
      refine .gF ?_
      refine .pickF ?_
      refine .move ?_
      refine .gF ?_
      refine .gF ?_
      refine .gF ?_
      refine .gF ?_
      refine .gF ?_
      refine .pickF ?_
      refine .assign (.z ?_)
      refine .ret (?_)
      exact .ret1 (h1 := .tmp (t := 4) rfl) ⟨_, ⟨by rw [hmt], rfl⟩, Am.auto⟩
    | some ly =>
      have hmt : mayT xs ys = false := by unfold mayT; rw [hpx]
      refine .sr (.assign (.x (.move ?_)))
      refine .call (hc := Tryz.call154) (sp := fsPartsNo hx hpx) (h := ?_)
      rintro _ _ ⟨rfl, hM⟩
      obtain rfl := hM.symm
      refine .move ?_
      refine .extract ?_
      refine .extract ?_
      refine .assign (.assign (.x (.move ?_)))
      refine .call (hc := Tryz.call154) (sp := fsParts hy hpy) (h := ?_)
      rintro _ _ ⟨uy, rfl, rfl⟩
      refine .fact (rowR_shape (el := 9) (size := 1) (v := uy) (k := ly.length) (xs := svs ly)) (fun ⟨Ay, ccy, huy, hRy, hc1y, hc2y, hleny⟩ => ?_)
      subst huy
      refine .move ?_
      refine .extract ?_
      refine .extract ?_
      refine .assign (.assign (.x (.move ?_)))
      refine .eqi ?_
      refine .move ?_
      refine .cast (d := 21) (u := .bool false) rfl (congrArg Value.bool (by first | (simp; done) | (exact decide_eq_true (by omega)) | (exact decide_eq_false (by omega)) | (simp; omega) | omega)) ?_
      refine .gF ?_
      refine .gF ?_
      refine .pickF ?_
      refine .move ?_
      refine .gF ?_
      refine .gF ?_
      refine .gF ?_
      refine .pickF ?_
      refine .move ?_
      refine .gF ?_
      refine .gF ?_
      refine .gF ?_
      refine .pickF ?_
      refine .move ?_
      refine .gF ?_
      refine .gF ?_
      refine .gF ?_
      refine .gF ?_
      refine .gF ?_
      refine .pickF ?_
      refine .assign (.z ?_)
      refine .ret (?_)
      exact .ret1 (h1 := .tmp (t := 4) rfl) ⟨_, ⟨by rw [hmt], rfl⟩, Am.auto⟩
  | some lx =>
    cases hpy : partsT ys with
    | none =>
      have hmt : mayT xs ys = false := by unfold mayT; rw [hpx, hpy]
      refine .sr (.assign (.x (.move ?_)))
      refine .call (hc := Tryz.call154) (sp := fsParts hx hpx) (h := ?_)
      rintro _ _ ⟨ux, rfl, rfl⟩
      refine .fact (rowR_shape (el := 9) (size := 1) (v := ux) (k := lx.length) (xs := svs lx)) (fun ⟨Ax, ccx, hux, hRx, hc1x, hc2x, hlenx⟩ => ?_)
      subst hux
      refine .move ?_
      refine .extract ?_
      refine .extract ?_
      refine .assign (.assign (.x (.move ?_)))
      refine .call (hc := Tryz.call154) (sp := fsPartsNo hy hpy) (h := ?_)
      rintro _ _ ⟨rfl, hM⟩
      obtain rfl := hM.symm
      refine .move ?_
      refine .extract ?_
      refine .extract ?_
      refine .assign (.assign (.x (.move ?_)))
      refine .eqi ?_
      refine .move ?_
      refine .cast (d := 21) (u := .bool true) rfl (congrArg Value.bool (by first | (simp; done) | (exact decide_eq_true (by omega)) | (exact decide_eq_false (by omega)) | (simp; omega) | omega)) ?_
      refine .gT ?_
      refine .move ?_
      refine .gT ?_
      refine .eqi ?_
      refine .pickT ?_
      refine .move ?_
      refine .cast (d := 25) (u := .bool false) rfl (congrArg Value.bool (by first | (simp; done) | (exact decide_eq_true (by omega)) | (exact decide_eq_false (by omega)) | (simp; omega) | omega)) ?_
      refine .gF ?_
      refine .gF ?_
      refine .gF ?_
      refine .pickF ?_
      refine .move ?_
      refine .gF ?_
      refine .gF ?_
      refine .gF ?_
      refine .pickF ?_
      refine .move ?_
      refine .gF ?_
      refine .gF ?_
      refine .gF ?_
      refine .gF ?_
      refine .gF ?_
      refine .pickF ?_
      refine .assign (.z ?_)
      refine .ret (?_)
      exact .ret1 (h1 := .tmp (t := 4) rfl) ⟨_, ⟨by rw [hmt], rfl⟩, Am.auto⟩
    | some ly =>
      have hmt : mayT xs ys = (decide (0 < lx.length) && decide (0 < ly.length) && !decide (ys.take (xs ++ [47]).length = xs ++ [47])) := by unfold mayT; rw [hpx, hpy]
      by_cases h1 : 0 < lx.length
      · by_cases h2 : 0 < ly.length
        · refine .sr (.assign (.x (.move ?_)))
          refine .call (hc := Tryz.call154) (sp := fsParts hx hpx) (h := ?_)
          rintro _ _ ⟨ux, rfl, rfl⟩
          refine .fact (rowR_shape (el := 9) (size := 1) (v := ux) (k := lx.length) (xs := svs lx)) (fun ⟨Ax, ccx, hux, hRx, hc1x, hc2x, hlenx⟩ => ?_)
          subst hux
          refine .move ?_
          refine .extract ?_
          refine .extract ?_
          refine .assign (.assign (.x (.move ?_)))
          refine .call (hc := Tryz.call154) (sp := fsParts hy hpy) (h := ?_)
          rintro _ _ ⟨uy, rfl, rfl⟩
          refine .fact (rowR_shape (el := 9) (size := 1) (v := uy) (k := ly.length) (xs := svs ly)) (fun ⟨Ay, ccy, huy, hRy, hc1y, hc2y, hleny⟩ => ?_)
          subst huy
          refine .move ?_
          refine .extract ?_
          refine .extract ?_
          refine .assign (.assign (.x (.move ?_)))
          refine .eqi ?_
          refine .move ?_
          refine .cast (d := 21) (u := .bool true) rfl (congrArg Value.bool (by first | (simp; done) | (exact decide_eq_true (by omega)) | (exact decide_eq_false (by omega)) | (simp; omega) | omega)) ?_
          refine .gT ?_
          refine .move ?_
          refine .gT ?_
          refine .eqi ?_
          refine .pickT ?_
          refine .move ?_
          refine .cast (d := 25) (u := .bool true) rfl (congrArg Value.bool (by first | (simp; done) | (exact decide_eq_true (by omega)) | (exact decide_eq_false (by omega)) | (simp; omega) | omega)) ?_
          refine .gT ?_
          refine .move ?_
          refine .gT ?_
          refine .lenS ?_ sl92
          refine .gT ?_
          refine .gtr ?_
          refine .pickT ?_
          refine .move ?_
          refine .cast (d := 30) (u := .bool true) rfl (congrArg Value.bool (by first | (simp; done) | (exact decide_eq_true (by omega)) | (exact decide_eq_false (by omega)) | (simp; omega) | omega)) ?_
          refine .gT ?_
          refine .move ?_
          refine .gT ?_
          refine .lenS ?_ sl92
          refine .gT ?_
          refine .gtr ?_
          refine .pickT ?_
          refine .move ?_
          refine .cast (d := 35) (u := .bool true) rfl (congrArg Value.bool (by first | (simp; done) | (exact decide_eq_true (by omega)) | (exact decide_eq_false (by omega)) | (simp; omega) | omega)) ?_
          refine .gT ?_
          refine .move ?_
          refine .gT ?_
          refine .move ?_
          refine .gT ?_
          refine .catS xs [47] ?_ (by simp only [List.length_cons, List.length_nil]; omega)
          refine .gT ?_
          refine .call (hc := Tryz.call175) (sp := hasPreS (xs := ys) (ps := xs ++ [47])) (h := ?_)
          rintro _ _ ⟨rfl, rfl⟩
          refine .gT ?_
          refine .not ?_
          refine .pickT ?_
          refine .assign (.z ?_)
          refine .ret (?_)
          exact .ret1 (h1 := .tmp (t := 4) rfl) ⟨_, ⟨by rw [hmt, decide_eq_true h1, decide_eq_true h2]; rfl, rfl⟩, Am.auto⟩
        · refine .sr (.assign (.x (.move ?_)))
          refine .call (hc := Tryz.call154) (sp := fsParts hx hpx) (h := ?_)
          rintro _ _ ⟨ux, rfl, rfl⟩
          refine .fact (rowR_shape (el := 9) (size := 1) (v := ux) (k := lx.length) (xs := svs lx)) (fun ⟨Ax, ccx, hux, hRx, hc1x, hc2x, hlenx⟩ => ?_)
          subst hux
          refine .move ?_
          refine .extract ?_
          refine .extract ?_
          refine .assign (.assign (.x (.move ?_)))
          refine .call (hc := Tryz.call154) (sp := fsParts hy hpy) (h := ?_)
          rintro _ _ ⟨uy, rfl, rfl⟩
          refine .fact (rowR_shape (el := 9) (size := 1) (v := uy) (k := ly.length) (xs := svs ly)) (fun ⟨Ay, ccy, huy, hRy, hc1y, hc2y, hleny⟩ => ?_)
          subst huy
          refine .move ?_
          refine .extract ?_
          refine .extract ?_
          refine .assign (.assign (.x (.move ?_)))
          refine .eqi ?_
          refine .move ?_
          refine .cast (d := 21) (u := .bool true) rfl (congrArg Value.bool (by first | (simp; done) | (exact decide_eq_true (by omega)) | (exact decide_eq_false (by omega)) | (simp; omega) | omega)) ?_
          refine .gT ?_
          refine .move ?_
          refine .gT ?_
          refine .eqi ?_
          refine .pickT ?_
          refine .move ?_
          refine .cast (d := 25) (u := .bool true) rfl (congrArg Value.bool (by first | (simp; done) | (exact decide_eq_true (by omega)) | (exact decide_eq_false (by omega)) | (simp; omega) | omega)) ?_
          refine .gT ?_
          refine .move ?_
          refine .gT ?_
          refine .lenS ?_ sl92
          refine .gT ?_
          refine .gtr ?_
          refine .pickT ?_
          refine .move ?_
          refine .cast (d := 30) (u := .bool true) rfl (congrArg Value.bool (by first | (simp; done) | (exact decide_eq_true (by omega)) | (exact decide_eq_false (by omega)) | (simp; omega) | omega)) ?_
          refine .gT ?_
          refine .move ?_
          refine .gT ?_
          refine .lenS ?_ sl92
          refine .gT ?_
          refine .gtr ?_
          refine .pickT ?_
          refine .move ?_
          refine .cast (d := 35) (u := .bool false) rfl (congrArg Value.bool (by first | (simp; done) | (exact decide_eq_true (by omega)) | (exact decide_eq_false (by omega)) | (simp; omega) | omega)) ?_
          refine .gF ?_
          refine .gF ?_
          refine .gF ?_
          refine .gF ?_
          refine .gF ?_
          refine .pickF ?_
          refine .assign (.z ?_)
          refine .ret (?_)
          exact .ret1 (h1 := .tmp (t := 4) rfl) ⟨_, ⟨by rw [hmt, decide_eq_true h1, decide_eq_false h2]; rfl, rfl⟩, Am.auto⟩
      · refine .sr (.assign (.x (.move ?_)))
        refine .call (hc := Tryz.call154) (sp := fsParts hx hpx) (h := ?_)
        rintro _ _ ⟨ux, rfl, rfl⟩
        refine .fact (rowR_shape (el := 9) (size := 1) (v := ux) (k := lx.length) (xs := svs lx)) (fun ⟨Ax, ccx, hux, hRx, hc1x, hc2x, hlenx⟩ => ?_)
        subst hux
        refine .move ?_
        refine .extract ?_
        refine .extract ?_
        refine .assign (.assign (.x (.move ?_)))
        refine .call (hc := Tryz.call154) (sp := fsParts hy hpy) (h := ?_)
        rintro _ _ ⟨uy, rfl, rfl⟩
        refine .fact (rowR_shape (el := 9) (size := 1) (v := uy) (k := ly.length) (xs := svs ly)) (fun ⟨Ay, ccy, huy, hRy, hc1y, hc2y, hleny⟩ => ?_)
        subst huy
        refine .move ?_
        refine .extract ?_
        refine .extract ?_
        refine .assign (.assign (.x (.move ?_)))
        refine .eqi ?_
        refine .move ?_
        refine .cast (d := 21) (u := .bool true) rfl (congrArg Value.bool (by first | (simp; done) | (exact decide_eq_true (by omega)) | (exact decide_eq_false (by omega)) | (simp; omega) | omega)) ?_
        refine .gT ?_
        refine .move ?_
        refine .gT ?_
        refine .eqi ?_
        refine .pickT ?_
        refine .move ?_
        refine .cast (d := 25) (u := .bool true) rfl (congrArg Value.bool (by first | (simp; done) | (exact decide_eq_true (by omega)) | (exact decide_eq_false (by omega)) | (simp; omega) | omega)) ?_
        refine .gT ?_
        refine .move ?_
        refine .gT ?_
        refine .lenS ?_ sl92
        refine .gT ?_
        refine .gtr ?_
        refine .pickT ?_
        refine .move ?_
        refine .cast (d := 30) (u := .bool false) rfl (congrArg Value.bool (by first | (simp; done) | (exact decide_eq_true (by omega)) | (exact decide_eq_false (by omega)) | (simp; omega) | omega)) ?_
        refine .gF ?_
        refine .gF ?_
        refine .gF ?_
        refine .pickF ?_
        refine .move ?_
        refine .gF ?_
        refine .gF ?_
        refine .gF ?_
        refine .gF ?_
        refine .gF ?_
        refine .pickF ?_
        refine .assign (.z ?_)
        refine .ret (?_)
        exact .ret1 (h1 := .tmp (t := 4) rfl) ⟨_, ⟨by rw [hmt, decide_eq_false h1]; rfl, rfl⟩, Am.auto⟩
theorem fsRenameC0 {f s a c mp : Nat} {p : Pl} {T : FT} {from_ to : Bytes} {b3 b4 b5 : Nat} (h1 : from_.length ≤ 1000000) (h2 : to.length ≤ 1000000) (hm : mayT from_ to = false) : Spec Tryz.prog 93 #[.pointer (some ⟨b4, 0, none⟩), .pointer (some ⟨b5, 0, none⟩), .pointer (some ⟨b3, 0, none⟩)] [pt f (fO c a s false false false mp), LD mp T, IN s a c p (fmT T) (fmT T) 0 true, bun [pt b3 (.cells #[.pointer (some ⟨f, 0, none⟩)] 23 (0, 0)), pt b4 (.cells #[sv from_] 9 (0, 0)), pt b5 (.cells #[sv to] 9 (0, 0))]] fun F v M => v = nI 1 ∧ M = pt f (fO c a s false false false mp) :: LD mp T :: IN s a c p (fmT T) (fmT T) 0 true :: bun [pt b3 (.cells #[.pointer (some ⟨f, 0, none⟩)] 23 (0, 0)), pt b4 (.cells #[sv from_] 9 (0, 0)), pt b5 (.cells #[sv to] 9 (0, 0))] :: F := by
  refine Spec.intro Tryz.func93 rfl rfl fun B F => ?_
  simp only [Tryz.ntmps93, List.cons_append, List.nil_append, env0, Nat.reduceAdd]
  refine .openR (bun.opens _) fun _ _ => ?_
  simp only [List.cons_append, List.nil_append]
  refine .sr (.assign (.z (.seq (.sr ?_))))
  refine .ld ?_ sc9
  refine .ld ?_ sc9
  refine .call (hc := Tryz.call94) (sp := fsMay h1 h2) (h := ?_)
  rintro _ _ ⟨rfl, rfl⟩
  rw [hm]
  refine .not ?_
  refine .z ?_
  refine .condT rfl rfl ?_
  refine .sr (.assign (.z ?_))
  refine .ret (.thenRet (?_))
  refine .shutR (bun.opens [pt b3 (.cells #[.pointer (some ⟨f, 0, none⟩)] 23 (0, 0)), pt b4 (.cells #[sv from_] 9 (0, 0)), pt b5 (.cells #[sv to] 9 (0, 0))]) () trivial ?_
  exact .ret1 (h1 := .tmp (t := 3) rfl) ⟨_, ⟨rfl, rfl⟩, Am.auto⟩
theorem fsRenameNo {f : Nat} {p : Pl} {T : FT} {from_ to : Bytes} (ho : PlOk p) (h1 : from_.length ≤ 1000000) (h2 : to.length ≤ 1000000) (hm : mayT from_ to = false) : Spec Tryz.prog 47 #[.pointer (some ⟨f, 0, none⟩), sv from_, sv to] [FSR f p T] fun F v M => v = nI 1 ∧ M = FSR f p T :: F := by
  refine Spec.intro Tryz.func47 rfl rfl fun B F => ?_
  simp only [Tryz.ntmps47, List.cons_append, List.nil_append, env0, Nat.reduceAdd]
  refine .openR (FSR.opens f p T) fun y _ => ?_
  obtain ⟨c, a, s, mp⟩ := y
  simp only [fsLs, List.cons_append, List.nil_append]
  refine .sr ?_
  refine .box fun b3 => ?_
  refine .box fun b4 => ?_
  refine .box fun b5 => ?_
  refine .assign (.x ?_)
  refine .ld ?_ sc23
  refine .shutR (bun.opens [pt b3 (.cells #[.pointer (some ⟨f, 0, none⟩)] 23 (0, 0)), pt b4 (.cells #[sv from_] 9 (0, 0)), pt b5 (.cells #[sv to] 9 (0, 0))]) () trivial ?_
  refine .makeFuncB ?_
  refine .call (hc := Tryz.call92) (sp := fsChangeE (s := s) (a := a) (c := c) (p := p) (f := f) (mp := mp) (T := T) (S := T) (e := 1) (by decide) ho (hc := Tryz.call93) (sp := (fsRenameC0 (b3 := b3) (b4 := b4) (b5 := b5) h1 h2 hm))) (h := ?_)
  rintro _ _ ⟨rfl, rfl⟩
  refine .assign (.z ?_)
  refine .ret (?_)
  refine .shutR (FSR.opens f p T) (c, a, s, mp) trivial ?_
  exact .ret1 (h1 := .tmp (t := 6) rfl) ⟨_, ⟨rfl, rfl⟩, Am.auto⟩
theorem l10Fresh {p : Pl} (h : PlIs p) : Spec Tryz.prog 46 #[nI p.n, nI p.ino] [] fun F v M => ∃ d f m, v = .tuple #[.pointer (some ⟨d, 0, none⟩), .pointer (some ⟨f, 0, none⟩), .pointer (some ⟨m, 0, none⟩), .bool true] ∧ M = FSR f p rootT :: F := by
  refine Spec.intro Tryz.func46 rfl rfl fun B F => ?_
  simp only [Tryz.ntmps46, List.cons_append, List.nil_append, env0, Nat.reduceAdd]
  have hn2 := h.n2
  have h246 : 246 ≤ p.n := by have := h.bm; have := h.m1; have := h.da; have := h.dc; have := h.d1; omega
  refine .sr (.assign (.assign (.assign (.assign (.x (.move ?_))))))
  refine .call (hc := Tryz.call62) (sp := devNew (n := p.n) (by omega) (by omega)) (h := ?_)
  rintro _ _ ⟨d, rfl, rfl⟩
  refine .move ?_
  refine .extract ?_
  refine .extract ?_
  refine .assign (.assign (.x (.move (.move ?_))))
  refine .call (hc := Tryz.call57) (sp := refFs0 h) (h := ?_)
  rintro _ _ ⟨m, rfl, rfl⟩
  refine .move ?_
  refine .extract ?_
  refine .extract ?_
  refine .assign (.assign (.z (.seq (.sr (.move ?_)))))
  refine .nei ?_
  refine .move ?_
  refine .cast (d := 27) (u := .bool false) rfl (congrArg Value.bool (by first | (simp; done) | (simp; omega) | omega)) ?_
  refine .gT ?_
  refine .move ?_
  refine .gT ?_
  refine .nei ?_
  refine .pickF ?_
  refine .move ?_
  refine .cast (d := 31) (u := .bool false) rfl (congrArg Value.bool (by first | (simp; done) | (simp; omega) | omega)) ?_
  refine .gT ?_
  refine .move ?_
  refine .gT ?_
  refine .eqNil ?_ ptr22
  refine .pickF ?_
  refine .move ?_
  refine .gT ?_
  refine .move ?_
  refine .gT ?_
  refine .move ?_
  refine .gT ?_
  refine .call (hc := Tryz.call63) (sp := fsMkfs h) (h := ?_)
  rintro _ _ ⟨J, rfl, hJ, rfl⟩
  refine .gT ?_
  refine .nei ?_
  refine .pickF ?_
  refine .z ?_
  refine .condF rfl (congrArg Value.bool (by first | (simp; done) | (simp; omega) | omega)) ?_
  refine .skip (.next (.sr (.move ?_)))
  refine .call (hc := Tryz.call64) (sp := fsMountNew h hJ) (h := ?_)
  rintro _ _ ⟨f, rfl, rfl⟩
  refine .move ?_
  refine .extract ?_
  refine .extract ?_
  refine .assign (.assign (.x (.move (.move (.move (.move ?_))))))
  refine .eqi ?_
  refine .move ?_
  refine .gT ?_
  refine .move ?_
  refine .gT ?_
  refine .neNil ?_ ptr23
  refine .pickT ?_
  refine .assign (.assign (.assign (.assign (.z ?_))))
  refine .ret (?_)
  exact .ret4 (h1 := .tmp (t := 4) rfl) (h2 := .tmp (t := 5) rfl) (h3 := .tmp (t := 6) rfl) (h4 := .tmp (t := 7) rfl) ⟨_, ⟨d, f, m, rfl, rfl⟩, Am.auto⟩
end Go.Proofs.YtdmjkjeoamiedaaGreatDoor
end
section
namespace Go.Proofs.YtdmjkjeoamiedaaGreatDoor
open Go
theorem z178 : zeroOf Tryz.prog 178 = some (#[.int .i64 0, .string ⟨#[]⟩, .int .i64 0, .int .i64 0, .int .i64 0]) := by kernel_rfl
theorem fo178_0 : fieldOk Tryz.prog 178 0 0 = true := by kernel_rfl
theorem fo178_1 : fieldOk Tryz.prog 178 1 1 = true := by kernel_rfl
theorem fo178_2 : fieldOk Tryz.prog 178 2 2 = true := by kernel_rfl
theorem fo178_4 : fieldOk Tryz.prog 178 4 4 = true := by kernel_rfl
theorem agg178 : aggOk Tryz.prog 178 5 = true := by kernel_rfl
theorem fo178_3 : fieldOk Tryz.prog 178 3 3 = true := by kernel_rfl
theorem bsF2 (f0 f1 : Fn) (u0 u1 c0 c1 : Array Value) : BuildSOk Tryz.prog 220 2 [(0, .func f0 u0 c0), (1, .func f1 u1 c1)] 183 #[.func f0 u0 c0, .func f1 u1 c1] := fun w => by kernel_rfl
theorem bsF3 (f0 f1 f2 : Fn) (u0 u1 u2 c0 c1 c2 : Array Value) : BuildSOk Tryz.prog 220 3 [(0, .func f0 u0 c0), (1, .func f1 u1 c1), (2, .func f2 u2 c2)] 183 #[.func f0 u0 c0, .func f1 u1 c1, .func f2 u2 c2] := fun w => by kernel_rfl
theorem fsAtNo {f s a c mp : Nat} {p : Pl} {T : FT} {path : Bytes} (ho : PlOk p) (hT : TOk T) (hpl : path.length ≤ 1000000) {d : Nat} {nm : Bytes} (hpar : parentT T path = (d, nm, 0)) (hfi : findT T d nm = (0, 4)) : Spec Tryz.prog 95 #[.pointer (some ⟨f, 0, none⟩), sv path] [pt f (fO c a s false false false mp), LD mp T, IN s a c p (fmT T) (fmT T) 0 true] fun F v M => v = .tuple #[.agg #[nI d, sv nm, nI 0, nI 0, nI 4], .int .i64 0] ∧ M = pt f (fO c a s false false false mp) :: LD mp T :: IN s a c p (fmT T) (fmT T) 0 true :: F := by
  refine Spec.intro Tryz.func95 rfl rfl fun B F => ?_
  simp only [Tryz.ntmps95, List.cons_append, List.nil_append, env0, Nat.reduceAdd]
  refine .sr ?_
  refine .alloc z178 fun b4 => ?_
  refine .assign (.x (.move (.move ?_)))
  refine .call (hc := Tryz.call109) (sp := fsParent (f := f) (s := s) (a := a) (c := c) (mp := mp) (b := false) (ov := false) (dead := false) (p := p) (T := T) (F0 := fmT T) (W := 0) (op := true) (path := path) ho hT hpl) (h := ?_)
  rintro _ _ ⟨rfl, rfl⟩
  rw [hpar]
  refine .move ?_
  refine .extract ?_
  refine .extract ?_
  refine .extract ?_
  refine .fa ?_ fo178_0
  refine .st ?_ sc3
  refine .fa ?_ fo178_1
  refine .st ?_ sc9
  refine .assign (.z (.seq (.sr (.move ?_))))
  refine .nei ?_
  refine .z ?_
  refine .condF rfl (congrArg Value.bool (by first | (simp; done) | (simp; omega) | omega)) ?_
  refine .skip (.next (.seq (.sr (.move ?_))))
  refine .fa ?_ fo178_0
  refine .ld ?_ sc3
  refine .fa ?_ fo178_1
  refine .ld ?_ sc9
  refine .call (hc := Tryz.call110) (sp := fsFind (f := f) (s := s) (a := a) (c := c) (mp := mp) (b := false) (ov := false) (dead := false) (p := p) (T := T) (F0 := fmT T) (W := 0) (op := true) (d := d) (nm := nm) ho hT) (h := ?_)
  rintro _ _ ⟨rfl, rfl⟩
  rw [hfi]
  refine .move ?_
  refine .extract ?_
  refine .extract ?_
  refine .fa ?_ fo178_2
  refine .st ?_ sc3
  refine .fa ?_ fo178_4
  refine .st ?_ sc28
  refine .x ?_
  refine .fa ?_ fo178_4
  refine .ld ?_ sc28
  refine .eqi ?_
  refine .z ?_
  refine .condF rfl (congrArg Value.bool (by first | (simp; done) | (simp; omega) | omega)) ?_
  refine .skip (.next (.sr ?_))
  refine .ldA ?_ agg178
  refine .stV ?_ agg178
  refine .assign (.z ?_)
  refine .ret (?_)
  exact .ret2 (h2 := .tmp (t := 5) rfl) ⟨_, ⟨rfl, rfl⟩, Am.auto⟩
theorem fsAt {f s a c mp : Nat} {p : Pl} {T : FT} {path : Bytes} (ho : PlOk p) (hT : TOk T) (hpl : path.length ≤ 1000000) {d i : Nat} {nm : Bytes} {x : NodeT} (hpar : parentT T path = (d, nm, 0)) (hfi : findT T d nm = (i, 0)) (hx : T i = some x) : Spec Tryz.prog 95 #[.pointer (some ⟨f, 0, none⟩), sv path] [pt f (fO c a s false false false mp), LD mp T, IN s a c p (fmT T) (fmT T) 0 true] fun F v M => v = .tuple #[.agg #[nI d, sv nm, nI i, nI x.kind, nI 0], .int .i64 0] ∧ M = pt f (fO c a s false false false mp) :: LD mp T :: IN s a c p (fmT T) (fmT T) 0 true :: F := by
  refine Spec.intro Tryz.func95 rfl rfl fun B F => ?_
  simp only [Tryz.ntmps95, List.cons_append, List.nil_append, env0, Nat.reduceAdd]
  refine .sr ?_
  refine .alloc z178 fun b4 => ?_
  refine .assign (.x (.move (.move ?_)))
  refine .call (hc := Tryz.call109) (sp := fsParent (f := f) (s := s) (a := a) (c := c) (mp := mp) (b := false) (ov := false) (dead := false) (p := p) (T := T) (F0 := fmT T) (W := 0) (op := true) (path := path) ho hT hpl) (h := ?_)
  rintro _ _ ⟨rfl, rfl⟩
  rw [hpar]
  refine .move ?_
  refine .extract ?_
  refine .extract ?_
  refine .extract ?_
  refine .fa ?_ fo178_0
  refine .st ?_ sc3
  refine .fa ?_ fo178_1
  refine .st ?_ sc9
  refine .assign (.z (.seq (.sr (.move ?_))))
  refine .nei ?_
  refine .z ?_
  refine .condF rfl (congrArg Value.bool (by first | (simp; done) | (simp; omega) | omega)) ?_
  refine .skip (.next (.seq (.sr (.move ?_))))
  refine .fa ?_ fo178_0
  refine .ld ?_ sc3
  refine .fa ?_ fo178_1
  refine .ld ?_ sc9
  refine .call (hc := Tryz.call110) (sp := fsFind (f := f) (s := s) (a := a) (c := c) (mp := mp) (b := false) (ov := false) (dead := false) (p := p) (T := T) (F0 := fmT T) (W := 0) (op := true) (d := d) (nm := nm) ho hT) (h := ?_)
  rintro _ _ ⟨rfl, rfl⟩
  rw [hfi]
  refine .move ?_
  refine .extract ?_
  refine .extract ?_
  refine .fa ?_ fo178_2
  refine .st ?_ sc3
  refine .fa ?_ fo178_4
  refine .st ?_ sc28
  refine .x ?_
  refine .fa ?_ fo178_4
  refine .ld ?_ sc28
  refine .eqi ?_
  refine .z ?_
  refine .condT rfl (congrArg Value.bool (by first | (simp; done) | (simp; omega) | omega)) ?_
  refine .seq ?_
  refine .dr ([pt f (fO c a s false false false mp), pt b4 (.cells #[nI d, sv nm, nI i, .int .i64 0, nI 0] 178 (0, 0))]) [] 13 mixed .autoJ ?_
  refine .tk 0 rfl .move ?_
  refine .tk 1 rfl .nilCheck ?_
  refine .tk 2 rfl (.fa fo129_2) ?_
  refine .tk 3 rfl (.ld sc126) ?_
  refine .tk 4 rfl (.fa fo178_2) ?_
  refine .tk 5 rfl (.ld sc3) ?_
  refine .tw 6 10 rfl rfl (fun hnp => ?_) (fun hnp => ?_)
  · refine .call (hc := Tryz.call156) (sp := nStatT (s := s) (a := a) (c := c) (p := p) (F0 := fmT T) (T := T) (W := 0) (op := true) (i := i) ho hx) (h := ?_)
    rintro _ _ ⟨rfl, rfl⟩
    refine .nil (.wa hnp ?_)
    refine .tk 7 rfl .move ?_
    refine .tk 8 rfl .extract ?_
    refine .tk 9 rfl .extract ?_
    refine .on 10 rfl fun hnp => ?_
    refine .alloc z51 fun b6 => ?_
    refine .nil (.wa hnp ?_)
    refine .on 11 rfl fun hnp => ?_
    refine .stV ?_ agg51
    refine .nil (.wa hnp ?_)
    refine .tk 12 rfl .assign ?_
    refine .fin ?_
    refine .next (.sr ?_)
    refine .fa ?_ fo51_0
    refine .ld ?_ sc3
    refine .fa ?_ fo178_3
    refine .st ?_ sc3
    refine .x ?_
    refine .ldA ?_ agg178
    refine .move ?_
    refine .stV ?_ agg178
    refine .assign (.z ?_)
    refine .ret (.thenRet (?_))
    exact .ret2 (h2 := .tmp (t := 5) rfl) ⟨_, ⟨rfl, rfl⟩, Am.auto⟩
  · refine .alloc z51 fun b6 => ?_
    refine .nil (.wa hnp ?_)
    refine .on 6 rfl fun hnp => ?_
    refine .call (hc := Tryz.call156) (sp := nStatT (s := s) (a := a) (c := c) (p := p) (F0 := fmT T) (T := T) (W := 0) (op := true) (i := i) ho hx) (h := ?_)
    rintro _ _ ⟨rfl, rfl⟩
    refine .nil (.wa hnp ?_)
    refine .tk 7 rfl .move ?_
    refine .tk 8 rfl .extract ?_
    refine .tk 9 rfl .extract ?_
    refine .on 11 rfl fun hnp => ?_
    refine .stV ?_ agg51
    refine .nil (.wa hnp ?_)
    refine .tk 12 rfl .assign ?_
    refine .fin ?_
    refine .next (.sr ?_)
    refine .fa ?_ fo51_0
    refine .ld ?_ sc3
    refine .fa ?_ fo178_3
    refine .st ?_ sc3
    refine .x ?_
    refine .ldA ?_ agg178
    refine .move ?_
    refine .stV ?_ agg178
    refine .assign (.z ?_)
    refine .ret (.thenRet (?_))
    exact .ret2 (h2 := .tmp (t := 5) rfl) ⟨_, ⟨rfl, rfl⟩, Am.auto⟩
theorem fsRn1 {f s a c mp : Nat} {p : Pl} {T0 T : FT} {b0 b1 b2 : Nat} {W : Nat} {u1 u2 u3 v1 v2 v3 v4 : Value} {d i : Nat} {nm : Bytes} {sl : List Slot} (ho : PlOk p) (hn : nameOk nm = true) (hd : T d = some (.dir sl)) (hto : DirOk sl ∧ sl.length ≤ 1000) (hw : Rw p W 13) (hl : lookS nm sl = none) (hi : i < 4294967296) (hfit : tot (fmT T) p.ino + has (max (64 * sl.length) (64 * freeS sl + 64)) ≤ p.dc + has (64 * sl.length)) : Spec Tryz.prog 97 #[.pointer (some ⟨b0, 0, none⟩), .pointer (some ⟨b1, 0, none⟩), .pointer (some ⟨b2, 0, none⟩)] [bun [pt b0 (.cells #[.pointer (some ⟨f, 0, none⟩)] 23 (0, 0)), pt b1 (.cells #[nI d, sv nm, u1, u2, u3] 178 (0, 0)), pt b2 (.cells #[v1, v2, nI i, v3, v4] 178 (0, 0)), pt f (fO c a s false false false mp), IN s a c p (fmT T0) (fmT T) W true]] fun F v M => v = okV ∧ M = bun [pt b0 (.cells #[.pointer (some ⟨f, 0, none⟩)] 23 (0, 0)), pt b1 (.cells #[nI d, sv nm, u1, u2, u3] 178 (0, 0)), pt b2 (.cells #[v1, v2, nI i, v3, v4] 178 (0, 0)), pt f (fO c a s false false false mp), IN s a c p (fmT T0) (fmT (updT T d (some (.dir (setS sl (freeS sl) (some (nm, i))))))) (W + 8) true] :: F := by
  refine Spec.intro Tryz.func97 rfl rfl fun B F => ?_
  simp only [Tryz.ntmps97, List.cons_append, List.nil_append, env0, Nat.reduceAdd]
  refine .openR (bun.opens _) fun _ _ => ?_
  simp only [List.cons_append, List.nil_append]
  refine .sr (.assign (.z (.seq ?_)))
  refine .dr ([pt b0 (.cells #[.pointer (some ⟨f, 0, none⟩)] 23 (0, 0)), pt b1 (.cells #[nI d, sv nm, u1, u2, u3] 178 (0, 0)), pt b2 (.cells #[v1, v2, nI i, v3, v4] 178 (0, 0)), pt f (fO c a s false false false mp)]) [] 12 mixed .autoJ ?_
  refine .tk 0 rfl (.ld sc23) ?_
  refine .tk 1 rfl .nilCheck ?_
  refine .tk 2 rfl (.fa fo129_2) ?_
  refine .tk 3 rfl (.ld sc126) ?_
  refine .tk 4 rfl (.fa fo178_0) ?_
  refine .tk 5 rfl (.ld sc3) ?_
  refine .tk 6 rfl (.fa fo178_1) ?_
  refine .tk 7 rfl (.ld sc9) ?_
  refine .tk 8 rfl (.fa fo178_2) ?_
  refine .tk 9 rfl (.ld sc3) ?_
  refine .on 10 rfl fun hnp => ?_
  refine .call (hc := Tryz.call98) (sp := dAdd (s := s) (a := a) (c := c) (p := p) (F0 := fmT T0) (Fm := fmT T) (W := W) (d := d) (nm := nm) (sl := sl) ho hn (fmT_some hd) hto.1 (by omega) (lookS_none hl) (i := i) hi hw (by have := freeS_le sl; omega) hfit) (h := ?_)
  rintro _ _ ⟨rfl, rfl⟩
  rw [show updM (fmT T) d (some (2, dirB (setS sl (freeS sl) (some (nm, i))))) = fmT (updT T d (some (.dir (setS sl (freeS sl) (some (nm, i)))))) from fmT_updS T d (.dir _)]
  refine .nil (.wa hnp ?_)
  refine .tk 11 rfl .assign ?_
  refine .fin ?_
  refine .next ?_
  refine .ret (?_)
  refine .shutR (bun.opens [pt b0 (.cells #[.pointer (some ⟨f, 0, none⟩)] 23 (0, 0)), pt b1 (.cells #[nI d, sv nm, u1, u2, u3] 178 (0, 0)), pt b2 (.cells #[v1, v2, nI i, v3, v4] 178 (0, 0)), pt f (fO c a s false false false mp), IN s a c p (fmT T0) (fmT (updT T d (some (.dir (setS sl (freeS sl) (some (nm, i))))))) (W + 8) true]) () trivial ?_
  exact .ret1 (h1 := .tmp (t := 3) rfl) ⟨_, ⟨rfl, rfl⟩, Am.auto⟩
theorem fsRn2 {f s a c mp : Nat} {p : Pl} {T0 T : FT} {b0 b1 b2 : Nat} {W : Nat} {o1 : Obj} {u1 u2 u3 : Value} {d q i : Nat} {nm : Bytes} {sl : List Slot} (ho : PlOk p) (hn : nameOk nm = true) (hd : T d = some (.dir sl)) (hto : DirOk sl ∧ sl.length ≤ 1000) (hw : Rw p W 13) (hl : lookS nm sl = some (q, i)) (hfit : tot (fmT T) p.ino ≤ p.dc) : Spec Tryz.prog 99 #[.pointer (some ⟨b0, 0, none⟩), .pointer (some ⟨b2, 0, none⟩)] [bun [pt b0 (.cells #[.pointer (some ⟨f, 0, none⟩)] 23 (0, 0)), pt b1 o1, pt b2 (.cells #[nI d, sv nm, u1, u2, u3] 178 (0, 0)), pt f (fO c a s false false false mp), IN s a c p (fmT T0) (fmT T) W true]] fun F v M => v = okV ∧ M = bun [pt b0 (.cells #[.pointer (some ⟨f, 0, none⟩)] 23 (0, 0)), pt b1 o1, pt b2 (.cells #[nI d, sv nm, u1, u2, u3] 178 (0, 0)), pt f (fO c a s false false false mp), IN s a c p (fmT T0) (fmT (updT T d (some (.dir (setS sl q none))))) (W + 8) true] :: F := by
  refine Spec.intro Tryz.func99 rfl rfl fun B F => ?_
  simp only [Tryz.ntmps99, List.cons_append, List.nil_append, env0, Nat.reduceAdd]
  refine .openR (bun.opens _) fun _ _ => ?_
  simp only [List.cons_append, List.nil_append]
  refine .sr (.assign (.z (.seq ?_)))
  refine .dr ([pt b0 (.cells #[.pointer (some ⟨f, 0, none⟩)] 23 (0, 0)), pt b1 o1, pt b2 (.cells #[nI d, sv nm, u1, u2, u3] 178 (0, 0)), pt f (fO c a s false false false mp)]) [] 10 mixed .autoJ ?_
  refine .tk 0 rfl (.ld sc23) ?_
  refine .tk 1 rfl .nilCheck ?_
  refine .tk 2 rfl (.fa fo129_2) ?_
  refine .tk 3 rfl (.ld sc126) ?_
  refine .tk 4 rfl (.fa fo178_0) ?_
  refine .tk 5 rfl (.ld sc3) ?_
  refine .tk 6 rfl (.fa fo178_1) ?_
  refine .tk 7 rfl (.ld sc9) ?_
  refine .on 8 rfl fun hnp => ?_
  refine .call (hc := Tryz.call100) (sp := dRemove (s := s) (a := a) (c := c) (p := p) (F0 := fmT T0) (Fm := fmT T) (W := W) (d := d) (nm := nm) (sl := sl) ho hn (fmT_some hd) hto.1 (by omega) (lookS_some hl) hw hfit) (h := ?_)
  rintro _ _ ⟨rfl, rfl⟩
  rw [show updM (fmT T) d (some (2, dirB (setS sl q none))) = fmT (updT T d (some (.dir (setS sl q none)))) from fmT_updS T d (.dir _)]
  refine .nil (.wa hnp ?_)
  refine .tk 9 rfl .assign ?_
  refine .fin ?_
  refine .next ?_
  refine .ret (?_)
  refine .shutR (bun.opens [pt b0 (.cells #[.pointer (some ⟨f, 0, none⟩)] 23 (0, 0)), pt b1 o1, pt b2 (.cells #[nI d, sv nm, u1, u2, u3] 178 (0, 0)), pt f (fO c a s false false false mp), IN s a c p (fmT T0) (fmT (updT T d (some (.dir (setS sl q none))))) (W + 8) true]) () trivial ?_
  exact .ret1 (h1 := .tmp (t := 2) rfl) ⟨_, ⟨rfl, rfl⟩, Am.auto⟩
theorem fsRn4 {f s a c mp : Nat} {p : Pl} {T0 T : FT} {b0 b1 b2 : Nat} {W : Nat} {o1 : Obj} {u1 u2 u3 : Value} {d q i : Nat} {nm : Bytes} {sl : List Slot} (ho : PlOk p) (hn : nameOk nm = true) (hd : T d = some (.dir sl)) (hto : DirOk sl ∧ sl.length ≤ 1000) (hw : Rw p W 13) (hl : lookS nm sl = some (q, i)) (hfit : tot (fmT T) p.ino ≤ p.dc) : Spec Tryz.prog 103 #[.pointer (some ⟨b0, 0, none⟩), .pointer (some ⟨b2, 0, none⟩)] [bun [pt b0 (.cells #[.pointer (some ⟨f, 0, none⟩)] 23 (0, 0)), pt b1 o1, pt b2 (.cells #[nI d, sv nm, u1, u2, u3] 178 (0, 0)), pt f (fO c a s false false false mp), IN s a c p (fmT T0) (fmT T) W true]] fun F v M => v = okV ∧ M = bun [pt b0 (.cells #[.pointer (some ⟨f, 0, none⟩)] 23 (0, 0)), pt b1 o1, pt b2 (.cells #[nI d, sv nm, u1, u2, u3] 178 (0, 0)), pt f (fO c a s false false false mp), IN s a c p (fmT T0) (fmT (updT T d (some (.dir (setS sl q none))))) (W + 8) true] :: F := by
  refine Spec.intro Tryz.func103 rfl rfl fun B F => ?_
  simp only [Tryz.ntmps103, List.cons_append, List.nil_append, env0, Nat.reduceAdd]
  refine .openR (bun.opens _) fun _ _ => ?_
  simp only [List.cons_append, List.nil_append]
  refine .sr (.assign (.z (.seq ?_)))
  refine .dr ([pt b0 (.cells #[.pointer (some ⟨f, 0, none⟩)] 23 (0, 0)), pt b1 o1, pt b2 (.cells #[nI d, sv nm, u1, u2, u3] 178 (0, 0)), pt f (fO c a s false false false mp)]) [] 10 mixed .autoJ ?_
  refine .tk 0 rfl (.ld sc23) ?_
  refine .tk 1 rfl .nilCheck ?_
  refine .tk 2 rfl (.fa fo129_2) ?_
  refine .tk 3 rfl (.ld sc126) ?_
  refine .tk 4 rfl (.fa fo178_0) ?_
  refine .tk 5 rfl (.ld sc3) ?_
  refine .tk 6 rfl (.fa fo178_1) ?_
  refine .tk 7 rfl (.ld sc9) ?_
  refine .on 8 rfl fun hnp => ?_
  refine .call (hc := Tryz.call100) (sp := dRemove (s := s) (a := a) (c := c) (p := p) (F0 := fmT T0) (Fm := fmT T) (W := W) (d := d) (nm := nm) (sl := sl) ho hn (fmT_some hd) hto.1 (by omega) (lookS_some hl) hw hfit) (h := ?_)
  rintro _ _ ⟨rfl, rfl⟩
  rw [show updM (fmT T) d (some (2, dirB (setS sl q none))) = fmT (updT T d (some (.dir (setS sl q none)))) from fmT_updS T d (.dir _)]
  refine .nil (.wa hnp ?_)
  refine .tk 9 rfl .assign ?_
  refine .fin ?_
  refine .next ?_
  refine .ret (?_)
  refine .shutR (bun.opens [pt b0 (.cells #[.pointer (some ⟨f, 0, none⟩)] 23 (0, 0)), pt b1 o1, pt b2 (.cells #[nI d, sv nm, u1, u2, u3] 178 (0, 0)), pt f (fO c a s false false false mp), IN s a c p (fmT T0) (fmT (updT T d (some (.dir (setS sl q none))))) (W + 8) true]) () trivial ?_
  exact .ret1 (h1 := .tmp (t := 2) rfl) ⟨_, ⟨rfl, rfl⟩, Am.auto⟩
theorem fsRn3 {f s a c mp : Nat} {p : Pl} {T0 T : FT} {b0 b1 b2 : Nat} {W : Nat} {u1 u2 u3 v1 v2 v3 v4 : Value} {d i q j : Nat} {nm : Bytes} {sl : List Slot} (ho : PlOk p) (hn : nameOk nm = true) (hd : T d = some (.dir sl)) (hto : DirOk sl ∧ sl.length ≤ 1000) (hw : Rw p W 13) (hl : lookS nm sl = some (q, j)) (hi : i < 4294967296) (hfit : tot (fmT T) p.ino ≤ p.dc) : Spec Tryz.prog 101 #[.pointer (some ⟨b0, 0, none⟩), .pointer (some ⟨b1, 0, none⟩), .pointer (some ⟨b2, 0, none⟩)] [bun [pt b0 (.cells #[.pointer (some ⟨f, 0, none⟩)] 23 (0, 0)), pt b1 (.cells #[nI d, sv nm, u1, u2, u3] 178 (0, 0)), pt b2 (.cells #[v1, v2, nI i, v3, v4] 178 (0, 0)), pt f (fO c a s false false false mp), IN s a c p (fmT T0) (fmT T) W true]] fun F v M => v = okV ∧ M = bun [pt b0 (.cells #[.pointer (some ⟨f, 0, none⟩)] 23 (0, 0)), pt b1 (.cells #[nI d, sv nm, u1, u2, u3] 178 (0, 0)), pt b2 (.cells #[v1, v2, nI i, v3, v4] 178 (0, 0)), pt f (fO c a s false false false mp), IN s a c p (fmT T0) (fmT (updT T d (some (.dir (setS sl q (some (nm, i))))))) (W + 8) true] :: F := by
  refine Spec.intro Tryz.func101 rfl rfl fun B F => ?_
  simp only [Tryz.ntmps101, List.cons_append, List.nil_append, env0, Nat.reduceAdd]
  refine .openR (bun.opens _) fun _ _ => ?_
  simp only [List.cons_append, List.nil_append]
  refine .sr (.assign (.z (.seq ?_)))
  refine .dr ([pt b0 (.cells #[.pointer (some ⟨f, 0, none⟩)] 23 (0, 0)), pt b1 (.cells #[nI d, sv nm, u1, u2, u3] 178 (0, 0)), pt b2 (.cells #[v1, v2, nI i, v3, v4] 178 (0, 0)), pt f (fO c a s false false false mp)]) [] 12 mixed .autoJ ?_
  refine .tk 0 rfl (.ld sc23) ?_
  refine .tk 1 rfl .nilCheck ?_
  refine .tk 2 rfl (.fa fo129_2) ?_
  refine .tk 3 rfl (.ld sc126) ?_
  refine .tk 4 rfl (.fa fo178_0) ?_
  refine .tk 5 rfl (.ld sc3) ?_
  refine .tk 6 rfl (.fa fo178_1) ?_
  refine .tk 7 rfl (.ld sc9) ?_
  refine .tk 8 rfl (.fa fo178_2) ?_
  refine .tk 9 rfl (.ld sc3) ?_
  refine .on 10 rfl fun hnp => ?_
  refine .call (hc := Tryz.call102) (sp := dMove (s := s) (a := a) (c := c) (p := p) (F0 := fmT T0) (Fm := fmT T) (W := W) (d := d) (nm := nm) (sl := sl) ho hn (fmT_some hd) hto.1 (by omega) (lookS_some hl) (i := i) hi hw hfit) (h := ?_)
  rintro _ _ ⟨rfl, rfl⟩
  rw [show updM (fmT T) d (some (2, dirB (setS sl q (some (nm, i))))) = fmT (updT T d (some (.dir (setS sl q (some (nm, i)))))) from fmT_updS T d (.dir _)]
  refine .nil (.wa hnp ?_)
  refine .tk 11 rfl .assign ?_
  refine .fin ?_
  refine .next ?_
  refine .ret (?_)
  refine .shutR (bun.opens [pt b0 (.cells #[.pointer (some ⟨f, 0, none⟩)] 23 (0, 0)), pt b1 (.cells #[nI d, sv nm, u1, u2, u3] 178 (0, 0)), pt b2 (.cells #[v1, v2, nI i, v3, v4] 178 (0, 0)), pt f (fO c a s false false false mp), IN s a c p (fmT T0) (fmT (updT T d (some (.dir (setS sl q (some (nm, i))))))) (W + 8) true]) () trivial ?_
  exact .ret1 (h1 := .tmp (t := 3) rfl) ⟨_, ⟨rfl, rfl⟩, Am.auto⟩
theorem fsRn5 {f s a c mp : Nat} {p : Pl} {T0 T : FT} {b0 b1 b2 : Nat} {W : Nat} {o2 : Obj} {v1 v2 v3 v4 : Value} {i : Nat} {x : NodeT} (ho : PlOk p) (hx : T i = some x) (hi0 : i ≠ 0) (hw : Rw p W 1) : Spec Tryz.prog 104 #[.pointer (some ⟨b0, 0, none⟩), .pointer (some ⟨b1, 0, none⟩)] [bun [pt b0 (.cells #[.pointer (some ⟨f, 0, none⟩)] 23 (0, 0)), pt b1 (.cells #[v1, v2, nI i, v3, v4] 178 (0, 0)), pt b2 o2, pt f (fO c a s false false false mp), IN s a c p (fmT T0) (fmT T) W true]] fun F v M => v = okV ∧ M = bun [pt b0 (.cells #[.pointer (some ⟨f, 0, none⟩)] 23 (0, 0)), pt b1 (.cells #[v1, v2, nI i, v3, v4] 178 (0, 0)), pt b2 o2, pt f (fO c a s false false false mp), IN s a c p (fmT T0) (fmT (updT T i none)) W true] :: F := by
  refine Spec.intro Tryz.func104 rfl rfl fun B F => ?_
  simp only [Tryz.ntmps104, List.cons_append, List.nil_append, env0, Nat.reduceAdd]
  refine .openR (bun.opens _) fun _ _ => ?_
  simp only [List.cons_append, List.nil_append]
  refine .sr (.assign (.z (.seq ?_)))
  refine .dr ([pt b0 (.cells #[.pointer (some ⟨f, 0, none⟩)] 23 (0, 0)), pt b1 (.cells #[v1, v2, nI i, v3, v4] 178 (0, 0)), pt b2 o2, pt f (fO c a s false false false mp)]) [] 8 mixed .autoJ ?_
  refine .tk 0 rfl (.ld sc23) ?_
  refine .tk 1 rfl .nilCheck ?_
  refine .tk 2 rfl (.fa fo129_2) ?_
  refine .tk 3 rfl (.ld sc126) ?_
  refine .tk 4 rfl (.fa fo178_2) ?_
  refine .tk 5 rfl (.ld sc3) ?_
  refine .on 6 rfl fun hnp => ?_
  refine .call (hc := Tryz.call105) (sp := nDrop (s := s) (a := a) (c := c) (p := p) (F0 := fmT T0) (F := fmT T) (W := W) (i := i) ho (fmT_some hx) hi0 hw) (h := ?_)
  rintro _ _ ⟨rfl, rfl⟩
  rw [show updM (fmT T) i none = fmT (updT T i none) from fmT_updN _ _]
  refine .nil (.wa hnp ?_)
  refine .tk 7 rfl .assign ?_
  refine .fin ?_
  refine .next ?_
  refine .ret (?_)
  refine .shutR (bun.opens [pt b0 (.cells #[.pointer (some ⟨f, 0, none⟩)] 23 (0, 0)), pt b1 (.cells #[v1, v2, nI i, v3, v4] 178 (0, 0)), pt b2 o2, pt f (fO c a s false false false mp), IN s a c p (fmT T0) (fmT (updT T i none)) W true]) () trivial ?_
  exact .ret1 (h1 := .tmp (t := 2) rfl) ⟨_, ⟨rfl, rfl⟩, Am.auto⟩
theorem fsSteps2 {f gs : Nat} {k0 : FuncId} {cap0 : Array Value} {k1 : FuncId} {cap1 : Array Value} {R0 R1 R2 : HP} (hc0 : ∀ args w, (callFunc k0 args).run Tryz.prog w = .ok (.enter k0 args) w) (sp0 : Spec Tryz.prog k0 cap0 [R0] fun F v M => v = okV ∧ M = R1 :: F) (hc1 : ∀ args w, (callFunc k1 args).run Tryz.prog w = .ok (.enter k1 args) w) (sp1 : Spec Tryz.prog k1 cap1 [R1] fun F v M => v = okV ∧ M = R2 :: F) : Spec Tryz.prog 96 #[.pointer (some ⟨f, 0, none⟩), .slice (some ⟨gs, 0, none⟩) 2 2] [pt gs (.cells #[.func (.func k0) #[] cap0, .func (.func k1) #[] cap1] 183 (0, 0)), R0] fun F v M => v = okV ∧ M = pt gs (.cells #[.func (.func k0) #[] cap0, .func (.func k1) #[] cap1] 183 (0, 0)) :: R2 :: F := by
  refine Spec.intro Tryz.func96 rfl rfl fun B F => ?_
  simp only [Tryz.ntmps96, List.cons_append, List.nil_append, env0, Nat.reduceAdd]
  have sp0' := sp0
  rw [show cap0 = (([] : List Value)).toArray ++ cap0 from by simp] at sp0'
  have sp1' := sp1
  rw [show cap1 = (([] : List Value)).toArray ++ cap1 from by simp] at sp1'
  refine .sr (.assign (.z (.seq (.sr (.move ?_)))))
  refine .lenS ?_ sl220
  refine .move (.z (.block ?_))
  refine .loopN 3 (RC.succ ?_)
  refine .sr ?_
  refine .lss ?_
  refine .z (.seq ?_)
  refine .condT rfl (congrArg Value.bool (by first | (simp; done) | (simp; omega) | omega)) ?_
  refine .skip (.next (.seq (.block (.sr ?_))))
  refine .idx1 ?_ so220
  refine .ld ?_ sc183
  refine .assign (.x (.move ?_))
  refine .callV (hc := hc0) (sp := sp0') (h := ?_)
  rintro _ _ ⟨rfl, rfl⟩
  refine .assign (.x (.move ?_))
  refine .nei ?_
  refine .z ?_
  refine .condF rfl (congrArg Value.bool (by first | (simp; done) | (simp; omega) | omega)) ?_
  refine .skip (.blockNormal (.next (.region ?_)))
  refine .add ?_
  refine .move (.nil ?_)
  refine .again (RC.succ ?_)
  refine .sr ?_
  refine .lss ?_
  refine .z (.seq ?_)
  refine .condT rfl (congrArg Value.bool (by first | (simp; done) | (simp; omega) | omega)) ?_
  refine .skip (.next (.seq (.block (.sr ?_))))
  refine .idx1 ?_ so220
  refine .ld ?_ sc183
  refine .assign (.x (.move ?_))
  refine .callV (hc := hc1) (sp := sp1') (h := ?_)
  rintro _ _ ⟨rfl, rfl⟩
  refine .assign (.x (.move ?_))
  refine .nei ?_
  refine .z ?_
  refine .condF rfl (congrArg Value.bool (by first | (simp; done) | (simp; omega) | omega)) ?_
  refine .skip (.blockNormal (.next (.region ?_)))
  refine .add ?_
  refine .move (.nil ?_)
  refine .again (RC.succ ?_)
  refine .sr ?_
  refine .lss ?_
  refine .z (.seq ?_)
  refine .condF rfl (congrArg Value.bool (by first | (simp; done) | (simp; omega) | omega)) ?_
  refine .exit (.thenExit (.thenExit (.blockExit (?_))))
  refine .next (.sr (.assign (.z ?_)))
  refine .ret (?_)
  exact .ret1 (h1 := .tmp (t := 4) rfl) ⟨_, ⟨rfl, rfl⟩, Am.auto⟩
theorem fsSteps3 {f gs : Nat} {k0 : FuncId} {cap0 : Array Value} {k1 : FuncId} {cap1 : Array Value} {k2 : FuncId} {cap2 : Array Value} {R0 R1 R2 R3 : HP} (hc0 : ∀ args w, (callFunc k0 args).run Tryz.prog w = .ok (.enter k0 args) w) (sp0 : Spec Tryz.prog k0 cap0 [R0] fun F v M => v = okV ∧ M = R1 :: F) (hc1 : ∀ args w, (callFunc k1 args).run Tryz.prog w = .ok (.enter k1 args) w) (sp1 : Spec Tryz.prog k1 cap1 [R1] fun F v M => v = okV ∧ M = R2 :: F) (hc2 : ∀ args w, (callFunc k2 args).run Tryz.prog w = .ok (.enter k2 args) w) (sp2 : Spec Tryz.prog k2 cap2 [R2] fun F v M => v = okV ∧ M = R3 :: F) : Spec Tryz.prog 96 #[.pointer (some ⟨f, 0, none⟩), .slice (some ⟨gs, 0, none⟩) 3 3] [pt gs (.cells #[.func (.func k0) #[] cap0, .func (.func k1) #[] cap1, .func (.func k2) #[] cap2] 183 (0, 0)), R0] fun F v M => v = okV ∧ M = pt gs (.cells #[.func (.func k0) #[] cap0, .func (.func k1) #[] cap1, .func (.func k2) #[] cap2] 183 (0, 0)) :: R3 :: F := by
  refine Spec.intro Tryz.func96 rfl rfl fun B F => ?_
  simp only [Tryz.ntmps96, List.cons_append, List.nil_append, env0, Nat.reduceAdd]
  have sp0' := sp0
  rw [show cap0 = (([] : List Value)).toArray ++ cap0 from by simp] at sp0'
  have sp1' := sp1
  rw [show cap1 = (([] : List Value)).toArray ++ cap1 from by simp] at sp1'
  have sp2' := sp2
  rw [show cap2 = (([] : List Value)).toArray ++ cap2 from by simp] at sp2'
  refine .sr (.assign (.z (.seq (.sr (.move ?_)))))
  refine .lenS ?_ sl220
  refine .move (.z (.block ?_))
  refine .loopN 4 (RC.succ ?_)
  refine .sr ?_
  refine .lss ?_
  refine .z (.seq ?_)
  refine .condT rfl (congrArg Value.bool (by first | (simp; done) | (simp; omega) | omega)) ?_
  refine .skip (.next (.seq (.block (.sr ?_))))
  refine .idx1 ?_ so220
  refine .ld ?_ sc183
  refine .assign (.x (.move ?_))
  refine .callV (hc := hc0) (sp := sp0') (h := ?_)
  rintro _ _ ⟨rfl, rfl⟩
  refine .assign (.x (.move ?_))
  refine .nei ?_
  refine .z ?_
  refine .condF rfl (congrArg Value.bool (by first | (simp; done) | (simp; omega) | omega)) ?_
  refine .skip (.blockNormal (.next (.region ?_)))
  refine .add ?_
  refine .move (.nil ?_)
  refine .again (RC.succ ?_)
  refine .sr ?_
  refine .lss ?_
  refine .z (.seq ?_)
  refine .condT rfl (congrArg Value.bool (by first | (simp; done) | (simp; omega) | omega)) ?_
  refine .skip (.next (.seq (.block (.sr ?_))))
  refine .idx1 ?_ so220
  refine .ld ?_ sc183
  refine .assign (.x (.move ?_))
  refine .callV (hc := hc1) (sp := sp1') (h := ?_)
  rintro _ _ ⟨rfl, rfl⟩
  refine .assign (.x (.move ?_))
  refine .nei ?_
  refine .z ?_
  refine .condF rfl (congrArg Value.bool (by first | (simp; done) | (simp; omega) | omega)) ?_
  refine .skip (.blockNormal (.next (.region ?_)))
  refine .add ?_
  refine .move (.nil ?_)
  refine .again (RC.succ ?_)
  refine .sr ?_
  refine .lss ?_
  refine .z (.seq ?_)
  refine .condT rfl (congrArg Value.bool (by first | (simp; done) | (simp; omega) | omega)) ?_
  refine .skip (.next (.seq (.block (.sr ?_))))
  refine .idx1 ?_ so220
  refine .ld ?_ sc183
  refine .assign (.x (.move ?_))
  refine .callV (hc := hc2) (sp := sp2') (h := ?_)
  rintro _ _ ⟨rfl, rfl⟩
  refine .assign (.x (.move ?_))
  refine .nei ?_
  refine .z ?_
  refine .condF rfl (congrArg Value.bool (by first | (simp; done) | (simp; omega) | omega)) ?_
  refine .skip (.blockNormal (.next (.region ?_)))
  refine .add ?_
  refine .move (.nil ?_)
  refine .again (RC.succ ?_)
  refine .sr ?_
  refine .lss ?_
  refine .z (.seq ?_)
  refine .condF rfl (congrArg Value.bool (by first | (simp; done) | (simp; omega) | omega)) ?_
  refine .exit (.thenExit (.thenExit (.blockExit (?_))))
  refine .next (.sr (.assign (.z ?_)))
  refine .ret (?_)
  exact .ret1 (h1 := .tmp (t := 4) rfl) ⟨_, ⟨rfl, rfl⟩, Am.auto⟩
theorem fsRenameC1 {f s a c mp : Nat} {p : Pl} {T : FT} {bf bp bt : Nat} {from_ to : Bytes} {d1 d2 i q1 : Nat} {nm1 nm2 : Bytes} {sl1 sl2 : List Slot} {x : NodeT} (ho : PlOk p) (hT : TOk T) (h1 : from_.length ≤ 1000000) (h2 : to.length ≤ 1000000) (hmay : mayT from_ to = true) (hne : from_ ≠ to) (hpf : parentT T from_ = (d1, nm1, 0)) (hff : findT T d1 nm1 = (i, 0)) (hx : T i = some x) (hpt : parentT T to = (d2, nm2, 0)) (hn1 : nameOk nm1 = true) (hn2 : nameOk nm2 = true) (hd2 : T d2 = some (.dir sl2)) (hi : i < 4294967296) (hw : Rw p 0 29) (hT1 : TOk (updT T d2 (some (.dir (setS sl2 (freeS sl2) (some (nm2, i))))))) (hd1 : (updT T d2 (some (.dir (setS sl2 (freeS sl2) (some (nm2, i)))))) d1 = some (.dir sl1)) (hl1 : lookS nm1 sl1 = some (q1, i)) (hft : findT T d2 nm2 = (0, 4)) (hl2 : lookS nm2 sl2 = none) (hf1 : tot (fmT T) p.ino + has (max (64 * sl2.length) (64 * freeS sl2 + 64)) ≤ p.dc + has (64 * sl2.length)) (hf2 : tot (fmT (updT T d2 (some (.dir (setS sl2 (freeS sl2) (some (nm2, i))))))) p.ino ≤ p.dc) : Spec Tryz.prog 93 #[.pointer (some ⟨bp, 0, none⟩), .pointer (some ⟨bt, 0, none⟩), .pointer (some ⟨bf, 0, none⟩)] [pt f (fO c a s false false false mp), LD mp T, IN s a c p (fmT T) (fmT T) 0 true, bun [pt bf (.cells #[.pointer (some ⟨f, 0, none⟩)] 23 (0, 0)), pt bp (.cells #[sv from_] 9 (0, 0)), pt bt (.cells #[sv to] 9 (0, 0))]] fun F v M => v = okV ∧ M = pt f (fO c a s false false false mp) :: LD mp T :: IN s a c p (fmT T) (fmT (updT (updT T d2 (some (.dir (setS sl2 (freeS sl2) (some (nm2, i)))))) d1 (some (.dir (setS sl1 q1 none))))) (0 + 8 + 8) true :: bun [pt bf (.cells #[.pointer (some ⟨f, 0, none⟩)] 23 (0, 0)), pt bp (.cells #[sv from_] 9 (0, 0)), pt bt (.cells #[sv to] 9 (0, 0))] :: F := by
  refine Spec.intro Tryz.func93 rfl rfl fun B F => ?_
  simp only [Tryz.ntmps93, List.cons_append, List.nil_append, env0, Nat.reduceAdd]
  refine .openR (bun.opens _) fun _ _ => ?_
  simp only [List.cons_append, List.nil_append]
  have hto2 := hT d2 sl2 hd2
  have hto1 := hT1 d1 sl1 hd1
  refine .sr (.assign (.z (.seq (.sr ?_))))
  refine .ld ?_ sc9
  refine .ld ?_ sc9
  refine .call (hc := Tryz.call94) (sp := fsMay h1 h2) (h := ?_)
  rintro _ _ ⟨rfl, rfl⟩
  rw [hmay]
  refine .not ?_
  refine .z ?_
  refine .condF rfl rfl ?_
  refine .skip (.next (.sr ?_))
  refine .ld ?_ sc23
  refine .ld ?_ sc9
  refine .call (hc := Tryz.call95) (sp := fsAt (s := s) (a := a) (c := c) (p := p) (f := f) (mp := mp) (T := T) (path := from_) ho hT h1 hpf hff hx) (h := ?_)
  rintro _ _ ⟨rfl, rfl⟩
  refine .move ?_
  refine .extract ?_
  refine .extract ?_
  refine .alloc z178 fun b4 => ?_
  refine .stV ?_ agg178
  refine .assign (.z (.seq (.sr (.move ?_))))
  refine .nei ?_
  refine .z ?_
  refine .condF rfl (congrArg Value.bool (by first | (simp; done) | (simp; omega) | omega)) ?_
  refine .skip (.next (.seq (.sr ?_)))
  refine .fa ?_ fo178_4
  refine .ld ?_ sc28
  refine .nei ?_
  refine .move ?_
  refine .cast (d := 23) (u := .bool false) rfl (congrArg Value.bool (by first | (simp; done) | (simp; omega) | omega)) ?_
  refine .gT ?_
  refine .ld ?_ sc9
  refine .gT ?_
  refine .ld ?_ sc9
  refine .gT ?_
  refine .eqS from_ to ?_
  refine .cast (d := 26) (u := .bool false) rfl (congrArg Value.bool (decide_eq_false hne)) ?_
  refine .pickF ?_
  refine .z ?_
  refine .condF rfl (congrArg Value.bool (by first | (simp; done) | (simp; omega) | omega)) ?_
  refine .skip (.next (.sr ?_))
  refine .ld ?_ sc23
  refine .ld ?_ sc9
  refine .call (hc := Tryz.call95) (sp := fsAtNo (s := s) (a := a) (c := c) (p := p) (f := f) (mp := mp) (T := T) (path := to) ho hT h2 hpt hft) (h := ?_)
  rintro _ _ ⟨rfl, rfl⟩
  refine .move ?_
  refine .extract ?_
  refine .extract ?_
  refine .alloc z178 fun b6 => ?_
  refine .stV ?_ agg178
  refine .assign (.z (.seq (.block (.sr (.move ?_)))))
  refine .nei ?_
  refine .assign (.z ?_)
  refine .condF rfl (congrArg Value.bool (by first | (simp; done) | (simp; omega) | omega)) ?_
  refine .sr ?_
  refine .fa ?_ fo178_4
  refine .ld ?_ sc28
  refine .eqi ?_
  refine .assign (.z ?_)
  refine .condT rfl (congrArg Value.bool (by first | (simp; done) | (simp; omega) | omega)) ?_
  refine .sr ?_
  refine .ld ?_ sc23
  refine .makeFuncB ?_
  refine .makeFuncB ?_
  refine .buildS (fun b47 => ?_) (bsF2 _ _ _ _ _ _)
  refine .shutR (bun.opens [pt bf (.cells #[.pointer (some ⟨f, 0, none⟩)] 23 (0, 0)), pt b6 (.cells #[nI d2, sv nm2, nI 0, nI 0, nI 4] 178 (0, 0)), pt b4 (.cells #[nI d1, sv nm1, nI i, nI x.kind, nI 0] 178 (0, 0)), pt f (fO c a s false false false mp), IN s a c p (fmT T) (fmT T) 0 true]) () trivial ?_
  refine .call (hc := Tryz.call96) (sp := fsSteps2 (f := f) (gs := b47) (R0 := bun [pt bf (.cells #[.pointer (some ⟨f, 0, none⟩)] 23 (0, 0)), pt b6 (.cells #[nI d2, sv nm2, nI 0, nI 0, nI 4] 178 (0, 0)), pt b4 (.cells #[nI d1, sv nm1, nI i, nI x.kind, nI 0] 178 (0, 0)), pt f (fO c a s false false false mp), IN s a c p (fmT T) (fmT T) 0 true]) (R1 := bun [pt bf (.cells #[.pointer (some ⟨f, 0, none⟩)] 23 (0, 0)), pt b6 (.cells #[nI d2, sv nm2, nI 0, nI 0, nI 4] 178 (0, 0)), pt b4 (.cells #[nI d1, sv nm1, nI i, nI x.kind, nI 0] 178 (0, 0)), pt f (fO c a s false false false mp), IN s a c p (fmT T) (fmT (updT T d2 (some (.dir (setS sl2 (freeS sl2) (some (nm2, i))))))) (0 + 8) true]) (R2 := bun [pt bf (.cells #[.pointer (some ⟨f, 0, none⟩)] 23 (0, 0)), pt b6 (.cells #[nI d2, sv nm2, nI 0, nI 0, nI 4] 178 (0, 0)), pt b4 (.cells #[nI d1, sv nm1, nI i, nI x.kind, nI 0] 178 (0, 0)), pt f (fO c a s false false false mp), IN s a c p (fmT T) (fmT (updT (updT T d2 (some (.dir (setS sl2 (freeS sl2) (some (nm2, i)))))) d1 (some (.dir (setS sl1 q1 none))))) (0 + 8 + 8) true]) (hc0 := Tryz.call97) (sp0 := (fsRn1 (s := s) (a := a) (c := c) (p := p) (f := f) (mp := mp) (T0 := T) (b0 := bf) (b1 := b6) (b2 := b4) (T := T) (W := 0) ho hn2 hd2 hto2 (hw.less (by omega)) hl2 hi hf1)) (hc1 := Tryz.call99) (sp1 := (fsRn2 (s := s) (a := a) (c := c) (p := p) (f := f) (mp := mp) (T0 := T) (b0 := bf) (b1 := b6) (b2 := b4) (T := (updT T d2 (some (.dir (setS sl2 (freeS sl2) (some (nm2, i))))))) (W := 0 + 8) ho hn1 hd1 hto1 (by unfold Rw at hw ⊢; omega) hl1 hf2))) (h := ?_)
  rintro _ _ ⟨rfl, rfl⟩
  refine .assign (.z ?_)
  refine .ret (.blockRet (.thenRet (?_)))
  refine .openR (bun.opens _) fun _ _ => ?_
  simp only [List.cons_append, List.nil_append]
  refine .shutR (bun.opens [pt bf (.cells #[.pointer (some ⟨f, 0, none⟩)] 23 (0, 0)), pt bp (.cells #[sv from_] 9 (0, 0)), pt bt (.cells #[sv to] 9 (0, 0))]) () trivial ?_
  exact .ret1 (h1 := .tmp (t := 3) rfl) ⟨_, ⟨rfl, rfl⟩, Am.auto⟩
theorem fsRenameC2 {f s a c mp : Nat} {p : Pl} {T : FT} {bf bp bt : Nat} {from_ to : Bytes} {d1 d2 i q1 q2 j : Nat} {nm1 nm2 : Bytes} {sl1 sl2 : List Slot} {x : NodeT} (ho : PlOk p) (hT : TOk T) (h1 : from_.length ≤ 1000000) (h2 : to.length ≤ 1000000) (hmay : mayT from_ to = true) (hne : from_ ≠ to) (hpf : parentT T from_ = (d1, nm1, 0)) (hff : findT T d1 nm1 = (i, 0)) (hx : T i = some x) (hpt : parentT T to = (d2, nm2, 0)) (hn1 : nameOk nm1 = true) (hn2 : nameOk nm2 = true) (hd2 : T d2 = some (.dir sl2)) (hi : i < 4294967296) (hw : Rw p 0 29) (hT1 : TOk (updT T d2 (some (.dir (setS sl2 q2 (some (nm2, i))))))) (hd1 : (updT T d2 (some (.dir (setS sl2 q2 (some (nm2, i)))))) d1 = some (.dir sl1)) (hl1 : lookS nm1 sl1 = some (q1, i)) {fb : Bytes} {y2 : NodeT} (hft : findT T d2 nm2 = (j, 0)) (hy : T j = some (.file fb)) (hxk : x.kind ≠ 2) (hl2 : lookS nm2 sl2 = some (q2, j)) (hj0 : j ≠ 0) (hy2 : (updT (updT T d2 (some (.dir (setS sl2 q2 (some (nm2, i)))))) d1 (some (.dir (setS sl1 q1 none)))) j = some y2) (hf0 : tot (fmT T) p.ino ≤ p.dc) (hf2 : tot (fmT (updT T d2 (some (.dir (setS sl2 q2 (some (nm2, i))))))) p.ino ≤ p.dc) : Spec Tryz.prog 93 #[.pointer (some ⟨bp, 0, none⟩), .pointer (some ⟨bt, 0, none⟩), .pointer (some ⟨bf, 0, none⟩)] [pt f (fO c a s false false false mp), LD mp T, IN s a c p (fmT T) (fmT T) 0 true, bun [pt bf (.cells #[.pointer (some ⟨f, 0, none⟩)] 23 (0, 0)), pt bp (.cells #[sv from_] 9 (0, 0)), pt bt (.cells #[sv to] 9 (0, 0))]] fun F v M => v = okV ∧ M = pt f (fO c a s false false false mp) :: LD mp T :: IN s a c p (fmT T) (fmT (updT (updT (updT T d2 (some (.dir (setS sl2 q2 (some (nm2, i)))))) d1 (some (.dir (setS sl1 q1 none)))) j none)) (0 + 8 + 8) true :: bun [pt bf (.cells #[.pointer (some ⟨f, 0, none⟩)] 23 (0, 0)), pt bp (.cells #[sv from_] 9 (0, 0)), pt bt (.cells #[sv to] 9 (0, 0))] :: F := by
  refine Spec.intro Tryz.func93 rfl rfl fun B F => ?_
  simp only [Tryz.ntmps93, List.cons_append, List.nil_append, env0, Nat.reduceAdd]
  refine .openR (bun.opens _) fun _ _ => ?_
  simp only [List.cons_append, List.nil_append]
  have hto2 := hT d2 sl2 hd2
  have hto1 := hT1 d1 sl1 hd1
  refine .sr (.assign (.z (.seq (.sr ?_))))
  refine .ld ?_ sc9
  refine .ld ?_ sc9
  refine .call (hc := Tryz.call94) (sp := fsMay h1 h2) (h := ?_)
  rintro _ _ ⟨rfl, rfl⟩
  rw [hmay]
  refine .not ?_
  refine .z ?_
  refine .condF rfl rfl ?_
  refine .skip (.next (.sr ?_))
  refine .ld ?_ sc23
  refine .ld ?_ sc9
  refine .call (hc := Tryz.call95) (sp := fsAt (s := s) (a := a) (c := c) (p := p) (f := f) (mp := mp) (T := T) (path := from_) ho hT h1 hpf hff hx) (h := ?_)
  rintro _ _ ⟨rfl, rfl⟩
  refine .move ?_
  refine .extract ?_
  refine .extract ?_
  refine .alloc z178 fun b4 => ?_
  refine .stV ?_ agg178
  refine .assign (.z (.seq (.sr (.move ?_))))
  refine .nei ?_
  refine .z ?_
  refine .condF rfl (congrArg Value.bool (by first | (simp; done) | (simp; omega) | omega)) ?_
  refine .skip (.next (.seq (.sr ?_)))
  refine .fa ?_ fo178_4
  refine .ld ?_ sc28
  refine .nei ?_
  refine .move ?_
  refine .cast (d := 23) (u := .bool false) rfl (congrArg Value.bool (by first | (simp; done) | (simp; omega) | omega)) ?_
  refine .gT ?_
  refine .ld ?_ sc9
  refine .gT ?_
  refine .ld ?_ sc9
  refine .gT ?_
  refine .eqS from_ to ?_
  refine .cast (d := 26) (u := .bool false) rfl (congrArg Value.bool (decide_eq_false hne)) ?_
  refine .pickF ?_
  refine .z ?_
  refine .condF rfl (congrArg Value.bool (by first | (simp; done) | (simp; omega) | omega)) ?_
  refine .skip (.next (.sr ?_))
  refine .ld ?_ sc23
  refine .ld ?_ sc9
  refine .call (hc := Tryz.call95) (sp := fsAt (s := s) (a := a) (c := c) (p := p) (f := f) (mp := mp) (T := T) (path := to) (x := .file fb) ho hT h2 hpt hft hy) (h := ?_)
  rintro _ _ ⟨rfl, rfl⟩
  rw [show (NodeT.file fb).kind = 1 from rfl]
  refine .move ?_
  refine .extract ?_
  refine .extract ?_
  refine .alloc z178 fun b6 => ?_
  refine .stV ?_ agg178
  refine .assign (.z (.seq (.block (.sr (.move ?_)))))
  refine .nei ?_
  refine .assign (.z ?_)
  refine .condF rfl (congrArg Value.bool (by first | (simp; done) | (simp; omega) | omega)) ?_
  refine .sr ?_
  refine .fa ?_ fo178_4
  refine .ld ?_ sc28
  refine .eqi ?_
  refine .assign (.z ?_)
  refine .condF rfl (congrArg Value.bool (by first | (simp; done) | (simp; omega) | omega)) ?_
  refine .sr ?_
  refine .fa ?_ fo178_3
  refine .ld ?_ sc3
  refine .eqi ?_
  refine .move ?_
  refine .cast (d := 53) (u := .bool false) rfl (congrArg Value.bool (by first | (simp; done) | (simp; omega) | omega)) ?_
  refine .gT ?_
  refine .fa ?_ fo178_3
  refine .gT ?_
  refine .ld ?_ sc3
  refine .gT ?_
  refine .eqi ?_
  refine .pickF ?_
  refine .assign (.z ?_)
  refine .condF rfl (congrArg Value.bool (by first | (simp; done) | (simp; omega) | omega)) ?_
  refine .skip (.blockNormal (.next (.sr ?_)))
  refine .ld ?_ sc23
  refine .makeFuncB ?_
  refine .makeFuncB ?_
  refine .makeFuncB ?_
  refine .buildS (fun b62 => ?_) (bsF3 _ _ _ _ _ _ _ _ _)
  refine .shutR (bun.opens [pt bf (.cells #[.pointer (some ⟨f, 0, none⟩)] 23 (0, 0)), pt b6 (.cells #[nI d2, sv nm2, nI j, nI 1, nI 0] 178 (0, 0)), pt b4 (.cells #[nI d1, sv nm1, nI i, nI x.kind, nI 0] 178 (0, 0)), pt f (fO c a s false false false mp), IN s a c p (fmT T) (fmT T) 0 true]) () trivial ?_
  refine .call (hc := Tryz.call96) (sp := fsSteps3 (f := f) (gs := b62) (R0 := bun [pt bf (.cells #[.pointer (some ⟨f, 0, none⟩)] 23 (0, 0)), pt b6 (.cells #[nI d2, sv nm2, nI j, nI 1, nI 0] 178 (0, 0)), pt b4 (.cells #[nI d1, sv nm1, nI i, nI x.kind, nI 0] 178 (0, 0)), pt f (fO c a s false false false mp), IN s a c p (fmT T) (fmT T) 0 true]) (R1 := bun [pt bf (.cells #[.pointer (some ⟨f, 0, none⟩)] 23 (0, 0)), pt b6 (.cells #[nI d2, sv nm2, nI j, nI 1, nI 0] 178 (0, 0)), pt b4 (.cells #[nI d1, sv nm1, nI i, nI x.kind, nI 0] 178 (0, 0)), pt f (fO c a s false false false mp), IN s a c p (fmT T) (fmT (updT T d2 (some (.dir (setS sl2 q2 (some (nm2, i))))))) (0 + 8) true]) (R2 := bun [pt bf (.cells #[.pointer (some ⟨f, 0, none⟩)] 23 (0, 0)), pt b6 (.cells #[nI d2, sv nm2, nI j, nI 1, nI 0] 178 (0, 0)), pt b4 (.cells #[nI d1, sv nm1, nI i, nI x.kind, nI 0] 178 (0, 0)), pt f (fO c a s false false false mp), IN s a c p (fmT T) (fmT (updT (updT T d2 (some (.dir (setS sl2 q2 (some (nm2, i)))))) d1 (some (.dir (setS sl1 q1 none))))) (0 + 8 + 8) true]) (R3 := bun [pt bf (.cells #[.pointer (some ⟨f, 0, none⟩)] 23 (0, 0)), pt b6 (.cells #[nI d2, sv nm2, nI j, nI 1, nI 0] 178 (0, 0)), pt b4 (.cells #[nI d1, sv nm1, nI i, nI x.kind, nI 0] 178 (0, 0)), pt f (fO c a s false false false mp), IN s a c p (fmT T) (fmT (updT (updT (updT T d2 (some (.dir (setS sl2 q2 (some (nm2, i)))))) d1 (some (.dir (setS sl1 q1 none)))) j none)) (0 + 8 + 8) true]) (hc0 := Tryz.call101) (sp0 := (fsRn3 (s := s) (a := a) (c := c) (p := p) (f := f) (mp := mp) (T0 := T) (b0 := bf) (b1 := b6) (b2 := b4) (T := T) (W := 0) ho hn2 hd2 hto2 (hw.less (by omega)) hl2 hi hf0)) (hc1 := Tryz.call103) (sp1 := (fsRn4 (s := s) (a := a) (c := c) (p := p) (f := f) (mp := mp) (T0 := T) (b0 := bf) (b1 := b6) (b2 := b4) (T := (updT T d2 (some (.dir (setS sl2 q2 (some (nm2, i))))))) (W := 0 + 8) ho hn1 hd1 hto1 (by unfold Rw at hw ⊢; omega) hl1 hf2)) (hc2 := Tryz.call104) (sp2 := (fsRn5 (s := s) (a := a) (c := c) (p := p) (f := f) (mp := mp) (T0 := T) (b0 := bf) (b1 := b6) (b2 := b4) (T := (updT (updT T d2 (some (.dir (setS sl2 q2 (some (nm2, i)))))) d1 (some (.dir (setS sl1 q1 none))))) (W := 0 + 8 + 8) ho hy2 hj0 (by unfold Rw at hw ⊢; omega)))) (h := ?_)
  rintro _ _ ⟨rfl, rfl⟩
  refine .assign (.z ?_)
  refine .ret (?_)
  refine .openR (bun.opens _) fun _ _ => ?_
  simp only [List.cons_append, List.nil_append]
  refine .shutR (bun.opens [pt bf (.cells #[.pointer (some ⟨f, 0, none⟩)] 23 (0, 0)), pt bp (.cells #[sv from_] 9 (0, 0)), pt bt (.cells #[sv to] 9 (0, 0))]) () trivial ?_
  exact .ret1 (h1 := .tmp (t := 3) rfl) ⟨_, ⟨rfl, rfl⟩, Am.auto⟩
theorem fsRename {f : Nat} {p : Pl} {T : FT} {from_ to : Bytes} {d1 d2 i q1 : Nat} {nm1 nm2 : Bytes} {sl1 sl2 : List Slot} {x : NodeT} (ho : PlOk p) (hT : TOk T) (h1 : from_.length ≤ 1000000) (h2 : to.length ≤ 1000000) (hmay : mayT from_ to = true) (hne : from_ ≠ to) (hpf : parentT T from_ = (d1, nm1, 0)) (hff : findT T d1 nm1 = (i, 0)) (hx : T i = some x) (hpt : parentT T to = (d2, nm2, 0)) (hn1 : nameOk nm1 = true) (hn2 : nameOk nm2 = true) (hd2 : T d2 = some (.dir sl2)) (hi : i < 4294967296) (hw : Rw p 0 29) (hT1 : TOk (updT T d2 (some (.dir (setS sl2 (freeS sl2) (some (nm2, i))))))) (hd1 : (updT T d2 (some (.dir (setS sl2 (freeS sl2) (some (nm2, i)))))) d1 = some (.dir sl1)) (hl1 : lookS nm1 sl1 = some (q1, i)) (hft : findT T d2 nm2 = (0, 4)) (hl2 : lookS nm2 sl2 = none) (hf1 : tot (fmT T) p.ino + has (max (64 * sl2.length) (64 * freeS sl2 + 64)) ≤ p.dc + has (64 * sl2.length)) (hf2 : tot (fmT (updT T d2 (some (.dir (setS sl2 (freeS sl2) (some (nm2, i))))))) p.ino ≤ p.dc) : Spec Tryz.prog 47 #[.pointer (some ⟨f, 0, none⟩), sv from_, sv to] [FSR f p T] fun F v M => v = okV ∧ M = FSR f p (updT (updT T d2 (some (.dir (setS sl2 (freeS sl2) (some (nm2, i)))))) d1 (some (.dir (setS sl1 q1 none)))) :: F := by
  refine Spec.intro Tryz.func47 rfl rfl fun B F => ?_
  simp only [Tryz.ntmps47, List.cons_append, List.nil_append, env0, Nat.reduceAdd]
  refine .openR (FSR.opens f p T) fun y _ => ?_
  obtain ⟨c, a, s, mp⟩ := y
  simp only [fsLs, List.cons_append, List.nil_append]
  refine .sr ?_
  refine .box fun b3 => ?_
  refine .box fun b4 => ?_
  refine .box fun b5 => ?_
  refine .assign (.x ?_)
  refine .ld ?_ sc23
  refine .shutR (bun.opens [pt b3 (.cells #[.pointer (some ⟨f, 0, none⟩)] 23 (0, 0)), pt b4 (.cells #[sv from_] 9 (0, 0)), pt b5 (.cells #[sv to] 9 (0, 0))]) () trivial ?_
  refine .makeFuncB ?_
  refine .call (hc := Tryz.call92) (sp := fsChange (s := s) (a := a) (c := c) (p := p) (f := f) (mp := mp) (T := (updT (updT T d2 (some (.dir (setS sl2 (freeS sl2) (some (nm2, i)))))) d1 (some (.dir (setS sl1 q1 none))))) (S := T) ho (hc := Tryz.call93) (sp := (fsRenameC1 (bf := b3) (bp := b4) (bt := b5) ho hT h1 h2 hmay hne hpf hff hx hpt hn1 hn2 hd2 hi hw hT1 hd1 hl1 hft hl2 hf1 hf2))) (h := ?_)
  rintro _ _ ⟨rfl, rfl⟩
  refine .assign (.z ?_)
  refine .ret (?_)
  refine .shutR (FSR.opens f p (updT (updT T d2 (some (.dir (setS sl2 (freeS sl2) (some (nm2, i)))))) d1 (some (.dir (setS sl1 q1 none))))) (c, a, s, mp) trivial ?_
  exact .ret1 (h1 := .tmp (t := 6) rfl) ⟨_, ⟨rfl, rfl⟩, Am.auto⟩
theorem fsRenameOver {f : Nat} {p : Pl} {T : FT} {from_ to : Bytes} {d1 d2 i q1 q2 j : Nat} {nm1 nm2 : Bytes} {sl1 sl2 : List Slot} {x : NodeT} (ho : PlOk p) (hT : TOk T) (h1 : from_.length ≤ 1000000) (h2 : to.length ≤ 1000000) (hmay : mayT from_ to = true) (hne : from_ ≠ to) (hpf : parentT T from_ = (d1, nm1, 0)) (hff : findT T d1 nm1 = (i, 0)) (hx : T i = some x) (hpt : parentT T to = (d2, nm2, 0)) (hn1 : nameOk nm1 = true) (hn2 : nameOk nm2 = true) (hd2 : T d2 = some (.dir sl2)) (hi : i < 4294967296) (hw : Rw p 0 29) (hT1 : TOk (updT T d2 (some (.dir (setS sl2 q2 (some (nm2, i))))))) (hd1 : (updT T d2 (some (.dir (setS sl2 q2 (some (nm2, i)))))) d1 = some (.dir sl1)) (hl1 : lookS nm1 sl1 = some (q1, i)) {fb : Bytes} {y2 : NodeT} (hft : findT T d2 nm2 = (j, 0)) (hy : T j = some (.file fb)) (hxk : x.kind ≠ 2) (hl2 : lookS nm2 sl2 = some (q2, j)) (hj0 : j ≠ 0) (hy2 : (updT (updT T d2 (some (.dir (setS sl2 q2 (some (nm2, i)))))) d1 (some (.dir (setS sl1 q1 none)))) j = some y2) (hf0 : tot (fmT T) p.ino ≤ p.dc) (hf2 : tot (fmT (updT T d2 (some (.dir (setS sl2 q2 (some (nm2, i))))))) p.ino ≤ p.dc) : Spec Tryz.prog 47 #[.pointer (some ⟨f, 0, none⟩), sv from_, sv to] [FSR f p T] fun F v M => v = okV ∧ M = FSR f p (updT (updT (updT T d2 (some (.dir (setS sl2 q2 (some (nm2, i)))))) d1 (some (.dir (setS sl1 q1 none)))) j none) :: F := by
  refine Spec.intro Tryz.func47 rfl rfl fun B F => ?_
  simp only [Tryz.ntmps47, List.cons_append, List.nil_append, env0, Nat.reduceAdd]
  refine .openR (FSR.opens f p T) fun y _ => ?_
  obtain ⟨c, a, s, mp⟩ := y
  simp only [fsLs, List.cons_append, List.nil_append]
  refine .sr ?_
  refine .box fun b3 => ?_
  refine .box fun b4 => ?_
  refine .box fun b5 => ?_
  refine .assign (.x ?_)
  refine .ld ?_ sc23
  refine .shutR (bun.opens [pt b3 (.cells #[.pointer (some ⟨f, 0, none⟩)] 23 (0, 0)), pt b4 (.cells #[sv from_] 9 (0, 0)), pt b5 (.cells #[sv to] 9 (0, 0))]) () trivial ?_
  refine .makeFuncB ?_
  refine .call (hc := Tryz.call92) (sp := fsChange (s := s) (a := a) (c := c) (p := p) (f := f) (mp := mp) (T := (updT (updT (updT T d2 (some (.dir (setS sl2 q2 (some (nm2, i)))))) d1 (some (.dir (setS sl1 q1 none)))) j none)) (S := T) ho (hc := Tryz.call93) (sp := (fsRenameC2 (bf := b3) (bp := b4) (bt := b5) ho hT h1 h2 hmay hne hpf hff hx hpt hn1 hn2 hd2 hi hw hT1 hd1 hl1 hft hy hxk hl2 hj0 hy2 hf0 hf2))) (h := ?_)
  rintro _ _ ⟨rfl, rfl⟩
  refine .assign (.z ?_)
  refine .ret (?_)
  refine .shutR (FSR.opens f p (updT (updT (updT T d2 (some (.dir (setS sl2 q2 (some (nm2, i)))))) d1 (some (.dir (setS sl1 q1 none)))) j none)) (c, a, s, mp) trivial ?_
  exact .ret1 (h1 := .tmp (t := 6) rfl) ⟨_, ⟨rfl, rfl⟩, Am.auto⟩
end Go.Proofs.YtdmjkjeoamiedaaGreatDoor
end
section
namespace Go.Proofs.YtdmjkjeoamiedaaGreatDoor
open Go
theorem fsRenameC3 {f s a c mp : Nat} {p : Pl} {T : FT} {bf bp bt : Nat} {from_ to : Bytes} {d : Nat} {nm : Bytes} (ho : PlOk p) (hT : TOk T) (h1 : from_.length ≤ 1000000) (h2 : to.length ≤ 1000000) (hmay : mayT from_ to = true) (hpf : parentT T from_ = (d, nm, 0)) (hff : findT T d nm = (0, 4)) : Spec Tryz.prog 93 #[.pointer (some ⟨bp, 0, none⟩), .pointer (some ⟨bt, 0, none⟩), .pointer (some ⟨bf, 0, none⟩)] [pt f (fO c a s false false false mp), LD mp T, IN s a c p (fmT T) (fmT T) 0 true, bun [pt bf (.cells #[.pointer (some ⟨f, 0, none⟩)] 23 (0, 0)), pt bp (.cells #[sv from_] 9 (0, 0)), pt bt (.cells #[sv to] 9 (0, 0))]] fun F v M => v = nI 4 ∧ M = pt f (fO c a s false false false mp) :: LD mp T :: IN s a c p (fmT T) (fmT T) 0 true :: bun [pt bf (.cells #[.pointer (some ⟨f, 0, none⟩)] 23 (0, 0)), pt bp (.cells #[sv from_] 9 (0, 0)), pt bt (.cells #[sv to] 9 (0, 0))] :: F := by
  refine Spec.intro Tryz.func93 rfl rfl fun B F => ?_
  simp only [Tryz.ntmps93, List.cons_append, List.nil_append, env0, Nat.reduceAdd]
  refine .openR (bun.opens _) fun _ _ => ?_
  simp only [List.cons_append, List.nil_append]
  refine .sr (.assign (.z (.seq (.sr ?_))))
  refine .ld ?_ sc9
  refine .ld ?_ sc9
  refine .call (hc := Tryz.call94) (sp := fsMay h1 h2) (h := ?_)
  rintro _ _ ⟨rfl, rfl⟩
  rw [hmay]
  refine .not ?_
  refine .z ?_
  refine .condF rfl rfl ?_
  refine .skip (.next (.sr ?_))
  refine .ld ?_ sc23
  refine .ld ?_ sc9
  refine .call (hc := Tryz.call95) (sp := fsAtNo (s := s) (a := a) (c := c) (p := p) (f := f) (mp := mp) (T := T) (path := from_) ho hT h1 hpf hff) (h := ?_)
  rintro _ _ ⟨rfl, rfl⟩
  refine .move ?_
  refine .extract ?_
  refine .extract ?_
  refine .alloc z178 fun b4 => ?_
  refine .stV ?_ agg178
  refine .assign (.z (.seq (.sr (.move ?_))))
  refine .nei ?_
  refine .z ?_
  refine .condF rfl (congrArg Value.bool (by first | (simp; done) | (simp; omega) | omega)) ?_
  refine .skip (.next (.seq (.sr ?_)))
  refine .fa ?_ fo178_4
  refine .ld ?_ sc28
  refine .nei ?_
  refine .move ?_
  refine .gF ?_
  refine .gF ?_
  refine .gF ?_
  refine .pickT ?_
  refine .z ?_
  refine .condT rfl rfl ?_
  refine .sr ?_
  refine .fa ?_ fo178_4
  refine .ld ?_ sc28
  refine .assign (.z ?_)
  refine .ret (.thenRet (?_))
  refine .shutR (bun.opens [pt bf (.cells #[.pointer (some ⟨f, 0, none⟩)] 23 (0, 0)), pt bp (.cells #[sv from_] 9 (0, 0)), pt bt (.cells #[sv to] 9 (0, 0))]) () trivial ?_
  exact .ret1 (h1 := .tmp (t := 3) rfl) ⟨_, ⟨rfl, rfl⟩, Am.auto⟩
theorem fsRenameC4 {f s a c mp : Nat} {p : Pl} {T : FT} {bf bp bt : Nat} {from_ to : Bytes} {d : Nat} {nm : Bytes} (ho : PlOk p) (hT : TOk T) (h1 : from_.length ≤ 1000000) (h2 : to.length ≤ 1000000) (hmay : mayT from_ to = true) (hpf : parentT T from_ = (d, nm, 0)) {i : Nat} {x : NodeT} (hff : findT T d nm = (i, 0)) (hx : T i = some x) (heq : from_ = to) : Spec Tryz.prog 93 #[.pointer (some ⟨bp, 0, none⟩), .pointer (some ⟨bt, 0, none⟩), .pointer (some ⟨bf, 0, none⟩)] [pt f (fO c a s false false false mp), LD mp T, IN s a c p (fmT T) (fmT T) 0 true, bun [pt bf (.cells #[.pointer (some ⟨f, 0, none⟩)] 23 (0, 0)), pt bp (.cells #[sv from_] 9 (0, 0)), pt bt (.cells #[sv to] 9 (0, 0))]] fun F v M => v = okV ∧ M = pt f (fO c a s false false false mp) :: LD mp T :: IN s a c p (fmT T) (fmT T) 0 true :: bun [pt bf (.cells #[.pointer (some ⟨f, 0, none⟩)] 23 (0, 0)), pt bp (.cells #[sv from_] 9 (0, 0)), pt bt (.cells #[sv to] 9 (0, 0))] :: F := by
  refine Spec.intro Tryz.func93 rfl rfl fun B F => ?_
  simp only [Tryz.ntmps93, List.cons_append, List.nil_append, env0, Nat.reduceAdd]
  refine .openR (bun.opens _) fun _ _ => ?_
  simp only [List.cons_append, List.nil_append]
  refine .sr (.assign (.z (.seq (.sr ?_))))
  refine .ld ?_ sc9
  refine .ld ?_ sc9
  refine .call (hc := Tryz.call94) (sp := fsMay h1 h2) (h := ?_)
  rintro _ _ ⟨rfl, rfl⟩
  rw [hmay]
  refine .not ?_
  refine .z ?_
  refine .condF rfl rfl ?_
  refine .skip (.next (.sr ?_))
  refine .ld ?_ sc23
  refine .ld ?_ sc9
  refine .call (hc := Tryz.call95) (sp := fsAt (s := s) (a := a) (c := c) (p := p) (f := f) (mp := mp) (T := T) (path := from_) ho hT h1 hpf hff hx) (h := ?_)
  rintro _ _ ⟨rfl, rfl⟩
  refine .move ?_
  refine .extract ?_
  refine .extract ?_
  refine .alloc z178 fun b4 => ?_
  refine .stV ?_ agg178
  refine .assign (.z (.seq (.sr (.move ?_))))
  refine .nei ?_
  refine .z ?_
  refine .condF rfl (congrArg Value.bool (by first | (simp; done) | (simp; omega) | omega)) ?_
  refine .skip (.next (.seq (.sr ?_)))
  refine .fa ?_ fo178_4
  refine .ld ?_ sc28
  refine .nei ?_
  refine .move ?_
  refine .gT ?_
  refine .ld ?_ sc9
  refine .gT ?_
  refine .ld ?_ sc9
  refine .gT ?_
  refine .eqS from_ to ?_
  refine .cast (d := 26) (u := .bool true) rfl (congrArg Value.bool (decide_eq_true heq)) ?_
  refine .pickF ?_
  refine .z ?_
  refine .condT rfl (congrArg Value.bool (by first | (simp; done) | (simp; omega) | omega)) ?_
  refine .sr ?_
  refine .fa ?_ fo178_4
  refine .ld ?_ sc28
  refine .assign (.z ?_)
  refine .ret (.thenRet (?_))
  refine .shutR (bun.opens [pt bf (.cells #[.pointer (some ⟨f, 0, none⟩)] 23 (0, 0)), pt bp (.cells #[sv from_] 9 (0, 0)), pt bt (.cells #[sv to] 9 (0, 0))]) () trivial ?_
  exact .ret1 (h1 := .tmp (t := 3) rfl) ⟨_, ⟨rfl, rfl⟩, Am.auto⟩
theorem fsRenameNone {f : Nat} {p : Pl} {T : FT} {from_ to : Bytes} {d : Nat} {nm : Bytes} (ho : PlOk p) (hT : TOk T) (h1 : from_.length ≤ 1000000) (h2 : to.length ≤ 1000000) (hmay : mayT from_ to = true) (hpf : parentT T from_ = (d, nm, 0)) (hff : findT T d nm = (0, 4)) : Spec Tryz.prog 47 #[.pointer (some ⟨f, 0, none⟩), sv from_, sv to] [FSR f p T] fun F v M => v = nI 4 ∧ M = FSR f p T :: F := by
  refine Spec.intro Tryz.func47 rfl rfl fun B F => ?_
  simp only [Tryz.ntmps47, List.cons_append, List.nil_append, env0, Nat.reduceAdd]
  refine .openR (FSR.opens f p T) fun y _ => ?_
  obtain ⟨c, a, s, mp⟩ := y
  simp only [fsLs, List.cons_append, List.nil_append]
  refine .sr ?_
  refine .box fun b3 => ?_
  refine .box fun b4 => ?_
  refine .box fun b5 => ?_
  refine .assign (.x ?_)
  refine .ld ?_ sc23
  refine .shutR (bun.opens [pt b3 (.cells #[.pointer (some ⟨f, 0, none⟩)] 23 (0, 0)), pt b4 (.cells #[sv from_] 9 (0, 0)), pt b5 (.cells #[sv to] 9 (0, 0))]) () trivial ?_
  refine .makeFuncB ?_
  refine .call (hc := Tryz.call92) (sp := fsChangeE (s := s) (a := a) (c := c) (p := p) (f := f) (mp := mp) (T := T) (S := T) (e := 4) (by decide) ho (hc := Tryz.call93) (sp := (fsRenameC3 (bf := b3) (bp := b4) (bt := b5) ho hT h1 h2 hmay hpf hff))) (h := ?_)
  rintro _ _ ⟨rfl, rfl⟩
  refine .assign (.z ?_)
  refine .ret (?_)
  refine .shutR (FSR.opens f p T) (c, a, s, mp) trivial ?_
  exact .ret1 (h1 := .tmp (t := 6) rfl) ⟨_, ⟨rfl, rfl⟩, Am.auto⟩
theorem fsRenameSame {f : Nat} {p : Pl} {T : FT} {from_ to : Bytes} {d : Nat} {nm : Bytes} (ho : PlOk p) (hT : TOk T) (h1 : from_.length ≤ 1000000) (h2 : to.length ≤ 1000000) (hmay : mayT from_ to = true) (hpf : parentT T from_ = (d, nm, 0)) {i : Nat} {x : NodeT} (hff : findT T d nm = (i, 0)) (hx : T i = some x) (heq : from_ = to) : Spec Tryz.prog 47 #[.pointer (some ⟨f, 0, none⟩), sv from_, sv to] [FSR f p T] fun F v M => v = okV ∧ M = FSR f p T :: F := by
  refine Spec.intro Tryz.func47 rfl rfl fun B F => ?_
  simp only [Tryz.ntmps47, List.cons_append, List.nil_append, env0, Nat.reduceAdd]
  refine .openR (FSR.opens f p T) fun y _ => ?_
  obtain ⟨c, a, s, mp⟩ := y
  simp only [fsLs, List.cons_append, List.nil_append]
  refine .sr ?_
  refine .box fun b3 => ?_
  refine .box fun b4 => ?_
  refine .box fun b5 => ?_
  refine .assign (.x ?_)
  refine .ld ?_ sc23
  refine .shutR (bun.opens [pt b3 (.cells #[.pointer (some ⟨f, 0, none⟩)] 23 (0, 0)), pt b4 (.cells #[sv from_] 9 (0, 0)), pt b5 (.cells #[sv to] 9 (0, 0))]) () trivial ?_
  refine .makeFuncB ?_
  refine .call (hc := Tryz.call92) (sp := fsChange (s := s) (a := a) (c := c) (p := p) (f := f) (mp := mp) (T := T) (S := T) ho (hc := Tryz.call93) (sp := (fsRenameC4 (bf := b3) (bp := b4) (bt := b5) ho hT h1 h2 hmay hpf hff hx heq))) (h := ?_)
  rintro _ _ ⟨rfl, rfl⟩
  refine .assign (.z ?_)
  refine .ret (?_)
  refine .shutR (FSR.opens f p T) (c, a, s, mp) trivial ?_
  exact .ret1 (h1 := .tmp (t := 6) rfl) ⟨_, ⟨rfl, rfl⟩, Am.auto⟩
end Go.Proofs.YtdmjkjeoamiedaaGreatDoor
end
section
namespace Go.Proofs.YtdmjkjeoamiedaaGreatDoor
open Go
def nmL (k : Nat) : Bytes := [UInt8.ofNat (97 + k)]
def pathL (k : Nat) : Bytes := [47, 100, 47, UInt8.ofNat (97 + k)]
theorem nmL_ok : ∀ i, i < 26 → nameOk (nmL i) = true := by decide +kernel
theorem nmL_inj : ∀ i, i < 26 → ∀ j, j < 26 → nmL i = nmL j → i = j := by decide +kernel
theorem pathL_parts : ∀ i, i < 26 → partsT (pathL i) = some [[100], nmL i] := by decide +kernel
def lsl (ks : List Nat) : List Slot := (List.range ks.length).map fun i => some (nmL (ks.getD i 0), i + 2)
def lT (ks : List Nat) : FT := fun j => if j = 0 then some (.dir [some ([100], 1)]) else if j = 1 then some (.dir (lsl ks)) else if j < ks.length + 2 then some (.file []) else none
structure LOk (ks : List Nat) : Prop where
  lt : ∀ k ∈ ks, k < 26
  nd : ks.Nodup
theorem nodup_len : ∀ (n : Nat) {l : List Nat}, l.Nodup → (∀ x ∈ l, x < n) → l.length ≤ n
  | 0, [], _, _ => Nat.le_refl _
  | 0, x :: r, _, h => absurd (h x (List.mem_cons_self ..)) (Nat.not_lt_zero x)
  | n + 1, l, hn, h => by
    by_cases hm : n ∈ l
    · have h1 := nodup_len n (l := l.erase n) (hn.erase n) fun x hx => by
        have h2 := (hn.mem_erase_iff).1 hx
        have := h x h2.2; have := h2.1; omega
      have h3 := List.length_erase_of_mem hm
      omega
    · have := nodup_len n hn fun x hx => by
        have h1 := h x hx
        have : x ≠ n := fun hh => hm (hh ▸ hx)
        omega
      omega
theorem LOk.length {ks : List Nat} (h : LOk ks) : ks.length ≤ 26 := nodup_len 26 h.nd h.lt
theorem lsl_length (ks : List Nat) : (lsl ks).length = ks.length := by unfold lsl; rw [List.length_map, List.length_range]
theorem lsl_get {ks : List Nat} {i : Nat} (h : i < ks.length) : (lsl ks)[i]? = some (some (nmL ks[i], i + 2)) := by
  unfold lsl
  rw [List.getElem?_map, List.getElem?_range h]
  show some (some (nmL (ks.getD i 0), i + 2)) = _
  rw [List.getD_eq_getElem?_getD, List.getElem?_eq_getElem h]; rfl
theorem lsl_some {ks : List Nat} {q i : Nat} {nm : Bytes} (h : (lsl ks)[q]? = some (some (nm, i))) : ∃ hq : q < ks.length, nm = nmL ks[q] ∧ i = q + 2 := by
  have hq : q < ks.length := by
    by_cases hq : q < ks.length
    · exact hq
    · rw [List.getElem?_eq_none (by rw [lsl_length]; omega)] at h; cases h
  rw [lsl_get hq] at h
  injection h with h; injection h with h; injection h with h1 h2
  exact ⟨hq, h1.symm, h2.symm⟩
theorem lsl_ok {ks : List Nat} (h : LOk ks) : DirOk (lsl ks) := by
  refine ⟨fun q nm i hq => ?_, fun q r nm i j hq hr => ?_⟩
  · obtain ⟨h1, rfl, rfl⟩ := lsl_some hq
    have := h.length
    exact ⟨nameOk_len (nmL_ok _ (h.lt _ (List.getElem_mem h1))), by omega⟩
  · obtain ⟨h1, rfl, _⟩ := lsl_some hq
    obtain ⟨h2, h3, _⟩ := lsl_some hr
    have := nmL_inj _ (h.lt _ (List.getElem_mem h1)) _ (h.lt _ (List.getElem_mem h2)) h3
    exact (List.getElem_inj h.nd).1 this
theorem lsl_free (ks : List Nat) : freeS (lsl ks) = ks.length := by
  rw [full_free' (fun q h => by
    by_cases hq : q < ks.length
    · rw [lsl_get hq] at h; cases h
    · rw [List.getElem?_eq_none (by rw [lsl_length]; omega)] at h; cases h), lsl_length]
theorem lsl_none {ks : List Nat} (h : LOk ks) {k : Nat} (hk : k < 26) (hn : k ∉ ks) : lookS (nmL k) (lsl ks) = none := by
  cases hc : lookS (nmL k) (lsl ks) with
  | none => rfl
  | some x =>
    obtain ⟨q, i⟩ := x
    obtain ⟨h1, h2, _⟩ := lsl_some (lookS_some hc)
    have := nmL_inj k hk _ (h.lt _ (List.getElem_mem h1)) h2
    exact absurd (this ▸ List.getElem_mem h1) hn
theorem lsl_look {ks : List Nat} (h : LOk ks) {q : Nat} (hq : q < ks.length) : lookS (nmL ks[q]) (lsl ks) = some (q, q + 2) := lookS_of (lsl_ok h) (lsl_get hq)
theorem lsl_add (ks : List Nat) (k : Nat) : setS (lsl ks) ks.length (some (nmL k, ks.length + 2)) = lsl (ks ++ [k]) := by
  refine List.ext_getElem? fun j => ?_
  have hl := lsl_length ks
  by_cases hj : j = ks.length
  · subst hj
    rw [setS_same (by omega), lsl_get (by rw [List.length_append]; show ks.length < ks.length + 1; omega)]
    rw [List.getElem_append_right (Nat.le_refl _)]
    simp
  · rw [setS_other (by omega) hj]
    by_cases hlt : j < ks.length
    · rw [lsl_get hlt, lsl_get (by rw [List.length_append]; omega), List.getElem_append_left hlt]
    · rw [List.getElem?_eq_none (by omega), List.getElem?_eq_none (by rw [lsl_length, List.length_append]; show ks.length + 1 ≤ j; omega)]
theorem LOk.add {ks : List Nat} (h : LOk ks) {k : Nat} (hk : k < 26) (hn : k ∉ ks) : LOk (ks ++ [k]) := by
  refine ⟨fun x hx => ?_, ?_⟩
  · rcases List.mem_append.1 hx with hx | hx
    · exact h.lt x hx
    · rw [List.mem_singleton] at hx; omega
  · rw [List.nodup_append]
    refine ⟨h.nd, by simp, fun a ha b hb hab => ?_⟩
    rw [List.mem_singleton] at hb
    subst hb; subst hab; exact hn ha
theorem lT_0 (ks : List Nat) : lT ks 0 = some (.dir [some ([100], 1)]) := rfl
theorem lT_1 (ks : List Nat) : lT ks 1 = some (.dir (lsl ks)) := rfl
theorem lT_in {ks : List Nat} {j : Nat} (h : 2 ≤ j) (h2 : j < ks.length + 2) : lT ks j = some (.file []) := by unfold lT; rw [if_neg (by omega), if_neg (by omega), if_pos h2]
theorem lT_out {ks : List Nat} {j : Nat} (h : ks.length + 2 ≤ j) : lT ks j = none := by unfold lT; rw [if_neg (by omega), if_neg (by omega), if_neg (by omega)]
theorem lT_ok {ks : List Nat} (h : LOk ks) : TOk (lT ks) := by
  intro d sl hd
  have hlen := h.length
  by_cases h0 : d = 0
  · subst h0; rw [lT_0] at hd; injection hd with hd; injection hd with hd; subst hd
    exact ⟨DirOk.one1 (by decide) (by decide), by show 1 ≤ 1000; decide⟩
  · by_cases h1 : d = 1
    · subst h1; rw [lT_1] at hd; injection hd with hd; injection hd with hd; subst hd
      exact ⟨lsl_ok h, by rw [lsl_length]; omega⟩
    · unfold lT at hd
      rw [if_neg h0, if_neg h1] at hd
      split at hd
      · injection hd with hd; cases hd
      · cases hd
theorem lT_mk (ks : List Nat) (k : Nat) : mkT (lT ks) 1 (lsl ks) (nmL k) (ks.length + 2) (.file []) = lT (ks ++ [k]) := by
  have hl : (ks ++ [k]).length = ks.length + 1 := by rw [List.length_append]; rfl
  funext j
  unfold mkT
  rw [lsl_free, lsl_add]
  by_cases h1 : j = 1
  · subst h1; rw [updT_same, lT_1]
  · rw [updT_other _ _ h1]
    by_cases hj : j = ks.length + 2
    · subst hj; rw [updT_same, lT_in (by omega) (by omega)]
    · rw [updT_other _ _ hj]
      by_cases h0 : j = 0
      · subst h0; rfl
      · by_cases hjk : j < ks.length + 2
        · rw [lT_in (by omega) hjk, lT_in (by omega) (by omega)]
        · rw [lT_out (by omega), lT_out (by omega)]
theorem lT_par {ks : List Nat} {k : Nat} (h : k < 26) : parentT (lT ks) (pathL k) = (1, nmL k, 0) := by
  unfold parentT
  rw [pathL_parts k h]
  rfl
theorem lT_find {ks : List Nat} (h : LOk ks) {k : Nat} (hk : k < 26) (hn : k ∉ ks) : findT (lT ks) 1 (nmL k) = (0, 4) := by
  unfold findT
  rw [if_pos (nmL_ok k hk), lT_1]
  simp only [lsl_none h hk hn]
theorem lT_has {ks : List Nat} (h : LOk ks) {q : Nat} (hq : q < ks.length) : findT (lT ks) 1 (nmL ks[q]) = (q + 2, 0) := by
  unfold findT
  rw [if_pos (nmL_ok _ (h.lt _ (List.getElem_mem hq))), lT_1]
  simp only [lsl_look h hq]
theorem lT_tot (ks : List Nat) : ∀ n, 2 ≤ n → tot (fmT (lT ks)) n = 1 + has (64 * ks.length)
  | 2, _ => by
    show 0 + hasO (fmT (lT ks) 0) + hasO (fmT (lT ks) 1) = _
    rw [fmT_some (lT_0 ks), fmT_some (lT_1 ks)]
    show 0 + has (dirB _).length + has (dirB (lsl ks)).length = _
    rw [dirB_length, dirB_length, lsl_length]
    rfl
  | n + 3, _ => by
    rw [tot, lT_tot ks (n + 2) (by omega)]
    have : hasO (fmT (lT ks) (n + 2)) = 0 := by
      by_cases hb : n + 2 < ks.length + 2
      · rw [fmT_some (lT_in (by omega) hb)]; show has 0 = 0; rfl
      · rw [fmT_none (lT_out (by omega))]; show 0 = 0; rfl
    rw [this]; rfl
section
variable {f k : Nat} {ks : List Nat}
theorem lCr (h : LOk ks) (hk : k < 26) (hn : k ∉ ks) : Spec Tryz.prog 17 #[.pointer (some ⟨f, 0, none⟩), sv (pathL k)] [FSR f (pD 500 40) (lT ks)] fun F v M => v = okV ∧ M = FSR f (pD 500 40) (lT (ks ++ [k])) :: F := by
  have hlen := (h.add hk hn).length
  rw [List.length_append] at hlen
  have hlen : ks.length + 1 ≤ 26 := hlen
  have h3 := has_small (n := ks.length) (by omega)
  have h4 := has_small (n := ks.length + 1) (by omega)
  have hd : (pD 500 40).dc = 247 := rfl
  have := fsCreate (f := f) (p := pD 500 40) (T := lT ks) (path := pathL k) (d := 1) (i := ks.length + 2) (nm := nmL k) (sl := lsl ks) (x := .file []) p11_is.ok (lT_ok h) (by show 4 ≤ 1000000; decide) (fun hh => by have := congrArg List.length hh; cases this) (lT_par hk) (lT_find h hk hn) (lT_1 ks) (by show ks.length + 2 < 40; omega) (lT_out (Nat.le_refl _)) (fun j hj => by
    by_cases h0 : j = 0
    · subst h0; exact nofun
    · by_cases h1 : j = 1
      · subst h1; exact nofun
      · rw [lT_in (by omega) hj]; exact nofun) rfl rfl (.inr (by decide)) (by
    rw [lT_tot ks _ (by decide), lsl_free, lsl_length, Nat.max_eq_right (by omega), hd]
    rw [show 64 * ks.length + 64 = 64 * (ks.length + 1) from by omega]
    omega)
  rwa [lT_mk] at this
theorem lCrE (h : LOk ks) (hk : k < 26) (hn : k ∈ ks) : Spec Tryz.prog 17 #[.pointer (some ⟨f, 0, none⟩), sv (pathL k)] [FSR f (pD 500 40) (lT ks)] fun F v M => v = nI 5 ∧ M = FSR f (pD 500 40) (lT ks) :: F := by
  obtain ⟨q, hq, rfl⟩ := List.mem_iff_getElem.1 hn
  refine fsCreateE (f := f) (p := pD 500 40) (T := lT ks) p11_is.ok (lT_ok h) (by show 4 ≤ 1000000; decide) ?_ (by decide)
  unfold makeE
  rw [if_neg (fun hh => by have := congrArg List.length hh; cases this), lT_par hk]
  simp only [lT_has h hq]
  rfl
theorem lRnNone (h : LOk ks) (hk : k < 26) (hn : k ∉ ks) {b : Nat} (hb : b < 26) : Spec Tryz.prog 47 #[.pointer (some ⟨f, 0, none⟩), sv (pathL k), sv (pathL b)] [FSR f (pD 500 40) (lT ks)] fun F v M => v = nI 4 ∧ M = FSR f (pD 500 40) (lT ks) :: F :=
  fsRenameNone p11_is.ok (lT_ok h) (by show 4 ≤ 1000000; decide) (by show 4 ≤ 1000000; decide) (by
    unfold mayT
    rw [pathL_parts k hk, pathL_parts b hb]
    simp only
    rw [decide_eq_false (show ¬ List.take (List.length (pathL k ++ [47])) (pathL b) = pathL k ++ [47] from fun hh => by have := congrArg List.length hh; cases this)]
    rfl) (lT_par hk) (lT_find h hk hn)
end
theorem lsl_in {ks : List Nat} {q : Nat} {s : Slot} (h : q ≤ (lsl ks).length) {r i : Nat} {nm : Bytes} (hr : (setS (lsl ks) q s)[r]? = some (some (nm, i))) (hne : r ≠ q) : ∃ hq : r < ks.length, nm = nmL ks[r] ∧ i = r + 2 := by
  rw [setS_other h hne] at hr
  exact lsl_some hr
theorem may_ok {a b : Nat} (ha : a < 26) (hb : b < 26) : mayT (pathL a) (pathL b) = true := by
  unfold mayT
  rw [pathL_parts a ha, pathL_parts b hb]
  simp only
  rw [decide_eq_false (show ¬ List.take (List.length (pathL a ++ [47])) (pathL b) = pathL a ++ [47] from fun hh => by have := congrArg List.length hh; cases this)]
  rfl
theorem pathL_ne {a b : Nat} (ha : a < 26) (hb : b < 26) (h : a ≠ b) : pathL a ≠ pathL b := fun hh => by
  have : nmL a = nmL b := by
    injection hh with _ hh; injection hh with _ hh; injection hh with _ hh
  exact h (nmL_inj a ha b hb this)
def lT1 (ks : List Nat) (q b : Nat) : FT := updT (lT ks) 1 (some (.dir (setS (lsl ks) ks.length (some (nmL b, q + 2)))))
def lslN (ks : List Nat) (q b : Nat) : List Slot := setS (setS (lsl ks) ks.length (some (nmL b, q + 2))) q none
section
variable {f a b q : Nat} {ks : List Nat}
theorem lRnSame (h : LOk ks) (hq : q < ks.length) : Spec Tryz.prog 47 #[.pointer (some ⟨f, 0, none⟩), sv (pathL ks[q]), sv (pathL ks[q])] [FSR f (pD 500 40) (lT ks)] fun F v M => v = okV ∧ M = FSR f (pD 500 40) (lT ks) :: F :=
  have hk := h.lt _ (List.getElem_mem hq)
  fsRenameSame p11_is.ok (lT_ok h) (by show 4 ≤ 1000000; decide) (by show 4 ≤ 1000000; decide) (may_ok hk hk) (lT_par hk) (lT_has h hq) (lT_in (by omega) (by omega)) rfl
theorem lNew_ok (h : LOk ks) (hq : q < ks.length) (hb : b < 26) (hn : b ∉ ks) : DirOk (setS (lsl ks) ks.length (some (nmL b, q + 2))) ∧ (setS (lsl ks) ks.length (some (nmL b, q + 2))).length = ks.length + 1 := by
  have hl := lsl_length ks
  have hlen := h.length
  refine ⟨(lsl_ok h).set (by omega) (nameOk_len (nmL_ok b hb)) (by omega) fun r j _ => lookS_none (lsl_none h hb hn) r j, ?_⟩
  rw [setS_length (by omega)]; omega
theorem lRnNew (h : LOk ks) (hq : q < ks.length) (hb : b < 26) (hn : b ∉ ks) : Spec Tryz.prog 47 #[.pointer (some ⟨f, 0, none⟩), sv (pathL ks[q]), sv (pathL b)] [FSR f (pD 500 40) (lT ks)] fun F v M => v = okV ∧ M = FSR f (pD 500 40) (updT (lT1 ks q b) 1 (some (.dir (lslN ks q b)))) :: F := by
  have ha := h.lt _ (List.getElem_mem hq)
  have hlen := (h.add hb hn).length
  rw [List.length_append] at hlen
  have hlen : ks.length + 1 ≤ 26 := hlen
  have hl := lsl_length ks
  obtain ⟨hno, hnl⟩ := lNew_ok h hq hb hn
  have h3 := has_small (n := ks.length) (by omega)
  have h4 := has_small (n := ks.length + 1) (by omega)
  have hd : (pD 500 40).dc = 247 := rfl
  have hne : ks[q] ≠ b := fun hh => hn (hh ▸ List.getElem_mem hq)
  have htot1 : tot (fmT (lT1 ks q b)) (pD 500 40).ino + has (64 * ks.length) = tot (fmT (lT ks)) (pD 500 40).ino + has (64 * (ks.length + 1)) := by
    have h1 := tot_upd' (fmT (lT ks)) (show 1 < (pD 500 40).ino by decide) (some (NodeT.dir (setS (lsl ks) ks.length (some (nmL b, q + 2)))).f)
    rw [fmT_updS, fmT_some (lT_1 ks)] at h1
    have e1 : hasO (some (NodeT.dir (lsl ks)).f) = has (64 * ks.length) := by show has (dirB _).length = _; rw [dirB_length, hl]
    have e2 : hasO (some (NodeT.dir (setS (lsl ks) ks.length (some (nmL b, q + 2)))).f) = has (64 * (ks.length + 1)) := by show has (dirB _).length = _; rw [dirB_length, hnl]
    rw [e1, e2] at h1
    exact h1
  have hfree := lsl_free ks
  have := fsRename (f := f) (p := pD 500 40) (T := lT ks) (from_ := pathL ks[q]) (to := pathL b) (d1 := 1) (d2 := 1) (i := q + 2) (q1 := q) (nm1 := nmL ks[q]) (nm2 := nmL b) (sl1 := setS (lsl ks) ks.length (some (nmL b, q + 2))) (sl2 := lsl ks) (x := .file []) p11_is.ok (lT_ok h) (by show 4 ≤ 1000000; decide) (by show 4 ≤ 1000000; decide) (may_ok ha hb) (pathL_ne ha hb hne) (lT_par ha) (lT_has h hq) (lT_in (by omega) (by omega)) (lT_par hb) (nmL_ok _ ha) (nmL_ok _ hb) (lT_1 ks) (by omega) (.inr (by decide)) (by
      rw [hfree]
      exact (lT_ok h).upd 1 fun sl he => by injection he with he; injection he with he; subst he; exact ⟨hno, by omega⟩) (by rw [hfree]; exact updT_same ..) (lookS_of hno (by rw [setS_other (by omega) (by omega)]; exact lsl_get hq)) (lT_find h hb hn) (lsl_none h hb hn) (by
      rw [lT_tot ks _ (by decide), hfree, hl, Nat.max_eq_right (by omega), hd]
      rw [show 64 * ks.length + 64 = 64 * (ks.length + 1) from by omega]
      omega) (by
      rw [hfree]
      have h5 := lT_tot ks (pD 500 40).ino (by decide)
      show tot (fmT (lT1 ks q b)) _ ≤ _
      omega)
  rw [hfree] at this
  exact this
end
def slO (ks : List Nat) (q r : Nat) : List Slot := setS (lsl ks) r (some (nmL (ks.getD r 0), q + 2))
def lTO (ks : List Nat) (q r : Nat) : FT := updT (updT (updT (lT ks) 1 (some (.dir (slO ks q r)))) 1 (some (.dir (setS (slO ks q r) q none)))) (r + 2) none
section
variable {f q r : Nat} {ks : List Nat}
theorem lRnOver (h : LOk ks) (hq : q < ks.length) (hr : r < ks.length) (hne : q ≠ r) : Spec Tryz.prog 47 #[.pointer (some ⟨f, 0, none⟩), sv (pathL ks[q]), sv (pathL ks[r])] [FSR f (pD 500 40) (lT ks)] fun F v M => v = okV ∧ M = FSR f (pD 500 40) (lTO ks q r) :: F := by
  have ha := h.lt _ (List.getElem_mem hq)
  have hb := h.lt _ (List.getElem_mem hr)
  have hlen := h.length
  have hl := lsl_length ks
  have hgr : ks.getD r 0 = ks[r] := by rw [List.getD_eq_getElem?_getD, List.getElem?_eq_getElem hr]; rfl
  have hks : ks[q] ≠ ks[r] := fun hh => hne ((List.getElem_inj h.nd).1 hh)
  have hno : DirOk (slO ks q r) := by
    unfold slO; rw [hgr]
    refine (lsl_ok h).set (by omega) (nameOk_len (nmL_ok _ hb)) (by omega) fun s j hs hh => ?_
    exact hs ((lsl_ok h).one s r _ _ _ hh (lsl_get hr))
  have hnl : (slO ks q r).length = ks.length := by unfold slO; rw [setS_length (by omega)]; omega
  have h3 := has_small (n := ks.length) (by omega)
  have hd : (pD 500 40).dc = 247 := rfl
  have h5 := lT_tot ks (pD 500 40).ino (by decide)
  have htot1 : tot (fmT (updT (lT ks) 1 (some (.dir (slO ks q r))))) (pD 500 40).ino = tot (fmT (lT ks)) (pD 500 40).ino := by
    have h1 := tot_upd' (fmT (lT ks)) (show 1 < (pD 500 40).ino by decide) (some (NodeT.dir (slO ks q r)).f)
    rw [fmT_updS, fmT_some (lT_1 ks)] at h1
    have e1 : hasO (some (NodeT.dir (lsl ks)).f) = has (64 * ks.length) := by show has (dirB _).length = _; rw [dirB_length, hl]
    have e2 : hasO (some (NodeT.dir (slO ks q r)).f) = has (64 * ks.length) := by show has (dirB _).length = _; rw [dirB_length, hnl]
    rw [e1, e2] at h1
    omega
  have hslo : setS (lsl ks) r (some (nmL ks[r], q + 2)) = slO ks q r := by unfold slO; rw [hgr]
  have := fsRenameOver (f := f) (p := pD 500 40) (T := lT ks) (from_ := pathL ks[q]) (to := pathL ks[r]) (d1 := 1) (d2 := 1) (i := q + 2) (q1 := q) (q2 := r) (j := r + 2) (nm1 := nmL ks[q]) (nm2 := nmL ks[r]) (sl1 := slO ks q r) (sl2 := lsl ks) (x := .file []) (fb := []) (y2 := .file []) p11_is.ok (lT_ok h) (by show 4 ≤ 1000000; decide) (by show 4 ≤ 1000000; decide) (may_ok ha hb) (pathL_ne ha hb hks) (lT_par ha) (lT_has h hq) (lT_in (by omega) (by omega)) (lT_par hb) (nmL_ok _ ha) (nmL_ok _ hb) (lT_1 ks) (by omega) (.inr (by decide)) (by
      rw [hslo]
      exact (lT_ok h).upd 1 fun sl he => by injection he with he; injection he with he; subst he; exact ⟨hno, by omega⟩) (by rw [hslo]; exact updT_same ..) (lookS_of hno (by unfold slO; rw [setS_other (by omega) hne]; exact lsl_get hq)) (lT_has h hr) (lT_in (by omega) (by omega)) (show (1 : Nat) ≠ 2 by decide) (lsl_look h hr) (by omega) (by
      rw [updT_other _ _ (by omega), updT_other _ _ (by omega)]
      exact lT_in (by omega) (by omega)) (by omega) (by rw [hslo, htot1]; omega)
  rw [hslo] at this
  exact this
end
theorem nmL_lt : ∀ i, i < 26 → ∀ j, j < 26 → (nmL i < nmL j ↔ i < j) := by decide +kernel
theorem sortedL {l : List (Bytes × Nat)} {ks : List Nat} (hlt : ∀ k ∈ ks, k < 26) (hs : ks.Pairwise (· < ·)) (hp : (l.map (·.1)).Perm (ks.map nmL)) (ho : l.Pairwise fun x y => ¬ y.1 < x.1) : l.map (·.1) = ks.map nmL := by
  refine List.Perm.eq_of_pairwise (le := fun (x y : Bytes) => ¬ y < x) ?_ (List.pairwise_map.2 ho) (List.pairwise_map.2 ?_) hp
  · intro a b ha hb h1 h2
    obtain ⟨i, hi, rfl⟩ := List.mem_map.1 (hp.mem_iff.1 ha)
    obtain ⟨j, hj, rfl⟩ := List.mem_map.1 hb
    have e1 := nmL_lt i (hlt i hi) j (hlt j hj)
    have e2 := nmL_lt j (hlt j hj) i (hlt i hi)
    have : i = j := by
      have h3 : ¬ i < j := fun h => h2 (e1.2 h)
      have h4 : ¬ j < i := fun h => h1 (e2.2 h)
      omega
    rw [this]
  · refine hs.imp_of_mem fun {a b} ha hb hab h => ?_
    have := (nmL_lt b (hlt b hb) a (hlt a ha)).1 h
    omega
theorem ents_nodup {sl : List Slot} (h : DirOk sl) : ((sl.filterMap id).map (·.1)).Nodup := by
  show List.Pairwise _ _
  rw [List.pairwise_map, List.pairwise_filterMap, List.pairwise_iff_getElem]
  intro i j hi hj hij a ha b hb hab
  have ha : sl[i] = some a := ha
  have hb : sl[j] = some b := hb
  obtain ⟨n1, k1⟩ := a
  obtain ⟨n2, k2⟩ := b
  obtain rfl : n1 = n2 := hab
  have := h.one i j n1 k1 k2 (by rw [List.getElem?_eq_getElem hi, ha]) (by rw [List.getElem?_eq_getElem hj, hb])
  omega
theorem ents_perm {sl : List Slot} {K : List Nat} (h : DirOk sl) (hlt : ∀ k ∈ K, k < 26) (hs : K.Pairwise (· < ·)) (hm : ∀ nm, (∃ q i : Nat, sl[q]? = some (some (nm, i))) ↔ ∃ k ∈ K, nm = nmL k) : ((sl.filterMap id).map (·.1)).Perm (K.map nmL) := by
  refine (List.perm_ext_iff_of_nodup (ents_nodup h) ?_).2 fun nm => ?_
  · show List.Pairwise _ _
    rw [List.pairwise_map]
    refine hs.imp_of_mem fun {a b} ha hb hab hh => ?_
    have := nmL_inj a (hlt a ha) b (hlt b hb) hh
    omega
  · constructor
    · intro hx
      obtain ⟨⟨n, i⟩, h2, he⟩ := List.mem_map.1 hx
      subst he
      obtain ⟨o, ho, h3⟩ := List.mem_filterMap.1 h2
      have h3 : o = some (n, i) := h3
      subst h3
      obtain ⟨q, hq, h4⟩ := List.mem_iff_getElem.1 ho
      obtain ⟨k, hk, hn⟩ := (hm n).1 ⟨q, i, by rw [List.getElem?_eq_getElem hq, h4]⟩
      exact List.mem_map.2 ⟨k, hk, hn.symm⟩
    · intro hx
      obtain ⟨k, hk, rfl⟩ := List.mem_map.1 hx
      obtain ⟨q, i, hq⟩ := (hm _).2 ⟨k, hk, rfl⟩
      exact List.mem_map.2 ⟨(nmL k, i), List.mem_filterMap.2 ⟨_, List.mem_of_getElem? hq, rfl⟩, rfl⟩
end Go.Proofs.YtdmjkjeoamiedaaGreatDoor
end
section
namespace Go.Proofs.YtdmjkjeoamiedaaGreatDoor
open Go
abbrev rP : Pl := pD 500 40
abbrev rL0  : TL := [(0, .dir [])]
theorem rL0_ok  : ∀ e ∈ rL0, e.2.ok := by
  intro e he
  simp only [rL0, List.mem_cons, List.not_mem_nil, or_false] at he
  subst he
  exact okNil
abbrev rL1  : TL := [(0, NodeT.dir [some ([100], 1)]), (1, .dir [])]
section
variable {f : Nat}
theorem rMk : Spec Tryz.prog 28 #[.pointer (some ⟨f, 0, none⟩), sv [47, 100]] [FSR f rP (trL rL0)] fun F v M => v = okV ∧ M = FSR f rP (trL rL1) :: F :=
  fsMkdirL (d := 0) (i := 1) (nm := [100]) (sl := []) p11_is.ok rL0_ok (by decide) (lt_of_all rfl) (by decide) (by decide) rfl rfl rfl (by decide) rfl (fun j hj => by
    rcases j with _ | j
    · intro h; cases h
    · omega) (.inr (by decide)) (by decide) rfl
end
end Go.Proofs.YtdmjkjeoamiedaaGreatDoor
end
section
namespace Go.Proofs.YtdmjkjeoamiedaaGreatDoor
open Go
def someB (n c : Nat) : Bytes := (List.range n).map fun i => UInt8.ofNat (c + i / 7)
theorem someB_length (n c : Nat) : (someB n c).length = n := by simp [someB]
def partB (f : Nat → UInt8) (n k : Nat) : Bytes := (List.range n).map fun j => if j < k then f j else 0
theorem partB_length (f : Nat → UInt8) (n k : Nat) : (partB f n k).length = n := by simp [partB]
theorem partB_zero (f : Nat → UInt8) (n : Nat) : partB f n 0 = List.replicate n 0 := by
  unfold partB
  simp only [Nat.not_lt_zero, if_false]
  rw [List.map_const', List.length_range]
theorem partB_all (f : Nat → UInt8) (n : Nat) : partB f n n = (List.range n).map f := by
  unfold partB
  apply List.map_congr_left
  intro j hj
  rw [if_pos (List.mem_range.1 hj)]
theorem partB_set (f : Nat → UInt8) {n k : Nat} (h : k < n) : (partB f n k).set k (f k) = partB f n (k + 1) := by
  apply List.ext_getElem
  · simp [partB]
  · intro j h1 h2
    simp only [partB, List.getElem_set, List.getElem_map, List.getElem_range]
    by_cases hj : k = j
    · subst hj; rw [if_pos rfl, if_pos (by omega)]
    · rw [if_neg hj]
      by_cases h3 : j < k
      · rw [if_pos h3, if_pos (by omega)]
      · rw [if_neg h3, if_neg (by omega)]
theorem wrap_ofNat (v : Nat) : Value.int .u8 (IntKind.u8.wrap (v : Int)) = bv (UInt8.ofNat v) := by
  unfold bv
  rw [IntKind.wrap_u8, UInt8.toNat_ofNat']
  congr 1
def roundI (k : Int) (n : Int) : Nat := (k % n).toNat
theorem alikeSome {n c : Nat} (hn : n ≤ 100000) (hc : c ≤ 100000) : Spec Tryz.prog 19 #[.int .i64 (n : Int), .int .i64 (c : Int)] [] fun F v M => ∃ b, v = .slice (some ⟨b, 0, none⟩) n n ∧ M = buf b 5 n (bvs (someB n c)) :: F := by
  refine Spec.intro Tryz.func19 rfl rfl fun B F => ?_
  simp only [Tryz.ntmps19, List.cons_append, List.nil_append, env0, Nat.reduceAdd]
  refine .sr (.assign (.x (.move ?_)))
  refine .mkS (k := (n : Int)) z5 (fun b8 => ?_) so33 (by omega) (by omega) (by omega)
  refine .cast (d := 8) (u := .slice (some ⟨b8, 0, none⟩) n n) rfl (by rw [Int.toNat_natCast]) ?_
  refine .to (A := buf b8 5 (n : Int).toNat (List.replicate (n : Int).toNat (.int .u8 0))) (A' := buf b8 5 n (bvs (partB (fun i => UInt8.ofNat (c + i / 7)) n 0))) (fun h hh => by rw [partB_zero, bvs_replicate]; rw [Int.toNat_natCast] at hh; exact hh) ?_
  refine .assign (.z (.seq (.sr (.assign (.z (.block ?_))))))
  refine .loopA (σ := Nat) (fun i => [(0, .int .i64 (n : Int)), (1, .int .i64 (c : Int)), (5, .slice (some ⟨b8, 0, none⟩) n n), (6, .int .i64 (i : Int))]) (fun i => buf b8 5 n (bvs (partB (fun i => UInt8.ofNat (c + i / 7)) n i)) :: F) (fun i => i ≤ n) (fun i => n - i) 0 (Nat.zero_le _) ?_
  rintro i hi
  refine .seq (.sr (.move (.move ?_)))
  refine .lss ?_
  refine .z ?_
  refine .cond rfl (fun hb => ?_) (fun hb => ?_)
  · have hlt : i < n := by have := of_decide_eq_true hb; omega
    refine .skip (.next (.seq (.block (.region (.move (.move (.move (.move ?_))))))))
    refine .quo ?_
    refine .add ?_
    refine .cast (d := 19) (u := .int .i64 ((c + i / 7 : Nat) : Int)) rfl (congrArg (Value.int .i64) (by omega)) ?_
    refine .cvt ?_ un3 un5
    refine .cast (d := 20) (u := bv (UInt8.ofNat (c + i / 7))) rfl (wrap_ofNat _) ?_
    refine .idx1 ?_ so33
    refine .stB ?_ sc5 (show 0 + ((i : Nat) : Int).toNat < (bvs (partB (fun i => UInt8.ofNat (c + i / 7)) n i)).length by rw [bvs_length, partB_length]; omega)
    refine .nil (.blockNormal (.next (.region (.move ?_))))
    refine .add ?_
    refine .assign (.nil ?_)
    refine .to (A := buf b8 5 n ((bvs (partB (fun i => UInt8.ofNat (c + i / 7)) n i)).set (0 + ((i : Nat) : Int).toNat) (bv (UInt8.ofNat (c + i / 7))))) (A' := buf b8 5 n (bvs (partB (fun i => UInt8.ofNat (c + i / 7)) n (i + 1)))) (fun h hh => by rw [← partB_set (fun i => UInt8.ofNat (c + i / 7)) hlt, bvs_set]; rw [show 0 + ((i : Nat) : Int).toNat = i from by omega] at hh; exact hh) ?_
    refine .cast (d := 6) (u := .int .i64 ((i + 1 : Nat) : Int)) rfl (congrArg (Value.int .i64) (by omega)) ?_
    exact .back (i + 1) (by omega) (by omega)
  · have hge : ¬ i < n := by have := of_decide_eq_false hb; omega
    have hin : i = n := by omega
    subst hin
    refine .exit (.thenExit (.thenExit (.blockExit (?_))))
    refine .next (.sr (.move (.assign (.z ?_))))
    refine .ret (?_)
    refine .to (A := buf b8 5 i (bvs (partB (fun i => UInt8.ofNat (c + i / 7)) i i))) (A' := buf b8 5 i (bvs (someB i c))) (fun h hh => by rw [partB_all] at hh; exact hh) ?_
    exact .ret1 (h1 := .tmp (t := 4) rfl) ⟨_, ⟨b8, rfl, rfl⟩, Am.auto⟩
theorem alikeRound {k n : Int} (hk : -9223372036854775808 ≤ k ∧ k ≤ 9223372036854775807) (hn : 1 ≤ n ∧ n ≤ 1000000) : Spec Tryz.prog 41 #[.int .i64 k, .int .i64 n] [] fun F v M => v = .int .i64 (roundI k n : Int) ∧ roundI k n < n ∧ M = F := by
  refine Spec.intro Tryz.func41 rfl rfl fun B F => ?_
  simp only [Tryz.ntmps41, List.cons_append, List.nil_append, env0, Nat.reduceAdd]
  have hm1 := Int.emod_nonneg k (show n ≠ 0 by omega)
  have hm2 := Int.emod_lt_of_pos k (show 0 < n by omega)
  have hr : (roundI k n : Int) = k % n := by unfold roundI; omega
  have ht : k.tmod n = k % n ∨ k.tmod n = k % n - n := by
    rcases Int.le_total 0 k with h | h
    · exact .inl (Int.tmod_eq_emod_of_nonneg h)
    · rw [Int.tmod_eq_emod]
      split
      · exact .inl (by omega)
      · exact .inr (by rw [Int.natAbs_of_nonneg (by omega)])
  have ht2 : 0 ≤ k.tmod n → k.tmod n = k % n := fun h0 => by omega
  by_cases hneg : k.tmod n < 0
  · refine .sr (.assign (.x (.move (.move ?_))))
    refine .remT ?_
    refine .assign (.z (.seq (.sr (.move ?_))))
    refine .lss ?_
    refine .z ?_
    refine .condT rfl (congrArg Value.bool (by first | (simp; done) | (simp; omega) | omega)) ?_
    refine .region (.move (.move ?_))
    refine .add ?_
    refine .assign (.x (.move (.assign (.z ?_))))
    refine .ret (?_)
    exact .ret1 (h1 := .tmp (t := 4) rfl) ⟨_, ⟨congrArg (Value.int .i64) (by omega), by omega, rfl⟩, Am.auto⟩
  · refine .sr (.assign (.x (.move (.move ?_))))
    refine .remT ?_
    refine .assign (.z (.seq (.sr (.move ?_))))
    refine .lss ?_
    refine .z ?_
    refine .condF rfl (congrArg Value.bool (by first | (simp; done) | (simp; omega) | omega)) ?_
    refine .skip (.next (.sr (.move (.assign (.z ?_)))))
    refine .ret (?_)
    exact .ret1 (h1 := .tmp (t := 4) rfl) ⟨_, ⟨congrArg (Value.int .i64) (by omega), by omega, rfl⟩, Am.auto⟩
end Go.Proofs.YtdmjkjeoamiedaaGreatDoor
end
section
namespace Go.Proofs.YtdmjkjeoamiedaaGreatDoor
open Go
abbrev awL0 : TL := [(0, .dir [])]
abbrev awL1 : TL := [(0, .dir [some ([97], 1)]), (1, .dir [])]
abbrev awL2 (b : Bytes) : TL := [(0, .dir [some ([97], 1)]), (1, .dir [some ([120], 2)]), (2, .file b)]
theorem awL0_ok : ∀ e ∈ awL0, e.2.ok := by
  intro e he
  simp only [awL0, List.mem_cons, List.not_mem_nil, or_false] at he
  subst he
  exact okNil
theorem awL1_ok : ∀ e ∈ awL1, e.2.ok := by
  intro e he
  simp only [awL1, List.mem_cons, List.not_mem_nil, or_false] at he
  rcases he with rfl | rfl
  · exact ok1 (by decide) (by decide)
  · exact okNil
theorem awL2_ok (b : Bytes) : ∀ e ∈ awL2 b, e.2.ok := by
  intro e he
  simp only [awL2, List.mem_cons, List.not_mem_nil, or_false] at he
  rcases he with rfl | rfl | rfl
  · exact ok1 (by decide) (by decide)
  · exact ok1 (by decide) (by decide)
  · exact trivial
theorem p10_is : PlIs (pD 400 16) := pD_is (by decide) (by decide) (by decide) (by decide)
theorem awMk {f : Nat} : Spec Tryz.prog 28 #[.pointer (some ⟨f, 0, none⟩), sv [47, 97]] [FSR f (pD 400 16) (trL awL0)] fun F v M => v = okV ∧ M = FSR f (pD 400 16) (trL awL1) :: F :=
  fsMkdirL (d := 0) (i := 1) (nm := [97]) (sl := []) p10_is.ok awL0_ok (by decide) (lt_of_all rfl) (by decide) (by decide) rfl rfl rfl (by decide) rfl (fun j hj => by
    obtain rfl : j = 0 := by omega
    intro h; cases h) (.inr (by decide)) (by decide) rfl
theorem awCr {f : Nat} : Spec Tryz.prog 17 #[.pointer (some ⟨f, 0, none⟩), sv [47, 97, 47, 120]] [FSR f (pD 400 16) (trL awL1)] fun F v M => v = okV ∧ M = FSR f (pD 400 16) (trL (awL2 [])) :: F :=
  fsCreateL (d := 1) (i := 2) (nm := [120]) (sl := []) p10_is.ok awL1_ok (by decide) (lt_of_all rfl) (by decide) (by decide) rfl rfl rfl (by decide) rfl (fun j hj => by
    rcases j with _ | _ | j
    · intro h; cases h
    · intro h; cases h
    · omega) (.inr (by decide)) (by decide) rfl
theorem awAp {f m cc : Nat} {bs : Bytes} {R : HP} {A : Option Addr} (hR : bs = [] ∨ Reads R A (bvs bs)) (hm : bs.length = 600) (hcc : 600 ≤ cc) (hcb : cc ≤ maxLen) : Spec Tryz.prog 18 #[.pointer (some ⟨f, 0, none⟩), sv [47, 97, 47, 120], .slice A 600 cc] [FSR f (pD 400 16) (trL (awL2 [])), R] fun F v M => v = okV ∧ M = FSR f (pD 400 16) (trL (awL2 (wrB [] 0 bs))) :: R :: F :=
  fsAppendL (i := 2) (fb := []) p10_is.ok (awL2_ok []) (by show [0, 1, 2].Nodup; decide) (lt_of_all rfl) (by decide) rfl rfl hR hm hcc hcb (.inr (by decide)) (by decide) (by decide) rfl
theorem awTot (b : Bytes) (h : b.length = 600) : tot (fmT (trL (awL2 b))) (pD 400 16).ino = 4 := by
  rw [tot_trL (by show [0, 1, 2].Nodup; decide) (lt_of_all rfl)]
  show has 64 + (has 64 + (has b.length + 0)) = 4
  rw [h]; rfl
theorem awTot0 : tot (fmT (trL awL0)) (pD 400 16).ino = 0 := by
  rw [tot_trL (by decide) (lt_of_all rfl)]
  rfl
theorem l10Awake : Spec Tryz.prog 45 #[] [] fun F v M => v = .bool true ∧ M = F := by
  refine Spec.intro Tryz.func45 rfl rfl fun B F => ?_
  simp only [Tryz.ntmps45, List.cons_append, List.nil_append, env0, Nat.reduceAdd]
  have hWl := someB_length 600 1
  obtain ⟨Wn, hWn⟩ : ∃ Wn, someB 600 1 = Wn := ⟨_, rfl⟩
  rw [hWn] at hWl
  have hwl : (wrB [] 0 Wn).length = 600 := by rw [wrB_length, hWl]; rfl
  refine .sr (.assign (.x ?_))
  refine .call (hc := Tryz.call46) (sp := l10Fresh p10_is) (h := ?_)
  rintro _ _ ⟨d, f, m, rfl, rfl⟩
  rw [rootT_trL]
  refine .move ?_
  refine .extract ?_
  refine .extract ?_
  refine .extract ?_
  refine .extract ?_
  refine .assign (.assign (.assign (.assign (.z (.seq (.sr (.move ?_)))))))
  refine .not ?_
  refine .z ?_
  refine .condF rfl rfl ?_
  refine .skip (.next (.sr (.move ?_)))
  refine .call (hc := Tryz.call52) (sp := fsFree (f := f) (p := pD 400 16) (T := trL awL0) p10_is.ok) (h := ?_)
  rintro _ _ ⟨rfl, rfl⟩
  rw [awTot0]
  refine .move ?_
  refine .extract ?_
  refine .extract ?_
  refine .assign (.assign (.z (.seq (.sr (.move ?_)))))
  refine .call (hc := Tryz.call28) (sp := awMk (f := f)) (h := ?_)
  rintro _ _ ⟨rfl, rfl⟩
  refine .nei ?_
  refine .move ?_
  refine .cast (d := 25) (u := .bool false) rfl (congrArg Value.bool (by first | (simp; done) | (simp; omega) | omega)) ?_
  refine .gT ?_
  refine .move ?_
  refine .gT ?_
  refine .call (hc := Tryz.call17) (sp := awCr (f := f)) (h := ?_)
  rintro _ _ ⟨rfl, rfl⟩
  refine .gT ?_
  refine .nei ?_
  refine .pickF ?_
  refine .move ?_
  refine .cast (d := 30) (u := .bool false) rfl (congrArg Value.bool (by first | (simp; done) | (simp; omega) | omega)) ?_
  refine .gT ?_
  refine .move ?_
  refine .gT ?_
  refine .call (hc := Tryz.call19) (sp := alikeSome (n := 600) (c := 1) (by decide) (by decide)) (h := ?_)
  rintro _ _ ⟨bs, rfl, rfl⟩
  rw [hWn]
  refine .gT ?_
  refine .call (hc := Tryz.call18) (sp := awAp (f := f) (m := 600) (cc := 600) (bs := Wn) (R := buf bs 5 600 (bvs Wn)) (A := some ⟨bs, 0, none⟩) (.inr Reads.buf) hWl (Nat.le_refl _) (by decide)) (h := ?_)
  rintro _ _ ⟨rfl, rfl⟩
  refine .gT ?_
  refine .nei ?_
  refine .pickF ?_
  refine .z ?_
  refine .condF rfl (congrArg Value.bool (by first | (simp; done) | (simp; omega) | omega)) ?_
  refine .skip (.next (.sr (.move ?_)))
  refine .call (hc := Tryz.call52) (sp := fsFree (f := f) (p := pD 400 16) (T := trL (awL2 (wrB [] 0 Wn))) p10_is.ok) (h := ?_)
  rintro _ _ ⟨rfl, rfl⟩
  rw [awTot _ hwl]
  refine .move ?_
  refine .extract ?_
  refine .extract ?_
  refine .assign (.assign (.x (.move (.move ?_))))
  refine .sub ?_
  refine .eqi ?_
  refine .move ?_
  refine .cast (d := 45) (u := .bool true) rfl (congrArg Value.bool (by first | (simp; done) | (simp; omega) | omega)) ?_
  refine .gT ?_
  refine .move ?_
  refine .gT ?_
  refine .call (hc := Tryz.call47) (sp := fsRenameNo (f := f) (p := pD 400 16) (T := trL (awL2 (wrB [] 0 Wn))) (from_ := [47, 97]) (to := [47, 97, 47, 98]) p10_is.ok (by decide) (by decide) rfl) (h := ?_)
  rintro _ _ ⟨rfl, rfl⟩
  refine .gT ?_
  refine .eqi ?_
  refine .pickT ?_
  refine .move ?_
  refine .cast (d := 50) (u := .bool true) rfl (congrArg Value.bool (by first | (simp; done) | (simp; omega) | omega)) ?_
  refine .gT ?_
  refine .move ?_
  refine .gT ?_
  refine .call (hc := Tryz.call50) (sp := fsRemoveE (f := f) (p := pD 400 16) (T := trL (awL2 (wrB [] 0 Wn))) (path := [47, 97]) (e := 7) p10_is.ok (trL_ok (awL2_ok _)) (by decide) (.inr ⟨0, [97], 1, 0, rfl, rfl, .inr ⟨rfl, rfl, [some ([120], 2)], rfl, fun h => by cases h⟩⟩) (by decide)) (h := ?_)
  rintro _ _ ⟨rfl, rfl⟩
  refine .gT ?_
  refine .eqi ?_
  refine .pickT ?_
  refine .assign (.z ?_)
  refine .ret (?_)
  exact .ret1 (h1 := .tmp (t := 0) rfl) ⟨_, ⟨rfl, rfl⟩, Am.auto⟩
end Go.Proofs.YtdmjkjeoamiedaaGreatDoor
end
section
namespace Go.Proofs.YtdmjkjeoamiedaaGreatDoor
open Go
theorem agg192 : aggOk Tryz.prog 192 2 = true := by kernel_rfl
theorem fo192_0 : fieldOk Tryz.prog 192 0 0 = true := by kernel_rfl
abbrev SortE (l : List Ent) : Prop := l.Pairwise fun x y => ¬ y.1 < x.1
theorem entF_length (l : List Ent) : (l.flatMap entL).length = l.length * 2 := flat_length (enc := entL) (m := 2) entL_length l
theorem entF_get {l : List Ent} {i : Nat} {x : Ent} (h : l[i]? = some x) : (l.flatMap entL)[i * 2]? = some (sv x.1) ∧ (l.flatMap entL)[i * 2 + 1]? = some (nI x.2) := by
  induction l generalizing i with
  | nil => cases h
  | cons a l ih =>
    rw [List.flatMap_cons]
    cases i with
    | zero =>
      injection h with h; subst h
      exact ⟨rfl, rfl⟩
    | succ i =>
      have := ih (i := i) h
      rw [show (i + 1) * 2 = i * 2 + 2 from by omega]
      constructor
      · rw [List.getElem?_append_right (by show 2 ≤ _; omega)]
        show (l.flatMap entL)[i * 2 + 2 - 2]? = _
        rw [Nat.add_sub_cancel]; exact this.1
      · rw [List.getElem?_append_right (by show 2 ≤ _; omega)]
        show (l.flatMap entL)[i * 2 + 2 + 1 - 2]? = _
        rw [show i * 2 + 2 + 1 - 2 = i * 2 + 1 from by omega]; exact this.2
theorem entF_part {l : List Ent} {i : Nat} {x : Ent} (h : l[i]? = some x) : ((l.flatMap entL).drop (i * 2)).take 2 = entL x := by
  have h1 := entF_get h
  refine List.ext_getElem? fun j => ?_
  rw [List.getElem?_take]
  split
  · rename_i hj
    rw [List.getElem?_drop]
    rcases j with _ | _ | j
    · exact h1.1
    · exact h1.2
    · omega
  · rename_i hj
    rw [List.getElem?_eq_none (by show 2 ≤ j; omega)]
theorem bsSn (a : ByteArray) : BuildSOk Tryz.prog 92 1 [(0, .string a)] 9 #[.string a] := fun w => by kernel_rfl
theorem take_succ' {α : Type} {l : List α} {k : Nat} (h : k < l.length) : l.take (k + 1) = l.take k ++ [l[k]] := List.take_succ_eq_append_getElem h
theorem fsList {f : Nat} {p : Pl} {T : FT} {path : Bytes} (ho : PlOk p) (hT : TOk T) (hpl : path.length ≤ 1000000) {i z : Nat} {sl : List Slot} (hl : leadsT T path = (i, 2, z, 0)) (hd : T i = some (.dir sl)) : Spec Tryz.prog 51 #[.pointer (some ⟨f, 0, none⟩), sv path] [FSR f p T] fun F v M => ∃ u l, v = .tuple #[u, .int .i64 0] ∧ ((l : List Ent).Perm (entsS sl) ∧ SortE l) ∧ M = rowR 9 1 u (l.map (·.1)).length (svs (l.map (·.1))) :: FSR f p T :: F := by
  refine Spec.intro Tryz.func51 rfl rfl fun B F => ?_
  simp only [Tryz.ntmps51, List.cons_append, List.nil_append, env0, Nat.reduceAdd]
  refine .openR (FSR.opens f p T) fun y _ => ?_
  obtain ⟨c, a, s, mp⟩ := y
  simp only [fsLs, List.cons_append, List.nil_append]
  have hto := hT i sl hd
  refine .sr (.assign (.assign (.x (.move (.move ?_)))))
  refine .call (hc := Tryz.call77) (sp := fsLeads (f := f) (s := s) (a := a) (c := c) (mp := mp) (b := false) (ov := false) (dead := false) (p := p) (T := T) (F0 := fmT T) (W := 0) (op := false) (path := path) ho hT hpl) (h := ?_)
  rintro _ _ ⟨rfl, rfl⟩
  rw [hl]
  refine .move ?_
  refine .extract ?_
  refine .extract ?_
  refine .extract ?_
  refine .alloc z51 fun b7 => ?_
  refine .assign ?_
  refine .stV ?_ agg51
  refine .assign (.z (.seq (.sr (.move ?_))))
  refine .nei ?_
  refine .z ?_
  refine .condF rfl (congrArg Value.bool (by first | (simp; done) | (simp; omega) | omega)) ?_
  refine .skip (.next (.sr (.move ?_)))
  refine .nilCheck ?_
  refine .fa ?_ fo129_2
  refine .ld ?_ sc126
  refine .move ?_
  refine .call (hc := Tryz.call111) (sp := dList (s := s) (a := a) (c := c) (p := p) (F0 := fmT T) (Fm := fmT T) (W := 0) (d := i) (op := false) (sl := sl) ho (fmT_some hd) hto.1 (by omega)) (h := ?_)
  rintro _ _ ⟨u, l, rfl, ⟨hlp, hls⟩, rfl⟩
  have hll := hlp.length_eq
  have hle := entsS_length (sl := sl)
  refine .fact (rowR_shape (el := 192) (size := 2) (v := u) (k := l.length) (xs := l.flatMap entL)) (fun ⟨A, cc, hu, hR0, hc1, hc2, hlen⟩ => ?_)
  subst hu
  refine .move ?_
  refine .extract ?_
  refine .extract ?_
  refine .assign (.assign (.z (.seq (.sr (.move ?_)))))
  refine .nei ?_
  refine .z ?_
  refine .condF rfl (congrArg Value.bool (by first | (simp; done) | (simp; omega) | omega)) ?_
  refine .skip (.next (.sr (.assign ?_)))
  refine .emp (rowR.nil (e := 9) (size := 1) _) ?_
  refine .z (.seq (.sr (.move ?_)))
  refine .lenS ?_ sl188
  refine .move (.z (.block ?_))
  refine .loopA (σ := Nat × Value) (fun y => [(10, y.2), (35, .slice A l.length cc), (36, .int .i64 (l.length : Int)), (37, .int .i64 ((y.1 : Nat) : Int))]) (fun y => [rowR 9 1 y.2 y.1 (svs ((l.map (·.1)).take y.1)), rowR 192 2 (.slice A l.length cc) l.length (l.flatMap entL), pt f (fO c a s false false false mp), LD mp T, IN s a c p (fmT T) (fmT T) 0 false] ++ F) (fun y => y.1 ≤ l.length) (fun y => l.length - y.1) (0, .slice none 0 0) (Nat.zero_le _) ?_
  rintro y hk
  obtain ⟨k, o⟩ := y
  simp only at hk ⊢
  refine .sr ?_
  refine .lss ?_
  refine .z (.seq ?_)
  refine .cond rfl (fun hb => ?_) (fun hb => ?_)
  · have hlt : k < l.length := by have h : (k : Int) < (l.length : Int) := of_decide_eq_true hb; omega
    rcases A with _ | ⟨ab, ao, asp⟩
    · exact absurd (congrArg List.length (show l.flatMap entL = [] from hR0)) (by rw [entF_length, List.length_nil]; omega)
    have hsp : asp = none := hR0.1
    subst hsp
    have hlk : l[k]? = some l[k] := List.getElem?_eq_getElem hlt
    have hml : (l.map (·.1)).length = l.length := List.length_map ..
    refine .skip (.next (.seq (.block (.sr ?_))))
    refine .idx ?_ so188
    refine .ldAR (i := ((k : Nat) : Int).toNat * 2) (us := entL l[k]) ?_ agg192 hR0 (by rw [Int.toNat_natCast]; exact entF_part hlk) (by rw [entF_length, Int.toNat_natCast]; omega)
    refine .alloc z192 fun b12 => ?_
    refine .stV ?_ agg192
    refine .y (.move ?_)
    refine .fa ?_ fo192_0
    refine .ld ?_ sc9
    refine .buildS (fun b44 => ?_) (bsSn _)
    refine .append (m := 1) (news := [sv l[k].1]) so92 (by decide) (by repeat (first | exact .here | apply Rem.there | apply Repl.there | apply Mem.there)) Reads.pt (by repeat (first | exact .here | apply Rem.there | apply Repl.there | apply Mem.there)) rfl (by intro x hx; simp only [List.mem_cons, List.not_mem_nil, or_false] at hx; subst hx; rfl) (by show k + 1 ≤ maxLen; unfold maxLen; omega) (by show (k + 1) * _ ≤ _; omega) ⟨_, z9, rfl⟩ (fun u2 hu2 => ?_)
    refine .assign (.nil (.blockNormal (.next (.region ?_))))
    refine .add ?_
    refine .move (.nil ?_)
    refine .to (A := rowR 9 1 u2 (k + 1) (svs ((l.map (·.1)).take k) ++ [sv l[k].1])) (A' := rowR 9 1 u2 (k + 1) (svs ((l.map (·.1)).take (k + 1)))) (fun h hh => by rw [take_succ' (by omega), List.getElem_map]; unfold svs at hh ⊢; rw [List.map_append]; exact hh) ?_
    refine .cast (d := 37) (u := .int .i64 ((k + 1 : Nat) : Int)) rfl (congrArg (Value.int .i64) (by omega)) ?_
    exact .back (k + 1, u2) (by show k + 1 ≤ l.length; omega) (by show l.length - (k + 1) < l.length - k; omega)
  · have hge : k = l.length := by have h : ¬ (k : Int) < (l.length : Int) := of_decide_eq_false hb; omega
    subst hge
    have hml : (l.map (·.1)).length = l.length := List.length_map ..
    rw [List.take_of_length_le (Nat.le_of_eq hml)]
    refine .exit (.thenExit (.thenExit (.blockExit (?_))))
    refine .next (.sr (.move (.assign (.assign (.z ?_)))))
    refine .ret (?_)
    refine .shutR (FSR.opens f p T) (c, a, s, mp) trivial ?_
    exact .ret2 (h1 := .tmp (t := 4) rfl) (h2 := .tmp (t := 5) rfl) ⟨_, ⟨o, l, rfl, ⟨hlp, hls⟩, by rw [hml]⟩, Am.auto⟩
theorem alikeTexts {R R' : HP} {A A' : Option Addr} {n c c' : Nat} {xs : List Bytes} (hR : xs = [] ∨ Reads R A (svs xs)) (hR' : xs = [] ∨ Reads R' A' (svs xs)) (hn : xs.length = n) (hb1 : n ≤ 9223372036854775807) : Spec Tryz.prog 53 #[.slice A n c, .slice A' n c'] [R, R'] fun F v M => v = .bool true ∧ M = R :: R' :: F := by
  refine Spec.intro Tryz.func53 rfl rfl fun B F => ?_
  simp only [Tryz.ntmps53, List.cons_append, List.nil_append, env0, Nat.reduceAdd]
  refine .sr (.assign (.z (.seq (.sr (.move ?_)))))
  refine .lenS ?_ sl92
  refine .move ?_
  refine .lenS ?_ sl92
  refine .nei ?_
  refine .z ?_
  refine .condF rfl (congrArg Value.bool (by first | (simp; done) | (simp; omega) | omega)) ?_
  refine .skip (.next (.seq (.sr (.assign (.z (.block ?_))))))
  refine .loopA (σ := Nat) (fun i => [(0, .slice A n c), (1, .slice A' n c'), (5, .int .i64 (i : Int))]) (fun i => R :: R' :: F) (fun i => i ≤ n) (fun i => n - i) 0 (Nat.zero_le _) ?_
  rintro i hi
  refine .seq (.sr (.move (.move ?_)))
  refine .lenS ?_ sl92
  refine .lss ?_
  refine .z ?_
  refine .cond rfl (fun hb => ?_) (fun hb => ?_)
  · have hlt : i < xs.length := by have h : (i : Int) < (n : Int) := of_decide_eq_true hb; omega
    have hRx := hR.resolve_left (by intro h0; rw [h0] at hlt; simp at hlt)
    have hRy := hR'.resolve_left (by intro h0; rw [h0] at hlt; simp at hlt)
    rcases A with _ | ⟨ab, ao, asp⟩
    · exact absurd (congrArg List.length (show svs xs = [] from hRx)) (by rw [svs_length, List.length_nil]; omega)
    rcases A' with _ | ⟨ab', ao', asp'⟩
    · exact absurd (congrArg List.length (show svs xs = [] from hRy)) (by rw [svs_length, List.length_nil]; omega)
    have hsp : asp = none := hRx.1
    subst hsp
    have hsp' : asp' = none := hRy.1
    subst hsp'
    have hg : (svs xs)[((i : Nat) : Int).toNat]? = some (sv xs[i]) := svs_get hlt
    refine .skip (.next (.seq (.block (.seq ?_))))
    refine .dr ([R, R']) [] 9 mixed .autoJ ?_
    refine .tk 0 rfl .move ?_
    refine .tk 1 rfl .move ?_
    refine .tk 2 rfl (.idx1 so92) ?_
    refine .tk 3 rfl (Qt.ldR (i := ((i : Nat) : Int).toNat) sc9 hRx hg) ?_
    refine .tk 4 rfl .move ?_
    refine .tk 5 rfl .move ?_
    refine .tk 6 rfl (.idx1 so92) ?_
    refine .tk 7 rfl (Qt.ldR (i := ((i : Nat) : Int).toNat) sc9 hRy hg) ?_
    refine .tk 8 rfl (Qt.neS xs[i] xs[i]) ?_
    refine .fin ?_
    refine .next ?_
    refine .condF rfl (congrArg Value.bool (by simp)) ?_
    refine .skip (.blockNormal (.next (.region (.move ?_))))
    refine .add ?_
    refine .assign (.nil ?_)
    refine .cast (d := 5) (u := .int .i64 ((i + 1 : Nat) : Int)) rfl (congrArg (Value.int .i64) (by omega)) ?_
    exact .back (i + 1) (by show i + 1 ≤ n; omega) (by omega)
  · refine .exit (.thenExit (.thenExit (.blockExit (?_))))
    refine .next (.sr (.assign (.z ?_)))
    refine .ret (?_)
    exact .ret1 (h1 := .tmp (t := 4) rfl) ⟨_, ⟨rfl, rfl⟩, Am.auto⟩
end Go.Proofs.YtdmjkjeoamiedaaGreatDoor
end
section
namespace Go.Proofs.YtdmjkjeoamiedaaGreatDoor
open Go
theorem z4 : zeroOf Tryz.prog 4 = some (#[.bool false]) := by kernel_rfl
theorem so97 : sliceOk Tryz.prog 97 4 1 1 = true := by kernel_rfl
theorem bk4 : boolOk Tryz.prog 4 = true := by kernel_rfl
theorem bs1L (a : Int) : BuildSOk Tryz.prog 33 1 [(0, .int .u8 a)] 5 #[.int .u8 a] := fun w => by kernel_rfl
def thV (m : Nat → Bool) : List Value := (List.range 26).map fun k => .bool (m k)
theorem thV_length (m : Nat → Bool) : (thV m).length = 26 := by unfold thV; rw [List.length_map, List.length_range]
theorem thV_get {m : Nat → Bool} {k : Nat} (h : k < 26) : (thV m)[k]? = some (.bool (m k)) := by
  unfold thV
  rw [List.getElem?_map, List.getElem?_range h]; rfl
theorem thV_eq {m m' : Nat → Bool} (h : ∀ k, k < 26 → m k = m' k) : thV m = thV m' := by
  unfold thV
  refine List.map_congr_left fun k hk => ?_
  rw [h k (List.mem_range.1 hk)]
theorem thV_set {m m' : Nat → Bool} {k : Nat} {b : Bool} (hb : m' k = b) (h : ∀ j, j < 26 → j ≠ k → m j = m' j) : (thV m).set k (.bool b) = thV m' := by
  refine List.ext_getElem? fun j => ?_
  rw [List.getElem?_set]
  by_cases hj : j < 26
  · rw [thV_get hj, thV_length]
    by_cases hk : k = j
    · subst hk
      rw [if_pos rfl, if_pos hj, thV_get hj, hb]
    · rw [if_neg hk, thV_get hj, h j hj (fun hh => hk hh.symm)]
  · rw [List.getElem?_eq_none (l := thV m') (by rw [thV_length]; omega)]
    split
    · rw [if_neg (by rw [thV_length]; omega)]
    · rw [List.getElem?_eq_none (by rw [thV_length]; omega)]
theorem thV_none : List.replicate 26 (Value.bool false) = thV (fun k => decide (k ∈ ([] : List Nat))) := by
  refine List.ext_getElem? fun j => ?_
  rw [List.getElem?_replicate]
  by_cases hj : j < 26
  · rw [if_pos hj, thV_get hj]; rfl
  · rw [if_neg hj, List.getElem?_eq_none (by rw [thV_length]; omega)]
def lM (ks : List Nat) (a b k : Nat) : Bool := if a ∈ ks then decide (k = b) || (decide (k ∈ ks) && decide (k ≠ a)) else decide (k ∈ ks)
structure LRes (ks : List Nat) (a b : Nat) (T : FT) (sl : List Slot) : Prop where
  ok : TOk T
  d0 : T 0 = some (.dir [some ([100], 1)])
  d1 : T 1 = some (.dir sl)
  mem : ∀ nm, (∃ q i : Nat, sl[q]? = some (some (nm, i))) ↔ ∃ k, (k < 26 ∧ lM ks a b k = true) ∧ nm = nmL k
theorem ldD {T : FT} {sl : List Slot} (h0 : T 0 = some (.dir [some ([100], 1)])) (h1 : T 1 = some (.dir sl)) : leadsT T [47, 100] = (1, 2, (NodeT.dir sl).size, 0) := by
  have hf : findT T 0 [100] = (1, 0) := by
    unfold findT
    rw [if_pos (by decide), h0]; rfl
  have hw : walkT T 0 [[100]] = (1, 0) := by
    rw [walkT_step (by rw [hf]), hf]; rfl
  unfold leadsT
  rw [show partsT [47, 100] = some [[100]] from rfl]
  simp only [hw, h1]
  rfl
theorem lM_same {ks : List Nat} {a : Nat} (k : Nat) : lM ks a a k = decide (k ∈ ks) := by
  unfold lM
  split
  · rename_i ha
    by_cases hk : k = a
    · subst hk; simp [ha]
    · simp [hk]
  · rfl
theorem lsl_mem {ks : List Nat} (h : LOk ks) (nm : Bytes) : (∃ q i : Nat, (lsl ks)[q]? = some (some (nm, i))) ↔ ∃ k, (k < 26 ∧ decide (k ∈ ks) = true) ∧ nm = nmL k := by
  constructor
  · rintro ⟨q, i, hq⟩
    obtain ⟨hq', hn, _⟩ := lsl_some hq
    exact ⟨ks[q], ⟨h.lt _ (List.getElem_mem hq'), decide_eq_true (List.getElem_mem hq')⟩, hn⟩
  · rintro ⟨k, ⟨_, hk⟩, rfl⟩
    obtain ⟨q, hq, rfl⟩ := List.mem_iff_getElem.1 (of_decide_eq_true hk)
    exact ⟨q, q + 2, lsl_get hq⟩
theorem LRes.same {ks : List Nat} (h : LOk ks) {a b : Nat} (hab : ∀ k, lM ks a b k = decide (k ∈ ks)) : LRes ks a b (lT ks) (lsl ks) := by
  refine ⟨lT_ok h, lT_0 ks, lT_1 ks, fun nm => ?_⟩
  simp only [hab]
  exact lsl_mem h nm
theorem LRes.new {ks : List Nat} (h : LOk ks) {q b : Nat} (hq : q < ks.length) (hb : b < 26) (hn : b ∉ ks) : LRes ks ks[q] b (updT (lT1 ks q b) 1 (some (.dir (lslN ks q b)))) (lslN ks q b) := by
  obtain ⟨hno, hnl⟩ := lNew_ok h hq hb hn
  have hl := lsl_length ks
  have hlen := h.length
  have hN : DirOk (lslN ks q b) := hno.gone (by omega)
  have hNl : (lslN ks q b).length = ks.length + 1 := by unfold lslN; rw [setS_length (by omega), hnl]; omega
  have ha : ks[q] ∈ ks := List.getElem_mem hq
  refine ⟨((lT_ok h).upd 1 fun sl he => by injection he with he; injection he with he; subst he; exact ⟨hno, by omega⟩).upd 1 fun sl he => by injection he with he; injection he with he; subst he; exact ⟨hN, by omega⟩, ?_, updT_same .., fun nm => ?_⟩
  · unfold lT1
    rw [updT_other _ _ (by omega), updT_other _ _ (by omega)]; exact lT_0 ks
  · constructor
    · rintro ⟨r, i, hr⟩
      unfold lslN at hr
      by_cases hrq : r = q
      · subst hrq; rw [setS_same (by omega)] at hr; injection hr with hr; cases hr
      · rw [setS_other (by omega) hrq] at hr
        by_cases hrl : r = ks.length
        · subst hrl
          rw [setS_same (by omega)] at hr
          injection hr with hr; injection hr with hr; injection hr with hr _
          exact ⟨b, ⟨hb, by unfold lM; rw [if_pos ha]; simp⟩, hr.symm⟩
        · obtain ⟨hr', hnm, _⟩ := lsl_in (by omega) hr hrl
          refine ⟨ks[r], ⟨h.lt _ (List.getElem_mem hr'), ?_⟩, hnm⟩
          have hne : ks[r] ≠ ks[q] := fun hh => hrq ((List.getElem_inj h.nd).1 hh)
          unfold lM; rw [if_pos ha]; simp [hne]
    · rintro ⟨k, ⟨_, hk⟩, rfl⟩
      unfold lM at hk
      rw [if_pos ha] at hk
      simp only [Bool.or_eq_true, Bool.and_eq_true, decide_eq_true_eq] at hk
      unfold lslN
      rcases hk with rfl | ⟨hk, hne⟩
      · exact ⟨ks.length, q + 2, by rw [setS_other (by omega) (by omega), setS_same (by omega)]⟩
      · obtain ⟨r, hr, rfl⟩ := List.mem_iff_getElem.1 hk
        have hrq : r ≠ q := fun hh => hne (by subst hh; rfl)
        exact ⟨r, r + 2, by rw [setS_other (by omega) hrq, setS_other (by omega) (by omega)]; exact lsl_get hr⟩
theorem LRes.over {ks : List Nat} (h : LOk ks) {q r : Nat} (hq : q < ks.length) (hr : r < ks.length) (hne : q ≠ r) : LRes ks ks[q] ks[r] (lTO ks q r) (setS (slO ks q r) q none) := by
  have hl := lsl_length ks
  have hlen := h.length
  have hb := h.lt _ (List.getElem_mem hr)
  have ha : ks[q] ∈ ks := List.getElem_mem hq
  have hgr : ks.getD r 0 = ks[r] := by rw [List.getD_eq_getElem?_getD, List.getElem?_eq_getElem hr]; rfl
  have hno : DirOk (slO ks q r) := by
    unfold slO; rw [hgr]
    refine (lsl_ok h).set (by omega) (nameOk_len (nmL_ok _ hb)) (by omega) fun s j hs hh => ?_
    exact hs ((lsl_ok h).one s r _ _ _ hh (lsl_get hr))
  have hnl : (slO ks q r).length = ks.length := by unfold slO; rw [setS_length (by omega)]; omega
  have hNl : (setS (slO ks q r) q none).length = ks.length := by rw [setS_length (by omega), hnl]; omega
  refine ⟨?_, ?_, ?_, fun nm => ?_⟩
  · exact (((lT_ok h).upd 1 fun sl he => by injection he with he; injection he with he; subst he; exact ⟨hno, by omega⟩).upd 1 fun sl he => by injection he with he; injection he with he; subst he; exact ⟨hno.gone (by omega), by omega⟩).upd (r + 2) fun sl he => by cases he
  · unfold lTO
    rw [updT_other _ _ (by omega), updT_other _ _ (by omega), updT_other _ _ (by omega)]; exact lT_0 ks
  · unfold lTO
    rw [updT_other _ _ (by omega), updT_same]
  · constructor
    · rintro ⟨s, i, hs⟩
      by_cases hsq : s = q
      · subst hsq; rw [setS_same (by omega)] at hs; injection hs with hs; cases hs
      · rw [setS_other (by omega) hsq] at hs
        unfold slO at hs
        by_cases hsr : s = r
        · subst hsr
          rw [setS_same (by omega), hgr] at hs
          injection hs with hs; injection hs with hs; injection hs with hs _
          exact ⟨ks[s], ⟨hb, by unfold lM; rw [if_pos ha]; simp⟩, hs.symm⟩
        · obtain ⟨hs', hnm, _⟩ := lsl_in (by omega) hs hsr
          refine ⟨ks[s], ⟨h.lt _ (List.getElem_mem hs'), ?_⟩, hnm⟩
          have hne : ks[s] ≠ ks[q] := fun hh => hsq ((List.getElem_inj h.nd).1 hh)
          unfold lM; rw [if_pos ha]; simp [hne]
    · rintro ⟨k, ⟨_, hk⟩, rfl⟩
      unfold lM at hk
      rw [if_pos ha] at hk
      simp only [Bool.or_eq_true, Bool.and_eq_true, decide_eq_true_eq] at hk
      have key : ∀ s (hs : s < ks.length), s ≠ q → ∃ t i : Nat, (setS (slO ks q r) q none)[t]? = some (some (nmL ks[s], i)) := by
        intro s hs hsq
        refine ⟨s, if s = r then q + 2 else s + 2, ?_⟩
        rw [setS_other (by omega) hsq]
        unfold slO
        by_cases hsr : s = r
        · subst hsr; rw [setS_same (by omega), hgr, if_pos rfl]
        · rw [setS_other (by omega) hsr, if_neg hsr]; exact lsl_get hs
      rcases hk with rfl | ⟨hk, hne'⟩
      · exact key r hr (fun hh => hne hh.symm)
      · obtain ⟨s, hs, rfl⟩ := List.mem_iff_getElem.1 hk
        exact key s hs (fun hh => hne' (by subst hh; rfl))
theorem lRn {f a b : Nat} {ks : List Nat} (h : LOk ks) (ha : a < 26) (hb : b < 26) : Spec Tryz.prog 47 #[.pointer (some ⟨f, 0, none⟩), sv (pathL a), sv (pathL b)] [FSR f (pD 500 40) (lT ks)] fun F v M => ∃ T sl, v = nI (if a ∈ ks then 0 else 4) ∧ LRes ks a b T sl ∧ M = FSR f (pD 500 40) T :: F := by
  by_cases hin : a ∈ ks
  · rw [if_pos hin]
    obtain ⟨q, hq, rfl⟩ := List.mem_iff_getElem.1 hin
    by_cases hab : b = ks[q]
    · subst hab
      refine (lRnSame (f := f) h hq).post ?_
      rintro F v M ⟨rfl, rfl⟩
      exact ⟨_, ⟨_, _, rfl, LRes.same h fun k => lM_same k, rfl⟩, Wk.refl⟩
    · by_cases hbin : b ∈ ks
      · obtain ⟨r, hr, rfl⟩ := List.mem_iff_getElem.1 hbin
        have hne : q ≠ r := fun hh => hab (by subst hh; rfl)
        refine (lRnOver (f := f) h hq hr hne).post ?_
        rintro F v M ⟨rfl, rfl⟩
        exact ⟨_, ⟨_, _, rfl, LRes.over h hq hr hne, rfl⟩, Wk.refl⟩
      · refine (lRnNew (f := f) h hq hb hbin).post ?_
        rintro F v M ⟨rfl, rfl⟩
        exact ⟨_, ⟨_, _, rfl, LRes.new h hq hb hbin, rfl⟩, Wk.refl⟩
  · rw [if_neg hin]
    refine (lRnNone (f := f) h ha hin hb).post ?_
    rintro F v M ⟨rfl, rfl⟩
    exact ⟨_, ⟨_, _, rfl, LRes.same h fun k => by unfold lM; rw [if_neg hin], rfl⟩, Wk.refl⟩
def wantK (m : Nat → Bool) (k : Nat) : List Nat := (List.range k).filter fun j => m j
theorem wantK_yes {m : Nat → Bool} {k : Nat} (h : m k = true) : wantK m (k + 1) = wantK m k ++ [k] := by
  unfold wantK
  rw [List.range_succ, List.filter_append]
  simp [h]
theorem wantK_no {m : Nat → Bool} {k : Nat} (h : m k = false) : wantK m (k + 1) = wantK m k := by
  unfold wantK
  rw [List.range_succ, List.filter_append]
  simp [h]
theorem wantK_few (m : Nat → Bool) (k : Nat) : (wantK m k).length ≤ k := by
  have := List.length_filter_le (fun j => m j) (List.range k)
  rw [List.length_range] at this
  exact this
theorem wantK_mem {m : Nat → Bool} {n k : Nat} : k ∈ wantK m n ↔ k < n ∧ m k = true := by
  unfold wantK
  rw [List.mem_filter, List.mem_range]
theorem want_list {ks : List Nat} {a b : Nat} {T : FT} {sl : List Slot} (h : LRes ks a b T sl) {l : List Ent} (hp : l.Perm (entsS sl)) (hs : SortE l) : l.map (·.1) = (wantK (lM ks a b) 26).map nmL := by
  have hlt : ∀ k ∈ wantK (lM ks a b) 26, k < 26 := fun k hk => (wantK_mem.1 hk).1
  have hso : (wantK (lM ks a b) 26).Pairwise (· < ·) := List.Pairwise.filter _ List.pairwise_lt_range
  refine sortedL hlt hso ?_ hs
  refine (hp.map _).trans (ents_perm (h.ok 1 sl h.d1).1 hlt hso fun nm => ?_)
  rw [h.mem]
  constructor
  · rintro ⟨k, hk, hn⟩; exact ⟨k, wantK_mem.2 hk, hn⟩
  · rintro ⟨k, hk, hn⟩; exact ⟨k, wantK_mem.1 hk, hn⟩
theorem rL1_lT : trL rL1 = lT [] := by
  funext j
  rcases j with _ | _ | j
  · rfl
  · rfl
  · exact (lT_out (ks := []) (by show 0 + 2 ≤ j + 2; omega)).symm
theorem lok_nil : LOk [] := ⟨nofun, List.nodup_nil⟩
theorem lawFsLists {R : HP} {A : Option Addr} {m c0 : Nat} {xs : List Int} (hR0 : xs = [] ∨ Reads R A (ints xs)) (hm : xs.length = m) (hxs : ∀ x ∈ xs, -9223372036854775808 ≤ x ∧ x ≤ 9223372036854775807) (hbig : m ≤ 9223372036854775807) {fr to : Int} (hfr : -9223372036854775808 ≤ fr ∧ fr ≤ 9223372036854775807) (hto : -9223372036854775808 ≤ to ∧ to ≤ 9223372036854775807) : Spec Tryz.prog 11 #[.slice A m c0, .int .i64 fr, .int .i64 to] [R] fun F v M => v = .bool true ∧ M = R :: F := by
  refine Spec.intro Tryz.func11 rfl rfl fun B F => ?_
  simp only [Tryz.ntmps11, List.cons_append, List.nil_append, env0, Nat.reduceAdd]
  by_cases h30 : 30 < m
  · refine .sr (.assign (.z (.seq (.sr (.move ?_)))))
    refine .lenS ?_ sl80
    refine .gtr ?_
    refine .z ?_
    refine .condT rfl (congrArg Value.bool (by first | (simp; done) | (simp; omega) | omega)) ?_
    refine .sr ?_
    refine .call (hc := Tryz.call45) (sp := l10Awake) (h := ?_)
    rintro _ _ ⟨rfl, hM⟩
    obtain rfl := hM.symm
    refine .assign (.z ?_)
    refine .ret (.thenRet (?_))
    exact .ret1 (h1 := .tmp (t := 6) rfl) ⟨_, ⟨rfl, rfl⟩, Am.auto⟩
  · refine .sr (.assign (.z (.seq (.sr (.move ?_)))))
    refine .lenS ?_ sl80
    refine .gtr ?_
    refine .z ?_
    refine .condF rfl (congrArg Value.bool (by first | (simp; done) | (simp; omega) | omega)) ?_
    refine .skip (.next (.sr ?_))
    refine .call (hc := Tryz.call46) (sp := l10Fresh p11_is) (h := ?_)
    rintro _ _ ⟨d, f, md, rfl, rfl⟩
    rw [rootT_trL]
    refine .move ?_
    refine .extract ?_
    refine .extract ?_
    refine .extract ?_
    refine .extract ?_
    refine .assign (.assign (.assign (.assign (.z (.seq (.sr (.move ?_)))))))
    refine .not ?_
    refine .move ?_
    refine .gT ?_
    refine .move ?_
    refine .gT ?_
    refine .call (hc := Tryz.call28) (sp := rMk (f := f)) (h := ?_)
    rintro _ _ ⟨rfl, rfl⟩
    rw [rL1_lT]
    refine .gT ?_
    refine .nei ?_
    refine .pickF ?_
    refine .z ?_
    refine .condF rfl (congrArg Value.bool (by first | (simp; done) | (simp; omega) | omega)) ?_
    refine .skip (.next (.sr ?_))
    refine .mkSN 26 z4 so97 (by decide) (by decide) fun b39 => ?_
    refine .assign (.z (.seq (.sr (.assign (.z (.block ?_))))))
    refine .to (A := buf b39 4 26 (List.replicate 26 (.bool false))) (A' := buf b39 4 26 (thV (fun k => decide (k ∈ ([] : List Nat))))) (fun h hh => by rw [← thV_none]; exact hh) ?_
    refine .loopA (σ := Nat × List Nat) (fun y => [(0, .slice A m c0), (1, .int .i64 fr), (2, .int .i64 to), (8, .pointer (some ⟨f, 0, none⟩)), (11, .slice (some ⟨b39, 0, none⟩) 26 26), (12, .int .i64 ((y.1 : Nat) : Int))]) (fun y => [buf b39 4 26 (thV (fun k => decide (k ∈ y.2))), FSR f (pD 500 40) (lT y.2), R] ++ F) (fun y => y.1 ≤ m ∧ LOk y.2) (fun y => m - y.1) (0, []) ⟨Nat.zero_le _, lok_nil⟩ ?_
    rintro y hy
    obtain ⟨i, ks⟩ := y
    obtain ⟨hi, hok⟩ := hy
    simp only at hi hok ⊢
    refine .seq (.sr (.move (.move ?_)))
    refine .lenS ?_ sl80
    refine .lss ?_
    refine .z ?_
    refine .cond rfl (fun hb => ?_) (fun hb => ?_)
    · have hlt : i < m := by have h : (i : Int) < (m : Int) := of_decide_eq_true hb; omega
      have hil : ((i : Nat) : Int).toNat < xs.length := by omega
      have hR := hR0.resolve_left (by intro h; subst h; simp at hil)
      rcases A with _ | ⟨ab, ao, asp⟩
      · exact absurd hR (fun h => by have h2 : ints xs = [] := h; simp [ints] at h2; subst h2; simp at hil)
      have hsp : asp = none := hR.1
      subst hsp
      have hxr := hxs _ (List.getElem_mem hil)
      obtain ⟨x, hx⟩ : ∃ x, xs[((i : Nat) : Int).toNat] = x := ⟨_, rfl⟩
      rw [hx] at hxr
      have hgx : (ints xs)[((i : Nat) : Int).toNat]? = some (.int .i64 x) := by unfold ints; rw [List.getElem?_map, List.getElem?_eq_getElem hil, hx]; rfl
      refine .skip (.next (.seq (.block (.sr (.move (.move ?_))))))
      refine .idx1 ?_ so80
      refine .ldR ?_ sc3 hR hgx
      refine .call (hc := Tryz.call41) (sp := alikeRound (k := x) (n := 26) hxr (by decide)) (h := ?_)
      rintro _ _ ⟨rfl, hK26, hM⟩
      obtain rfl := hM.symm
      obtain ⟨K, hK⟩ : ∃ K, roundI x 26 = K := ⟨_, rfl⟩
      rw [hK] at hK26
      rw [hK]
      have hK26 : K < 26 := by omega
      refine .assign (.x ?_)
      by_cases hin : K ∈ ks
      · refine .move (.move ?_)
        refine .add ?_
        refine .cvt ?_ un3 un5
        refine .cast (d := 54) (u := bv (UInt8.ofNat (97 + K))) rfl (congrArg (Value.int .u8) (by rw [UInt8.toNat_ofNat', IntWalk.u8_in _ (by omega)]; omega)) ?_
        refine .buildS (fun b55 => ?_) (bs1L _)
        refine .to (A' := buf b55 5 1 (bvs [UInt8.ofNat (97 + K)])) (buf_of_pt rfl) ?_
        refine .cvtBS (xs := [UInt8.ofNat (97 + K)]) ?_ by33 st9 Reads.buf rfl
        refine .catS [47, 100, 47] [UInt8.ofNat (97 + K)] ?_ (Nat.le_of_ble_eq_true rfl)
        refine .cast (d := 57) (u := sv (pathL K)) rfl rfl ?_
        refine .call (hc := Tryz.call17) (sp := lCrE (f := f) hok hK26 hin) (h := ?_)
        rintro _ _ ⟨rfl, rfl⟩
        refine .assign (.z (.seq (.sr (.move ?_))))
        refine .eqi ?_
        refine .move (.move ?_)
        refine .idx1 ?_ so97
        refine .ldR (R := buf b39 4 26 (thV (fun k => decide (k ∈ ks)))) (xs := thV (fun k => decide (k ∈ ks))) (i := ((K : Nat) : Int).toNat) (v := .bool true) ?_ sc4 Reads.buf (by rw [Int.toNat_natCast, thV_get (by omega)]; exact congrArg (fun b => some (Value.bool b)) (decide_eq_true hin))
        refine .eqB ?_ bk4
        refine .move ?_
        refine .cast (d := 66) (u := .bool false) rfl (congrArg Value.bool (by first | rfl | (simp; done) | (simp; omega) | omega)) ?_
        refine .gT ?_
        refine .move ?_
        refine .gT ?_
        refine .move ?_
        refine .gT ?_
        refine .idx1 ?_ so97
        refine .gT ?_
        refine .ldR (R := buf b39 4 26 (thV (fun k => decide (k ∈ ks)))) (xs := thV (fun k => decide (k ∈ ks))) (i := ((K : Nat) : Int).toNat) (v := .bool true) ?_ sc4 Reads.buf (by rw [Int.toNat_natCast, thV_get (by omega)]; exact congrArg (fun b => some (Value.bool b)) (decide_eq_true hin))
        refine .gT ?_
        refine .move ?_
        refine .cast (d := 71) (u := .bool true) rfl (congrArg Value.bool (by first | rfl | (simp; done) | (simp; omega) | omega)) ?_
        refine .gT ?_
        refine .move ?_
        refine .gT ?_
        refine .nei ?_
        refine .gT ?_
        refine .pickT ?_
        refine .pickF ?_
        refine .z ?_
        refine .condF rfl (congrArg Value.bool (by first | rfl | (simp; done) | (simp; omega) | omega)) ?_
        refine .skip (.next (.region (.move (.move ?_))))
        refine .idx1 ?_ so97
        refine .stB (i := 0 + ((K : Nat) : Int).toNat) (xs := thV (fun k => decide (k ∈ ks))) ?_ sc4 (by rw [Nat.zero_add, Int.toNat_natCast, thV_length]; omega)
        refine .to (A := buf b39 4 26 ((thV (fun k => decide (k ∈ ks))).set (0 + ((K : Nat) : Int).toNat) (.bool true))) (A' := buf b39 4 26 (thV (fun k => decide (k ∈ ks)))) (fun h hh => by rw [Nat.zero_add, Int.toNat_natCast] at hh; rw [← thV_set (m := (fun k => decide (k ∈ ks))) (m' := (fun k => decide (k ∈ ks))) (k := K) (b := true) (decide_eq_true hin) (fun j _ _ => rfl)]; exact hh) ?_
        refine .nil (.blockNormal (.next (.region (.move ?_))))
        refine .add ?_
        refine .assign (.nil ?_)
        refine .cast (d := 12) (u := .int .i64 ((i + 1 : Nat) : Int)) rfl (congrArg (Value.int .i64) (by omega)) ?_
        exact .back (i + 1, ks) ⟨by show i + 1 ≤ m; omega, hok⟩ (by show m - (i + 1) < m - i; omega)
      · refine .move (.move ?_)
        refine .add ?_
        refine .cvt ?_ un3 un5
        refine .cast (d := 54) (u := bv (UInt8.ofNat (97 + K))) rfl (congrArg (Value.int .u8) (by rw [UInt8.toNat_ofNat', IntWalk.u8_in _ (by omega)]; omega)) ?_
        refine .buildS (fun b55 => ?_) (bs1L _)
        refine .to (A' := buf b55 5 1 (bvs [UInt8.ofNat (97 + K)])) (buf_of_pt rfl) ?_
        refine .cvtBS (xs := [UInt8.ofNat (97 + K)]) ?_ by33 st9 Reads.buf rfl
        refine .catS [47, 100, 47] [UInt8.ofNat (97 + K)] ?_ (Nat.le_of_ble_eq_true rfl)
        refine .cast (d := 57) (u := sv (pathL K)) rfl rfl ?_
        refine .call (hc := Tryz.call17) (sp := lCr (f := f) hok hK26 hin) (h := ?_)
        rintro _ _ ⟨rfl, rfl⟩
        refine .assign (.z (.seq (.sr (.move ?_))))
        refine .eqi ?_
        refine .move (.move ?_)
        refine .idx1 ?_ so97
        refine .ldR (R := buf b39 4 26 (thV (fun k => decide (k ∈ ks)))) (xs := thV (fun k => decide (k ∈ ks))) (i := ((K : Nat) : Int).toNat) (v := .bool false) ?_ sc4 Reads.buf (by rw [Int.toNat_natCast, thV_get (by omega)]; exact congrArg (fun b => some (Value.bool b)) (decide_eq_false hin))
        refine .eqB ?_ bk4
        refine .move ?_
        refine .cast (d := 66) (u := .bool false) rfl (congrArg Value.bool (by first | rfl | (simp; done) | (simp; omega) | omega)) ?_
        refine .gT ?_
        refine .move ?_
        refine .gT ?_
        refine .move ?_
        refine .gT ?_
        refine .idx1 ?_ so97
        refine .gT ?_
        refine .ldR (R := buf b39 4 26 (thV (fun k => decide (k ∈ ks)))) (xs := thV (fun k => decide (k ∈ ks))) (i := ((K : Nat) : Int).toNat) (v := .bool false) ?_ sc4 Reads.buf (by rw [Int.toNat_natCast, thV_get (by omega)]; exact congrArg (fun b => some (Value.bool b)) (decide_eq_false hin))
        refine .gT ?_
        refine .move ?_
        refine .cast (d := 71) (u := .bool false) rfl (congrArg Value.bool (by first | rfl | (simp; done) | (simp; omega) | omega)) ?_
        refine .gF ?_
        refine .gF ?_
        refine .gT ?_
        refine .pickF ?_
        refine .pickF ?_
        refine .z ?_
        refine .condF rfl rfl ?_
        refine .skip (.next (.region (.move (.move ?_))))
        refine .idx1 ?_ so97
        refine .stB (i := 0 + ((K : Nat) : Int).toNat) (xs := thV (fun k => decide (k ∈ ks))) ?_ sc4 (by rw [Nat.zero_add, Int.toNat_natCast, thV_length]; omega)
        refine .to (A := buf b39 4 26 ((thV (fun k => decide (k ∈ ks))).set (0 + ((K : Nat) : Int).toNat) (.bool true))) (A' := buf b39 4 26 (thV (fun k => decide (k ∈ (ks ++ [K]))))) (fun h hh => by rw [Nat.zero_add, Int.toNat_natCast] at hh; rw [← thV_set (m := (fun k => decide (k ∈ ks))) (m' := (fun k => decide (k ∈ (ks ++ [K])))) (k := K) (b := true) (decide_eq_true (List.mem_append_right _ (List.mem_singleton.2 rfl))) (fun j _ hj => by simp [hj])]; exact hh) ?_
        refine .nil (.blockNormal (.next (.region (.move ?_))))
        refine .add ?_
        refine .assign (.nil ?_)
        refine .cast (d := 12) (u := .int .i64 ((i + 1 : Nat) : Int)) rfl (congrArg (Value.int .i64) (by omega)) ?_
        exact .back (i + 1, (ks ++ [K])) ⟨by show i + 1 ≤ m; omega, hok.add hK26 hin⟩ (by show m - (i + 1) < m - i; omega)
    · refine .exit (.thenExit (.thenExit (.blockExit (?_))))
      refine .next (.sr (.move ?_))
      refine .call (hc := Tryz.call41) (sp := alikeRound (k := fr) (n := 26) hfr (by decide)) (h := ?_)
      rintro _ _ ⟨rfl, ha26, hM⟩
      obtain rfl := hM.symm
      obtain ⟨a, hKa⟩ : ∃ K, roundI fr 26 = K := ⟨_, rfl⟩
      rw [hKa] at ha26
      rw [hKa]
      have ha26 : a < 26 := by omega
      refine .assign (.x (.move ?_))
      refine .call (hc := Tryz.call41) (sp := alikeRound (k := to) (n := 26) hto (by decide)) (h := ?_)
      rintro _ _ ⟨rfl, hb26, hM⟩
      obtain rfl := hM.symm
      obtain ⟨b, hKb⟩ : ∃ K, roundI to 26 = K := ⟨_, rfl⟩
      rw [hKb] at hb26
      rw [hKb]
      have hb26 : b < 26 := by omega
      refine .assign (.x (.move (.move ?_)))
      refine .add ?_
      refine .cvt ?_ un3 un5
      refine .cast (d := 86) (u := bv (UInt8.ofNat (97 + a))) rfl (congrArg (Value.int .u8) (by rw [UInt8.toNat_ofNat', IntWalk.u8_in _ (by omega)]; omega)) ?_
      refine .buildS (fun b87 => ?_) (bs1L _)
      refine .to (A' := buf b87 5 1 (bvs [UInt8.ofNat (97 + a)])) (buf_of_pt rfl) ?_
      refine .cvtBS (xs := [UInt8.ofNat (97 + a)]) ?_ by33 st9 Reads.buf rfl
      refine .catS [47, 100, 47] [UInt8.ofNat (97 + a)] ?_ (Nat.le_of_ble_eq_true rfl)
      refine .cast (d := 89) (u := sv (pathL a)) rfl rfl ?_
      refine .move ?_
      refine .add ?_
      refine .cvt ?_ un3 un5
      refine .cast (d := 92) (u := bv (UInt8.ofNat (97 + b))) rfl (congrArg (Value.int .u8) (by rw [UInt8.toNat_ofNat', IntWalk.u8_in _ (by omega)]; omega)) ?_
      refine .buildS (fun b93 => ?_) (bs1L _)
      refine .to (A' := buf b93 5 1 (bvs [UInt8.ofNat (97 + b)])) (buf_of_pt rfl) ?_
      refine .cvtBS (xs := [UInt8.ofNat (97 + b)]) ?_ by33 st9 Reads.buf rfl
      refine .catS [47, 100, 47] [UInt8.ofNat (97 + b)] ?_ (Nat.le_of_ble_eq_true rfl)
      refine .cast (d := 95) (u := sv (pathL b)) rfl rfl ?_
      refine .call (hc := Tryz.call47) (sp := lRn (f := f) hok ha26 hb26) (h := ?_)
      rintro _ _ ⟨T, sl, rfl, hL, rfl⟩
      refine .assign (.z (.seq (.sr ?_)))
      by_cases hin : a ∈ ks
      · rw [if_pos hin]
        by_cases hab : a = b
        · refine .move ?_
          refine .eqi ?_
          refine .move (.move ?_)
          refine .idx1 ?_ so97
          refine .ldR (R := buf b39 4 26 (thV (fun k => decide (k ∈ ks)))) (xs := thV (fun k => decide (k ∈ ks))) (i := ((a : Nat) : Int).toNat) (v := .bool true) ?_ sc4 Reads.buf (by rw [Int.toNat_natCast, thV_get (by omega)]; exact congrArg (fun b => some (Value.bool b)) (decide_eq_true hin))
          refine .neB ?_ bk4
          refine .move ?_
          refine .cast (d := 104) (u := .bool false) rfl (congrArg Value.bool (by first | rfl | (simp; done) | (simp; omega) | omega)) ?_
          refine .gT ?_
          refine .move ?_
          refine .gT ?_
          refine .move ?_
          refine .gT ?_
          refine .idx1 ?_ so97
          refine .gT ?_
          refine .ldR (R := buf b39 4 26 (thV (fun k => decide (k ∈ ks)))) (xs := thV (fun k => decide (k ∈ ks))) (i := ((a : Nat) : Int).toNat) (v := .bool true) ?_ sc4 Reads.buf (by rw [Int.toNat_natCast, thV_get (by omega)]; exact congrArg (fun b => some (Value.bool b)) (decide_eq_true hin))
          refine .gT ?_
          refine .not ?_
          refine .gT ?_
          refine .move ?_
          refine .cast (d := 110) (u := .bool false) rfl (congrArg Value.bool (by first | rfl | (simp; done) | (simp; omega) | omega)) ?_
          refine .gF ?_
          refine .gF ?_
          refine .gT ?_
          refine .pickF ?_
          refine .pickF ?_
          refine .z ?_
          refine .condF rfl rfl ?_
          refine .skip (.next (.seq (.sr (.move (.move ?_)))))
          refine .idx1 ?_ so97
          refine .ldR (R := buf b39 4 26 (thV (fun k => decide (k ∈ ks)))) (xs := thV (fun k => decide (k ∈ ks))) (i := ((a : Nat) : Int).toNat) (v := .bool true) ?_ sc4 Reads.buf (by rw [Int.toNat_natCast, thV_get (by omega)]; exact congrArg (fun b => some (Value.bool b)) (decide_eq_true hin))
          refine .move ?_
          refine .cast (d := 119) (u := .bool true) rfl (congrArg Value.bool (by first | rfl | (simp; done) | (simp; omega) | omega)) ?_
          refine .gT ?_
          refine .move ?_
          refine .gT ?_
          refine .move ?_
          refine .gT ?_
          refine .nei ?_
          refine .pickT ?_
          refine .z ?_
          refine .condF rfl (congrArg Value.bool (by first | rfl | (simp; done) | (simp; omega) | omega)) ?_
          refine .skip (.next (.sr ?_))
          refine .to (A := buf b39 4 26 (thV (fun k => decide (k ∈ ks)))) (A' := buf b39 4 26 (thV (lM ks a b))) (fun h hh => by rw [thV_eq (m := lM ks a b) (m' := (fun k => decide (k ∈ ks))) (fun k _ => by subst hab; exact lM_same k)]; exact hh) ?_
          refine .move ?_
          refine .call (hc := Tryz.call51) (sp := fsList (f := f) (p := pD 500 40) (T := T) (path := [47, 100]) (i := 1) (z := (NodeT.dir sl).size) (sl := sl) p11_is.ok hL.ok (by decide) (ldD hL.d0 hL.d1) hL.d1) (h := ?_)
          rintro _ _ ⟨u, l, rfl, ⟨hlp, hls⟩, rfl⟩
          have hwl := want_list hL hlp hls
          rw [hwl]
          obtain ⟨W, hW⟩ : ∃ W, (wantK (lM ks a b) 26).map nmL = W := ⟨_, rfl⟩
          rw [hW]
          refine .fact (rowR_shape (el := 9) (size := 1) (v := u) (k := W.length) (xs := svs W)) (fun ⟨A3, cc, hu, hR3, hc1, hc2, hlen⟩ => ?_)
          subst hu
          refine .move ?_
          refine .extract ?_
          refine .extract ?_
          refine .assign (.assign (.x (.assign ?_)))
          refine .emp (rowR.nil (e := 9) (size := 1) _) ?_
          refine .z (.seq (.sr (.assign (.z (.block ?_)))))
          refine .loopA (σ := Nat × Value) (fun y => [(11, .slice (some ⟨b39, 0, none⟩) 26 26), (18, .slice A3 W.length cc), (19, .int .i64 0), (20, y.2), (21, .int .i64 ((y.1 : Nat) : Int))]) (fun y => [rowR 9 1 y.2 (wantK (lM ks a b) y.1).length (svs ((wantK (lM ks a b) y.1).map nmL)), rowR 9 1 (.slice A3 W.length cc) W.length (svs W), buf b39 4 26 (thV (lM ks a b)), R] ++ F) (fun y => y.1 ≤ 26) (fun y => 26 - y.1) (0, .slice none 0 0) (Nat.zero_le _) ?_
          rintro y hk
          obtain ⟨k, o⟩ := y
          simp only at hk ⊢
          refine .seq (.sr (.move ?_))
          refine .lss ?_
          refine .z ?_
          refine .cond rfl (fun hb2 => ?_) (fun hb2 => ?_)
          · have hlt2 : k < 26 := by have h : (k : Int) < 26 := of_decide_eq_true hb2; omega
            have hfw := wantK_few (lM ks a b) k
            cases hmk : lM ks a b k with
            | false =>
              refine .skip (.next (.seq (.block (.sr (.move (.move ?_))))))
              refine .idx1 ?_ so97
              refine .ldR (R := buf b39 4 26 (thV (lM ks a b))) (xs := thV (lM ks a b)) (i := ((k : Nat) : Int).toNat) (v := .bool false) ?_ sc4 Reads.buf (by rw [Int.toNat_natCast, thV_get (by omega)]; exact congrArg (fun b => some (Value.bool b)) (hmk))
              refine .z ?_
              refine .condF rfl rfl ?_
              refine .skip (.blockNormal (.next (.region (.move ?_))))
              refine .add ?_
              refine .assign (.nil ?_)
              refine .to (A := rowR 9 1 o (wantK (lM ks a b) k).length (svs ((wantK (lM ks a b) k).map nmL))) (A' := rowR 9 1 o (wantK (lM ks a b) (k + 1)).length (svs ((wantK (lM ks a b) (k + 1)).map nmL))) (fun h hh => by rw [wantK_no hmk]; exact hh) ?_
              refine .cast (d := 21) (u := .int .i64 ((k + 1 : Nat) : Int)) rfl (congrArg (Value.int .i64) (by omega)) ?_
              exact .back (k + 1, o) (by show k + 1 ≤ 26; omega) (by show 26 - (k + 1) < 26 - k; omega)
            | true =>
              refine .skip (.next (.seq (.block (.sr (.move (.move ?_))))))
              refine .idx1 ?_ so97
              refine .ldR (R := buf b39 4 26 (thV (lM ks a b))) (xs := thV (lM ks a b)) (i := ((k : Nat) : Int).toNat) (v := .bool true) ?_ sc4 Reads.buf (by rw [Int.toNat_natCast, thV_get (by omega)]; exact congrArg (fun b => some (Value.bool b)) (hmk))
              refine .z ?_
              refine .condT rfl rfl ?_
              refine .region (.move (.move ?_))
              refine .add ?_
              refine .cvt ?_ un3 un5
              refine .cast (d := 146) (u := bv (UInt8.ofNat (97 + k))) rfl (congrArg (Value.int .u8) (by rw [UInt8.toNat_ofNat', IntWalk.u8_in _ (by omega)]; omega)) ?_
              refine .buildS (fun b147 => ?_) (bs1L _)
              refine .to (A' := buf b147 5 1 (bvs [UInt8.ofNat (97 + k)])) (buf_of_pt rfl) ?_
              refine .cvtBS (xs := [UInt8.ofNat (97 + k)]) ?_ by33 st9 Reads.buf rfl
              refine .cast (d := 148) (u := sv (nmL k)) rfl rfl ?_
              refine .buildS (fun b149 => ?_) (bsSn _)
              refine .append (m := 1) (news := [sv (nmL k)]) so92 (by decide) (by repeat (first | exact .here | apply Rem.there | apply Repl.there | apply Mem.there)) Reads.pt (by repeat (first | exact .here | apply Rem.there | apply Repl.there | apply Mem.there)) rfl (by intro x hx; simp only [List.mem_cons, List.not_mem_nil, or_false] at hx; subst hx; rfl) (by show (wantK (lM ks a b) k).length + 1 ≤ maxLen; unfold maxLen; omega) (by show ((wantK (lM ks a b) k).length + 1) * _ ≤ _; omega) ⟨_, z9, rfl⟩ (fun u2 hu2 => ?_)
              refine .assign (.nil (.blockNormal (.next (.region (.move ?_)))))
              refine .add ?_
              refine .assign (.nil ?_)
              refine .to (A := rowR 9 1 u2 ((wantK (lM ks a b) k).length + 1) (svs ((wantK (lM ks a b) k).map nmL) ++ [sv (nmL k)])) (A' := rowR 9 1 u2 (wantK (lM ks a b) (k + 1)).length (svs ((wantK (lM ks a b) (k + 1)).map nmL))) (fun h hh => by rw [wantK_yes hmk, List.length_append, List.map_append]; unfold svs at hh ⊢; rw [List.map_append]; exact hh) ?_
              refine .cast (d := 21) (u := .int .i64 ((k + 1 : Nat) : Int)) rfl (congrArg (Value.int .i64) (by omega)) ?_
              exact .back (k + 1, u2) (by show k + 1 ≤ 26; omega) (by show 26 - (k + 1) < 26 - k; omega)
          · have hge2 : k = 26 := by have h : ¬ (k : Int) < 26 := of_decide_eq_false hb2; omega
            subst hge2
            have hWl : (wantK (lM ks a b) 26).length = W.length := by rw [← hW, List.length_map]
            rw [hW, hWl]
            refine .fact (rowR_shape (el := 9) (size := 1) (v := o) (k := W.length) (xs := svs W)) (fun ⟨A4, c4, hu4, hR4, hc3, hc4, hlen4⟩ => ?_)
            subst hu4
            have hWf := wantK_few (lM ks a b) 26
            refine .exit (.thenExit (.thenExit (.blockExit (?_))))
            refine .next (.sr (.move ?_))
            refine .eqi ?_
            refine .move ?_
            refine .cast (d := 153) (u := .bool true) rfl (congrArg Value.bool (by first | rfl | (simp; done) | (simp; omega) | omega)) ?_
            refine .gT ?_
            refine .move ?_
            refine .gT ?_
            refine .move ?_
            refine .gT ?_
            refine .call (hc := Tryz.call53) (sp := alikeTexts (R := rowR 9 1 (.slice A3 W.length cc) W.length (svs W)) (R' := rowR 9 1 (.slice A4 W.length c4) W.length (svs W)) (xs := W) (n := W.length) (.inr hR3) (.inr hR4) rfl (by omega)) (h := ?_)
            rintro _ _ ⟨rfl, rfl⟩
            refine .pickT ?_
            refine .move ?_
            refine .gT ?_
            refine .call (hc := Tryz.call45) (sp := l10Awake) (h := ?_)
            rintro _ _ ⟨rfl, hM⟩
            obtain rfl := hM.symm
            refine .pickT ?_
            refine .assign (.z ?_)
            refine .ret (?_)
            exact .ret1 (h1 := .tmp (t := 6) rfl) ⟨_, ⟨rfl, rfl⟩, Am.auto⟩
        · refine .move ?_
          refine .eqi ?_
          refine .move (.move ?_)
          refine .idx1 ?_ so97
          refine .ldR (R := buf b39 4 26 (thV (fun k => decide (k ∈ ks)))) (xs := thV (fun k => decide (k ∈ ks))) (i := ((a : Nat) : Int).toNat) (v := .bool true) ?_ sc4 Reads.buf (by rw [Int.toNat_natCast, thV_get (by omega)]; exact congrArg (fun b => some (Value.bool b)) (decide_eq_true hin))
          refine .neB ?_ bk4
          refine .move ?_
          refine .cast (d := 104) (u := .bool false) rfl (congrArg Value.bool (by first | rfl | (simp; done) | (simp; omega) | omega)) ?_
          refine .gT ?_
          refine .move ?_
          refine .gT ?_
          refine .move ?_
          refine .gT ?_
          refine .idx1 ?_ so97
          refine .gT ?_
          refine .ldR (R := buf b39 4 26 (thV (fun k => decide (k ∈ ks)))) (xs := thV (fun k => decide (k ∈ ks))) (i := ((a : Nat) : Int).toNat) (v := .bool true) ?_ sc4 Reads.buf (by rw [Int.toNat_natCast, thV_get (by omega)]; exact congrArg (fun b => some (Value.bool b)) (decide_eq_true hin))
          refine .gT ?_
          refine .not ?_
          refine .gT ?_
          refine .move ?_
          refine .cast (d := 110) (u := .bool false) rfl (congrArg Value.bool (by first | rfl | (simp; done) | (simp; omega) | omega)) ?_
          refine .gF ?_
          refine .gF ?_
          refine .gT ?_
          refine .pickF ?_
          refine .pickF ?_
          refine .z ?_
          refine .condF rfl rfl ?_
          refine .skip (.next (.seq (.sr (.move (.move ?_)))))
          refine .idx1 ?_ so97
          refine .ldR (R := buf b39 4 26 (thV (fun k => decide (k ∈ ks)))) (xs := thV (fun k => decide (k ∈ ks))) (i := ((a : Nat) : Int).toNat) (v := .bool true) ?_ sc4 Reads.buf (by rw [Int.toNat_natCast, thV_get (by omega)]; exact congrArg (fun b => some (Value.bool b)) (decide_eq_true hin))
          refine .move ?_
          refine .cast (d := 119) (u := .bool true) rfl (congrArg Value.bool (by first | rfl | (simp; done) | (simp; omega) | omega)) ?_
          refine .gT ?_
          refine .move ?_
          refine .gT ?_
          refine .move ?_
          refine .gT ?_
          refine .nei ?_
          refine .pickT ?_
          refine .z ?_
          refine .condT rfl (congrArg Value.bool (by first | rfl | (simp; done) | (simp; omega) | omega)) ?_
          refine .sr (.move (.move ?_))
          refine .idx1 ?_ so97
          refine .stB (i := 0 + ((a : Nat) : Int).toNat) (xs := thV (fun k => decide (k ∈ ks))) ?_ sc4 (by rw [Nat.zero_add, Int.toNat_natCast, thV_length]; omega)
          refine .to (A := buf b39 4 26 ((thV (fun k => decide (k ∈ ks))).set (0 + ((a : Nat) : Int).toNat) (.bool false))) (A' := buf b39 4 26 (thV (fun k => decide (k ∈ ks) && decide (k ≠ a)))) (fun h hh => by rw [Nat.zero_add, Int.toNat_natCast] at hh; rw [← thV_set (m := (fun k => decide (k ∈ ks))) (m' := (fun k => decide (k ∈ ks) && decide (k ≠ a))) (k := a) (b := false) (by simp) (fun j _ hj => by simp [hj])]; exact hh) ?_
          refine .y (.move (.move ?_))
          refine .idx1 ?_ so97
          refine .stB (i := 0 + ((b : Nat) : Int).toNat) (xs := thV (fun k => decide (k ∈ ks) && decide (k ≠ a))) ?_ sc4 (by rw [Nat.zero_add, Int.toNat_natCast, thV_length]; omega)
          refine .to (A := buf b39 4 26 ((thV (fun k => decide (k ∈ ks) && decide (k ≠ a))).set (0 + ((b : Nat) : Int).toNat) (.bool true))) (A' := buf b39 4 26 (thV (lM ks a b))) (fun h hh => by rw [Nat.zero_add, Int.toNat_natCast] at hh; rw [← thV_set (m := (fun k => decide (k ∈ ks) && decide (k ≠ a))) (m' := lM ks a b) (k := b) (b := true) (by unfold lM; rw [if_pos hin]; simp) (fun j _ hj => by unfold lM; rw [if_pos hin]; simp [hj])]; exact hh) ?_
          refine .x (.move ?_)
          refine .call (hc := Tryz.call51) (sp := fsList (f := f) (p := pD 500 40) (T := T) (path := [47, 100]) (i := 1) (z := (NodeT.dir sl).size) (sl := sl) p11_is.ok hL.ok (by decide) (ldD hL.d0 hL.d1) hL.d1) (h := ?_)
          rintro _ _ ⟨u, l, rfl, ⟨hlp, hls⟩, rfl⟩
          have hwl := want_list hL hlp hls
          rw [hwl]
          obtain ⟨W, hW⟩ : ∃ W, (wantK (lM ks a b) 26).map nmL = W := ⟨_, rfl⟩
          rw [hW]
          refine .fact (rowR_shape (el := 9) (size := 1) (v := u) (k := W.length) (xs := svs W)) (fun ⟨A3, cc, hu, hR3, hc1, hc2, hlen⟩ => ?_)
          subst hu
          refine .move ?_
          refine .extract ?_
          refine .extract ?_
          refine .assign (.assign (.x (.assign ?_)))
          refine .emp (rowR.nil (e := 9) (size := 1) _) ?_
          refine .z (.seq (.sr (.assign (.z (.block ?_)))))
          refine .loopA (σ := Nat × Value) (fun y => [(11, .slice (some ⟨b39, 0, none⟩) 26 26), (18, .slice A3 W.length cc), (19, .int .i64 0), (20, y.2), (21, .int .i64 ((y.1 : Nat) : Int))]) (fun y => [rowR 9 1 y.2 (wantK (lM ks a b) y.1).length (svs ((wantK (lM ks a b) y.1).map nmL)), rowR 9 1 (.slice A3 W.length cc) W.length (svs W), buf b39 4 26 (thV (lM ks a b)), R] ++ F) (fun y => y.1 ≤ 26) (fun y => 26 - y.1) (0, .slice none 0 0) (Nat.zero_le _) ?_
          rintro y hk
          obtain ⟨k, o⟩ := y
          simp only at hk ⊢
          refine .seq (.sr (.move ?_))
          refine .lss ?_
          refine .z ?_
          refine .cond rfl (fun hb2 => ?_) (fun hb2 => ?_)
          · have hlt2 : k < 26 := by have h : (k : Int) < 26 := of_decide_eq_true hb2; omega
            have hfw := wantK_few (lM ks a b) k
            cases hmk : lM ks a b k with
            | false =>
              refine .skip (.next (.seq (.block (.sr (.move (.move ?_))))))
              refine .idx1 ?_ so97
              refine .ldR (R := buf b39 4 26 (thV (lM ks a b))) (xs := thV (lM ks a b)) (i := ((k : Nat) : Int).toNat) (v := .bool false) ?_ sc4 Reads.buf (by rw [Int.toNat_natCast, thV_get (by omega)]; exact congrArg (fun b => some (Value.bool b)) (hmk))
              refine .z ?_
              refine .condF rfl rfl ?_
              refine .skip (.blockNormal (.next (.region (.move ?_))))
              refine .add ?_
              refine .assign (.nil ?_)
              refine .to (A := rowR 9 1 o (wantK (lM ks a b) k).length (svs ((wantK (lM ks a b) k).map nmL))) (A' := rowR 9 1 o (wantK (lM ks a b) (k + 1)).length (svs ((wantK (lM ks a b) (k + 1)).map nmL))) (fun h hh => by rw [wantK_no hmk]; exact hh) ?_
              refine .cast (d := 21) (u := .int .i64 ((k + 1 : Nat) : Int)) rfl (congrArg (Value.int .i64) (by omega)) ?_
              exact .back (k + 1, o) (by show k + 1 ≤ 26; omega) (by show 26 - (k + 1) < 26 - k; omega)
            | true =>
              refine .skip (.next (.seq (.block (.sr (.move (.move ?_))))))
              refine .idx1 ?_ so97
              refine .ldR (R := buf b39 4 26 (thV (lM ks a b))) (xs := thV (lM ks a b)) (i := ((k : Nat) : Int).toNat) (v := .bool true) ?_ sc4 Reads.buf (by rw [Int.toNat_natCast, thV_get (by omega)]; exact congrArg (fun b => some (Value.bool b)) (hmk))
              refine .z ?_
              refine .condT rfl rfl ?_
              refine .region (.move (.move ?_))
              refine .add ?_
              refine .cvt ?_ un3 un5
              refine .cast (d := 146) (u := bv (UInt8.ofNat (97 + k))) rfl (congrArg (Value.int .u8) (by rw [UInt8.toNat_ofNat', IntWalk.u8_in _ (by omega)]; omega)) ?_
              refine .buildS (fun b147 => ?_) (bs1L _)
              refine .to (A' := buf b147 5 1 (bvs [UInt8.ofNat (97 + k)])) (buf_of_pt rfl) ?_
              refine .cvtBS (xs := [UInt8.ofNat (97 + k)]) ?_ by33 st9 Reads.buf rfl
              refine .cast (d := 148) (u := sv (nmL k)) rfl rfl ?_
              refine .buildS (fun b149 => ?_) (bsSn _)
              refine .append (m := 1) (news := [sv (nmL k)]) so92 (by decide) (by repeat (first | exact .here | apply Rem.there | apply Repl.there | apply Mem.there)) Reads.pt (by repeat (first | exact .here | apply Rem.there | apply Repl.there | apply Mem.there)) rfl (by intro x hx; simp only [List.mem_cons, List.not_mem_nil, or_false] at hx; subst hx; rfl) (by show (wantK (lM ks a b) k).length + 1 ≤ maxLen; unfold maxLen; omega) (by show ((wantK (lM ks a b) k).length + 1) * _ ≤ _; omega) ⟨_, z9, rfl⟩ (fun u2 hu2 => ?_)
              refine .assign (.nil (.blockNormal (.next (.region (.move ?_)))))
              refine .add ?_
              refine .assign (.nil ?_)
              refine .to (A := rowR 9 1 u2 ((wantK (lM ks a b) k).length + 1) (svs ((wantK (lM ks a b) k).map nmL) ++ [sv (nmL k)])) (A' := rowR 9 1 u2 (wantK (lM ks a b) (k + 1)).length (svs ((wantK (lM ks a b) (k + 1)).map nmL))) (fun h hh => by rw [wantK_yes hmk, List.length_append, List.map_append]; unfold svs at hh ⊢; rw [List.map_append]; exact hh) ?_
              refine .cast (d := 21) (u := .int .i64 ((k + 1 : Nat) : Int)) rfl (congrArg (Value.int .i64) (by omega)) ?_
              exact .back (k + 1, u2) (by show k + 1 ≤ 26; omega) (by show 26 - (k + 1) < 26 - k; omega)
          · have hge2 : k = 26 := by have h : ¬ (k : Int) < 26 := of_decide_eq_false hb2; omega
            subst hge2
            have hWl : (wantK (lM ks a b) 26).length = W.length := by rw [← hW, List.length_map]
            rw [hW, hWl]
            refine .fact (rowR_shape (el := 9) (size := 1) (v := o) (k := W.length) (xs := svs W)) (fun ⟨A4, c4, hu4, hR4, hc3, hc4, hlen4⟩ => ?_)
            subst hu4
            have hWf := wantK_few (lM ks a b) 26
            refine .exit (.thenExit (.thenExit (.blockExit (?_))))
            refine .next (.sr (.move ?_))
            refine .eqi ?_
            refine .move ?_
            refine .cast (d := 153) (u := .bool true) rfl (congrArg Value.bool (by first | rfl | (simp; done) | (simp; omega) | omega)) ?_
            refine .gT ?_
            refine .move ?_
            refine .gT ?_
            refine .move ?_
            refine .gT ?_
            refine .call (hc := Tryz.call53) (sp := alikeTexts (R := rowR 9 1 (.slice A3 W.length cc) W.length (svs W)) (R' := rowR 9 1 (.slice A4 W.length c4) W.length (svs W)) (xs := W) (n := W.length) (.inr hR3) (.inr hR4) rfl (by omega)) (h := ?_)
            rintro _ _ ⟨rfl, rfl⟩
            refine .pickT ?_
            refine .move ?_
            refine .gT ?_
            refine .call (hc := Tryz.call45) (sp := l10Awake) (h := ?_)
            rintro _ _ ⟨rfl, hM⟩
            obtain rfl := hM.symm
            refine .pickT ?_
            refine .assign (.z ?_)
            refine .ret (?_)
            exact .ret1 (h1 := .tmp (t := 6) rfl) ⟨_, ⟨rfl, rfl⟩, Am.auto⟩
      · rw [if_neg hin]
        refine .move ?_
        refine .eqi ?_
        refine .move (.move ?_)
        refine .idx1 ?_ so97
        refine .ldR (R := buf b39 4 26 (thV (fun k => decide (k ∈ ks)))) (xs := thV (fun k => decide (k ∈ ks))) (i := ((a : Nat) : Int).toNat) (v := .bool false) ?_ sc4 Reads.buf (by rw [Int.toNat_natCast, thV_get (by omega)]; exact congrArg (fun b => some (Value.bool b)) (decide_eq_false hin))
        refine .neB ?_ bk4
        refine .move ?_
        refine .cast (d := 104) (u := .bool false) rfl (congrArg Value.bool (by first | rfl | (simp; done) | (simp; omega) | omega)) ?_
        refine .gT ?_
        refine .move ?_
        refine .gT ?_
        refine .move ?_
        refine .gT ?_
        refine .idx1 ?_ so97
        refine .gT ?_
        refine .ldR (R := buf b39 4 26 (thV (fun k => decide (k ∈ ks)))) (xs := thV (fun k => decide (k ∈ ks))) (i := ((a : Nat) : Int).toNat) (v := .bool false) ?_ sc4 Reads.buf (by rw [Int.toNat_natCast, thV_get (by omega)]; exact congrArg (fun b => some (Value.bool b)) (decide_eq_false hin))
        refine .gT ?_
        refine .not ?_
        refine .gT ?_
        refine .move ?_
        refine .cast (d := 110) (u := .bool true) rfl (congrArg Value.bool (by first | rfl | (simp; done) | (simp; omega) | omega)) ?_
        refine .gT ?_
        refine .move ?_
        refine .gT ?_
        refine .nei ?_
        refine .gT ?_
        refine .pickT ?_
        refine .pickF ?_
        refine .z ?_
        refine .condF rfl (congrArg Value.bool (by first | rfl | (simp; done) | (simp; omega) | omega)) ?_
        refine .skip (.next (.seq (.sr (.move (.move ?_)))))
        refine .idx1 ?_ so97
        refine .ldR (R := buf b39 4 26 (thV (fun k => decide (k ∈ ks)))) (xs := thV (fun k => decide (k ∈ ks))) (i := ((a : Nat) : Int).toNat) (v := .bool false) ?_ sc4 Reads.buf (by rw [Int.toNat_natCast, thV_get (by omega)]; exact congrArg (fun b => some (Value.bool b)) (decide_eq_false hin))
        refine .move ?_
        refine .cast (d := 119) (u := .bool false) rfl (congrArg Value.bool (by first | rfl | (simp; done) | (simp; omega) | omega)) ?_
        refine .gF ?_
        refine .gF ?_
        refine .gF ?_
        refine .pickF ?_
        refine .z ?_
        refine .condF rfl rfl ?_
        refine .skip (.next (.sr ?_))
        refine .to (A := buf b39 4 26 (thV (fun k => decide (k ∈ ks)))) (A' := buf b39 4 26 (thV (lM ks a b))) (fun h hh => by rw [thV_eq (m := lM ks a b) (m' := (fun k => decide (k ∈ ks))) (fun k _ => by unfold lM; rw [if_neg hin])]; exact hh) ?_
        refine .move ?_
        refine .call (hc := Tryz.call51) (sp := fsList (f := f) (p := pD 500 40) (T := T) (path := [47, 100]) (i := 1) (z := (NodeT.dir sl).size) (sl := sl) p11_is.ok hL.ok (by decide) (ldD hL.d0 hL.d1) hL.d1) (h := ?_)
        rintro _ _ ⟨u, l, rfl, ⟨hlp, hls⟩, rfl⟩
        have hwl := want_list hL hlp hls
        rw [hwl]
        obtain ⟨W, hW⟩ : ∃ W, (wantK (lM ks a b) 26).map nmL = W := ⟨_, rfl⟩
        rw [hW]
        refine .fact (rowR_shape (el := 9) (size := 1) (v := u) (k := W.length) (xs := svs W)) (fun ⟨A3, cc, hu, hR3, hc1, hc2, hlen⟩ => ?_)
        subst hu
        refine .move ?_
        refine .extract ?_
        refine .extract ?_
        refine .assign (.assign (.x (.assign ?_)))
        refine .emp (rowR.nil (e := 9) (size := 1) _) ?_
        refine .z (.seq (.sr (.assign (.z (.block ?_)))))
        refine .loopA (σ := Nat × Value) (fun y => [(11, .slice (some ⟨b39, 0, none⟩) 26 26), (18, .slice A3 W.length cc), (19, .int .i64 0), (20, y.2), (21, .int .i64 ((y.1 : Nat) : Int))]) (fun y => [rowR 9 1 y.2 (wantK (lM ks a b) y.1).length (svs ((wantK (lM ks a b) y.1).map nmL)), rowR 9 1 (.slice A3 W.length cc) W.length (svs W), buf b39 4 26 (thV (lM ks a b)), R] ++ F) (fun y => y.1 ≤ 26) (fun y => 26 - y.1) (0, .slice none 0 0) (Nat.zero_le _) ?_
        rintro y hk
        obtain ⟨k, o⟩ := y
        simp only at hk ⊢
        refine .seq (.sr (.move ?_))
        refine .lss ?_
        refine .z ?_
        refine .cond rfl (fun hb2 => ?_) (fun hb2 => ?_)
        · have hlt2 : k < 26 := by have h : (k : Int) < 26 := of_decide_eq_true hb2; omega
          have hfw := wantK_few (lM ks a b) k
          cases hmk : lM ks a b k with
          | false =>
            refine .skip (.next (.seq (.block (.sr (.move (.move ?_))))))
            refine .idx1 ?_ so97
            refine .ldR (R := buf b39 4 26 (thV (lM ks a b))) (xs := thV (lM ks a b)) (i := ((k : Nat) : Int).toNat) (v := .bool false) ?_ sc4 Reads.buf (by rw [Int.toNat_natCast, thV_get (by omega)]; exact congrArg (fun b => some (Value.bool b)) (hmk))
            refine .z ?_
            refine .condF rfl rfl ?_
            refine .skip (.blockNormal (.next (.region (.move ?_))))
            refine .add ?_
            refine .assign (.nil ?_)
            refine .to (A := rowR 9 1 o (wantK (lM ks a b) k).length (svs ((wantK (lM ks a b) k).map nmL))) (A' := rowR 9 1 o (wantK (lM ks a b) (k + 1)).length (svs ((wantK (lM ks a b) (k + 1)).map nmL))) (fun h hh => by rw [wantK_no hmk]; exact hh) ?_
            refine .cast (d := 21) (u := .int .i64 ((k + 1 : Nat) : Int)) rfl (congrArg (Value.int .i64) (by omega)) ?_
            exact .back (k + 1, o) (by show k + 1 ≤ 26; omega) (by show 26 - (k + 1) < 26 - k; omega)
          | true =>
            refine .skip (.next (.seq (.block (.sr (.move (.move ?_))))))
            refine .idx1 ?_ so97
            refine .ldR (R := buf b39 4 26 (thV (lM ks a b))) (xs := thV (lM ks a b)) (i := ((k : Nat) : Int).toNat) (v := .bool true) ?_ sc4 Reads.buf (by rw [Int.toNat_natCast, thV_get (by omega)]; exact congrArg (fun b => some (Value.bool b)) (hmk))
            refine .z ?_
            refine .condT rfl rfl ?_
            refine .region (.move (.move ?_))
            refine .add ?_
            refine .cvt ?_ un3 un5
            refine .cast (d := 146) (u := bv (UInt8.ofNat (97 + k))) rfl (congrArg (Value.int .u8) (by rw [UInt8.toNat_ofNat', IntWalk.u8_in _ (by omega)]; omega)) ?_
            refine .buildS (fun b147 => ?_) (bs1L _)
            refine .to (A' := buf b147 5 1 (bvs [UInt8.ofNat (97 + k)])) (buf_of_pt rfl) ?_
            refine .cvtBS (xs := [UInt8.ofNat (97 + k)]) ?_ by33 st9 Reads.buf rfl
            refine .cast (d := 148) (u := sv (nmL k)) rfl rfl ?_
            refine .buildS (fun b149 => ?_) (bsSn _)
            refine .append (m := 1) (news := [sv (nmL k)]) so92 (by decide) (by repeat (first | exact .here | apply Rem.there | apply Repl.there | apply Mem.there)) Reads.pt (by repeat (first | exact .here | apply Rem.there | apply Repl.there | apply Mem.there)) rfl (by intro x hx; simp only [List.mem_cons, List.not_mem_nil, or_false] at hx; subst hx; rfl) (by show (wantK (lM ks a b) k).length + 1 ≤ maxLen; unfold maxLen; omega) (by show ((wantK (lM ks a b) k).length + 1) * _ ≤ _; omega) ⟨_, z9, rfl⟩ (fun u2 hu2 => ?_)
            refine .assign (.nil (.blockNormal (.next (.region (.move ?_)))))
            refine .add ?_
            refine .assign (.nil ?_)
            refine .to (A := rowR 9 1 u2 ((wantK (lM ks a b) k).length + 1) (svs ((wantK (lM ks a b) k).map nmL) ++ [sv (nmL k)])) (A' := rowR 9 1 u2 (wantK (lM ks a b) (k + 1)).length (svs ((wantK (lM ks a b) (k + 1)).map nmL))) (fun h hh => by rw [wantK_yes hmk, List.length_append, List.map_append]; unfold svs at hh ⊢; rw [List.map_append]; exact hh) ?_
            refine .cast (d := 21) (u := .int .i64 ((k + 1 : Nat) : Int)) rfl (congrArg (Value.int .i64) (by omega)) ?_
            exact .back (k + 1, u2) (by show k + 1 ≤ 26; omega) (by show 26 - (k + 1) < 26 - k; omega)
        · have hge2 : k = 26 := by have h : ¬ (k : Int) < 26 := of_decide_eq_false hb2; omega
          subst hge2
          have hWl : (wantK (lM ks a b) 26).length = W.length := by rw [← hW, List.length_map]
          rw [hW, hWl]
          refine .fact (rowR_shape (el := 9) (size := 1) (v := o) (k := W.length) (xs := svs W)) (fun ⟨A4, c4, hu4, hR4, hc3, hc4, hlen4⟩ => ?_)
          subst hu4
          have hWf := wantK_few (lM ks a b) 26
          refine .exit (.thenExit (.thenExit (.blockExit (?_))))
          refine .next (.sr (.move ?_))
          refine .eqi ?_
          refine .move ?_
          refine .cast (d := 153) (u := .bool true) rfl (congrArg Value.bool (by first | rfl | (simp; done) | (simp; omega) | omega)) ?_
          refine .gT ?_
          refine .move ?_
          refine .gT ?_
          refine .move ?_
          refine .gT ?_
          refine .call (hc := Tryz.call53) (sp := alikeTexts (R := rowR 9 1 (.slice A3 W.length cc) W.length (svs W)) (R' := rowR 9 1 (.slice A4 W.length c4) W.length (svs W)) (xs := W) (n := W.length) (.inr hR3) (.inr hR4) rfl (by omega)) (h := ?_)
          rintro _ _ ⟨rfl, rfl⟩
          refine .pickT ?_
          refine .move ?_
          refine .gT ?_
          refine .call (hc := Tryz.call45) (sp := l10Awake) (h := ?_)
          rintro _ _ ⟨rfl, hM⟩
          obtain rfl := hM.symm
          refine .pickT ?_
          refine .assign (.z ?_)
          refine .ret (?_)
          exact .ret1 (h1 := .tmp (t := 6) rfl) ⟨_, ⟨rfl, rfl⟩, Am.auto⟩
end Go.Proofs.YtdmjkjeoamiedaaGreatDoor
end
