/- A part of the proof of lawPlays: texts of this work put together. -/
import Derived.Test.YtdmjkjeoamiedaaGreatQa3
import Derived.KernelRfl
import Derived.Shelf.SlSortCmp.NoneTotal
import Derived.Laws.Cover1
import Derived.Sort.Walk0
import Derived.WalkKit
import Derived.Defers
set_option linter.unusedVariables false
set_option linter.unusedSimpArgs false
set_option linter.unusedSectionVars false
section
namespace Go.Proofs.YtdmjkjeoamiedaaGreat
open Go
theorem zv85 : zvOf Tryz.prog 85 = some (.agg (#[.int .i64 0, .int .i64 0])) := by kernel_rfl
theorem z85 : zeroOf Tryz.prog 85 = some (#[.int .i64 0, .int .i64 0]) := by kernel_rfl
theorem agg85 : aggOk Tryz.prog 85 2 = true := by kernel_rfl
theorem fo85_1 : fieldOk Tryz.prog 85 1 1 = true := by kernel_rfl
theorem fo85_0 : fieldOk Tryz.prog 85 0 0 = true := by kernel_rfl
theorem nReady {s a c : Nat} {p : Pl} {F0 Fm : FM} {W : Nat} {op : Bool} : Spec Tryz.prog 86 #[.pointer (some ⟨s, 0, none⟩)] [IN s a c p F0 Fm W op] fun G v M => v = .bool op ∧ M = IN s a c p F0 Fm W op :: G := by
  refine Spec.opens (IN.opens s a c p F0 Fm W op) fun y hy => ((inReady (s := s) (c := c) (a := a) (n := p.n) (p := p) (V0 := y.1) (V := y.2.1) (D := y.2.2) (op := op)).mid).post ?_
  rintro G v M ⟨rfl, rfl⟩
  exact ⟨_, ⟨rfl, rfl⟩, Wk.trans (Am.wk Am.auto) (Wk.shutR (M := G) (IN.opens s a c p F0 Fm W op) y hy)⟩
def FindErr (nm : Bytes) (F : FM) (d : Int) (e : Int) : Prop :=
  (nameOk nm = false ∧ e = 1) ∨ (nameOk nm = true ∧ fileAt F d = none ∧ e = 4) ∨ (nameOk nm = true ∧ (∃ k b, 0 ≤ d ∧ F d.toNat = some (k, b) ∧ k ≠ 2) ∧ e = 6)
def ChgErr (op : Bool) (nm : Bytes) (F : FM) (d : Int) (e : Int) : Prop := (op = false ∧ e = 8) ∨ (op = true ∧ FindErr nm F d e)
theorem nameOk_len {nm : Bytes} (h : nameOk nm = true) : 1 ≤ nm.length ∧ nm.length ≤ 50 := by
  unfold nameOk at h
  simp only [Bool.and_eq_true, Bool.not_eq_true', decide_eq_false_iff_not, decide_eq_true_iff] at h
  obtain ⟨h1, h2, _⟩ := h
  refine ⟨?_, h2⟩
  cases nm with
  | nil => exact absurd rfl h1
  | cons _ _ => rw [List.length_cons]; omega
theorem dNamesNo {s a c : Nat} {p : Pl} {F0 Fm : FM} {W : Nat} {d : Int} {op : Bool} (ho : PlOk p) (hF : fileAt Fm d = none) : Spec Tryz.prog 47 #[.pointer (some ⟨s, 0, none⟩), .int .i64 d] [IN s a c p F0 Fm W op] fun G v M => v = .tuple #[.map none, .int .i64 0, .int .i64 4] ∧ M = IN s a c p F0 Fm W op :: G := by
  refine Spec.intro Tryz.func47 rfl rfl fun B F => ?_
  simp only [Tryz.ntmps47, List.cons_append, List.nil_append, env0, Nat.reduceAdd]
  refine .sr (.assign (.assign (.assign (.x (.move (.move ?_))))))
  refine .call (hc := Tryz.call24) (sp := nStatNo (s := s) (a := a) (c := c) (p := p) (F0 := F0) (F := Fm) (W := W) (op := op) (i := d) ho hF) (h := ?_)
  rintro _ _ ⟨rfl, rfl⟩
  refine .move ?_
  refine .extract ?_
  refine .extract ?_
  refine .alloc z54 fun b7 => ?_
  refine .stV ?_ agg54
  refine .assign (.z (.seq (.sr (.move ?_))))
  refine .nei ?_
  refine .z ?_
  refine .condT rfl rfl ?_
  refine .sr (.move (.assign (.assign (.assign (.z ?_)))))
  refine .ret (.thenRet (?_))
  exact .ret3 (h1 := .tmp (t := 4) rfl) (h2 := .tmp (t := 5) rfl) (h3 := .tmp (t := 6) rfl) ⟨_, ⟨rfl, rfl⟩, Am.auto⟩
theorem dNamesKind {s a c : Nat} {p : Pl} {F0 Fm : FM} {W : Nat} {d k : Nat} {b : Bytes} {op : Bool} (ho : PlOk p) (hF : Fm d = some (k, b)) (hk : k ≠ 2) : Spec Tryz.prog 47 #[.pointer (some ⟨s, 0, none⟩), nI d] [IN s a c p F0 Fm W op] fun G v M => v = .tuple #[.map none, .int .i64 0, .int .i64 6] ∧ M = IN s a c p F0 Fm W op :: G := by
  refine Spec.intro Tryz.func47 rfl rfl fun B F => ?_
  simp only [Tryz.ntmps47, List.cons_append, List.nil_append, env0, Nat.reduceAdd]
  refine .sr (.assign (.assign (.assign (.x (.move (.move ?_))))))
  refine .call (hc := Tryz.call24) (sp := nStat (s := s) (a := a) (c := c) (p := p) (F0 := F0) (F := Fm) (W := W) (op := op) (i := d) (f := (k, b)) ho hF) (h := ?_)
  rintro _ _ ⟨rfl, rfl⟩
  refine .move ?_
  refine .extract ?_
  refine .extract ?_
  refine .alloc z54 fun b7 => ?_
  refine .stV ?_ agg54
  refine .assign (.z (.seq (.sr (.move ?_))))
  refine .nei ?_
  refine .z ?_
  refine .condF rfl rfl ?_
  refine .skip (.next (.seq (.sr ?_)))
  refine .fa ?_ fo54_0
  refine .ld ?_ sc3
  refine .nei ?_
  refine .z ?_
  refine .condT rfl (congrArg Value.bool (by first | (simp; done) | (simp; omega) | omega)) ?_
  refine .sr (.assign (.assign (.assign (.z ?_))))
  refine .ret (.thenRet (?_))
  exact .ret3 (h1 := .tmp (t := 4) rfl) (h2 := .tmp (t := 5) rfl) (h3 := .tmp (t := 6) rfl) ⟨_, ⟨rfl, rfl⟩, Am.auto⟩
theorem dNamesErr {s a c : Nat} {p : Pl} {F0 Fm : FM} {W : Nat} {d : Int} {op : Bool} {nm : Bytes} {e : Int} (ho : PlOk p) (hn : nameOk nm = true) (he : FindErr nm Fm d e) : Spec Tryz.prog 47 #[.pointer (some ⟨s, 0, none⟩), .int .i64 d] [IN s a c p F0 Fm W op] fun G v M => v = .tuple #[.map none, .int .i64 0, .int .i64 e] ∧ M = IN s a c p F0 Fm W op :: G := by
  rcases he with ⟨h, _⟩ | ⟨_, h, rfl⟩ | ⟨_, ⟨k, b, h0, h, hk⟩, rfl⟩
  · rw [hn] at h; cases h
  · exact dNamesNo ho h
  · have := dNamesKind (s := s) (a := a) (c := c) (F0 := F0) (W := W) (op := op) ho h hk
    rwa [show nI d.toNat = .int .i64 d from congrArg (Value.int .i64) (by omega)] at this
theorem dChg {s a c : Nat} {p : Pl} {F0 Fm : FM} {W : Nat} {d : Nat} {nm : Bytes} {sl : List Slot} (ho : PlOk p) (hn : nameOk nm = true) (hF : Fm d = some (2, dirB sl)) (hd : DirOk sl) (hsz : sl.length ≤ 1104) :
    Spec Tryz.prog 40 #[.pointer (some ⟨s, 0, none⟩), nI d, sv nm] [IN s a c p F0 Fm W true] fun G v M => ∃ mp es cl, v = .tuple #[.map (some mp), nI (64 * freeS sl), .int .i64 0] ∧ MapIs encK es cl (kvF sl sl.length) ∧ M = pt mp (.map es cl) :: IN s a c p F0 Fm W true :: G := by
  refine Spec.intro Tryz.func40 rfl rfl fun B F => ?_
  simp only [Tryz.ntmps40, List.cons_append, List.nil_append, env0, Nat.reduceAdd]
  refine .sr (.assign (.assign (.assign (.z (.seq (.sr (.move ?_)))))))
  refine .call (hc := Tryz.call86) (sp := nReady (s := s) (a := a) (c := c) (p := p) (F0 := F0) (Fm := Fm) (W := W) (op := true)) (h := ?_)
  rintro _ _ ⟨rfl, rfl⟩
  refine .not ?_
  refine .z ?_
  refine .condF rfl rfl ?_
  refine .skip (.next (.seq (.sr (.move ?_))))
  refine .call (hc := Tryz.call25) (sp := dName (xs := nm)) (h := ?_)
  rintro _ _ ⟨rfl, rfl⟩
  rw [hn]
  refine .not ?_
  refine .z ?_
  refine .condF rfl rfl ?_
  refine .skip (.next (.sr (.move (.move ?_))))
  refine .call (hc := Tryz.call47) (sp := dNames (s := s) (a := a) (c := c) (p := p) (F0 := F0) (Fm := Fm) (W := W) (d := d) (op := true) ho hF hd hsz) (h := ?_)
  rintro _ _ ⟨mp, es, cl, rfl, hm, rfl⟩
  refine .extract ?_
  refine .extract ?_
  refine .extract ?_
  refine .assign (.assign (.assign (.z ?_)))
  refine .ret (?_)
  exact .ret3 (h1 := .tmp (t := 6) rfl) (h2 := .tmp (t := 7) rfl) (h3 := .tmp (t := 8) rfl) ⟨_, ⟨mp, es, cl, rfl, hm, rfl⟩, Am.auto⟩
theorem dChgE {s a c : Nat} {p : Pl} {F0 Fm : FM} {W : Nat} {d : Int} {op : Bool} {nm : Bytes} {e : Int} (ho : PlOk p) (he : ChgErr op nm Fm d e) : Spec Tryz.prog 40 #[.pointer (some ⟨s, 0, none⟩), .int .i64 d, sv nm] [IN s a c p F0 Fm W op] fun G v M => v = .tuple #[.map none, .int .i64 0, .int .i64 e] ∧ M = IN s a c p F0 Fm W op :: G := by
  refine Spec.intro Tryz.func40 rfl rfl fun B F => ?_
  simp only [Tryz.ntmps40, List.cons_append, List.nil_append, env0, Nat.reduceAdd]
  rcases he with ⟨rfl, rfl⟩ | ⟨rfl, he⟩
  · refine .sr (.assign (.assign (.assign (.z (.seq (.sr (.move ?_)))))))
    refine .call (hc := Tryz.call86) (sp := nReady (s := s) (a := a) (c := c) (p := p) (F0 := F0) (Fm := Fm) (W := W) (op := false)) (h := ?_)
    rintro _ _ ⟨rfl, rfl⟩
    refine .not ?_
    refine .z ?_
    refine .condT rfl rfl ?_
    refine .sr (.assign (.assign (.assign (.z ?_))))
    refine .ret (.thenRet (?_))
    exact .ret3 (h1 := .tmp (t := 6) rfl) (h2 := .tmp (t := 7) rfl) (h3 := .tmp (t := 8) rfl) ⟨_, ⟨rfl, rfl⟩, Am.auto⟩
  · cases hn : nameOk nm
    · have he1 : e = 1 := by
        rcases he with ⟨_, h⟩ | ⟨h, _⟩ | ⟨h, _⟩
        · exact h
        · rw [hn] at h; cases h
        · rw [hn] at h; cases h
      subst he1
      refine .sr (.assign (.assign (.assign (.z (.seq (.sr (.move ?_)))))))
      refine .call (hc := Tryz.call86) (sp := nReady (s := s) (a := a) (c := c) (p := p) (F0 := F0) (Fm := Fm) (W := W) (op := true)) (h := ?_)
      rintro _ _ ⟨rfl, rfl⟩
      refine .not ?_
      refine .z ?_
      refine .condF rfl rfl ?_
      refine .skip (.next (.seq (.sr (.move ?_))))
      refine .call (hc := Tryz.call25) (sp := dName (xs := nm)) (h := ?_)
      rintro _ _ ⟨rfl, rfl⟩
      rw [hn]
      refine .not ?_
      refine .z ?_
      refine .condT rfl rfl ?_
      refine .sr (.assign (.assign (.assign (.z ?_))))
      refine .ret (.thenRet (?_))
      exact .ret3 (h1 := .tmp (t := 6) rfl) (h2 := .tmp (t := 7) rfl) (h3 := .tmp (t := 8) rfl) ⟨_, ⟨rfl, rfl⟩, Am.auto⟩
    · refine .sr (.assign (.assign (.assign (.z (.seq (.sr (.move ?_)))))))
      refine .call (hc := Tryz.call86) (sp := nReady (s := s) (a := a) (c := c) (p := p) (F0 := F0) (Fm := Fm) (W := W) (op := true)) (h := ?_)
      rintro _ _ ⟨rfl, rfl⟩
      refine .not ?_
      refine .z ?_
      refine .condF rfl rfl ?_
      refine .skip (.next (.seq (.sr (.move ?_))))
      refine .call (hc := Tryz.call25) (sp := dName (xs := nm)) (h := ?_)
      rintro _ _ ⟨rfl, rfl⟩
      rw [hn]
      refine .not ?_
      refine .z ?_
      refine .condF rfl rfl ?_
      refine .skip (.next (.sr (.move (.move ?_))))
      refine .call (hc := Tryz.call47) (sp := dNamesErr (s := s) (a := a) (c := c) (p := p) (F0 := F0) (Fm := Fm) (W := W) (d := d) (op := true) ho hn he) (h := ?_)
      rintro _ _ ⟨rfl, rfl⟩
      refine .extract ?_
      refine .extract ?_
      refine .extract ?_
      refine .assign (.assign (.assign (.z ?_)))
      refine .ret (?_)
      exact .ret3 (h1 := .tmp (t := 6) rfl) (h2 := .tmp (t := 7) rfl) (h3 := .tmp (t := 8) rfl) ⟨_, ⟨rfl, rfl⟩, Am.auto⟩
theorem dAdd {s a c : Nat} {p : Pl} {F0 Fm : FM} {W : Nat} {d : Nat} {nm : Bytes} {sl : List Slot} (ho : PlOk p) (hn : nameOk nm = true) (hF : Fm d = some (2, dirB sl)) (hd : DirOk sl) (hsz : sl.length ≤ 1104) (hno : ∀ (q i : Nat), sl[q]? ≠ some (some (nm, i))) {i : Nat} (hi : i < 4294967296) (hw : Rw p W 13) (hfs : freeS sl < 1104) (hfit : tot Fm p.ino + has (max (64 * sl.length) (64 * freeS sl + 64)) ≤ p.dc + has (64 * sl.length)) : Spec Tryz.prog 8 #[.pointer (some ⟨s, 0, none⟩), nI d, sv nm, nI i] [IN s a c p F0 Fm W true] fun G v M => v = okV ∧ M = IN s a c p F0 (updM Fm d (some (2, dirB (setS sl (freeS sl) (some (nm, i)))))) (W + 8) true :: G := by
  refine Spec.intro Tryz.func8 rfl rfl fun B F => ?_
  simp only [Tryz.ntmps8, List.cons_append, List.nil_append, env0, Nat.reduceAdd]
  refine .sr (.assign (.x (.move (.move (.move ?_)))))
  refine .call (hc := Tryz.call40) (sp := dChg (s := s) (a := a) (c := c) (p := p) (F0 := F0) (Fm := Fm) (W := W) (d := d) (nm := nm) ho hn hF hd hsz) (h := ?_)
  rintro _ _ ⟨mp, es, cl, rfl, hm, rfl⟩
  refine .move ?_
  refine .extract ?_
  refine .extract ?_
  refine .extract ?_
  refine .assign (.assign (.assign (.z (.seq (.sr (.move ?_))))))
  refine .nei ?_
  refine .z ?_
  refine .condF rfl rfl ?_
  refine .skip (.next (.seq (.sr (.move (.move ?_)))))
  refine .call (hc := Tryz.call41) (sp := dOf (nameOk_len hn).2) (h := ?_)
  rintro _ _ ⟨rfl, rfl⟩
  refine .lookOk (k := keyK nm) klN hm mp81 zv85 ?_
  refine .cast (d := 29) (u := .tuple #[.agg #[.int .i64 0, .int .i64 0], .bool false]) rfl (by rw [kvF_no hd (nameOk_len hn).2 hno]; rfl) ?_
  refine .move ?_
  refine .extract ?_
  refine .extract ?_
  refine .alloc z85 fun b12 => ?_
  refine .stV ?_ agg85
  refine .assign (.x (.move (.z ?_)))
  refine .condF rfl rfl ?_
  refine .skip (.next (.sr (.move (.move (.move (.move (.move ?_)))))))
  refine .call (hc := Tryz.call42) (sp := dLay (s := s) (a := a) (c := c) (p := p) (F0 := F0) (Fm := Fm) (W := W) (d := d) (q := freeS sl) (i := i) (nm := nm) (sl := sl) ho hF (freeS_le sl) hfs (nameOk_len hn).2 hi hw hfit) (h := ?_)
  rintro _ _ ⟨rfl, rfl⟩
  refine .assign (.z ?_)
  refine .ret (?_)
  exact .ret1 (h1 := .tmp (t := 8) rfl) ⟨_, ⟨rfl, rfl⟩, Am.auto⟩
theorem dAddExist {s a c : Nat} {p : Pl} {F0 Fm : FM} {W : Nat} {d : Nat} {nm : Bytes} {sl : List Slot} (ho : PlOk p) (hn : nameOk nm = true) (hF : Fm d = some (2, dirB sl)) (hd : DirOk sl) (hsz : sl.length ≤ 1104) {q j : Nat} (hq : sl[q]? = some (some (nm, j))) {i : Value} : Spec Tryz.prog 8 #[.pointer (some ⟨s, 0, none⟩), nI d, sv nm, i] [IN s a c p F0 Fm W true] fun G v M => v = .int .i64 5 ∧ M = IN s a c p F0 Fm W true :: G := by
  refine Spec.intro Tryz.func8 rfl rfl fun B F => ?_
  simp only [Tryz.ntmps8, List.cons_append, List.nil_append, env0, Nat.reduceAdd]
  have hlt : q < sl.length := by
    by_cases h : q < sl.length
    · exact h
    · rw [List.getElem?_eq_none (by omega)] at hq; cases hq
  refine .sr (.assign (.x (.move (.move (.move ?_)))))
  refine .call (hc := Tryz.call40) (sp := dChg (s := s) (a := a) (c := c) (p := p) (F0 := F0) (Fm := Fm) (W := W) (d := d) (nm := nm) ho hn hF hd hsz) (h := ?_)
  rintro _ _ ⟨mp, es, cl, rfl, hm, rfl⟩
  refine .move ?_
  refine .extract ?_
  refine .extract ?_
  refine .extract ?_
  refine .assign (.assign (.assign (.z (.seq (.sr (.move ?_))))))
  refine .nei ?_
  refine .z ?_
  refine .condF rfl rfl ?_
  refine .skip (.next (.seq (.sr (.move (.move ?_)))))
  refine .call (hc := Tryz.call41) (sp := dOf (nameOk_len hn).2) (h := ?_)
  rintro _ _ ⟨rfl, rfl⟩
  refine .lookOk (k := keyK nm) klN hm mp81 zv85 ?_
  refine .cast (d := 29) (u := .tuple #[.agg #[nI (64 * q), nI j], .bool true]) rfl (by rw [kvF_has hd hq sl.length hlt]; rfl) ?_
  refine .move ?_
  refine .extract ?_
  refine .extract ?_
  refine .alloc z85 fun b12 => ?_
  refine .stV ?_ agg85
  refine .assign (.x (.move (.z ?_)))
  refine .condT rfl rfl ?_
  refine .sr (.assign (.z ?_))
  refine .ret (.thenRet (?_))
  exact .ret1 (h1 := .tmp (t := 8) rfl) ⟨_, ⟨rfl, rfl⟩, Am.auto⟩
theorem dAddE {s a c : Nat} {p : Pl} {F0 Fm : FM} {W : Nat} {d : Int} {op : Bool} {nm : Bytes} {e : Int} {i : Value} (ho : PlOk p) (he : ChgErr op nm Fm d e) (he0 : e ≠ 0) : Spec Tryz.prog 8 #[.pointer (some ⟨s, 0, none⟩), .int .i64 d, sv nm, i] [IN s a c p F0 Fm W op] fun G v M => v = .int .i64 e ∧ M = IN s a c p F0 Fm W op :: G := by
  refine Spec.intro Tryz.func8 rfl rfl fun B F => ?_
  simp only [Tryz.ntmps8, List.cons_append, List.nil_append, env0, Nat.reduceAdd]
  refine .sr (.assign (.x (.move (.move (.move ?_)))))
  refine .call (hc := Tryz.call40) (sp := dChgE (s := s) (a := a) (c := c) (p := p) (F0 := F0) (Fm := Fm) (W := W) (d := d) (op := op) (nm := nm) (e := e) ho he) (h := ?_)
  rintro _ _ ⟨rfl, rfl⟩
  refine .move ?_
  refine .extract ?_
  refine .extract ?_
  refine .extract ?_
  refine .assign (.assign (.assign (.z (.seq (.sr (.move ?_))))))
  refine .nei ?_
  refine .z ?_
  refine .condT rfl (congrArg Value.bool (by first | (simp; done) | (simp; omega) | omega)) ?_
  refine .sr (.move (.assign (.z ?_)))
  refine .ret (.thenRet (?_))
  exact .ret1 (h1 := .tmp (t := 8) rfl) ⟨_, ⟨rfl, rfl⟩, Am.auto⟩
theorem dRemoveE {s a c : Nat} {p : Pl} {F0 Fm : FM} {W : Nat} {d : Int} {op : Bool} {nm : Bytes} {e : Int} {i : Value} (ho : PlOk p) (he : ChgErr op nm Fm d e) (he0 : e ≠ 0) : Spec Tryz.prog 12 #[.pointer (some ⟨s, 0, none⟩), .int .i64 d, sv nm] [IN s a c p F0 Fm W op] fun G v M => v = .int .i64 e ∧ M = IN s a c p F0 Fm W op :: G := by
  refine Spec.intro Tryz.func12 rfl rfl fun B F => ?_
  simp only [Tryz.ntmps12, List.cons_append, List.nil_append, env0, Nat.reduceAdd]
  refine .sr (.assign (.x (.move (.move (.move ?_)))))
  refine .call (hc := Tryz.call40) (sp := dChgE (s := s) (a := a) (c := c) (p := p) (F0 := F0) (Fm := Fm) (W := W) (d := d) (op := op) (nm := nm) (e := e) ho he) (h := ?_)
  rintro _ _ ⟨rfl, rfl⟩
  refine .move ?_
  refine .extract ?_
  refine .extract ?_
  refine .extract ?_
  refine .assign (.assign (.assign (.z (.seq (.sr (.move ?_))))))
  refine .nei ?_
  refine .z ?_
  refine .condT rfl (congrArg Value.bool (by first | (simp; done) | (simp; omega) | omega)) ?_
  refine .sr (.move (.assign (.z ?_)))
  refine .ret (.thenRet (?_))
  exact .ret1 (h1 := .tmp (t := 6) rfl) ⟨_, ⟨rfl, rfl⟩, Am.auto⟩
theorem dMoveE {s a c : Nat} {p : Pl} {F0 Fm : FM} {W : Nat} {d : Int} {op : Bool} {nm : Bytes} {e : Int} {i : Value} (ho : PlOk p) (he : ChgErr op nm Fm d e) (he0 : e ≠ 0) : Spec Tryz.prog 14 #[.pointer (some ⟨s, 0, none⟩), .int .i64 d, sv nm, i] [IN s a c p F0 Fm W op] fun G v M => v = .int .i64 e ∧ M = IN s a c p F0 Fm W op :: G := by
  refine Spec.intro Tryz.func14 rfl rfl fun B F => ?_
  simp only [Tryz.ntmps14, List.cons_append, List.nil_append, env0, Nat.reduceAdd]
  refine .sr (.assign (.x (.move (.move (.move ?_)))))
  refine .call (hc := Tryz.call40) (sp := dChgE (s := s) (a := a) (c := c) (p := p) (F0 := F0) (Fm := Fm) (W := W) (d := d) (op := op) (nm := nm) (e := e) ho he) (h := ?_)
  rintro _ _ ⟨rfl, rfl⟩
  refine .move ?_
  refine .extract ?_
  refine .extract ?_
  refine .extract ?_
  refine .assign (.assign (.assign (.z (.seq (.sr (.move ?_))))))
  refine .nei ?_
  refine .z ?_
  refine .condT rfl (congrArg Value.bool (by first | (simp; done) | (simp; omega) | omega)) ?_
  refine .sr (.move (.assign (.z ?_)))
  refine .ret (.thenRet (?_))
  exact .ret1 (h1 := .tmp (t := 8) rfl) ⟨_, ⟨rfl, rfl⟩, Am.auto⟩
theorem dFindE {s a c : Nat} {p : Pl} {F0 Fm : FM} {W : Nat} {d : Int} {op : Bool} {nm : Bytes} {e : Int} (ho : PlOk p) (he : FindErr nm Fm d e) (he0 : e ≠ 0) : Spec Tryz.prog 10 #[.pointer (some ⟨s, 0, none⟩), .int .i64 d, sv nm] [IN s a c p F0 Fm W op] fun G v M => v = .tuple #[.int .i64 0, .int .i64 e] ∧ M = IN s a c p F0 Fm W op :: G := by
  refine Spec.intro Tryz.func10 rfl rfl fun B F => ?_
  simp only [Tryz.ntmps10, List.cons_append, List.nil_append, env0, Nat.reduceAdd]
  cases hn : nameOk nm
  · have he1 : e = 1 := by
      rcases he with ⟨_, h⟩ | ⟨h, _⟩ | ⟨h, _⟩
      · exact h
      · rw [hn] at h; cases h
      · rw [hn] at h; cases h
    subst he1
    refine .sr (.assign (.assign (.z (.seq (.sr (.move ?_))))))
    refine .call (hc := Tryz.call25) (sp := dName (xs := nm)) (h := ?_)
    rintro _ _ ⟨rfl, rfl⟩
    rw [hn]
    refine .not ?_
    refine .z ?_
    refine .condT rfl rfl ?_
    refine .sr (.assign (.assign (.z ?_)))
    refine .ret (.thenRet (?_))
    exact .ret2 (h1 := .tmp (t := 6) rfl) (h2 := .tmp (t := 7) rfl) ⟨_, ⟨rfl, rfl⟩, Am.auto⟩
  · refine .sr (.assign (.assign (.z (.seq (.sr (.move ?_))))))
    refine .call (hc := Tryz.call25) (sp := dName (xs := nm)) (h := ?_)
    rintro _ _ ⟨rfl, rfl⟩
    rw [hn]
    refine .not ?_
    refine .z ?_
    refine .condF rfl rfl ?_
    refine .skip (.next (.sr (.move (.move ?_))))
    refine .call (hc := Tryz.call47) (sp := dNamesErr (s := s) (a := a) (c := c) (p := p) (F0 := F0) (Fm := Fm) (W := W) (d := d) (op := op) ho hn he) (h := ?_)
    rintro _ _ ⟨rfl, rfl⟩
    refine .move ?_
    refine .extract ?_
    refine .extract ?_
    refine .extract ?_
    refine .assign (.assign (.assign (.z (.seq (.sr (.move ?_))))))
    refine .nei ?_
    refine .z ?_
    refine .condT rfl (congrArg Value.bool (by first | (simp; done) | (simp; omega) | omega)) ?_
    refine .sr (.move (.assign (.assign (.z ?_))))
    refine .ret (.thenRet (?_))
    exact .ret2 (h1 := .tmp (t := 6) rfl) (h2 := .tmp (t := 7) rfl) ⟨_, ⟨rfl, rfl⟩, Am.auto⟩
theorem dFind {s a c : Nat} {p : Pl} {F0 Fm : FM} {W : Nat} {d : Nat} {op : Bool} {nm : Bytes} {sl : List Slot} (ho : PlOk p) (hn : nameOk nm = true) (hF : Fm d = some (2, dirB sl)) (hd : DirOk sl) (hsz : sl.length ≤ 1104) {q j : Nat} (hq : sl[q]? = some (some (nm, j))) : Spec Tryz.prog 10 #[.pointer (some ⟨s, 0, none⟩), nI d, sv nm] [IN s a c p F0 Fm W op] fun G v M => v = .tuple #[nI j, .int .i64 0] ∧ M = IN s a c p F0 Fm W op :: G := by
  refine Spec.intro Tryz.func10 rfl rfl fun B F => ?_
  simp only [Tryz.ntmps10, List.cons_append, List.nil_append, env0, Nat.reduceAdd]
  have hlt : q < sl.length := by
    by_cases h : q < sl.length
    · exact h
    · rw [List.getElem?_eq_none (by omega)] at hq; cases hq
  refine .sr (.assign (.assign (.z (.seq (.sr (.move ?_))))))
  refine .call (hc := Tryz.call25) (sp := dName (xs := nm)) (h := ?_)
  rintro _ _ ⟨rfl, rfl⟩
  rw [hn]
  refine .not ?_
  refine .z ?_
  refine .condF rfl rfl ?_
  refine .skip (.next (.sr (.move (.move ?_))))
  refine .call (hc := Tryz.call47) (sp := dNames (s := s) (a := a) (c := c) (p := p) (F0 := F0) (Fm := Fm) (W := W) (d := d) (op := op) ho hF hd hsz) (h := ?_)
  rintro _ _ ⟨mp, es, cl, rfl, hm, rfl⟩
  refine .move ?_
  refine .extract ?_
  refine .extract ?_
  refine .extract ?_
  refine .assign (.assign (.assign (.z (.seq (.sr (.move ?_))))))
  refine .nei ?_
  refine .z ?_
  refine .condF rfl rfl ?_
  refine .skip (.next (.sr (.move (.move ?_))))
  refine .call (hc := Tryz.call41) (sp := dOf (nameOk_len hn).2) (h := ?_)
  rintro _ _ ⟨rfl, rfl⟩
  refine .lookOk (k := keyK nm) klN hm mp81 zv85 ?_
  refine .cast (d := 30) (u := .tuple #[.agg #[nI (64 * q), nI j], .bool true]) rfl (by rw [kvF_has hd hq sl.length hlt]; rfl) ?_
  refine .move ?_
  refine .extract ?_
  refine .extract ?_
  refine .alloc z85 fun b11 => ?_
  refine .stV ?_ agg85
  refine .assign (.z (.seq (.sr (.move ?_))))
  refine .not ?_
  refine .z ?_
  refine .condF rfl rfl ?_
  refine .skip (.next (.sr ?_))
  refine .fa ?_ fo85_1
  refine .ld ?_ sc3
  refine .assign (.assign (.z ?_))
  refine .ret (?_)
  exact .ret2 (h1 := .tmp (t := 6) rfl) (h2 := .tmp (t := 7) rfl) ⟨_, ⟨rfl, rfl⟩, Am.auto⟩
theorem dFindNo {s a c : Nat} {p : Pl} {F0 Fm : FM} {W : Nat} {d : Nat} {op : Bool} {nm : Bytes} {sl : List Slot} (ho : PlOk p) (hn : nameOk nm = true) (hF : Fm d = some (2, dirB sl)) (hd : DirOk sl) (hsz : sl.length ≤ 1104) (hno : ∀ (q i : Nat), sl[q]? ≠ some (some (nm, i))) : Spec Tryz.prog 10 #[.pointer (some ⟨s, 0, none⟩), nI d, sv nm] [IN s a c p F0 Fm W op] fun G v M => v = .tuple #[.int .i64 0, .int .i64 4] ∧ M = IN s a c p F0 Fm W op :: G := by
  refine Spec.intro Tryz.func10 rfl rfl fun B F => ?_
  simp only [Tryz.ntmps10, List.cons_append, List.nil_append, env0, Nat.reduceAdd]
  refine .sr (.assign (.assign (.z (.seq (.sr (.move ?_))))))
  refine .call (hc := Tryz.call25) (sp := dName (xs := nm)) (h := ?_)
  rintro _ _ ⟨rfl, rfl⟩
  rw [hn]
  refine .not ?_
  refine .z ?_
  refine .condF rfl rfl ?_
  refine .skip (.next (.sr (.move (.move ?_))))
  refine .call (hc := Tryz.call47) (sp := dNames (s := s) (a := a) (c := c) (p := p) (F0 := F0) (Fm := Fm) (W := W) (d := d) (op := op) ho hF hd hsz) (h := ?_)
  rintro _ _ ⟨mp, es, cl, rfl, hm, rfl⟩
  refine .move ?_
  refine .extract ?_
  refine .extract ?_
  refine .extract ?_
  refine .assign (.assign (.assign (.z (.seq (.sr (.move ?_))))))
  refine .nei ?_
  refine .z ?_
  refine .condF rfl rfl ?_
  refine .skip (.next (.sr (.move (.move ?_))))
  refine .call (hc := Tryz.call41) (sp := dOf (nameOk_len hn).2) (h := ?_)
  rintro _ _ ⟨rfl, rfl⟩
  refine .lookOk (k := keyK nm) klN hm mp81 zv85 ?_
  refine .cast (d := 30) (u := .tuple #[.agg #[.int .i64 0, .int .i64 0], .bool false]) rfl (by rw [kvF_no hd (nameOk_len hn).2 hno]; rfl) ?_
  refine .move ?_
  refine .extract ?_
  refine .extract ?_
  refine .alloc z85 fun b11 => ?_
  refine .stV ?_ agg85
  refine .assign (.z (.seq (.sr (.move ?_))))
  refine .not ?_
  refine .z ?_
  refine .condT rfl rfl ?_
  refine .sr (.assign (.assign (.z ?_)))
  refine .ret (.thenRet (?_))
  exact .ret2 (h1 := .tmp (t := 6) rfl) (h2 := .tmp (t := 7) rfl) ⟨_, ⟨rfl, rfl⟩, Am.auto⟩
theorem dRemoveNo {s a c : Nat} {p : Pl} {F0 Fm : FM} {W : Nat} {d : Nat} {nm : Bytes} {sl : List Slot} (ho : PlOk p) (hn : nameOk nm = true) (hF : Fm d = some (2, dirB sl)) (hd : DirOk sl) (hsz : sl.length ≤ 1104) (hno : ∀ (q i : Nat), sl[q]? ≠ some (some (nm, i))) : Spec Tryz.prog 12 #[.pointer (some ⟨s, 0, none⟩), nI d, sv nm] [IN s a c p F0 Fm W true] fun G v M => v = .int .i64 4 ∧ M = IN s a c p F0 Fm W true :: G := by
  refine Spec.intro Tryz.func12 rfl rfl fun B F => ?_
  simp only [Tryz.ntmps12, List.cons_append, List.nil_append, env0, Nat.reduceAdd]
  refine .sr (.assign (.x (.move (.move (.move ?_)))))
  refine .call (hc := Tryz.call40) (sp := dChg (s := s) (a := a) (c := c) (p := p) (F0 := F0) (Fm := Fm) (W := W) (d := d) (nm := nm) ho hn hF hd hsz) (h := ?_)
  rintro _ _ ⟨mp, es, cl, rfl, hm, rfl⟩
  refine .move ?_
  refine .extract ?_
  refine .extract ?_
  refine .extract ?_
  refine .assign (.assign (.assign (.z (.seq (.sr (.move ?_))))))
  refine .nei ?_
  refine .z ?_
  refine .condF rfl rfl ?_
  refine .skip (.next (.sr (.move (.move ?_))))
  refine .call (hc := Tryz.call41) (sp := dOf (nameOk_len hn).2) (h := ?_)
  rintro _ _ ⟨rfl, rfl⟩
  refine .lookOk (k := keyK nm) klN hm mp81 zv85 ?_
  refine .cast (d := 27) (u := .tuple #[.agg #[.int .i64 0, .int .i64 0], .bool false]) rfl (by rw [kvF_no hd (nameOk_len hn).2 hno]; rfl) ?_
  refine .move ?_
  refine .extract ?_
  refine .extract ?_
  refine .alloc z85 fun b10 => ?_
  refine .stV ?_ agg85
  refine .assign (.z (.seq (.sr (.move ?_))))
  refine .not ?_
  refine .z ?_
  refine .condT rfl rfl ?_
  refine .sr (.assign (.z ?_))
  refine .ret (.thenRet (?_))
  exact .ret1 (h1 := .tmp (t := 6) rfl) ⟨_, ⟨rfl, rfl⟩, Am.auto⟩
theorem dMoveNo {s a c : Nat} {p : Pl} {F0 Fm : FM} {W : Nat} {d : Nat} {nm : Bytes} {sl : List Slot} (ho : PlOk p) (hn : nameOk nm = true) (hF : Fm d = some (2, dirB sl)) (hd : DirOk sl) (hsz : sl.length ≤ 1104) (hno : ∀ (q i : Nat), sl[q]? ≠ some (some (nm, i))) {i : Value} : Spec Tryz.prog 14 #[.pointer (some ⟨s, 0, none⟩), nI d, sv nm, i] [IN s a c p F0 Fm W true] fun G v M => v = .int .i64 4 ∧ M = IN s a c p F0 Fm W true :: G := by
  refine Spec.intro Tryz.func14 rfl rfl fun B F => ?_
  simp only [Tryz.ntmps14, List.cons_append, List.nil_append, env0, Nat.reduceAdd]
  refine .sr (.assign (.x (.move (.move (.move ?_)))))
  refine .call (hc := Tryz.call40) (sp := dChg (s := s) (a := a) (c := c) (p := p) (F0 := F0) (Fm := Fm) (W := W) (d := d) (nm := nm) ho hn hF hd hsz) (h := ?_)
  rintro _ _ ⟨mp, es, cl, rfl, hm, rfl⟩
  refine .move ?_
  refine .extract ?_
  refine .extract ?_
  refine .extract ?_
  refine .assign (.assign (.assign (.z (.seq (.sr (.move ?_))))))
  refine .nei ?_
  refine .z ?_
  refine .condF rfl rfl ?_
  refine .skip (.next (.sr (.move (.move ?_))))
  refine .call (hc := Tryz.call41) (sp := dOf (nameOk_len hn).2) (h := ?_)
  rintro _ _ ⟨rfl, rfl⟩
  refine .lookOk (k := keyK nm) klN hm mp81 zv85 ?_
  refine .cast (d := 29) (u := .tuple #[.agg #[.int .i64 0, .int .i64 0], .bool false]) rfl (by rw [kvF_no hd (nameOk_len hn).2 hno]; rfl) ?_
  refine .move ?_
  refine .extract ?_
  refine .extract ?_
  refine .alloc z85 fun b12 => ?_
  refine .stV ?_ agg85
  refine .assign (.z (.seq (.sr (.move ?_))))
  refine .not ?_
  refine .z ?_
  refine .condT rfl rfl ?_
  refine .sr (.assign (.z ?_))
  refine .ret (.thenRet (?_))
  exact .ret1 (h1 := .tmp (t := 8) rfl) ⟨_, ⟨rfl, rfl⟩, Am.auto⟩
theorem dMove {s a c : Nat} {p : Pl} {F0 Fm : FM} {W : Nat} {d : Nat} {nm : Bytes} {sl : List Slot} (ho : PlOk p) (hn : nameOk nm = true) (hF : Fm d = some (2, dirB sl)) (hd : DirOk sl) (hsz : sl.length ≤ 1104) {q j : Nat} (hq : sl[q]? = some (some (nm, j))) {i : Nat} (hi : i < 4294967296) (hw : Rw p W 13) (hfit : tot Fm p.ino ≤ p.dc) : Spec Tryz.prog 14 #[.pointer (some ⟨s, 0, none⟩), nI d, sv nm, nI i] [IN s a c p F0 Fm W true] fun G v M => v = okV ∧ M = IN s a c p F0 (updM Fm d (some (2, dirB (setS sl q (some (nm, i)))))) (W + 8) true :: G := by
  refine Spec.intro Tryz.func14 rfl rfl fun B F => ?_
  simp only [Tryz.ntmps14, List.cons_append, List.nil_append, env0, Nat.reduceAdd]
  have hlt : q < sl.length := by
    by_cases h : q < sl.length
    · exact h
    · rw [List.getElem?_eq_none (by omega)] at hq; cases hq
  have hmx : max (64 * sl.length) (64 * q + 64) = 64 * sl.length := by omega
  refine .sr (.assign (.x (.move (.move (.move ?_)))))
  refine .call (hc := Tryz.call40) (sp := dChg (s := s) (a := a) (c := c) (p := p) (F0 := F0) (Fm := Fm) (W := W) (d := d) (nm := nm) ho hn hF hd hsz) (h := ?_)
  rintro _ _ ⟨mp, es, cl, rfl, hm, rfl⟩
  refine .move ?_
  refine .extract ?_
  refine .extract ?_
  refine .extract ?_
  refine .assign (.assign (.assign (.z (.seq (.sr (.move ?_))))))
  refine .nei ?_
  refine .z ?_
  refine .condF rfl rfl ?_
  refine .skip (.next (.sr (.move (.move ?_))))
  refine .call (hc := Tryz.call41) (sp := dOf (nameOk_len hn).2) (h := ?_)
  rintro _ _ ⟨rfl, rfl⟩
  refine .lookOk (k := keyK nm) klN hm mp81 zv85 ?_
  refine .cast (d := 29) (u := .tuple #[.agg #[nI (64 * q), nI j], .bool true]) rfl (by rw [kvF_has hd hq sl.length hlt]; rfl) ?_
  refine .move ?_
  refine .extract ?_
  refine .extract ?_
  refine .alloc z85 fun b12 => ?_
  refine .stV ?_ agg85
  refine .assign (.z (.seq (.sr (.move ?_))))
  refine .not ?_
  refine .z ?_
  refine .condF rfl rfl ?_
  refine .skip (.next (.sr (.move (.move ?_))))
  refine .fa ?_ fo85_0
  refine .ld ?_ sc3
  refine .move (.move ?_)
  refine .call (hc := Tryz.call42) (sp := dLay (s := s) (a := a) (c := c) (p := p) (F0 := F0) (Fm := Fm) (W := W) (d := d) (q := q) (i := i) (nm := nm) (sl := sl) ho hF (by omega) (by omega) (nameOk_len hn).2 hi hw (by rw [hmx]; omega)) (h := ?_)
  rintro _ _ ⟨rfl, rfl⟩
  refine .assign (.z ?_)
  refine .ret (?_)
  exact .ret1 (h1 := .tmp (t := 8) rfl) ⟨_, ⟨rfl, rfl⟩, Am.auto⟩
theorem dRemove {s a c : Nat} {p : Pl} {F0 Fm : FM} {W : Nat} {d : Nat} {nm : Bytes} {sl : List Slot} (ho : PlOk p) (hn : nameOk nm = true) (hF : Fm d = some (2, dirB sl)) (hd : DirOk sl) (hsz : sl.length ≤ 1104) {q j : Nat} (hq : sl[q]? = some (some (nm, j))) (hw : Rw p W 13) (hfit : tot Fm p.ino ≤ p.dc) : Spec Tryz.prog 12 #[.pointer (some ⟨s, 0, none⟩), nI d, sv nm] [IN s a c p F0 Fm W true] fun G v M => v = okV ∧ M = IN s a c p F0 (updM Fm d (some (2, dirB (setS sl q none)))) (W + 8) true :: G := by
  refine Spec.intro Tryz.func12 rfl rfl fun B F => ?_
  simp only [Tryz.ntmps12, List.cons_append, List.nil_append, env0, Nat.reduceAdd]
  have hlt : q < sl.length := by
    by_cases h : q < sl.length
    · exact h
    · rw [List.getElem?_eq_none (by omega)] at hq; cases hq
  have hmx : max (64 * sl.length) (64 * q + 64) = 64 * sl.length := by omega
  have hdl := dirB_length sl
  have hsl := slotB_length none
  have hhs := has_slot sl.length q (by omega)
  refine .sr (.assign (.x (.move (.move (.move ?_)))))
  refine .call (hc := Tryz.call40) (sp := dChg (s := s) (a := a) (c := c) (p := p) (F0 := F0) (Fm := Fm) (W := W) (d := d) (nm := nm) ho hn hF hd hsz) (h := ?_)
  rintro _ _ ⟨mp, es, cl, rfl, hm, rfl⟩
  refine .move ?_
  refine .extract ?_
  refine .extract ?_
  refine .extract ?_
  refine .assign (.assign (.assign (.z (.seq (.sr (.move ?_))))))
  refine .nei ?_
  refine .z ?_
  refine .condF rfl rfl ?_
  refine .skip (.next (.sr (.move (.move ?_))))
  refine .call (hc := Tryz.call41) (sp := dOf (nameOk_len hn).2) (h := ?_)
  rintro _ _ ⟨rfl, rfl⟩
  refine .lookOk (k := keyK nm) klN hm mp81 zv85 ?_
  refine .cast (d := 27) (u := .tuple #[.agg #[nI (64 * q), nI j], .bool true]) rfl (by rw [kvF_has hd hq sl.length hlt]; rfl) ?_
  refine .move ?_
  refine .extract ?_
  refine .extract ?_
  refine .alloc z85 fun b10 => ?_
  refine .stV ?_ agg85
  refine .assign (.z (.seq (.sr (.move ?_))))
  refine .not ?_
  refine .z ?_
  refine .condF rfl rfl ?_
  refine .skip (.next (.seq ?_))
  refine .dr ([pt b10 (.cells #[nI (64 * q), nI j] 85 (0, 0))]) [] 7 mixed .autoJ ?_
  refine .tk 0 rfl .move ?_
  refine .tk 1 rfl .move ?_
  refine .tk 2 rfl (.fa fo85_0) ?_
  refine .tk 3 rfl (.ld sc3) ?_
  refine .on 4 rfl fun hnp => ?_
  refine .mkSN 64 z5 so91 (by decide) (by decide) fun b36 => ?_
  refine .nil (.wa hnp ?_)
  refine .on 5 rfl fun hnp => ?_
  refine .to (A' := buf b36 5 64 (bvs (slotB none))) (fun h hh => by show buf _ _ _ (bvs (List.replicate 64 0)) _; rw [bvs_replicate]; exact hh) ?_
  refine .call (hc := Tryz.call49) (sp := nWrite (s := s) (a := a) (c := c) (p := p) (F0 := F0) (F := Fm) (W := W) (i := d) (at' := 64 * q) (f := (2, dirB sl)) (bs := slotB none) (m := 64) ho hF (hw.less (by show has (max (dirB sl).length (64 * q + 64)) - has (dirB sl).length + (64 + 511) / 512 + 10 ≤ 13; rw [hdl]; omega)) (.inr Reads.buf) hsl (Nat.le_refl _) (by decide) (by show 64 * q ≤ (dirB sl).length; omega) (by omega) (by show tot Fm p.ino + has (max (dirB sl).length (64 * q + 64)) ≤ p.dc + has (dirB sl).length; rw [hdl, hmx]; omega)) (h := ?_)
  rintro _ _ ⟨rfl, rfl⟩
  refine .nil (.wa hnp ?_)
  refine .tk 6 rfl .assign ?_
  refine .fin ?_
  refine .next ?_
  refine .ret (?_)
  simp only [setS_wr (Nat.le_of_lt hlt)]
  refine .to (A' := IN s a c p F0 (updM Fm d (some (2, dirB (setS sl q none)))) (W + 8) true) (fun h hh => IN.more (by show W + (has (max (dirB sl).length (64 * q + 64)) - has (dirB sl).length) + (64 + 511) / 512 + 5 ≤ W + 8; rw [hdl]; omega) h hh) ?_
  exact .ret1 (h1 := .tmp (t := 6) rfl) ⟨_, ⟨rfl, rfl⟩, Am.auto⟩
end Go.Proofs.YtdmjkjeoamiedaaGreat
end
section
namespace Go.Proofs.YtdmjkjeoamiedaaGreat
open Go
theorem wrap_ofNat (v : Nat) : Value.int .u8 (IntKind.u8.wrap (v : Int)) = bv (UInt8.ofNat v) := by
  unfold bv
  rw [IntKind.wrap_u8, UInt8.toNat_ofNat']
  congr 1
end Go.Proofs.YtdmjkjeoamiedaaGreat
end
section
namespace Go.Proofs.YtdmjkjeoamiedaaGreat
open Go
def pN (n : Nat) : Pl := ⟨n, 16, 246, 247, 248, 250, n - 250⟩
theorem pN_is {n : Nat} (h1 : 251 ≤ n) (h2 : n ≤ 4000) : PlIs (pN n) := by
  constructor <;> simp only [pN] <;> omega
theorem root_one (j : Nat) (h : j < 1) : rootM j ≠ none := by
  have : j = 0 := by omega
  subst this
  intro hh
  cases hh
end Go.Proofs.YtdmjkjeoamiedaaGreat
end
section
namespace Go.Proofs.YtdmjkjeoamiedaaGreat
open Go
theorem fmtD_dk {p : Pl} {D : List Nat} {first : Nat} (hd : Dk p D) : ∀ n, (∀ v, first ≤ v → v < first + n → 245 ≤ v ∧ v < p.n) → Dk p (fmtD D first n)
  | 0, _ => hd
  | n + 1, h => (fmtD_dk hd n (fun v h1 h2 => h v h1 (by omega))).ins (h _ (by omega) (by omega)).1 (h _ (by omega) (by omega)).2
theorem fmtB_dk {p : Pl} (h : PlIs p) : Dk p (insD (fmtB p []) (p.tb + 0 / 8)) := by
  have ho := h.ok; have hlo := ho.lo; have h1 := ho.i2; have h2 := ho.tbl; have h3 := ho.apart; have h4 := ho.dat; have h5 := ho.tab; have h6 := ho.i1
  refine Dk.ins ?_ (by omega) (by omega)
  unfold fmtB
  exact fmtD_dk (fmtD_dk (Dk.nil p) _ (fun v h1 h2 => by omega)) _ (fun v h1 h2 => by omega)
theorem mkT {s a c : Nat} {p : Pl} {V0 V : Nat → Bytes} {D : List Nat} {F : FM} {i k : Nat} (ho : PlOk p) (hr : Rep p V F) (hdk : Dk p D) (hrm : Rm p D 1) (hk : k = 1 ∨ k = 2) (hi : i < p.ino) (h0 : F i = none) (hb : ∀ j < i, F j ≠ none) :
    Spec Tryz.prog 35 #[.pointer (some ⟨s, 0, none⟩), nI k] [pt s (stO c a p), pt a (alO c p), TR c p.n V0 V D true] fun G v M => v = .tuple #[nI i, .int .i64 0] ∧ M = [pt s (stO c a p), pt a (alO c p), TR c p.n V0 (svV p (setD V p.im i true) i ⟨k, 0, List.replicate 11 0⟩) (mkD p D i) true] ++ G := by
  refine (inMake (s := s) (c := c) (a := a) (V0 := V0) (V := V) (D := D) (k := k) ho hk hdk hrm).post ?_
  rintro G v M (⟨j, hj, hj0, hjb, rfl, rfl⟩ | ⟨hall, _, _⟩)
  · rw [hr.imapF hj] at hj0
    have hji : j = i := by
      rcases Nat.lt_trichotomy j i with h1 | h1 | h1
      · have := hb j h1
        cases hF : F j with
        | none => exact absurd hF this
        | some f => rw [hF] at hj0; cases hj0
      · exact h1
      · have := hjb i h1
        rw [hr.imapF hi, h0] at this
        cases this
    subst hji
    exact ⟨_, ⟨rfl, rfl⟩, fun B w hs => hs⟩
  · have := hall i hi
    rw [hr.imapF hi, h0] at this
    cases this
def DM (s0 s1 : List Slot) : FM := fun j => if j = 0 then some (2, dirB s0) else if j = 1 then some (2, dirB s1) else if j = 2 then some (1, []) else none
theorem DM_0 (s0 s1 : List Slot) : DM s0 s1 0 = some (2, dirB s0) := rfl
theorem DM_upd0 (s0 s1 t : List Slot) : updM (DM s0 s1) 0 (some (2, dirB t)) = DM t s1 := by
  funext j
  unfold updM DM
  by_cases h : j = 0
  · subst h; rfl
  · simp only [if_neg h]
theorem DM_upd1 (s0 s1 t : List Slot) : updM (DM s0 s1) 1 (some (2, dirB t)) = DM s0 t := by
  funext j
  unfold updM DM
  by_cases h : j = 1
  · subst h; rfl
  · simp only [if_neg h]
theorem DM_made : updM (updM rootM 1 (some (2, []))) 2 (some (1, [])) = DM [] [] := by
  funext j
  unfold updM rootM DM
  by_cases h2 : j = 2
  · subst h2; rfl
  · by_cases h1 : j = 1
    · subst h1; rfl
    · simp only [if_neg h1, if_neg h2]; rfl
theorem tot_DM (s0 s1 : List Slot) {n : Nat} (h : 3 ≤ n) : tot (DM s0 s1) n = has (64 * s0.length) + has (64 * s1.length) := by
  have h0 : has 0 = 0 := rfl
  have e0 : tot (DM [] []) n = 0 := by
    have a1 := tot_upd' rootM (show 1 < n by omega) (some (2, []))
    have a2 := tot_upd' (updM rootM 1 (some (2, []))) (show 2 < n by omega) (some (1, []))
    rw [DM_made] at a2
    have b1 : hasO (rootM 1) = 0 := rfl
    have b2 : hasO (updM rootM 1 (some (2, [])) 2) = 0 := rfl
    have b3 : hasO (some (2, ([] : Bytes))) = 0 := rfl
    have b4 : hasO (some (1, ([] : Bytes))) = 0 := rfl
    rw [tot_root] at a1
    omega
  have e1 := tot_upd' (DM [] []) (show 0 < n by omega) (some (2, dirB s0))
  have e2 := tot_upd' (DM s0 []) (show 1 < n by omega) (some (2, dirB s1))
  rw [DM_upd0] at e1
  rw [DM_upd1] at e2
  have b1 : hasO (DM [] [] 0) = 0 := rfl
  have b2 : hasO (DM s0 [] 1) = 0 := rfl
  have b3 : hasO (some (2, dirB s0)) = has (64 * s0.length) := by show has (dirB s0).length = _; rw [dirB_length]
  have b4 : hasO (some (2, dirB s1)) = has (64 * s1.length) := by show has (dirB s1).length = _; rw [dirB_length]
  omega
theorem l9Fresh {p : Pl} (h : PlIs p) (h16 : p.ino = 16) (h304 : p.n ≤ 304) : Spec Tryz.prog 5 #[.int .i64 (p.n : Int)] [] fun F v M => ∃ c a s, v = .tuple #[.pointer (some ⟨c, 0, none⟩), .pointer (some ⟨a, 0, none⟩), .pointer (some ⟨s, 0, none⟩), .bool true] ∧ M = IN s a c p (DM [] []) (DM [] []) 0 true :: F := by
  refine Spec.intro Tryz.func5 rfl rfl fun B F => ?_
  simp only [Tryz.ntmps5, List.cons_append, List.nil_append, env0, Nat.reduceAdd]
  have hn2 := h.n2
  have h246 : 246 ≤ p.n := by have := h.bm; have := h.m1; have := h.da; have := h.dc; have := h.d1; omega
  have hfew := fmtB_few h
  have ho := h.ok
  have hr0 := fresh_rep h
  have hd0 := fmtB_dk h
  have hr1 : Rep p (svV p (setD (freshW p) p.im 1 true) 1 ⟨2, 0, List.replicate 11 0⟩) (updM rootM 1 (some (2, []))) := hr0.made ho (by omega) (by rw [hr0.imapF (by omega)]; rfl) (.inr rfl)
  have hd1 := (mkD_ok ho hd0 (i := 1) (by omega)).1
  have hr2 : Rep p (svV p (setD (svV p (setD (freshW p) p.im 1 true) 1 ⟨2, 0, List.replicate 11 0⟩) p.im 2 true) 2 ⟨1, 0, List.replicate 11 0⟩) (DM [] []) := DM_made ▸ hr1.made ho (by omega) (by rw [hr1.imapF (by omega)]; rfl) (.inl rfl)
  have hmk := layMake h
  rw [show (p.ino : Int) = 16 from by omega] at hmk
  refine .sr (.assign (.assign (.assign (.assign (.x (.move ?_))))))
  refine .call (hc := Tryz.call26) (sp := hmk) (h := ?_)
  rintro _ _ ⟨rfl, rfl⟩
  refine .move ?_
  refine .extract ?_
  refine .extract ?_
  refine .alloc z59 fun b6 => ?_
  refine .stV ?_ agg59
  refine .to (A := pt b6 (.cells p.cells 59 (0, 0))) (A' := pt b6 (.cells p.cells 59 (0, 0))) (fun h hh => hh) ?_
  refine .assign (.x (.move ?_))
  refine .call (hc := Tryz.call27) (sp := devNew (n := p.n) (by omega) hn2) (h := ?_)
  rintro _ _ ⟨d, rfl, rfl⟩
  refine .move ?_
  refine .extract ?_
  refine .extract ?_
  refine .assign (.assign (.z (.seq (.sr (.move ?_)))))
  refine .nei ?_
  refine .move ?_
  refine .gT ?_
  refine .move ?_
  refine .gT ?_
  refine .nei ?_
  refine .pickF ?_
  refine .move ?_
  refine .gT ?_
  refine .move ?_
  refine .gT ?_
  refine .eqNil ?_ ptr62
  refine .pickF ?_
  refine .move ?_
  refine .gT ?_
  refine .move ?_
  refine .gT ?_
  refine .call (hc := Tryz.call28) (sp := jFormat (n := p.n) (t := 0) (cur := zeroD) h246 (by decide)) (h := ?_)
  rintro _ _ ⟨rfl, rfl⟩
  refine .gT ?_
  refine .nei ?_
  refine .pickF ?_
  refine .z ?_
  refine .condF rfl rfl ?_
  refine .skip (.next (.sr (.move ?_)))
  refine .call (hc := Tryz.call29) (sp := jOpen (n := p.n) (cur := formatted zeroD) h246 hn2 formatted0 (fun i _ => formattedH _ i)) (h := ?_)
  rintro _ _ ⟨j, rfl, rfl⟩
  refine .move ?_
  refine .extract ?_
  refine .extract ?_
  refine .assign (.assign (.x (.move ?_)))
  refine .call (hc := Tryz.call30) (sp := cNew (n := p.n) h246 hn2) (h := ?_)
  rintro _ _ ⟨c, rfl, rfl⟩
  refine .shutR (TR.opens c p.n zeroD zeroD [] false) (j, d, ⟨⟨beNat (seg (formatted zeroD 0) 8 8 false), 0, [], formatted zeroD⟩, [], false, false⟩) ⟨rfl, (fun k h1 h2 => formattedK (by omega)), (fun k h1 h2 => formattedK (by omega)), rfl, zeroD_tag⟩ ?_
  refine .assign (.x (.move ?_))
  refine .ldA ?_ agg59
  refine .call (hc := Tryz.call31) (sp := alNew (p := p)) (h := ?_)
  rintro _ _ ⟨a, rfl, rfl⟩
  refine .assign (.x (.move (.move ?_)))
  refine .ldA ?_ agg59
  refine .call (hc := Tryz.call32) (sp := inNew (p := p)) (h := ?_)
  rintro _ _ ⟨s, rfl, rfl⟩
  refine .assign (.z (.seq (.sr (.move ?_))))
  refine .nei ?_
  refine .move ?_
  refine .gT ?_
  refine .move ?_
  refine .gT ?_
  refine .eqNil ?_ ptr24
  refine .pickF ?_
  refine .move ?_
  refine .gT ?_
  refine .move ?_
  refine .gT ?_
  refine .eqNil ?_ ptr25
  refine .pickF ?_
  refine .move ?_
  refine .gT ?_
  refine .move ?_
  refine .gT ?_
  refine .eqNil ?_ ptr26
  refine .pickF ?_
  refine .move ?_
  refine .gT ?_
  refine .move ?_
  refine .gT ?_
  refine .call (hc := Tryz.call17) (sp := tBegin (n := p.n) (V0 := zeroD) (V := zeroD) (D := [])) (h := ?_)
  rintro _ _ ⟨rfl, rfl⟩
  refine .gT ?_
  refine .nei ?_
  refine .pickF ?_
  refine .move ?_
  refine .gT ?_
  refine .move ?_
  refine .gT ?_
  refine .call (hc := Tryz.call33) (sp := alFormat (V0 := zeroD) (V := zeroD) (D := []) h.ok) (h := ?_)
  rintro _ _ ⟨rfl, rfl⟩
  simp only [List.cons_append, List.nil_append]
  refine .gT ?_
  refine .nei ?_
  refine .pickF ?_
  refine .move ?_
  refine .gT ?_
  refine .move ?_
  refine .gT ?_
  refine .call (hc := Tryz.call34) (sp := inFormat (V0 := zeroD) (V := freshV p) (D := fmtB p []) h.ok (by unfold Room; omega)) (h := ?_)
  rintro _ _ ⟨rfl, rfl⟩
  simp only [List.cons_append, List.nil_append]
  refine .gT ?_
  refine .nei ?_
  refine .pickF ?_
  refine .z ?_
  refine .condF rfl rfl ?_
  refine .skip (.next (.sr (.move ?_)))
  refine .call (hc := Tryz.call35) (sp := mkT (p := p) (V0 := zeroD) (i := 1) (k := 2) ho hr0 hd0 (.inl h304) (.inr rfl) (by omega) rfl root_one) (h := ?_)
  rintro _ _ ⟨rfl, rfl⟩
  simp only [List.cons_append, List.nil_append]
  refine .move ?_
  refine .extract ?_
  refine .extract ?_
  refine .assign (.assign (.x (.move ?_)))
  refine .call (hc := Tryz.call35) (sp := mkT (p := p) (V0 := zeroD) (i := 2) (k := 1) ho hr1 hd1 (.inl h304) (.inl rfl) (by omega) rfl (fun j hj => by rcases (show j = 0 ∨ j = 1 by omega) with rfl | rfl <;> (intro hh; cases hh))) (h := ?_)
  rintro _ _ ⟨rfl, rfl⟩
  simp only [List.cons_append, List.nil_append]
  refine .move ?_
  refine .extract ?_
  refine .extract ?_
  refine .assign (.assign (.z (.seq (.sr (.move ?_)))))
  refine .nei ?_
  refine .move ?_
  refine .gT ?_
  refine .move ?_
  refine .gT ?_
  refine .nei ?_
  refine .pickF ?_
  refine .move ?_
  refine .gT ?_
  refine .move ?_
  refine .gT ?_
  refine .nei ?_
  refine .pickF ?_
  refine .move ?_
  refine .gT ?_
  refine .move ?_
  refine .gT ?_
  refine .nei ?_
  refine .pickF ?_
  refine .move ?_
  refine .gT ?_
  refine .move ?_
  refine .gT ?_
  refine .call (hc := Tryz.call16) (sp := tCommit (n := p.n) (V0 := zeroD) (V := (svV p (setD (svV p (setD (freshW p) p.im 1 true) 1 ⟨2, 0, List.replicate 11 0⟩) p.im 2 true) 2 ⟨1, 0, List.replicate 11 0⟩)) (D := (mkD p (mkD p (insD (fmtB p []) (p.tb + 0 / 8)) 1) 2))) (h := ?_)
  rintro _ _ ⟨rfl, rfl⟩
  refine .gT ?_
  refine .nei ?_
  refine .pickF ?_
  refine .z ?_
  refine .condF rfl rfl ?_
  refine .skip (.next (.sr (.move (.move (.move (.move ?_))))))
  refine .call (hc := Tryz.call17) (sp := tBegin (n := p.n) (V0 := cm0 (svV p (setD (svV p (setD (freshW p) p.im 1 true) 1 ⟨2, 0, List.replicate 11 0⟩) p.im 2 true) 2 ⟨1, 0, List.replicate 11 0⟩)) (V := (svV p (setD (svV p (setD (freshW p) p.im 1 true) 1 ⟨2, 0, List.replicate 11 0⟩) p.im 2 true) 2 ⟨1, 0, List.replicate 11 0⟩)) (D := [])) (h := ?_)
  rintro _ _ ⟨rfl, rfl⟩
  refine .shutR (IN.opens s a c p (DM [] []) (DM [] []) 0 true) (cm0 (svV p (setD (svV p (setD (freshW p) p.im 1 true) 1 ⟨2, 0, List.replicate 11 0⟩) p.im 2 true) 2 ⟨1, 0, List.replicate 11 0⟩), (svV p (setD (svV p (setD (freshW p) p.im 1 true) 1 ⟨2, 0, List.replicate 11 0⟩) p.im 2 true) 2 ⟨1, 0, List.replicate 11 0⟩), []) ⟨hr2.cm ho, hr2, Dk.nil p, Nat.zero_le _⟩ ?_
  refine .eqi ?_
  refine .assign (.assign (.assign (.assign (.z ?_))))
  refine .ret (?_)
  exact .ret4 (h1 := .tmp (t := 2) rfl) (h2 := .tmp (t := 3) rfl) (h3 := .tmp (t := 4) rfl) (h4 := .tmp (t := 5) rfl) ⟨_, ⟨c, a, s, rfl, rfl⟩, Am.auto⟩
end Go.Proofs.YtdmjkjeoamiedaaGreat
end
section
namespace Go.Proofs.YtdmjkjeoamiedaaGreat
open Go
theorem l9Awake : Spec Tryz.prog 4 #[] [] fun F v M => v = .bool true ∧ M = F := by
  refine Spec.intro Tryz.func4 rfl rfl fun B F => ?_
  simp only [Tryz.ntmps4, List.cons_append, List.nil_append, env0, Nat.reduceAdd]
  have hpn : PlIs (pN 300) := pN_is (by decide) (by decide)
  have ho : PlOk (pN 300) := hpn.ok
  have hd1 : DirOk [some ([97], 5)] := DirOk.nil.set (q := 0) (n := [97]) (i := 5) (Nat.le_refl _) (by decide) (by decide) (by intro r j hr h; simp at h)
  have hd2 : DirOk [some ([97], 5), some ([98], 6)] := hd1.set (q := 1) (n := [98]) (i := 6) (by decide) (by decide) (by decide) (by intro r j hr h; rcases r with _ | r <;> simp at h)
  have hd3 : DirOk [none, some ([98], 6)] := hd2.gone (q := 0) (by decide)
  have hd4 : DirOk [some ([99], 7), some ([98], 6)] := hd3.set (q := 0) (n := [99]) (i := 7) (by decide) (by decide) (by decide) (by intro r j hr h; rcases r with _ | _ | r <;> simp at h)
  refine .sr (.assign (.x ?_))
  refine .call (hc := Tryz.call5) (sp := l9Fresh (p := pN 300) (pN_is (n := 300) (by decide) (by decide)) rfl (by decide)) (h := ?_)
  rintro _ _ ⟨c, a, s, rfl, rfl⟩
  refine .move ?_
  refine .extract ?_
  refine .extract ?_
  refine .extract ?_
  refine .extract ?_
  refine .assign (.assign (.assign (.assign (.z (.seq (.sr (.move ?_)))))))
  refine .not ?_
  refine .move ?_
  refine .gT ?_
  refine .move ?_
  refine .gT ?_
  refine .call (hc := Tryz.call8) (sp := dAdd (s := s) (a := a) (c := c) (p := pN 300) (F0 := DM [] []) (Fm := DM [] []) (W := 0) (d := 0) (nm := [97]) (sl := []) ho rfl (DM_0 _ _) DirOk.nil (by decide) (by intro q i h; rcases q with _ | _ | q <;> simp at h) (i := 5) (by decide) (.inl (by decide)) (by decide) (by rw [tot_DM _ _ (by decide)]; decide)) (h := ?_)
  rintro _ _ ⟨rfl, rfl⟩
  rw [DM_upd0, show setS [] (freeS []) (some ([97], 5)) = [some ([97], 5)] from rfl]
  refine .gT ?_
  refine .nei ?_
  refine .pickF ?_
  refine .move ?_
  refine .gT ?_
  refine .move ?_
  refine .gT ?_
  refine .call (hc := Tryz.call8) (sp := dAdd (s := s) (a := a) (c := c) (p := pN 300) (F0 := DM [] []) (Fm := DM [some ([97], 5)] []) (W := 0 + 8) (d := 0) (nm := [98]) (sl := [some ([97], 5)]) ho rfl (DM_0 _ _) hd1 (by decide) (by intro q i h; rcases q with _ | _ | q <;> simp at h) (i := 6) (by decide) (.inl (by decide)) (by decide) (by rw [tot_DM _ _ (by decide)]; decide)) (h := ?_)
  rintro _ _ ⟨rfl, rfl⟩
  rw [DM_upd0, show setS [some ([97], 5)] (freeS [some ([97], 5)]) (some ([98], 6)) = [some ([97], 5), some ([98], 6)] from rfl]
  refine .gT ?_
  refine .nei ?_
  refine .pickF ?_
  refine .move ?_
  refine .gT ?_
  refine .move ?_
  refine .gT ?_
  refine .call (hc := Tryz.call12) (sp := dRemove (s := s) (a := a) (c := c) (p := pN 300) (F0 := DM [] []) (Fm := DM [some ([97], 5), some ([98], 6)] []) (W := 0 + 8 + 8) (d := 0) (nm := [97]) (sl := [some ([97], 5), some ([98], 6)]) (q := 0) (j := 5) ho rfl (DM_0 _ _) hd2 (by decide) rfl (.inl (by decide)) (by rw [tot_DM _ _ (by decide)]; decide)) (h := ?_)
  rintro _ _ ⟨rfl, rfl⟩
  rw [DM_upd0, show setS [some ([97], 5), some ([98], 6)] 0 none = [none, some ([98], 6)] from rfl]
  refine .gT ?_
  refine .nei ?_
  refine .pickF ?_
  refine .move ?_
  refine .gT ?_
  refine .move ?_
  refine .gT ?_
  refine .call (hc := Tryz.call8) (sp := dAdd (s := s) (a := a) (c := c) (p := pN 300) (F0 := DM [] []) (Fm := DM [none, some ([98], 6)] []) (W := 0 + 8 + 8 + 8) (d := 0) (nm := [99]) (sl := [none, some ([98], 6)]) ho rfl (DM_0 _ _) hd3 (by decide) (by intro q i h; rcases q with _ | _ | q <;> simp at h) (i := 7) (by decide) (.inl (by decide)) (by decide) (by rw [tot_DM _ _ (by decide)]; decide)) (h := ?_)
  rintro _ _ ⟨rfl, rfl⟩
  rw [DM_upd0, show setS [none, some ([98], 6)] (freeS [none, some ([98], 6)]) (some ([99], 7)) = [some ([99], 7), some ([98], 6)] from rfl]
  refine .gT ?_
  refine .nei ?_
  refine .pickF ?_
  refine .z ?_
  refine .condF rfl rfl ?_
  refine .skip (.next (.sr (.move ?_)))
  refine .call (hc := Tryz.call24) (sp := nStat (s := s) (a := a) (c := c) (p := pN 300) (F0 := DM [] []) (F := DM [some ([99], 7), some ([98], 6)] []) (W := 0 + 8 + 8 + 8 + 8) (op := true) (i := 0) (f := (2, dirB [some ([99], 7), some ([98], 6)])) ho (DM_0 _ _)) (h := ?_)
  rintro _ _ ⟨rfl, rfl⟩
  refine .move ?_
  refine .extract ?_
  refine .extract ?_
  refine .alloc z54 fun b5 => ?_
  refine .stV ?_ agg54
  refine .assign (.x (.move ?_))
  refine .call (hc := Tryz.call10) (sp := dFind (s := s) (a := a) (c := c) (p := pN 300) (F0 := DM [] []) (Fm := DM [some ([99], 7), some ([98], 6)] []) (W := 0 + 8 + 8 + 8 + 8) (op := true) (d := 0) (nm := [99]) (sl := [some ([99], 7), some ([98], 6)]) (q := 0) (j := 7) ho rfl (DM_0 _ _) hd4 (by decide) rfl) (h := ?_)
  rintro _ _ ⟨rfl, rfl⟩
  refine .move ?_
  refine .extract ?_
  refine .extract ?_
  refine .assign (.assign (.x (.move ?_)))
  refine .eqi ?_
  refine .move ?_
  refine .gT ?_
  refine .move ?_
  refine .gT ?_
  refine .eqi ?_
  refine .pickT ?_
  refine .move ?_
  refine .gT ?_
  refine .fa ?_ fo54_1
  refine .gT ?_
  refine .ld ?_ sc3
  refine .cast (d := 55) (u := .int .i64 128) rfl (congrArg (Value.int .i64) (by show ((dirB [some ([99], 7), some ([98], 6)]).length : Int) = 128; rw [dirB_length]; rfl)) ?_
  refine .gT ?_
  refine .eqi ?_
  refine .pickT ?_
  refine .move ?_
  refine .gT ?_
  refine .move ?_
  refine .gT ?_
  refine .eqi ?_
  refine .pickT ?_
  refine .move ?_
  refine .gT ?_
  refine .call (hc := Tryz.call25) (sp := dName (xs := [97])) (h := ?_)
  rintro _ _ ⟨rfl, rfl⟩
  refine .pickT ?_
  refine .move ?_
  refine .gT ?_
  refine .call (hc := Tryz.call25) (sp := dName (xs := [46, 46])) (h := ?_)
  rintro _ _ ⟨rfl, rfl⟩
  refine .gT ?_
  refine .not ?_
  refine .pickT ?_
  refine .assign (.z ?_)
  refine .ret (?_)
  exact .ret1 (h1 := .tmp (t := 0) rfl) ⟨_, ⟨rfl, rfl⟩, Am.auto⟩
end Go.Proofs.YtdmjkjeoamiedaaGreat
end
section
namespace Go.Proofs.YtdmjkjeoamiedaaGreat
open Go Go.Sort
theorem flatK_list {α : Type} [Inhabited α] {enc : α → List Value} {m : Nat} (hk : ∀ x, (enc x).length = m) (l : List α) : (flatK enc m l.toArray).toList = l.flatMap enc := by
  have hlen : ∀ l : List α, (l.flatMap enc).length = l.length * m := by
    intro l
    induction l with
    | nil => simp
    | cons x l ih => rw [List.flatMap_cons, List.length_append, hk, ih, List.length_cons, Nat.succ_mul]; omega
  have hget : ∀ (l : List α) (t : Nat), t < l.length * m → (l.flatMap enc)[t]? = (enc l[t / m]!)[t % m]? := by
    intro l
    induction l with
    | nil => intro t ht; simp at ht
    | cons x l ih =>
      intro t ht
      have hm : 0 < m := by
        rcases Nat.eq_zero_or_pos m with h | h
        · subst h; simp at ht
        · exact h
      rw [List.flatMap_cons]
      by_cases h : t < m
      · rw [List.getElem?_append_left (by rw [hk]; exact h), Nat.div_eq_of_lt h, Nat.mod_eq_of_lt h]
        rfl
      · rw [List.getElem?_append_right (by rw [hk]; omega), hk, ih _ (by rw [List.length_cons, Nat.succ_mul] at ht; omega)]
        have h1 : t = (t - m) + m := by omega
        have h2 : t / m = (t - m) / m + 1 := by
          conv => lhs; rw [h1]
          exact Nat.add_div_right _ hm
        have h3 : t % m = (t - m) % m := by
          conv => lhs; rw [h1]
          exact Nat.add_mod_right _ _
        rw [h2, h3]
        rfl
  apply List.ext_getElem?
  intro t
  by_cases ht : t < l.length * m
  · rw [hget l t ht]
    have h1 := get_flatK enc m l.toArray t (by simpa using ht)
    have hs : t < (flatK enc m l.toArray).size := by rw [size_flatK]; simpa using ht
    rw [getElem!_pos (flatK enc m l.toArray) t hs] at h1
    rw [Array.getElem?_toList, Array.getElem?_eq_getElem hs, h1]
    have hm : 0 < m := by
      rcases Nat.eq_zero_or_pos m with h | h
      · subst h; simp at ht
      · exact h
    have h4 : t % m < (enc l[t / m]!).length := by rw [hk]; exact Nat.mod_lt _ hm
    have e : l.toArray[t / m]! = l[t / m]! := by simp
    rw [e, getElem!_pos (enc l[t / m]!) (t % m) h4, List.getElem?_eq_getElem h4]
  · rw [List.getElem?_eq_none (l := l.flatMap enc) (by rw [hlen]; omega), List.getElem?_eq_none (by simp; omega)]
theorem flat_length {α : Type} {enc : α → List Value} {m : Nat} (hk : ∀ x, (enc x).length = m) (l : List α) : (l.flatMap enc).length = l.length * m := by
  induction l with
  | nil => simp
  | cons x l ih => rw [List.flatMap_cons, List.length_append, hk, ih, List.length_cons, Nat.succ_mul]; omega
section
variable {B : Base} {α : Type} [Inhabited α] {enc : α → List Value} {m : Nat}
theorem Sat.holdsK (hk : ∀ x, (enc x).length = m) {w : World} {M : List HP} {el g cap : Nat} {l : List α} (hs : Sat B w (rowR el m (.slice (some ⟨g, 0, none⟩) l.length cap) l.length (l.flatMap enc) :: M)) :
    HoldsK enc m w g 0 l.toArray ∧ g < w.heap.size := by
  obtain ⟨h1, h2⟩ := Sat.ownsRow hs
  rcases h2 with ⟨h2, _⟩ | ⟨g', cap', cur, h2, _, h3, h4, h5, h6, h7⟩
  · cases h2
  · injection h2 with h21 _ h22
    injection h21 with h21
    injection h21 with h21
    subst h21
    refine ⟨fun j hj => ?_, (Array.getElem?_eq_some_iff.1 h3).1⟩
    rw [size_flatK] at hj
    have hj' : j < l.length * m := by simpa using hj
    have hs : j < (flatK enc m l.toArray).size := by rw [size_flatK]; exact hj
    refine ⟨?_, by simp [World.frozen?, h3]⟩
    rw [cell_of h3, Nat.zero_add]
    have e1 : cur[j]? = (cur.toList.take (l.length * m))[j]? := by rw [List.getElem?_take, if_pos hj']; simp
    rw [e1, h7, ← flatK_list hk, Array.getElem?_toList, getElem!_pos (flatK enc m l.toArray) j hs]
    exact Array.getElem?_eq_getElem hs
theorem Sat.sortedK (hk : ∀ x, (enc x).length = m) {w : World} {M : List HP} {el g cap q : Nat} {os : Array Obj} {l l' : List α} (hl : l'.length = l.length) (hs : Sat B w (rowR el m (.slice (some ⟨g, 0, none⟩) l.length cap) l.length (l.flatMap enc) :: M)) :
    Sat B (sortWorldK enc m w g 0 q l'.toArray os) (rowR el m (.slice (some ⟨g, 0, none⟩) l.length cap) l.length (l'.flatMap enc) :: M) := by
  obtain ⟨h1, h2⟩ := Sat.ownsRow hs
  rcases h2 with ⟨h2, _⟩ | ⟨g', cap', cur, h2, _, h3, h4, h5, h6, h7⟩
  · cases h2
  · injection h2 with h21 _ h22
    injection h21 with h21
    injection h21 with h21
    subst h21
    subst h22
    have hgs := (Array.getElem?_eq_some_iff.1 h3).1
    have hheap : ∀ k, k < w.heap.size → (sortWorldK enc m w g 0 q l'.toArray os).heap[k]? = if g = k then some (.cells (putCells id 0 (flatK enc m l'.toArray) cur) el (0, 0)) else w.heap[k]? := by
      intro k hkk
      show (w.heap.modify g (onCells (putCells id 0 (flatK enc m l'.toArray))) ++ os)[k]? = _
      rw [Array.getElem?_append_left (by simpa using hkk), Array.getElem?_modify]
      by_cases hgk : g = k
      · subst hgk
        rw [if_pos rfl, if_pos rfl, h3]
        rfl
      · rw [if_neg hgk, if_neg hgk]
    refine Sat.rowGrown hs ⟨by rw [flat_length hk, hl], .inr ⟨g, cap, putCells id 0 (flatK enc m l'.toArray) cur, rfl, Nat.zero_le _, ?_, h4, h5, ?_, ?_⟩⟩ ⟨rfl, rfl, rfl, ?_, ?_⟩ (.inl rfl)
    · rw [hheap g hgs, if_pos rfl]
    · unfold putCells
      simp [h6]
    · rw [← flatK_list hk]
      have hfs : (flatK enc m l'.toArray).size = l.length * m := by rw [size_flatK]; simp [hl]
      apply List.ext_getElem?
      intro j
      rw [List.getElem?_take]
      by_cases hj : j < l.length * m
      · rw [if_pos hj]
        have hcur : j < cur.size := by
          rw [h6]
          exact Nat.lt_of_lt_of_le hj (Nat.mul_le_mul_right _ h4)
        unfold putCells
        rw [Array.getElem?_toList, Array.getElem?_toList, Array.getElem?_mapIdx, Array.getElem?_eq_getElem hcur, Option.map_some, if_pos ⟨Nat.zero_le _, by omega⟩, Nat.sub_zero, getElem!_pos (flatK enc m l'.toArray) j (by omega)]
        exact (Array.getElem?_eq_getElem _).symm
      · rw [if_neg hj, List.getElem?_eq_none (by rw [Array.length_toList]; omega)]
    · show w.heap.size ≤ (w.heap.modify g _ ++ os).size
      simp
    · intro k hkk hne
      rw [hheap k hkk, if_neg]
      intro hgk
      subst hgk
      exact hne rfl
end
def cmpT (a b : Bytes) : Int := if a < b then -1 else if a = b then 0 else 1
theorem cmpT_lt (a b : Bytes) : decide (cmpT a b < 0) = decide (a < b) := by
  unfold cmpT
  by_cases h : a < b
  · simp [h]
  · by_cases h2 : a = b
    · subst h2; simp [List.lt_irrefl]
    · simp [h, h2]
theorem bytes_total {a b : Bytes} (h1 : ¬ a < b) (h2 : ¬ b < a) : a = b := by
  have h3 : b ≤ a := h1
  have h4 : a ≤ b := h2
  exact List.le_antisymm h4 h3
theorem swoT {α : Type} (f : α → Bytes) : SWO (ltOf fun x y : α => cmpT (f x) (f y)) where
  irrefl x := by
    show decide (cmpT (f x) (f x) < 0) = false
    rw [cmpT_lt]; exact decide_eq_false (List.lt_irrefl _)
  trans x y z h1 h2 := by
    have h1 : decide (cmpT (f x) (f y) < 0) = true := h1
    have h2 : decide (cmpT (f y) (f z) < 0) = true := h2
    show decide (cmpT (f x) (f z) < 0) = true
    rw [cmpT_lt] at *
    exact decide_eq_true (List.lt_trans (of_decide_eq_true h1) (of_decide_eq_true h2))
  ntrans x y z h1 h2 := by
    have h1 : decide (cmpT (f x) (f y) < 0) = false := h1
    have h2 : decide (cmpT (f y) (f z) < 0) = false := h2
    show decide (cmpT (f x) (f z) < 0) = false
    rw [cmpT_lt] at *
    refine decide_eq_false fun h => ?_
    have a1 : ¬ f x < f y := of_decide_eq_false h1
    have a2 : ¬ f y < f z := of_decide_eq_false h2
    have b1 : f y ≤ f x := a1
    have b2 : f z ≤ f y := a2
    exact (List.le_trans b2 b1) h
section
variable {P : Program} {B : Base} {n : Fr} {Q Q' : Exit → Act → World → Prop} {e : Env} {L : List HP} {ops : Array Oper} {l : List Oper}
variable {d : Nat} {ty : TypeId} {pos : String} {af : Array Edge} {x y z : Operand} {gd : Option (Nat × Bool)}
theorem Qt.slcArrLH {t el k b : Nat} {p q : Int} {kp kq : IntKind} (ht : arrOk P t el k 1 = true) (hx : evo e x = some (.pointer (some ⟨b, 0, none⟩)) := by rfl) (hy : evo e y = some (.int kp p) := by rfl) (hz : evo e z = some (.int kq q) := by rfl) (hp : 0 ≤ p ∧ p ≤ q := by omega) (hq : q ≤ k := by omega) (hk : p.toNat < k := by omega) :
    Qt P B n e L ⟨some d, .slice t x (some y) (some z) none, ty, pos, af, gd⟩ (.slice (some ⟨b, p.toNat, none⟩) (q.toNat - p.toNat) (k - p.toNat)) :=
  fun a w ha hs => by
    obtain ⟨hu, i, hi, hsz⟩ := arr_of ht
    have h0 : 0 ≤ q := by omega
    have h1 : ¬ k = p.toNat := by omega
    have h3 : p ≤ ((q.toNat : Nat) : Int) := by omega
    have h4 : p ≤ max q 0 := by omega
    simp [execOp, ha.eval hx, ha.eval hy, ha.eval hz, Instr.sliceAt, run_underlying hu, Instr.sureAddr, Instr.sliceBounds, Instr.sliceBound, asIntOf, sizeOf, typeInfo, hi, hsz, add_plain', hp.1, hq, h0, h1, h4]
theorem WL.slcArrLH {t el k b : Nat} {p q : Int} {kp kq : IntKind} (h : WL P B n ops l Q ((d, .slice (some ⟨b, p.toNat, none⟩) (q.toNat - p.toNat) (k - p.toNat)) :: e) L) (ht : arrOk P t el k 1 = true) (hx : evo e x = some (.pointer (some ⟨b, 0, none⟩)) := by rfl) (hy : evo e y = some (.int kp p) := by rfl) (hz : evo e z = some (.int kq q) := by rfl) (hp : 0 ≤ p ∧ p ≤ q := by omega) (hq : q ≤ k := by omega) (hk : p.toNat < k := by omega) (hd : Nat.ble (d + 1) n.k = true := by rfl) :
    WL P B n ops (⟨some d, .slice t x (some y) (some z) none, ty, pos, af, none⟩ :: l) Q e L := WL.pure h hd (Qt.slcArrLH ht hx hy hz hp hq hk)
end
theorem left_cons {es : Array MapEntry} {seen : Array Nat} {m : MapEntry} (hp : (es.toList.map (·.born)).Pairwise (· < ·)) (hm : m ∈ left es seen) : (left es seen).Perm (m :: left es (seen.push m.born)) := by
  have h1 : left es (seen.push m.born) = (left es seen).filter fun x => !(x.born == m.born) := by
    unfold left
    rw [List.filter_filter]
    apply List.filter_congr
    intro x _
    rw [Bool.eq_iff_iff]
    simp [Array.mem_push, and_comm]
  have hsub : ((left es seen).map (·.born)).Pairwise (· < ·) := by
    unfold left
    exact (hp.sublist (List.Sublist.map _ List.filter_sublist))
  rw [h1]
  generalize left es seen = l at hm hsub
  clear h1
  induction l with
  | nil => cases hm
  | cons x l ih =>
    simp only [List.map_cons, List.pairwise_cons] at hsub
    rcases List.mem_cons.1 hm with rfl | hm
    · rw [List.filter_cons_of_neg (by simp)]
      have : l.filter (fun x => !(x.born == m.born)) = l := by
        rw [List.filter_eq_self]
        intro y hy
        have := hsub.1 y.born (List.mem_map_of_mem hy)
        simp; omega
      rw [this]
    · have h2 := hsub.1 m.born (List.mem_map_of_mem hm)
      rw [List.filter_cons_of_pos (by simp; omega)]
      exact ((ih hm hsub.2).cons x).trans (List.Perm.swap m x _)
theorem left_nil (es : Array MapEntry) : left es #[] = es.toList := by
  unfold left
  rw [List.filter_eq_self]
  intro x _
  simp
theorem kput_new {κ α : Type} [DecidableEq κ] {l : List (κ × α)} {k : κ} {v : α} (h : kget l k = none) : kput l k v = l ++ [(k, v)] := by
  induction l with
  | nil => rfl
  | cons p l ih =>
    obtain ⟨a, b⟩ := p
    simp only [kget] at h
    split at h
    · cases h
    · rename_i hne
      simp only [kput, if_neg hne, ih h, List.cons_append]
theorem MapIs.mapped {κ β : Type} [DecidableEq κ] {enc : κ → Value} {es : Array MapEntry} {c : Nat} {kvs : List (κ × Value)} (h : MapIs enc es c kvs) (f : Value → Value → β) : (es.toList.map fun m => f m.key m.val) = kvs.map fun p => f (enc p.1) p.2 := by
  have hl : es.toList.length = kvs.length := by simpa using h.length
  apply List.ext_getElem?
  intro i
  have h1 : (es.toList.map (·.key))[i]? = (kvs.map fun p => enc p.1)[i]? := by rw [h.keys]
  have h2 : (es.toList.map (·.val))[i]? = (kvs.map (·.2))[i]? := by rw [h.vals]
  simp only [List.getElem?_map] at h1 h2 ⊢
  cases hi : es.toList[i]? with
  | none =>
    rw [hi] at h1
    cases hk : kvs[i]? with
    | none => rfl
    | some p => rw [hk] at h1; cases h1
  | some m =>
    rw [hi] at h1 h2
    cases hk : kvs[i]? with
    | none => rw [hk] at h1; cases h1
    | some p =>
      rw [hk] at h1 h2
      simp only [Option.map_some, Option.some.injEq] at h1 h2 ⊢
      rw [h1, h2]
end Go.Proofs.YtdmjkjeoamiedaaGreat
end
section
namespace Go.Proofs.YtdmjkjeoamiedaaGreat
open Go
theorem z114 : zeroOf Tryz.prog 114 = some (#[.string ⟨#[]⟩, .int .i64 0]) := by kernel_rfl
theorem so44 : sliceOk Tryz.prog 44 114 2 24 = true := by kernel_rfl
open Go.Shelf Go.Sort Go.RowKit
theorem kput_mem_same {κ α : Type} [DecidableEq κ] {l : List (κ × α)} {k k' : κ} {v u : α} (h : (k, v) ∈ kput l k' u) (hk : k = k') : v = u ∨ (k, v) ∈ l := by
  induction l with
  | nil =>
    simp only [kput, List.mem_singleton, Prod.mk.injEq] at h
    exact .inl h.2
  | cons p l ih =>
    obtain ⟨a, b⟩ := p
    simp only [kput] at h
    split at h
    · rcases List.mem_cons.1 h with h | h
      · injection h with _ h; exact .inl h
      · exact .inr (List.mem_cons_of_mem _ h)
    · rcases List.mem_cons.1 h with h | h
      · exact .inr (h ▸ List.mem_cons_self ..)
      · rcases ih h with h | h
        · exact .inl h
        · exact .inr (List.mem_cons_of_mem _ h)
theorem kput_mem_other {κ α : Type} [DecidableEq κ] {l : List (κ × α)} {k k' : κ} {v u : α} (h : (k, v) ∈ kput l k' u) (hk : k ≠ k') : (k, v) ∈ l := by
  induction l with
  | nil =>
    simp only [kput, List.mem_singleton, Prod.mk.injEq] at h
    exact absurd h.1 hk
  | cons p l ih =>
    obtain ⟨a, b⟩ := p
    simp only [kput] at h
    split at h
    · rename_i he
      rcases List.mem_cons.1 h with h | h
      · injection h with h _; exact absurd (h.trans he.symm) hk
      · exact List.mem_cons_of_mem _ h
    · rcases List.mem_cons.1 h with h | h
      · exact h ▸ List.mem_cons_self ..
      · exact List.mem_cons_of_mem _ (ih h)
def laysSF_ren : Go.Shelf.Ren := ⟨fun | 6 => 57 | 14 => 103 | 15 => 104 | 20 => 129 | 21 => 130 | 22 => 131 | 23 => 132 | 24 => 133 | 25 => 134 | 26 => 135 | 27 => 136 | 28 => 137 | 29 => 138 | 46 => 160 | 47 => 161 | 48 => 162 | 49 => 163 | 50 => 164 | 57 => 174 | n => n, fun | 0 => 0 | 3 => 3 | 4 => 4 | 5 => 5 | 9 => 9 | 22 => 44 | 24 => 114 | 25 => 117 | 39 => 167 | 45 => 196 | 46 => 197 | 50 => 201 | 53 => 204 | 55 => 138 | 66 => 220 | 70 => 132 | 76 => 230 | 77 => 39 | n => n, fun n => n⟩
theorem laysSF : SlLaysF0.n6 Tryz.prog laysSF_ren where
  mixed := by kernel_rfl
  f6 := ⟨ "slices.SortFunc[[]bollard/dir.Entry,bollard/dir.Entry]", by decide, Tryz.func57.trans (congrArg some (by kernel_rfl))⟩
  f14 := ⟨ "slices.pdqsortCmpFunc[bollard/dir.Entry]", by decide, Tryz.func103.trans (congrArg some (by kernel_rfl))⟩
  f15 := Tryz.func104.trans (congrArg some (by kernel_rfl))
  f20 := ⟨ "slices.insertionSortCmpFunc[bollard/dir.Entry]", by decide, Tryz.func129.trans (congrArg some (by kernel_rfl))⟩
  f21 := ⟨ "slices.heapSortCmpFunc[bollard/dir.Entry]", by decide, Tryz.func130.trans (congrArg some (by kernel_rfl))⟩
  f22 := ⟨ "slices.breakPatternsCmpFunc[bollard/dir.Entry]", by decide, Tryz.func131.trans (congrArg some (by kernel_rfl))⟩
  f23 := ⟨ "slices.choosePivotCmpFunc[bollard/dir.Entry]", by decide, Tryz.func132.trans (congrArg some (by kernel_rfl))⟩
  f24 := ⟨ "slices.reverseRangeCmpFunc[bollard/dir.Entry]", by decide, Tryz.func133.trans (congrArg some (by kernel_rfl))⟩
  f25 := ⟨ "slices.partialInsertionSortCmpFunc[bollard/dir.Entry]", by decide, Tryz.func134.trans (congrArg some (by kernel_rfl))⟩
  f26 := ⟨ "slices.partitionEqualCmpFunc[bollard/dir.Entry]", by decide, Tryz.func135.trans (congrArg some (by kernel_rfl))⟩
  f27 := ⟨ "slices.partitionCmpFunc[bollard/dir.Entry]", by decide, Tryz.func136.trans (congrArg some (by kernel_rfl))⟩
  f28 := Tryz.func137.trans (congrArg some (by kernel_rfl))
  f29 := Tryz.func138.trans (congrArg some (by kernel_rfl))
  f46 := ⟨ "slices.siftDownCmpFunc[bollard/dir.Entry]", by decide, Tryz.func160.trans (congrArg some (by kernel_rfl))⟩
  f47 := Tryz.func161.trans (congrArg some (by kernel_rfl))
  f48 := Tryz.func162.trans (congrArg some (by kernel_rfl))
  f49 := ⟨ "slices.medianAdjacentCmpFunc[bollard/dir.Entry]", by decide, Tryz.func163.trans (congrArg some (by kernel_rfl))⟩
  f50 := ⟨ "slices.medianCmpFunc[bollard/dir.Entry]", by decide, Tryz.func164.trans (congrArg some (by kernel_rfl))⟩
  f57 := ⟨ "slices.order2CmpFunc[bollard/dir.Entry]", by decide, Tryz.func174.trans (congrArg some (by kernel_rfl))⟩
  t0 := Tryz.underlying0
  a0 := Tryz.isAgg0
  z0 := Tryz.sizeOf0
  v0 := Tryz.zeroValue0
  t3 := Tryz.underlying3
  a3 := Tryz.isAgg3
  z3 := Tryz.sizeOf3
  v3 := Tryz.zeroValue3
  t4 := Tryz.underlying4
  a4 := Tryz.isAgg4
  z4 := Tryz.sizeOf4
  v4 := Tryz.zeroValue4
  t5 := Tryz.underlying5
  a5 := Tryz.isAgg5
  z5 := Tryz.sizeOf5
  v5 := Tryz.zeroValue5
  t9 := Tryz.underlying9
  a9 := Tryz.isAgg9
  z9 := Tryz.sizeOf9
  v9 := Tryz.zeroValue9
  t22 := Tryz.underlying44
  a22 := Tryz.isAgg44
  z22 := Tryz.sizeOf44
  v22 := Tryz.zeroValue44
  t25 := Tryz.underlying117
  a25 := Tryz.isAgg117
  z25 := Tryz.sizeOf117
  v25 := Tryz.zeroValue117
  t39 := Tryz.underlying167
  a39 := Tryz.isAgg167
  z39 := Tryz.sizeOf167
  v39 := Tryz.zeroValue167
  t45 := Tryz.underlying196
  a45 := Tryz.isAgg196
  z45 := Tryz.sizeOf196
  v45 := Tryz.zeroValue196
  t46 := Tryz.underlying197
  a46 := Tryz.isAgg197
  z46 := Tryz.sizeOf197
  v46 := Tryz.zeroValue197
  t50 := Tryz.underlying201
  a50 := Tryz.isAgg201
  z50 := Tryz.sizeOf201
  v50 := Tryz.zeroValue201
  t53 := Tryz.underlying204
  a53 := Tryz.isAgg204
  z53 := Tryz.sizeOf204
  v53 := Tryz.zeroValue204
  t55 := Tryz.underlying138
  a55 := Tryz.isAgg138
  z55 := Tryz.sizeOf138
  v55 := Tryz.zeroValue138
  t66 := Tryz.underlying220
  a66 := Tryz.isAgg220
  z66 := Tryz.sizeOf220
  v66 := Tryz.zeroValue220
  t70 := Tryz.underlying132
  a70 := Tryz.isAgg132
  z70 := Tryz.sizeOf132
  v70 := Tryz.zeroValue132
  t76 := Tryz.underlying230
  a76 := Tryz.isAgg230
  z76 := Tryz.sizeOf230
  v76 := Tryz.zeroValue230
  t77 := Tryz.underlying39
  a77 := Tryz.isAgg39
  z77 := Tryz.sizeOf39
  v77 := Tryz.zeroValue39
abbrev Ent := Bytes × Nat
def entL (x : Ent) : List Value := [sv x.1, nI x.2]
theorem readsRow {b el : Nat} {xs : List Value} : Reads (row b el xs) (some ⟨b, 0, none⟩) xs := by
  unfold row
  exact Reads.pt
theorem bdEnt (s : ByteArray) (i : Int) : BuildOk Tryz.prog 114 [(0, .string s), (1, .int .i64 i)] #[.string s, .int .i64 i] := fun w => by kernel_rfl
theorem bsEnt (s : ByteArray) (i : Int) : BuildSOk Tryz.prog 44 1 [(0, .agg #[.string s, .int .i64 i])] 114 #[.string s, .int .i64 i] := fun w => by kernel_rfl
theorem nanS (s : ByteArray) (w : World) : Calls Tryz.prog 105 #[.string s] w fun e w' => e = .returned (.bool false) ∧ w' = w := by
  go_enter Tryz.func105, Tryz.ntmps105
  go_wp2
  go_ret
  exact ⟨by simp, rfl⟩
theorem cmpS (x y : Bytes) (w : World) : Calls Tryz.prog 59 #[sv x, sv y] w fun e w' => e = .returned (.int .i64 (cmpT x y)) ∧ w' = w := by
  show Calls Tryz.prog 59 #[.string (bstr x), .string (bstr y)] w _
  have hn := fun s W => nanS s W
  have h1 : Op.bytesLess (bstr x).toList (bstr y).toList = decide (x < y) := by rw [bytesLess_eq, ByteArray.toList_eq, ByteArray.toList_eq]; rfl
  have h2 : ((bstr x).toList == (bstr y).toList) = decide (x = y) := by rw [ByteArray.toList_eq, ByteArray.toList_eq]; show (x == y) = _; by_cases h : x = y <;> simp [h]
  go_enter Tryz.func59, Tryz.ntmps59
  go_wp2_with (go_at_call 105; refine (hn _ _).mono ?_; rintro e w' ⟨rfl, rfl⟩)
  all_goals (go_ret; refine ⟨?_, rfl⟩; unfold cmpT; simp_all)
theorem entCmp (x y : Ent) (W : World) : Calls Tryz.prog 58 #[.agg (entL x).toArray, .agg (entL y).toArray] W fun e w' => e = .returned (.int .i64 (cmpT x.1 y.1)) ∧ ∃ q os', w' = grow (W.drewN q) os' := by
  have hcon := fun W' => cmpS x.1 y.1 W'
  show Calls Tryz.prog 58 #[.agg #[.string (bstr x.1), .int .i64 x.2], .agg #[.string (bstr y.1), .int .i64 y.2]] W _
  change ∀ W', Calls Tryz.prog 59 #[.string (bstr x.1), .string (bstr y.1)] W' _ at hcon
  generalize cmpT x.1 y.1 = r at hcon ⊢
  go_enter Tryz.func58, Tryz.ntmps58
  go_wp2_with (go_at_call 59; refine (hcon _).mono ?_; rintro e w' ⟨rfl, rfl⟩)
  go_ret
  exact ⟨rfl, 0, _, by rw [alloc_eq_grow, alloc_eq_grow, grow_grow]; rfl⟩
theorem entL_length (x : Ent) : (entL x).length = 2 := rfl
theorem entL_one (x : Ent) : ∀ v ∈ entL x, v.oneCell' = true := by
  intro v hv
  unfold entL at hv
  simp only [List.mem_cons, List.not_mem_nil, or_false] at hv
  rcases hv with rfl | rfl <;> rfl
theorem sortEnts {v : Value} {l : List Ent} (hl : l.length < 4611686018427387904) : Spec Tryz.prog 57 #[v, .func (.func 58) #[] #[]] [rowR 114 2 v l.length (l.flatMap entL)] fun F u M => ∃ l' : List Ent, (l'.Perm l ∧ l'.Pairwise fun a b => ¬ b.1 < a.1) ∧ M = rowR 114 2 v l.length (l'.flatMap entL) :: F := by
  intro B F w hs
  have hsh := Sat.ownsRow hs
  rcases hsh.2 with ⟨rfl, h0⟩ | ⟨g, cap, cur, rfl, _, _⟩
  · obtain rfl : l = [] := List.eq_nil_of_length_eq_zero h0
    have := AnyF.slices_SortFunc_none (P := Tryz.prog) laysSF none 0 (.func (.func 58) #[] #[]) w
    change Calls Tryz.prog 57 _ _ _ at this
    refine this.mono ?_
    rintro e w' ⟨rfl, rfl⟩
    exact ⟨_, _, rfl, ⟨[], ⟨List.Perm.refl _, List.Pairwise.nil⟩, rfl⟩, hs⟩
  · obtain ⟨hH, hg⟩ := Sat.holdsK entL_length hs
    have hcon := AnyQ.slices_SortFunc (P := Tryz.prog) laysSF 2 Tryz.isAgg114 Tryz.sizeOf114 entL entL_length entL_one (fun x y : Ent => cmpT x.1 y.1) (swoT fun x : Ent => x.1) 58 #[] g 0 cap l.toArray w (enters_of Tryz.func58 (by kernel_rfl) rfl) (fun _ _ _ _ x y => entCmp x y _) hH hg (by simpa using hl)
    change Calls Tryz.prog 57 #[.slice (some ⟨g, 0, none⟩) l.length cap, _] _ _ at hcon
    refine hcon.mono ?_
    rintro e w' ⟨rfl, d', q, os, hp, hso, rfl⟩
    obtain ⟨hsz, _, hperm⟩ := hp
    have hsz' : d'.size = l.length := by simpa using hsz
    have hperm' : d'.toList.Perm l := by
      have e1 : (d'.extract 0 l.toArray.size) = d' := by rw [← hsz]; simp
      have e2 : (l.toArray.extract 0 l.toArray.size) = l.toArray := by simp
      rw [e1, e2] at hperm
      exact hperm
    refine ⟨_, _, rfl, ⟨d'.toList, ⟨hperm', ?_⟩, rfl⟩, ?_⟩
    · rw [List.pairwise_iff_getElem]
      intro i j hi hj hij
      have h1 := hso i j (Nat.zero_le _) hij (by simpa [hsz'] using hj)
      have hi' : i < d'.size := by simpa using hi
      have hj' : j < d'.size := by simpa using hj
      rw [getElem!_pos d' i hi', getElem!_pos d' j hj'] at h1
      have h2 : decide (cmpT d'[j].1 d'[i].1 < 0) = false := h1
      rw [cmpT_lt] at h2
      simpa using of_decide_eq_false h2
    · have := Sat.sortedK (B := B) (q := q) (os := os) (l' := d'.toList) entL_length (by simpa using hsz') hs
      simpa using this
def entKV (k v : Value) : Ent := (match k with
  | .agg ks => (((ks.toList.map fun x => match x with
    | .int _ n => UInt8.ofNat n.toNat
    | _ => 0).drop 1).take (match ks.toList.head? with
    | some (.int _ n) => n.toNat
    | _ => 0))
  | _ => [], match v with
  | .agg xs => (match xs.toList.drop 1 with
    | .int _ n :: _ => n.toNat
    | _ => 0)
  | _ => 0)
theorem entKV_eq {nm : Bytes} (h : nm.length ≤ 50) (q i : Nat) : entKV (encK (keyK nm)) (foundV (64 * q) i) = (nm, i) := by
  have h1 : ((bvs (keyB nm)).map fun x => match x with
    | .int _ n => UInt8.ofNat n.toNat
    | _ => 0) = keyB nm := by
    unfold bvs
    rw [List.map_map]
    apply List.ext_getElem?
    intro j
    rw [List.getElem?_map]
    cases (keyB nm)[j]? with
    | none => rfl
    | some b => simp [bv]
  have h3 : (keyB nm).drop 1 = (nm ++ List.replicate 50 0).take 50 := by unfold keyB; rw [List.take_succ_cons]; rfl
  have h4 : (UInt8.ofNat nm.length).toNat = nm.length := by rw [UInt8.toNat_ofNat']; omega
  have h2 : (bvs (keyB nm)).head? = some (.int .u8 ((nm.length : Nat) : Int)) := by
    rw [List.head?_eq_getElem?]
    unfold bvs
    rw [List.getElem?_map, keyB_head]
    show some (bv (UInt8.ofNat nm.length)) = _
    unfold bv
    rw [h4]
  unfold entKV encK keyK foundV
  simp only [h1, h2, h3]
  refine Prod.ext ?_ ?_
  · show ((nm ++ List.replicate 50 0).take 50).take ((nm.length : Nat) : Int).toNat = nm
    rw [List.take_take, Int.toNat_natCast, Nat.min_eq_left h, List.take_append_of_le_length (Nat.le_refl _), List.take_length]
  · show ((i : Nat) : Int).toNat = i
    exact Int.toNat_natCast i
def entsS (sl : List Slot) : List Ent := sl.filterMap id
theorem kvF_ents {sl : List Slot} (hd : DirOk sl) : ∀ m, m ≤ sl.length → ((kvF sl m).map fun p => entKV (encK p.1) p.2) = entsS (sl.take m)
  | 0, _ => rfl
  | m + 1, hm => by
    have ih := kvF_ents hd m (by omega)
    have hlt : m < sl.length := by omega
    have hs : sl[m]? = some sl[m] := List.getElem?_eq_getElem hlt
    have ht : sl.take (m + 1) = sl.take m ++ [sl[m]] := List.take_succ_eq_append_getElem hlt
    have he : entsS (sl.take (m + 1)) = entsS (sl.take m) ++ entsS [sl[m]] := by unfold entsS; rw [ht, List.filterMap_append]
    rw [kvF, hs, he]
    obtain ⟨x, hx⟩ : ∃ x, sl[m] = x := ⟨_, rfl⟩
    rw [hx] at hs ⊢
    cases x with
    | none => show ((kvF sl m).map _) = _; rw [ih]; simp [entsS]
    | some x =>
      obtain ⟨nm, i⟩ := x
      have hnm := hd.nm _ _ _ hs
      have hno : kget (kvF sl m) (keyK nm) = none := by
        have key : ∀ k, k ≤ m → kget (kvF sl k) (keyK nm) = none := by
          intro k
          induction k with
          | zero => intro _; rfl
          | succ k ih2 =>
            intro hk
            have ih2 := ih2 (by omega)
            rw [kvF]
            cases hsk : sl[k]? with
            | none => exact ih2
            | some y =>
              cases y with
              | none => exact ih2
              | some y =>
                obtain ⟨n', i'⟩ := y
                show kget (kput (kvF sl k) (keyK n') (foundV (64 * k) i')) (keyK nm) = none
                rw [kget_put, if_neg, ih2]
                intro hkk
                have := keyK_inj hnm.1.2 (hd.nm _ _ _ hsk).1.2 hkk
                subst this
                have := hd.one _ _ _ _ _ hs hsk
                omega
        exact key m (Nat.le_refl _)
      show ((kput (kvF sl m) (keyK nm) (foundV (64 * m) i)).map _) = _
      rw [kput_new hno, List.map_append, ih]
      show _ ++ [entKV (encK (keyK nm)) (foundV (64 * m) i)] = _
      rw [entKV_eq hnm.1.2]
      rfl
theorem kvF_key {sl : List Slot} (hd : DirOk sl) {k : K51} {v : Value} : ∀ m, m ≤ sl.length → (k, v) ∈ kvF sl m → ∃ nm q i, k = keyK nm ∧ v = foundV (64 * q) i ∧ nm.length ≤ 50 ∧ 1 ≤ nm.length ∧ i < 4294967296
  | 0, _, h => by cases h
  | m + 1, hm, h => by
    rw [kvF] at h
    have hlt : m < sl.length := by omega
    rw [List.getElem?_eq_getElem hlt] at h
    have hs : sl[m]? = some sl[m] := List.getElem?_eq_getElem hlt
    obtain ⟨x, hx⟩ : ∃ x, sl[m] = x := ⟨_, rfl⟩
    rw [hx] at h hs
    cases x with
    | none => exact kvF_key hd m (by omega) h
    | some x =>
      obtain ⟨nm, i⟩ := x
      have hnm := hd.nm _ _ _ hs
      have h : (k, v) ∈ kput (kvF sl m) (keyK nm) (foundV (64 * m) i) := h
      by_cases hk : k = keyK nm
      · have h2 := kput_mem_same h hk
        rcases h2 with h2 | h2
        · exact ⟨nm, m, i, hk, h2, hnm.1.2, hnm.1.1, hnm.2⟩
        · exact kvF_key hd m (by omega) h2
      · exact kvF_key hd m (by omega) (kput_mem_other h hk)
theorem entsS_length {sl : List Slot} : (entsS sl).length ≤ sl.length := List.length_filterMap_le ..
theorem dText {nm : Bytes} (hn : nm.length ≤ 50) : Spec Tryz.prog 56 #[arrV (keyB nm)] [] fun F v M => v = sv nm ∧ M = F := by
  refine Spec.intro Tryz.func56 rfl rfl fun B F => ?_
  simp only [Tryz.ntmps56, List.cons_append, List.nil_append, env0, Nat.reduceAdd]
  have hk := keyB_length nm
  have h4 : (UInt8.ofNat nm.length).toNat = nm.length := by rw [UInt8.toNat_ofNat']; omega
  have hx0 : (bvs (keyB nm))[0]? = some (.int .u8 (nm.length : Int)) := by
    unfold bvs
    rw [List.getElem?_map, keyB_head]
    show some (bv (UInt8.ofNat nm.length)) = _
    unfold bv
    rw [h4]
  have h3 : ((bvs (keyB nm)).drop 1).take nm.length = bvs nm := by
    rw [← bvs_drop, ← bvs_take]
    have e : (keyB nm).drop 1 = (nm ++ List.replicate 50 0).take 50 := by unfold keyB; rw [List.take_succ_cons]; rfl
    rw [e, List.take_take, Nat.min_eq_left hn, List.take_append_of_le_length (Nat.le_refl _), List.take_length]
  refine .sr ?_
  refine .boxL (us := bvs (keyB nm)) fun b1 => ?_
  refine .assign (.x ?_)
  refine .idxA ?_ ar88
  refine .ldL (xs := bvs (keyB nm)) (i := 0) (v := .int .u8 (nm.length : Int)) ?_ sc5 hx0
  refine .addw ?_
  refine .cast (d := 5) (u := .int .u8 ((1 : Int) + (nm.length : Int))) rfl (congrArg (Value.int .u8) (IntWalk.u8_in _ (by omega))) ?_
  refine .slcArrLH ?_ ar88
  refine .cvtBS (xs := nm) (R := row b1 88 (bvs (keyB nm))) ?_ by91 st9 (by rw [← h3]; exact ((readsRow (b := b1) (el := 88) (xs := bvs (keyB nm))).drop 1).take nm.length) (by show nm.length = (1 + (nm.length : Int)).toNat - (1 : Int).toNat; omega)
  refine .assign (.z ?_)
  refine .ret (?_)
  exact .ret1 (h1 := .tmp (t := 2) rfl) ⟨_, ⟨rfl, rfl⟩, Am.auto⟩
structure ListI (es : Array MapEntry) (seen : Array Nat) (acc : List MapEntry) : Prop where
  perm : (acc ++ left es seen).Perm es.toList
theorem ListI.start (es : Array MapEntry) : ListI es #[] [] := ⟨by rw [left_nil]; exact List.Perm.refl _⟩
theorem ListI.step {es : Array MapEntry} {seen : Array Nat} {acc : List MapEntry} (hp : (es.toList.map (·.born)).Pairwise (· < ·)) (h : ListI es seen acc) {m : MapEntry} (hm : m ∈ left es seen) : ListI es (seen.push m.born) (acc ++ [m]) := by
  refine ⟨?_⟩
  rw [List.append_assoc]
  exact ((left_cons hp hm).symm.append_left acc).trans h.perm
theorem ListI.few {es : Array MapEntry} {seen : Array Nat} {acc : List MapEntry} (h : ListI es seen acc) : acc.length ≤ es.size := by
  have := h.perm.length_eq
  rw [List.length_append, Array.length_toList] at this
  exact Nat.le_trans (Nat.le_add_right _ _) (Nat.le_of_eq this)
def entM (m : MapEntry) : Ent := entKV m.key m.val
theorem dList {s a c : Nat} {p : Pl} {F0 Fm : FM} {W d : Nat} {op : Bool} {sl : List Slot} (ho : PlOk p) (hF : Fm d = some (2, dirB sl)) (hd : DirOk sl) (hsz : sl.length ≤ 1104) :
    Spec Tryz.prog 19 #[.pointer (some ⟨s, 0, none⟩), nI d] [IN s a c p F0 Fm W op] fun G v M => ∃ u l, v = .tuple #[u, .int .i64 0] ∧ ((l : List Ent).Perm (entsS sl) ∧ l.Pairwise fun x y => ¬ y.1 < x.1) ∧ M = rowR 114 2 u l.length (l.flatMap entL) :: IN s a c p F0 Fm W op :: G := by
  refine Spec.intro Tryz.func19 rfl rfl fun B F => ?_
  simp only [Tryz.ntmps19, List.cons_append, List.nil_append, env0, Nat.reduceAdd]
  refine .sr (.assign (.assign (.x (.move (.move ?_)))))
  refine .call (hc := Tryz.call47) (sp := dNames (s := s) (a := a) (c := c) (p := p) (F0 := F0) (Fm := Fm) (W := W) (d := d) (op := op) ho hF hd hsz) (h := ?_)
  rintro _ _ ⟨mp, es, cl, rfl, hm, rfl⟩
  refine .move ?_
  refine .extract ?_
  refine .extract ?_
  refine .extract ?_
  refine .assign (.assign (.assign (.z (.seq (.sr (.move ?_))))))
  refine .nei ?_
  refine .z ?_
  refine .condF rfl rfl ?_
  refine .skip (.next (.sr (.assign ?_)))
  refine .emp (rowR.nil (e := 114) (size := 2) _) ?_
  refine .z (.seq (.sr (.move ?_)))
  have hkl : (kvF sl sl.length).length ≤ 1104 := by
    have h1 := congrArg List.length (kvF_ents hd sl.length (Nat.le_refl _))
    rw [List.length_map, List.take_length] at h1
    have h2 := entsS_length (sl := sl)
    omega
  have hes : es.size ≤ 1104 := by have := hm.length; omega
  refine .range mp81 fun it => ?_
  refine .z (.block ?_)
  refine .loopA (σ := Array Nat × Value × List MapEntry) (fun y => [(9, y.2.1), (23, .pointer (some ⟨it, 0, none⟩))]) (fun y => [pt it (.mapIter (some mp) cl y.1 cl), rowR 114 2 y.2.1 (y.2.2.map entM).length ((y.2.2.map entM).flatMap entL), pt mp (.map es cl), IN s a c p F0 Fm W op] ++ F) (fun y => ListI es y.1 y.2.2) (fun y => (left es y.1).length) (#[], .slice none 0 0, []) (ListI.start es) ?_
  rintro ⟨seen, u, acc⟩ hi
  refine .sr ?_
  refine .next hm.lt (fun h0 => ?_) (fun m hmm => ?_)
  · have hpm : (acc.map entM).Perm (entsS sl) := by
      have h1 := hi.perm
      rw [h0, List.append_nil] at h1
      have h2 := h1.map entM
      rw [show es.toList.map entM = (kvF sl sl.length).map (fun p => entKV (encK p.1) p.2) from hm.mapped entKV, kvF_ents hd sl.length (Nat.le_refl _), List.take_length] at h2
      exact h2
    have hfew : acc.length ≤ es.size := hi.few
    refine .extract ?_
    refine .z (.seq ?_)
    refine .condF rfl rfl ?_
    refine .exit (.thenExit (.thenExit (.blockExit (?_))))
    refine .next (.sr (.move ?_))
    refine .call (hc := Tryz.call57) (sp := sortEnts (v := u) (l := acc.map entM) (by show (acc.map entM).length < _; rw [List.length_map]; omega)) (h := ?_)
    rintro _ _ ⟨l', ⟨hp', hs'⟩, rfl⟩
    refine .x (.move (.assign (.assign (.z ?_))))
    refine .ret (?_)
    rw [← hp'.length_eq]
    exact .ret2 (h1 := .tmp (t := 4) rfl) (h2 := .tmp (t := 5) rfl) ⟨_, ⟨u, l', rfl, ⟨hp'.trans hpm, hs'⟩, rfl⟩, Am.auto⟩
  · have hme := (List.mem_filter.1 hmm).1
    obtain ⟨k, hk, hkv⟩ := hm.entry hme
    obtain ⟨nm, q, i, rfl, hv, hn1, hn2, hi3⟩ := kvF_key hd sl.length (Nat.le_refl _) ((kget_mem hm.nodup).1 hkv)
    have hem : entM m = (nm, i) := by unfold entM; rw [hk, hv]; exact entKV_eq hn1 q i
    have hfew := (hi.step hm.born hmm).few
    rw [List.length_append] at hfew
    simp only [List.length_cons, List.length_nil] at hfew
    have hal : (acc.map entM).length = acc.length := List.length_map ..
    refine .extract ?_
    refine .z (.seq ?_)
    refine .condT rfl rfl ?_
    refine .skip (.next (.block (.sr ?_)))
    refine .entry hme hm.born ?_
    refine .extract ?_
    refine .cast (d := 27) (u := arrV (keyB nm)) rfl hk ?_
    refine .extract ?_
    refine .cast (d := 28) (u := .agg #[nI (64 * q), nI i]) rfl hv ?_
    refine .allocL (us := bvs (List.replicate 51 0)) key0 rfl fun b10 => ?_
    refine .alloc z85 fun b11 => ?_
    refine .stLA (xs := bvs (List.replicate 51 0)) (us := bvs (keyB nm)) ?_ agg88 (bvsK_length nm) rfl (keyB_single nm)
    refine .stV ?_ agg85
    refine .z ?_
    refine .dr ([row b10 88 (bvs (keyB nm)), pt b11 (.cells #[nI (64 * q), nI i] 85 (0, 0))]) [] 9 mixed .autoJ ?_
    refine .tk 0 rfl .move ?_
    refine .tk 1 rfl (Qt.ldW (xs := bvs (keyB nm)) agg88 (bvsK_length nm)) ?_
    refine .tk 3 rfl (.fa fo85_1) ?_
    refine .tk 4 rfl (.ld sc3) ?_
    refine .on 2 rfl fun hnp => ?_
    refine .call (hc := Tryz.call56) (sp := dText hn1) (h := ?_)
    rintro _ _ ⟨rfl, rfl⟩
    refine .nil (.wa hnp ?_)
    refine .tk 5 rfl (.build (bdEnt _ _)) ?_
    refine .on 6 rfl fun hnp => ?_
    refine .buildS (fun b35 => ?_) (bsEnt _ _)
    refine .nil (.wa hnp ?_)
    refine .on 7 rfl fun hnp => ?_
    refine .append (m := 1) so44 (by decide) (by repeat (first | exact .here | apply Rem.there | apply Repl.there | apply Mem.there)) Reads.pt (by repeat (first | exact .here | apply Rem.there | apply Repl.there | apply Mem.there)) rfl (by intro x hx; simp only [List.mem_cons, List.not_mem_nil, or_false] at hx; rcases hx with rfl | rfl <;> rfl) (by show (acc.map entM).length + 1 ≤ maxLen; unfold maxLen; omega) (by show ((acc.map entM).length + 1) * _ ≤ _; omega) ⟨_, z114, rfl⟩ (fun u2 hu2 => ?_)
    refine .nil (.wa hnp ?_)
    refine .tk 8 rfl .assign ?_
    refine .fin ?_
    refine .blockNormal ?_
    refine .to (A := rowR 114 2 u2 ((acc.map entM).length + 1) ((acc.map entM).flatMap entL ++ entL (nm, i))) (A' := rowR 114 2 u2 ((acc ++ [m]).map entM).length (((acc ++ [m]).map entM).flatMap entL)) (fun h hh => by
      rw [List.map_append, List.map_cons, List.map_nil, hem, List.length_append, List.flatMap_append]
      simp only [List.flatMap_cons, List.flatMap_nil, List.append_nil]
      exact hh) ?_
    exact .back (seen.push m.born, u2, acc ++ [m]) (hi.step hm.born hmm) (left_push hmm)
theorem dListE {s a c : Nat} {p : Pl} {F0 Fm : FM} {W : Nat} {op : Bool} {d e : Int} (ho : PlOk p) (he : FindErr [97] Fm d e) (he0 : e ≠ 0) :
    Spec Tryz.prog 19 #[.pointer (some ⟨s, 0, none⟩), .int .i64 d] [IN s a c p F0 Fm W op] fun G v M => v = .tuple #[.slice none 0 0, .int .i64 e] ∧ M = IN s a c p F0 Fm W op :: G := by
  refine Spec.intro Tryz.func19 rfl rfl fun B F => ?_
  simp only [Tryz.ntmps19, List.cons_append, List.nil_append, env0, Nat.reduceAdd]
  refine .sr (.assign (.assign (.x (.move (.move ?_)))))
  refine .call (hc := Tryz.call47) (sp := dNamesErr (s := s) (a := a) (c := c) (p := p) (F0 := F0) (Fm := Fm) (W := W) (d := d) (op := op) (nm := [97]) ho rfl he) (h := ?_)
  rintro _ _ ⟨rfl, rfl⟩
  refine .move ?_
  refine .extract ?_
  refine .extract ?_
  refine .extract ?_
  refine .assign (.assign (.assign (.z (.seq (.sr (.move ?_))))))
  refine .nei ?_
  refine .z ?_
  refine .condT rfl (congrArg Value.bool (by first | (simp; done) | (simp; omega) | omega)) ?_
  refine .sr (.move (.assign (.assign (.z ?_))))
  refine .ret (.thenRet (?_))
  exact .ret2 (h1 := .tmp (t := 4) rfl) (h2 := .tmp (t := 5) rfl) ⟨_, ⟨rfl, rfl⟩, Am.auto⟩
end Go.Proofs.YtdmjkjeoamiedaaGreat
end
section
namespace Go.Proofs.YtdmjkjeoamiedaaGreat
open Go
inductive NodeT
  | file (b : Bytes)
  | dir (sl : List Slot)
def NodeT.f : NodeT → Nat × Bytes
  | .file b => (1, b)
  | .dir sl => (2, dirB sl)
abbrev FT := Nat → Option NodeT
def fmT (T : FT) : FM := fun i => (T i).map NodeT.f
theorem fmT_some {T : FT} {i : Nat} {x : NodeT} (h : T i = some x) : fmT T i = some x.f := by unfold fmT; rw [h]; rfl
theorem fmT_none {T : FT} {i : Nat} (h : T i = none) : fmT T i = none := by unfold fmT; rw [h]; rfl
def updT (T : FT) (i : Nat) (y : Option NodeT) : FT := fun j => if j = i then y else T j
theorem updT_same (T : FT) (i : Nat) (y : Option NodeT) : updT T i y i = y := if_pos rfl
theorem updT_other (T : FT) {i j : Nat} (y : Option NodeT) (h : j ≠ i) : updT T i y j = T j := if_neg h
def TOk (T : FT) : Prop := ∀ d sl, T d = some (.dir sl) → DirOk sl ∧ sl.length ≤ 1000
def lookS (nm : Bytes) : List Slot → Option (Nat × Nat)
  | [] => none
  | some (n, i) :: r => if n = nm then some (0, i) else (lookS nm r).map fun x => (x.1 + 1, x.2)
  | none :: r => (lookS nm r).map fun x => (x.1 + 1, x.2)
theorem lookS_some {nm : Bytes} : ∀ {sl : List Slot} {q i : Nat}, lookS nm sl = some (q, i) → sl[q]? = some (some (nm, i))
  | some (n, j) :: r, q, i, h => by
    unfold lookS at h
    split at h
    · rename_i hn
      subst hn
      injection h with h
      injection h with h1 h2
      subst h1; subst h2
      rfl
    · obtain ⟨x, hx, h⟩ := Option.map_eq_some_iff.1 h
      injection h with h1 h2
      subst h1; subst h2
      rw [List.getElem?_cons_succ]
      exact lookS_some hx
  | none :: r, q, i, h => by
    unfold lookS at h
    obtain ⟨x, hx, h⟩ := Option.map_eq_some_iff.1 h
    injection h with h1 h2
    subst h1; subst h2
    rw [List.getElem?_cons_succ]
    exact lookS_some hx
theorem lookS_none {nm : Bytes} : ∀ {sl : List Slot}, lookS nm sl = none → ∀ (q i : Nat), sl[q]? ≠ some (some (nm, i))
  | [], _, q, i => by simp
  | some (n, j) :: r, h, q, i => by
    unfold lookS at h
    split at h
    · cases h
    · rename_i hn
      cases q with
      | zero => intro h2; injection h2 with h2; injection h2 with h2; injection h2 with h2 _; exact hn h2
      | succ q =>
        rw [List.getElem?_cons_succ]
        exact lookS_none (Option.map_eq_none_iff.1 h) q i
  | none :: r, h, q, i => by
    unfold lookS at h
    cases q with
    | zero => intro h2; injection h2 with h2; cases h2
    | succ q =>
      rw [List.getElem?_cons_succ]
      exact lookS_none (Option.map_eq_none_iff.1 h) q i
def findT (T : FT) (d : Nat) (nm : Bytes) : Nat × Nat :=
  if nameOk nm then
    match T d with
    | none => (0, 4)
    | some (.file _) => (0, 6)
    | some (.dir sl) => match lookS nm sl with
      | some (_, i) => (i, 0)
      | none => (0, 4)
  else (0, 1)
def NodeT.size : NodeT → Nat
  | .file b => b.length
  | .dir sl => 64 * sl.length
def NodeT.kind : NodeT → Nat
  | .file _ => 1
  | .dir _ => 2
theorem NodeT.f_size (x : NodeT) : x.f.2.length = x.size := by
  cases x with
  | file b => rfl
  | dir sl => exact dirB_length sl
def rootT : FT := fun i => if i = 0 then some (.dir []) else none
theorem cntB_succ (f : Nat → Bool) (n : Nat) : cntB f (n + 1) = cntB f n + (if f n then 1 else 0) := by
  unfold cntB
  rw [List.range_succ, List.filter_append, List.length_append]
  cases h : f n <;> simp [h]
end Go.Proofs.YtdmjkjeoamiedaaGreat
end
section
namespace Go.Proofs.YtdmjkjeoamiedaaGreat
open Go
def SpecD (P : Program) (f : FuncId) (args : Array Value) (L : List HP) (R : List HP → Value → List HP → Prop) : Prop :=
  ∀ B F w u, Sat B w (L ++ F) → CallsD P f args u w fun e u' w' => u' = u ∧ Post B F R e w'
theorem env0_start {vas : List Value} {fn : Func} (hn : Nat.ble vas.length fn.ntmps = true) : Ag ⟨fn.ntmps, []⟩ (env0 0 vas) { tmps := vas.toArray ++ Array.replicate (fn.ntmps - vas.toArray.size) undef, defers := [] } := by
  refine ⟨rfl, ?_, ?_⟩
  · have := Nat.le_of_ble_eq_true hn
    simp; omega
  · intro t v hv
    have := env0_look vas 0 t v hv
    simp only [Nat.sub_zero] at this
    have ht : t < vas.length := (List.getElem?_eq_some_iff.1 this.2).1
    rw [Array.getD_eq_getD_getElem?, Array.getElem?_append_left (by simpa using ht)]
    simp [this.2]
theorem SpecD.intro {P : Program} {f : FuncId} {fn : Func} {c : Code} {vas : List Value} {pre : List HP} {R : List HP → Value → List HP → Prop}
    (hf : P.funcs[f]? = some fn) (hb : fn.body = some c) (hn : Nat.ble vas.length fn.ntmps = true)
    (h : ∀ B F, WC P B ⟨fn.ntmps, []⟩ c (bodyPost P fn (Post B F R)) (env0 0 vas) (pre ++ F)) : SpecD P f vas.toArray pre R :=
  fun B F w u hs => callsD_of_wp hf hb (h B F _ w (env0_start hn) hs)
section
variable {P : Program} {B : Base} {n : Fr} {Q Q' : Exit → Act → World → Prop} {e : Env} {L : List HP} {ops : Array Oper} {l : List Oper}
variable {d : Nat} {ty : TypeId} {pos : String} {af : Array Edge} {x y z : Operand} {gd : Option (Nat × Bool)}
theorem WQ.openR {A : HP} {M : List HP} {α : Type} {p : α → Prop} {Ls : α → List HP} {xt : Exit} (hA : Opens A p Ls) (h : ∀ x, p x → WQ B n Q xt e (Ls x ++ M)) (r : Rem L A M := by repeat (first | exact .here | apply Rem.there)) : WQ B n Q xt e L := by
  intro a w ha hs
  obtain ⟨x, hp, hs⟩ := (hs.front r).opens hA
  exact h x hp a w ha hs
end
abbrev XV := Int ⊕ Bytes
def XV.v : XV → Value
  | .inl n => .int .i64 n
  | .inr s => sv s
def XV.k : XV → Bool
  | .inl _ => true
  | .inr _ => false
def mixT (P : Program) (t : Nat) (b : Bool) : Bool := if b then intAny P t else strOk P t
def fieldsMix (P : Program) : List Field → List Bool → Nat → Bool
  | [], [], _ => true
  | f :: fs, b :: bs, i => (f.name != "_") && Nat.beq f.offset i && mixT P f.type b && fieldsMix P fs bs (i + 1)
  | _, _, _ => false
def mixOk (P : Program) (t : Nat) (pat : List Bool) : Bool :=
  match P.underlying t with
  | some (.struct fs) => fieldsMix P fs.toList pat 0 && !P.stoodInHeld t && !P.eqGuardType P.depth t
  | _ => false
theorem mix_of {P : Program} {t : Nat} {pat : List Bool} (h : mixOk P t pat = true) : P.underlying t = some (.struct (P.fieldsOf t)) ∧ fieldsMix P (P.fieldsOf t).toList pat 0 = true ∧ P.stoodInHeld t = false ∧ P.eqGuardType P.depth t = false := by
  unfold mixOk at h
  split at h
  · rename_i fs hu
    simp only [Bool.and_eq_true] at h
    obtain ⟨⟨h2, h3⟩, h4⟩ := h
    have : P.fieldsOf t = fs := by simp [Program.fieldsOf, hu]
    rw [this]
    exact ⟨hu, h2, by simpa using h3, by simpa using h4⟩
  · cases h
end Go.Proofs.YtdmjkjeoamiedaaGreat
end
section
namespace Go.Proofs.YtdmjkjeoamiedaaGreat
open Go
section
variable {P : Program} {B : Base} {n : Fr} {Q Q' : Exit → Act → World → Prop} {e : Env} {L : List HP} {ops : Array Oper} {l : List Oper}
variable {d : Nat} {ty : TypeId} {pos : String} {af : Array Edge} {x y z : Operand} {gd : Option (Nat × Bool)}
theorem made_flat (zs : List Value) (hz : 0 < zs.length) (k : Nat) : (madeCells zs.toArray (k * zs.length)).toList = (List.replicate k zs).flatten := by
  apply List.ext_getElem?
  intro i
  have hl : ∀ k, ((List.replicate k zs).flatten).length = k * zs.length := fun k => by
    induction k with
    | zero => simp
    | succ k ih => rw [List.replicate_succ, List.flatten_cons, List.length_append, ih, Nat.succ_mul]; omega
  have key : ∀ k i, i < k * zs.length → ((List.replicate k zs).flatten)[i]? = zs[i % zs.length]? := by
    intro k
    induction k with
    | zero => intro i h; omega
    | succ k ih =>
      intro i h
      rw [List.replicate_succ, List.flatten_cons]
      by_cases hi : i < zs.length
      · rw [List.getElem?_append_left hi, Nat.mod_eq_of_lt hi]
      · rw [List.getElem?_append_right (by omega), ih (i - zs.length) (by rw [Nat.succ_mul] at h; omega)]
        rw [← Nat.mod_eq_sub_mod (by omega)]
  by_cases h : i < k * zs.length
  · rw [key k i h]
    have hm : i % zs.length < zs.length := Nat.mod_lt _ hz
    simp [madeCells, h, hm]
  · rw [List.getElem?_eq_none (l := (List.replicate k zs).flatten) (by rw [hl]; omega), List.getElem?_eq_none (by simp [madeCells]; omega)]
theorem WL.mkSt {t el bytes size : Nat} {k : Nat} {zs : List Value} (hz : zeroOf P el = some zs.toArray) (hzl : zs.length = size) (hs0 : 0 < size) (h : ∀ b, WL P B n ops l Q ((d, .slice (some ⟨b, 0, none⟩) k k) :: e) (row b el (List.replicate k zs).flatten :: L))
    (ht : sliceOk P t el size bytes = true) (hb : bytes * k ≤ 281474976710656) (hm : k ≤ 9223372036854775807) (hx : evo e x = some (.int .i64 (k : Int)) := by rfl) (hy : evo e y = some (.int .i64 (k : Int)) := by rfl) (hd : Nat.ble (d + 1) n.k = true := by rfl) :
    WL P B n ops (⟨some d, .makeSlice t x y, ty, pos, af, none⟩ :: l) Q e L :=
  WL.step rfl fun a w ha hs => by
    obtain ⟨hu, i, z, hi, hsz, hby, hzz⟩ := slice_of ht
    have hzc : z.cells = zs.toArray := by
      unfold zeroOf at hz
      simpa [hi, hzz] using hz
    have hb2 : (bytes : Int) * (k : Int) ≤ 281474976710656 := by
      have h1 : ((bytes * k : Nat) : Int) ≤ 281474976710656 := by omega
      rwa [Int.natCast_mul] at h1
    have hr := run_make (P := P) w t el i z hu hi hzz .i64 .i64 k k (by omega) (Int.le_refl _) (by rw [hby]; exact hb2) (by omega)
    rw [hsz, hzc, Int.toNat_natCast] at hr
    have hcells := made_flat zs (by omega) k
    rw [hzl] at hcells
    have hrow : ∀ b h, pt b (.cells (madeCells zs.toArray (k * size)) el (0, 0)) h → row b el (List.replicate k zs).flatten h := fun b h hh => by
      unfold row
      rw [← hcells, Array.toArray_toList]
      exact hh
    refine ⟨_, _, _, _, ?_, ha.put hd _, (hs.new _).imp (L := []) (hrow _), h w.heap.size⟩
    simp only [execOp, ha.eval hx, ha.eval hy]
    rw [Sem.run_bind, hr]
    rfl
end
end Go.Proofs.YtdmjkjeoamiedaaGreat
end
section
namespace Go.Proofs.YtdmjkjeoamiedaaGreat
open Go
def rslotB : Slot → Bytes
  | none => List.replicate 64 0
  | some (nm, i) => UInt8.ofNat nm.length :: ((nm ++ List.replicate 59 0).take 59 ++ [UInt8.ofNat i, UInt8.ofNat (i / 256), 0, 0])
theorem rslotB_length (s : Slot) : (rslotB s).length = 64 := by
  cases s with
  | none => exact List.length_replicate
  | some x =>
    obtain ⟨nm, i⟩ := x
    show (UInt8.ofNat nm.length :: ((nm ++ List.replicate 59 0).take 59 ++ [UInt8.ofNat i, UInt8.ofNat (i / 256), 0, 0])).length = 64
    rw [List.length_cons, List.length_append, List.length_take, List.length_append, List.length_replicate, Nat.min_eq_left (by omega)]
    rfl
def rdirB (sl : List Slot) : Bytes := sl.flatMap rslotB
theorem rdirB_append (a b : List Slot) : rdirB (a ++ b) = rdirB a ++ rdirB b := List.flatMap_append
theorem rdirB_length : ∀ sl : List Slot, (rdirB sl).length = 64 * sl.length
  | [] => rfl
  | s :: sl => by
    have := rdirB_length sl
    unfold rdirB at this ⊢
    rw [List.flatMap_cons, List.length_append, rslotB_length, this, List.length_cons]; omega
theorem rdirB_split {sl : List Slot} {q : Nat} (h : q < sl.length) : rdirB sl = rdirB (sl.take q) ++ (rslotB sl[q] ++ rdirB (sl.drop (q + 1))) := by
  have h1 : rdirB [sl[q]] = rslotB sl[q] := by unfold rdirB; rw [List.flatMap_cons, List.flatMap_nil, List.append_nil]
  rw [← h1, ← rdirB_append, ← rdirB_append]
  congr 1
  rw [List.singleton_append, List.getElem_cons_drop, List.take_append_drop]
theorem rdirB_at {sl : List Slot} {q : Nat} (h : q < sl.length) : ((rdirB sl).drop (64 * q)).take 64 = rslotB sl[q] := by
  have hl : (rdirB (sl.take q)).length = 64 * q := by rw [rdirB_length, List.length_take]; omega
  rw [rdirB_split h, ← hl, List.drop_left, List.take_left' (rslotB_length _)]
theorem rsetS_wr {sl : List Slot} {q : Nat} (h : q ≤ sl.length) (s : Slot) : wrB (rdirB sl) (64 * q) (rslotB s) = rdirB (setS sl q s) := by
  have hl := rdirB_length sl
  have ht : (rdirB (sl.take q)).length = 64 * q := by rw [rdirB_length, List.length_take]; omega
  have h1 : rdirB (s :: sl.drop (q + 1)) = rslotB s ++ rdirB (sl.drop (q + 1)) := by unfold rdirB; rw [List.flatMap_cons]
  unfold setS
  rw [rdirB_append, h1]
  unfold wrB splice
  by_cases hq : q < sl.length
  · have hx : ext (rdirB sl) (64 * q + (rslotB s).length) = rdirB sl := by
      unfold ext
      rw [rslotB_length, show 64 * q + 64 - (rdirB sl).length = 0 from by omega, List.replicate_zero, List.append_nil]
    have e1 : (rdirB sl).take (64 * q) = rdirB (sl.take q) := by
      rw [rdirB_split hq, List.take_left' ht]
    have e2 : (rdirB sl).drop (64 * q + (rslotB s).length) = rdirB (sl.drop (q + 1)) := by
      rw [rdirB_split hq, ← List.append_assoc, List.drop_left' (by rw [List.length_append, ht, rslotB_length, rslotB_length])]
    simp only [hx, e1, e2, List.append_assoc]
  · have hqe : q = sl.length := by omega
    have e0 : sl.take q = sl := by rw [hqe, List.take_length]
    have e3 : sl.drop (q + 1) = [] := List.drop_eq_nil_of_le (by omega)
    rw [e0, e3, show rdirB [] = [] from rfl, List.append_nil]
    have e1 : (ext (rdirB sl) (64 * q + (rslotB s).length)).take (64 * q) = rdirB sl := by
      unfold ext
      rw [List.take_left' (by omega)]
    have e2 : (ext (rdirB sl) (64 * q + (rslotB s).length)).drop (64 * q + (rslotB s).length) = [] := by
      refine List.drop_eq_nil_of_le ?_
      unfold ext
      rw [List.length_append, List.length_replicate, rslotB_length]; omega
    simp only [e1, e2, List.append_nil]
def slotNm : Slot → Bytes
  | none => []
  | some (nm, _) => nm
def slotNo : Slot → Nat
  | none => 0
  | some (_, i) => i
def findSl (nm : Bytes) : List Slot → Option Nat
  | [] => none
  | s :: r => if slotNm s = nm then some 0 else (findSl nm r).map (· + 1)
theorem findSl_some {nm : Bytes} : ∀ {sl : List Slot} {q : Nat}, findSl nm sl = some q → ∃ h : q < sl.length, slotNm sl[q] = nm ∧ ∀ j (hj : j < q), slotNm (sl[j]'(Nat.lt_trans hj h)) ≠ nm
  | s :: r, q, h => by
    unfold findSl at h
    split at h
    · rename_i hs
      injection h with h; subst h
      exact ⟨Nat.zero_lt_succ _, hs, fun j hj => absurd hj (Nat.not_lt_zero _)⟩
    · rename_i hs
      obtain ⟨x, hx, rfl⟩ := Option.map_eq_some_iff.1 h
      obtain ⟨h1, h2, h3⟩ := findSl_some hx
      refine ⟨Nat.succ_lt_succ h1, h2, fun j hj => ?_⟩
      cases j with
      | zero => exact hs
      | succ j => exact h3 j (Nat.lt_of_succ_lt_succ hj)
theorem findSl_none {nm : Bytes} : ∀ {sl : List Slot}, findSl nm sl = none → ∀ j (hj : j < sl.length), slotNm sl[j] ≠ nm
  | s :: r, h, j, hj => by
    unfold findSl at h
    split at h
    · cases h
    · rename_i hs
      cases j with
      | zero => exact hs
      | succ j => exact findSl_none (Option.map_eq_none_iff.1 h) j (Nat.lt_of_succ_lt_succ hj)
theorem findSl_at {nm : Bytes} {sl : List Slot} {q : Nat} (hq : q < sl.length) (h : slotNm sl[q] = nm) (hb : ∀ j (hj : j < q), slotNm (sl[j]'(Nat.lt_trans hj hq)) ≠ nm) : findSl nm sl = some q := by
  cases hf : findSl nm sl with
  | none => exact absurd h (findSl_none hf q hq)
  | some r =>
    obtain ⟨h1, h2, h3⟩ := findSl_some hf
    rcases Nat.lt_trichotomy r q with hlt | rfl | hgt
    · exact absurd h2 (hb r hlt)
    · rfl
    · exact absurd h (h3 q hgt)
theorem findSl_look {nm : Bytes} (hne : nm ≠ []) : ∀ sl : List Slot, findSl nm sl = (lookS nm sl).map (·.1)
  | [] => rfl
  | none :: r => by
    unfold findSl lookS
    rw [if_neg (fun h : slotNm none = nm => hne h.symm), findSl_look hne r]
    cases lookS nm r <;> rfl
  | some (n, i) :: r => by
    unfold findSl lookS
    by_cases h : n = nm
    · rw [if_pos h, if_pos (show slotNm (some (n, i)) = nm from h)]; rfl
    · rw [if_neg h, if_neg (show slotNm (some (n, i)) ≠ nm from h), findSl_look hne r]
      cases lookS nm r <;> rfl
theorem slotNm_nil {sl : List Slot} (hd : DirOk sl) {j : Nat} (hj : j < sl.length) (h : slotNm sl[j] = []) : sl[j] = none := by
  cases hs : sl[j] with
  | none => rfl
  | some x =>
    obtain ⟨n, i⟩ := x
    rw [hs] at h
    have := (hd.nm j n i (by rw [List.getElem?_eq_getElem hj, hs])).1.1
    have h : n = [] := h
    subst h
    simp at this
theorem freeS_find {sl : List Slot} (hd : DirOk sl) : freeS sl = (findSl [] sl).getD sl.length := by
  unfold freeS
  cases hf : freeF sl sl.length with
  | some r =>
    obtain ⟨h1, h2, h3⟩ := freeF_some hf
    have h4 : sl[r] = none := by rw [List.getElem?_eq_getElem h1] at h2; injection h2
    rw [findSl_at h1 (by rw [h4]; rfl) (fun j hj hn => by
      have hjl : j < sl.length := Nat.lt_trans hj h1
      have := h3 j hj
      rw [List.getElem?_eq_getElem hjl, slotNm_nil hd hjl hn] at this
      exact this rfl)]
    try rfl
  | none =>
    have h3 := freeF_some.freeF_none hf
    cases hg : findSl [] sl with
    | none => rfl
    | some r =>
      obtain ⟨h1, h2, _⟩ := findSl_some hg
      exact absurd (by rw [List.getElem?_eq_getElem h1, slotNm_nil hd h1 h2]) (h3 r h1)
def NodeT.r : NodeT → Bytes
  | .file b => b
  | .dir sl => rdirB sl
theorem NodeT.r_length (x : NodeT) : x.r.length = x.size := by
  cases x with
  | file b => rfl
  | dir sl => exact rdirB_length sl
def refK : Option NodeT → Nat
  | none => 0
  | some x => x.kind
def refBy : Option NodeT → Bytes
  | none => []
  | some x => x.r
theorem refK_zero {o : Option NodeT} : refK o = 0 ↔ o = none := by
  cases o with
  | none => exact ⟨fun _ => rfl, fun _ => rfl⟩
  | some x => cases x <;> exact ⟨fun h => (nomatch h), fun h => (nomatch h)⟩
def RTOk (T : FT) : Prop := ∀ d sl, T d = some (.dir sl) → ∀ (q : Nat) (nm : Bytes) (i : Nat), sl[q]? = some (some (nm, i)) → i < 65536
structure RRow (el : Nat) (os : List (Nat × Obj)) (o : Option NodeT) (e : Nat × Value) : Prop where
  kd : e.1 = refK o
  by' : (e.2 = .slice none 0 0 ∧ refBy o = []) ∨ ∃ g cap cur fr, e.2 = .slice (some ⟨g, 0, none⟩) (refBy o).length cap ∧ (g, Obj.cells cur el fr) ∈ os ∧ (refBy o).length ≤ cap ∧ cap ≤ maxLen ∧ cur.toList.take (refBy o).length = bvs (refBy o)
def rowV (e : Nat × Value) : List Value := [nI e.1, e.2]
theorem rowV_length : ∀ L : List (Nat × Value), (L.flatMap rowV).length = L.length * 2
  | [] => rfl
  | r :: L => by rw [List.flatMap_cons, List.length_append, rowV_length L, List.length_cons]; show 2 + _ = _; omega
theorem rowV_get : ∀ {L : List (Nat × Value)} {q : Nat} (h : q < L.length), (L.flatMap rowV)[q * 2]? = some (nI L[q].1) ∧ (L.flatMap rowV)[q * 2 + 1]? = some L[q].2
  | r :: L, 0, h => ⟨rfl, rfl⟩
  | r :: L, q + 1, h => by
    have ih := rowV_get (L := L) (q := q) (Nat.lt_of_succ_lt_succ h)
    have e : ∀ j, ((r :: L).flatMap rowV)[(q + 1) * 2 + j]? = (L.flatMap rowV)[q * 2 + j]? := fun j => by
      rw [List.flatMap_cons, List.getElem?_append_right (by show 2 ≤ _; omega)]
      congr 1
      show (q + 1) * 2 + j - 2 = _
      omega
    exact ⟨(e 0).trans ih.1, (e 1).trans ih.2⟩
theorem rowV_split {L : List (Nat × Value)} {q : Nat} (h : q < L.length) : L.flatMap rowV = (L.take q).flatMap rowV ++ (rowV L[q] ++ (L.drop (q + 1)).flatMap rowV) := by
  conv => lhs; rw [← List.take_append_drop q L, List.drop_eq_getElem_cons h]
  rw [List.flatMap_append, List.flatMap_cons]
theorem rowV_set {L : List (Nat × Value)} {q : Nat} (h : q < L.length) (r : Nat × Value) : (L.flatMap rowV).take (q * 2) ++ rowV r ++ (L.flatMap rowV).drop (q * 2 + 2) = (L.set q r).flatMap rowV := by
  have h2 : ((L.take q).flatMap rowV).length = q * 2 := by rw [rowV_length, List.length_take]; omega
  have h3 : (L.flatMap rowV).take (q * 2) = (L.take q).flatMap rowV := by rw [rowV_split h, List.take_left' h2]
  have h4 : (L.flatMap rowV).drop (q * 2 + 2) = (L.drop (q + 1)).flatMap rowV := by rw [rowV_split h, ← List.append_assoc, List.drop_left' (by rw [List.length_append, h2]; rfl)]
  rw [h3, h4, List.set_eq_take_append_cons_drop, if_pos h, List.flatMap_append, List.flatMap_cons, List.append_assoc]
theorem rowV_set1 {L : List (Nat × Value)} {q : Nat} (h : q < L.length) (v : Value) : (L.flatMap rowV).set (q * 2 + 1) v = (L.set q (L[q].1, v)).flatMap rowV := by
  rw [← rowV_set h (L[q].1, v)]
  have h2 : ((L.take q).flatMap rowV).length = q * 2 := by rw [rowV_length, List.length_take]; omega
  have h3 : (L.flatMap rowV).take (q * 2) = (L.take q).flatMap rowV := by rw [rowV_split h, List.take_left' h2]
  have h4 : (L.flatMap rowV).drop (q * 2 + 2) = (L.drop (q + 1)).flatMap rowV := by rw [rowV_split h, ← List.append_assoc, List.drop_left' (by rw [List.length_append, h2]; rfl)]
  rw [h3, h4]
  conv => lhs; rw [rowV_split h]
  rw [List.set_append_right _ _ (by omega), h2, show q * 2 + 1 - q * 2 = 1 from by omega, List.append_assoc]
  rfl
end Go.Proofs.YtdmjkjeoamiedaaGreat
end
section
namespace Go.Proofs.YtdmjkjeoamiedaaGreat
open Go
theorem rfName {xs : Bytes} (hl : xs.length ≤ 1000000) : Spec Tryz.prog 91 #[sv xs] [] fun F v M => v = .bool (nameOk xs) ∧ M = F := by
  refine Spec.intro Tryz.func91 rfl rfl fun B F => ?_
  simp only [Tryz.ntmps91, List.cons_append, List.nil_append, env0, Nat.reduceAdd]
  by_cases h1 : xs = []
  · have hno : nameOk xs = false := by unfold nameOk; rw [decide_eq_true h1]; rfl
    refine .sr (.assign (.z (.seq (.sr (.move ?_)))))
    refine .eqS xs [] ?_
    refine .cast (d := 5) (u := .bool true) rfl (congrArg Value.bool (decide_eq_true h1)) ?_
    refine .move ?_
    refine .gF ?_
    refine .gF ?_
    refine .gF ?_
    refine .pickT ?_
    refine .move ?_
    refine .gF ?_
    refine .gF ?_
    refine .pickT ?_
    refine .move ?_
    refine .gF ?_
    refine .gF ?_
    refine .pickT ?_
    refine .z ?_
    refine .condT rfl rfl ?_
    refine .sr (.assign (.z ?_))
    refine .ret (.thenRet (?_))
    exact .ret1 (h1 := .tmp (t := 2) rfl) ⟨_, ⟨by rw [hno], rfl⟩, Am.auto⟩
  · by_cases h5 : 50 < xs.length
    · have hno : nameOk xs = false := by unfold nameOk; rw [decide_eq_false (show ¬ xs.length ≤ 50 by omega)]; simp
      refine .sr (.assign (.z (.seq (.sr (.move ?_)))))
      refine .eqS xs [] ?_
      refine .cast (d := 5) (u := .bool false) rfl (congrArg Value.bool (decide_eq_false h1)) ?_
      refine .move ?_
      refine .gT ?_
      refine .move ?_
      refine .gT ?_
      refine .lenT _ ?_ st9
      refine .gT ?_
      refine .gtr ?_
      refine .pickF ?_
      refine .move ?_
      refine .cast (d := 11) (u := .bool true) rfl (congrArg Value.bool (by first | (simp; done) | (simp; omega) | omega)) ?_
      refine .gF ?_
      refine .gF ?_
      refine .pickT ?_
      refine .move ?_
      refine .gF ?_
      refine .gF ?_
      refine .pickT ?_
      refine .z ?_
      refine .condT rfl rfl ?_
      refine .sr (.assign (.z ?_))
      refine .ret (.thenRet (?_))
      exact .ret1 (h1 := .tmp (t := 2) rfl) ⟨_, ⟨by rw [hno], rfl⟩, Am.auto⟩
    · by_cases h9 : xs = [46]
      · have hno : nameOk xs = false := by unfold nameOk; rw [decide_eq_true h9]; simp
        refine .sr (.assign (.z (.seq (.sr (.move ?_)))))
        refine .eqS xs [] ?_
        refine .cast (d := 5) (u := .bool false) rfl (congrArg Value.bool (decide_eq_false h1)) ?_
        refine .move ?_
        refine .gT ?_
        refine .move ?_
        refine .gT ?_
        refine .lenT _ ?_ st9
        refine .gT ?_
        refine .gtr ?_
        refine .pickF ?_
        refine .move ?_
        refine .cast (d := 11) (u := .bool false) rfl (congrArg Value.bool (by first | (simp; done) | (simp; omega) | omega)) ?_
        refine .gT ?_
        refine .move ?_
        refine .gT ?_
        refine .eqS xs [46] ?_
        refine .cast (d := 13) (u := .bool true) rfl (congrArg Value.bool (decide_eq_true h9)) ?_
        refine .pickF ?_
        refine .move ?_
        refine .gF ?_
        refine .gF ?_
        refine .pickT ?_
        refine .z ?_
        refine .condT rfl rfl ?_
        refine .sr (.assign (.z ?_))
        refine .ret (.thenRet (?_))
        exact .ret1 (h1 := .tmp (t := 2) rfl) ⟨_, ⟨by rw [hno], rfl⟩, Am.auto⟩
      · by_cases h13 : xs = [46, 46]
        · have hno : nameOk xs = false := by unfold nameOk; rw [decide_eq_true h13]; simp
          refine .sr (.assign (.z (.seq (.sr (.move ?_)))))
          refine .eqS xs [] ?_
          refine .cast (d := 5) (u := .bool false) rfl (congrArg Value.bool (decide_eq_false h1)) ?_
          refine .move ?_
          refine .gT ?_
          refine .move ?_
          refine .gT ?_
          refine .lenT _ ?_ st9
          refine .gT ?_
          refine .gtr ?_
          refine .pickF ?_
          refine .move ?_
          refine .cast (d := 11) (u := .bool false) rfl (congrArg Value.bool (by first | (simp; done) | (simp; omega) | omega)) ?_
          refine .gT ?_
          refine .move ?_
          refine .gT ?_
          refine .eqS xs [46] ?_
          refine .cast (d := 13) (u := .bool false) rfl (congrArg Value.bool (decide_eq_false h9)) ?_
          refine .pickF ?_
          refine .move ?_
          refine .gT ?_
          refine .move ?_
          refine .gT ?_
          refine .eqS xs [46, 46] ?_
          refine .cast (d := 17) (u := .bool true) rfl (congrArg Value.bool (decide_eq_true h13)) ?_
          refine .pickF ?_
          refine .z ?_
          refine .condT rfl rfl ?_
          refine .sr (.assign (.z ?_))
          refine .ret (.thenRet (?_))
          exact .ret1 (h1 := .tmp (t := 2) rfl) ⟨_, ⟨by rw [hno], rfl⟩, Am.auto⟩
        · refine .sr (.assign (.z (.seq (.sr (.move ?_)))))
          refine .eqS xs [] ?_
          refine .cast (d := 5) (u := .bool false) rfl (congrArg Value.bool (decide_eq_false h1)) ?_
          refine .move ?_
          refine .gT ?_
          refine .move ?_
          refine .gT ?_
          refine .lenT _ ?_ st9
          refine .gT ?_
          refine .gtr ?_
          refine .pickF ?_
          refine .move ?_
          refine .cast (d := 11) (u := .bool false) rfl (congrArg Value.bool (by first | (simp; done) | (simp; omega) | omega)) ?_
          refine .gT ?_
          refine .move ?_
          refine .gT ?_
          refine .eqS xs [46] ?_
          refine .cast (d := 13) (u := .bool false) rfl (congrArg Value.bool (decide_eq_false h9)) ?_
          refine .pickF ?_
          refine .move ?_
          refine .gT ?_
          refine .move ?_
          refine .gT ?_
          refine .eqS xs [46, 46] ?_
          refine .cast (d := 17) (u := .bool false) rfl (congrArg Value.bool (decide_eq_false h13)) ?_
          refine .pickF ?_
          refine .z ?_
          refine .condF rfl rfl ?_
          refine .skip (.next (.seq (.sr (.assign (.z (.block ?_))))))
          refine .loopA (σ := Nat) (fun k => [(0, sv xs), (3, .int .i64 ((k : Nat) : Int))]) (fun _ => F) (fun k => k ≤ xs.length ∧ ∀ j, j < k → ∀ h : j < xs.length, xs[j] ≠ 47 ∧ xs[j] ≠ 0) (fun k => xs.length - k) 0 ⟨Nat.zero_le _, fun j hj => absurd hj (Nat.not_lt_zero _)⟩ ?_
          rintro k hk
          refine .seq (.sr (.move (.move ?_)))
          refine .lenT _ ?_ st9
          refine .lss ?_
          refine .z ?_
          refine .cond rfl (fun hb => ?_) (fun hb => ?_)
          · have hlt : k < xs.length := by have h : (k : Int) < (xs.length : Int) := of_decide_eq_true hb; omega
            have hx : xs[((k : Nat) : Int).toNat]? = some xs[k] := by rw [Int.toNat_natCast]; exact List.getElem?_eq_getElem hlt
            by_cases hz : xs[k] = 0
            · have hz2 : xs[k].toNat = 0 := by rw [hz]; rfl
              have hno : nameOk xs = false := by unfold nameOk; rw [sepIn_yes hlt (.inr hz)]; simp
              refine .skip (.next (.seq (.block (.sr (.move (.move ?_))))))
              refine .ixT (p := (k : Int)) (v := xs[k]) xs ?_ st9 hx
              refine .eqi ?_
              refine .move ?_
              refine .cast (d := 29) (u := .bool true) rfl (congrArg Value.bool (by first | (simp; done) | (simp; omega) | omega)) ?_
              refine .gF ?_
              refine .gF ?_
              refine .gF ?_
              refine .gF ?_
              refine .pickT ?_
              refine .z ?_
              refine .condT rfl rfl ?_
              refine .sr (.assign (.z ?_))
              refine .ret (.blockRet (.thenRet (.thenRet (.blockRet (.thenRet (?_))))))
              exact .ret1 (h1 := .tmp (t := 2) rfl) ⟨_, ⟨by rw [hno], rfl⟩, Am.auto⟩
            · have hz2 : ¬ xs[k].toNat = 0 := fun h => hz (UInt8.toNat_inj.1 h)
              by_cases hs : xs[k] = 47
              · have hs2 : xs[k].toNat = 47 := by rw [hs]; rfl
                have hno : nameOk xs = false := by unfold nameOk; rw [sepIn_yes hlt (.inl hs)]; simp
                refine .skip (.next (.seq (.block (.sr (.move (.move ?_))))))
                refine .ixT (p := (k : Int)) (v := xs[k]) xs ?_ st9 hx
                refine .eqi ?_
                refine .move ?_
                refine .cast (d := 29) (u := .bool false) rfl (congrArg Value.bool (by first | (simp; done) | (simp; omega) | omega)) ?_
                refine .gT ?_
                refine .move ?_
                refine .gT ?_
                refine .move ?_
                refine .gT ?_
                refine .ixT (p := (k : Int)) (v := xs[k]) xs ?_ st9 hx
                refine .gT ?_
                refine .eqi ?_
                refine .pickF ?_
                refine .z ?_
                refine .condT rfl (congrArg Value.bool (by first | (simp; done) | (simp; omega) | omega)) ?_
                refine .sr (.assign (.z ?_))
                refine .ret (.blockRet (.thenRet (.thenRet (.blockRet (.thenRet (?_))))))
                exact .ret1 (h1 := .tmp (t := 2) rfl) ⟨_, ⟨by rw [hno], rfl⟩, Am.auto⟩
              · have hs2 : ¬ xs[k].toNat = 47 := fun h => hs (UInt8.toNat_inj.1 h)
                refine .skip (.next (.seq (.block (.sr (.move (.move ?_))))))
                refine .ixT (p := (k : Int)) (v := xs[k]) xs ?_ st9 hx
                refine .eqi ?_
                refine .move ?_
                refine .cast (d := 29) (u := .bool false) rfl (congrArg Value.bool (by first | (simp; done) | (simp; omega) | omega)) ?_
                refine .gT ?_
                refine .move ?_
                refine .gT ?_
                refine .move ?_
                refine .gT ?_
                refine .ixT (p := (k : Int)) (v := xs[k]) xs ?_ st9 hx
                refine .gT ?_
                refine .eqi ?_
                refine .pickF ?_
                refine .z ?_
                refine .condF rfl (congrArg Value.bool (by first | (simp; done) | (simp; omega) | omega)) ?_
                refine .skip (.blockNormal (.next (.region (.move ?_))))
                refine .add ?_
                refine .assign (.nil ?_)
                refine .cast (d := 3) (u := .int .i64 ((k + 1 : Nat) : Int)) rfl (congrArg (Value.int .i64) (by omega)) ?_
                exact .back (k + 1) ⟨by show k + 1 ≤ xs.length; omega, fun j hj hjl => (Nat.lt_or_ge j k).elim (fun h => hk.2 j h hjl) (fun h => by have h2 : j = k := (by omega); subst h2; exact ⟨hs, hz⟩)⟩ (by show xs.length - (k + 1) < xs.length - k; omega)
          · have hge : k = xs.length := by have h : ¬ (k : Int) < (xs.length : Int) := of_decide_eq_false hb; omega
            have hyes : nameOk xs = true := by
              unfold nameOk
              rw [sepIn_no (fun j hj => hk.2 j (by omega) hj), decide_eq_false h1, decide_eq_false h9, decide_eq_false h13, decide_eq_true (show xs.length ≤ 50 by omega)]; rfl
            refine .exit (.thenExit (.thenExit (.blockExit (?_))))
            refine .next (.sr (.assign (.z ?_)))
            refine .ret (?_)
            exact .ret1 (h1 := .tmp (t := 2) rfl) ⟨_, ⟨by rw [hyes], rfl⟩, Am.auto⟩
theorem rfNeed {n : Nat} (hn : n ≤ 1000000000) : Spec Tryz.prog 64 #[nI n] [] fun F v M => v = nI (has n) ∧ M = F := by
  refine Spec.intro Tryz.func64 rfl rfl fun B F => ?_
  simp only [Tryz.ntmps64, List.cons_append, List.nil_append, env0, Nat.reduceAdd]
  by_cases h : dat n ≤ 10
  · have hh : has n = dat n := by unfold has; rw [if_pos h]
    refine .sr (.assign (.x (.move ?_)))
    refine .add ?_
    refine .sub ?_
    refine .quo ?_
    refine .cast (d := 7) (u := nI (dat n)) rfl (congrArg (Value.int .i64) (by unfold dat; omega)) ?_
    refine .assign (.z (.seq (.sr (.move ?_))))
    refine .gtr ?_
    refine .z ?_
    refine .condF rfl (congrArg Value.bool (by first | (simp; done) | (simp; omega) | omega)) ?_
    refine .skip (.next (.sr (.move (.assign (.z ?_)))))
    refine .ret (?_)
    exact .ret1 (h1 := .tmp (t := 2) rfl) ⟨_, ⟨by rw [hh], rfl⟩, Am.auto⟩
  · have hd : dat n ≤ 2000000 := by unfold dat; omega
    have hh : has n = dat n + 1 := by unfold has; rw [if_neg h]
    refine .sr (.assign (.x (.move ?_)))
    refine .add ?_
    refine .sub ?_
    refine .quo ?_
    refine .cast (d := 7) (u := nI (dat n)) rfl (congrArg (Value.int .i64) (by unfold dat; omega)) ?_
    refine .assign (.z (.seq (.sr (.move ?_))))
    refine .gtr ?_
    refine .z ?_
    refine .condT rfl (congrArg Value.bool (by first | (simp; done) | (simp; omega) | omega)) ?_
    refine .region (.move ?_)
    refine .add ?_
    refine .assign (.x (.move (.assign (.z ?_))))
    refine .ret (?_)
    exact .ret1 (h1 := .tmp (t := 2) rfl) ⟨_, ⟨by rw [hh]; rfl, rfl⟩, Am.auto⟩
def stN (nm : Bytes) (k : Nat) : Bytes := UInt8.ofNat nm.length :: (nm.take k ++ List.replicate (63 - k) 0)
theorem stN_length {nm : Bytes} {k : Nat} (hk : k ≤ nm.length) (hn : nm.length ≤ 50) : (stN nm k).length = 64 := by
  unfold stN
  rw [List.length_cons, List.length_append, List.length_take, List.length_replicate]; omega
theorem stN_start (nm : Bytes) : (List.replicate 64 (0 : UInt8)).set 0 (UInt8.ofNat nm.length) = stN nm 0 := rfl
theorem stN_step {nm : Bytes} {k : Nat} (hk : k < nm.length) (hn : nm.length ≤ 50) : (stN nm k).set (k + 1) nm[k] = stN nm (k + 1) := by
  have hl : (nm.take k).length = k := by rw [List.length_take]; omega
  unfold stN
  rw [List.set_cons_succ, List.set_append_right _ _ (by omega), hl, Nat.sub_self, List.take_succ_eq_append_getElem hk, List.append_assoc, show 63 - k = (63 - (k + 1)) + 1 from by omega, List.replicate_succ, List.set_cons_zero]
  rfl
theorem stN_end {nm : Bytes} (hn : nm.length ≤ 50) (a b : UInt8) : ((stN nm nm.length).set 60 a).set 61 b = UInt8.ofNat nm.length :: ((nm ++ List.replicate 59 0).take 59 ++ [a, b, 0, 0]) := by
  have h1 : nm ++ List.replicate (63 - nm.length) 0 = (nm ++ List.replicate (59 - nm.length) 0) ++ [0, 0, 0, 0] := by
    rw [List.append_assoc, show 63 - nm.length = (59 - nm.length) + 4 from by omega, ← List.replicate_append_replicate]; rfl
  have h2 : (nm ++ List.replicate 59 0).take 59 = nm ++ List.replicate (59 - nm.length) (0 : UInt8) := by
    rw [List.take_append, List.take_of_length_le (by omega), List.take_replicate, Nat.min_eq_left (by omega)]
  have h3 : (nm ++ List.replicate (59 - nm.length) (0 : UInt8)).length = 59 := by rw [List.length_append, List.length_replicate]; omega
  unfold stN
  rw [List.take_length, h1, h2, List.set_cons_succ, List.set_cons_succ, List.set_append_right _ _ (by omega), List.set_append_right _ _ (by omega), h3]
  rfl
theorem shr8 (i : Nat) : ((i : Int).fdiv (2 ^ (min (8 : Int).toNat IntKind.i64.bits))) = ((i / 256 : Nat) : Int) := by
  show (i : Int).fdiv 256 = _
  rw [Int.fdiv_eq_ediv_of_nonneg _ (by decide)]; omega
theorem rfSlot {nm : Bytes} {i : Nat} (hn : nm.length ≤ 50) (hi : i < 65536) : Spec Tryz.prog 46 #[sv nm, nI i] [] fun F v M => ∃ b, v = .slice (some ⟨b, 0, none⟩) 64 64 ∧ M = buf b 5 64 (bvs (rslotB (some (nm, i)))) :: F := by
  refine Spec.intro Tryz.func46 rfl rfl fun B F => ?_
  simp only [Tryz.ntmps46, List.cons_append, List.nil_append, env0, Nat.reduceAdd]
  refine .sr (.assign (.x ?_))
  refine .mkSN 64 z5 so91 (by decide) (by decide) fun b7 => ?_
  refine .to (A := buf b7 5 64 (List.replicate 64 (.int .u8 0))) (A' := buf b7 5 64 (bvs (List.replicate 64 0))) (fun h hh => by rw [bvs_replicate]; exact hh) ?_
  refine .assign (.x (.move (.move ?_)))
  refine .lenT _ ?_ st9
  refine .cvt ?_ un3 un5
  refine .cast (d := 11) (u := bv (UInt8.ofNat nm.length)) rfl (wrap_ofNat _) ?_
  refine .idx1 ?_ so91
  refine .stB (i := 0 + (0 : Int).toNat) (xs := bvs (List.replicate 64 0)) (v := bv (UInt8.ofNat nm.length)) ?_ sc5 (by rw [bvs_length, List.length_replicate]; decide)
  refine .to (A := buf b7 5 64 ((bvs (List.replicate 64 0)).set (0 + (0 : Int).toNat) (bv (UInt8.ofNat nm.length)))) (A' := buf b7 5 64 (bvs (stN nm 0))) (fun h hh => by rw [← stN_start, bvs_set]; exact hh) ?_
  refine .z (.seq (.sr (.assign (.z (.block ?_)))))
  refine .loopA (σ := Nat) (fun k => [(0, sv nm), (1, nI i), (5, .slice (some ⟨b7, 0, none⟩) 64 64), (6, .int .i64 ((k : Nat) : Int))]) (fun k => buf b7 5 64 (bvs (stN nm k)) :: F) (fun k => k ≤ nm.length) (fun k => nm.length - k) 0 (Nat.zero_le _) ?_
  rintro k hk
  refine .seq (.sr (.move (.move ?_)))
  refine .lenT _ ?_ st9
  refine .lss ?_
  refine .z ?_
  refine .cond rfl (fun hb => ?_) (fun hb => ?_)
  · have hlt : k < nm.length := by have h : (k : Int) < (nm.length : Int) := of_decide_eq_true hb; omega
    have hx : nm[((k : Nat) : Int).toNat]? = some nm[k] := by rw [Int.toNat_natCast]; exact List.getElem?_eq_getElem hlt
    refine .skip (.next (.seq (.block (.region (.move (.move ?_))))))
    refine .add ?_
    refine .move (.move ?_)
    refine .ixT (p := (k : Int)) (v := nm[k]) nm ?_ st9 hx
    refine .idx1 ?_ so91
    refine .stB (i := 0 + (1 + ((k : Nat) : Int)).toNat) (xs := bvs (stN nm k)) (v := bv nm[k]) ?_ sc5 (by rw [bvs_length, stN_length (by omega) hn]; omega)
    refine .to (A := buf b7 5 64 ((bvs (stN nm k)).set (0 + (1 + ((k : Nat) : Int)).toNat) (bv nm[k]))) (A' := buf b7 5 64 (bvs (stN nm (k + 1)))) (fun h hh => by rw [← stN_step hlt hn, bvs_set]; rw [show 0 + (1 + ((k : Nat) : Int)).toNat = k + 1 from by omega] at hh; exact hh) ?_
    refine .nil (.blockNormal (.next (.region (.move ?_))))
    refine .add ?_
    refine .assign (.nil ?_)
    refine .cast (d := 6) (u := .int .i64 ((k + 1 : Nat) : Int)) rfl (congrArg (Value.int .i64) (by omega)) ?_
    exact .back (k + 1) (by show k + 1 ≤ nm.length; omega) (by show nm.length - (k + 1) < nm.length - k; omega)
  · have hge : k = nm.length := by have h : ¬ (k : Int) < (nm.length : Int) := of_decide_eq_false hb; omega
    subst hge
    refine .exit (.thenExit (.thenExit (.blockExit (?_))))
    refine .next (.sr (.move (.move ?_)))
    refine .cvt ?_ un3 un5
    refine .cast (d := 28) (u := bv (UInt8.ofNat i)) rfl (wrap_ofNat _) ?_
    refine .idx1 ?_ so91
    refine .stB (i := 0 + (60 : Int).toNat) (xs := bvs (stN nm nm.length)) (v := bv (UInt8.ofNat i)) ?_ sc5 (by rw [bvs_length, stN_length (Nat.le_refl _) hn]; decide)
    refine .to (A := buf b7 5 64 ((bvs (stN nm nm.length)).set (0 + (60 : Int).toNat) (bv (UInt8.ofNat i)))) (A' := buf b7 5 64 (bvs ((stN nm nm.length).set 60 (UInt8.ofNat i)))) (fun h hh => by rw [bvs_set]; exact hh) ?_
    refine .x (.move (.move ?_))
    refine .shr ?_
    refine .cast (d := 32) (u := nI (i / 256)) rfl (congrArg (Value.int .i64) (shr8 i)) ?_
    refine .cvt ?_ un3 un5
    refine .cast (d := 33) (u := bv (UInt8.ofNat (i / 256))) rfl (wrap_ofNat _) ?_
    refine .idx1 ?_ so91
    refine .stB (i := 0 + (61 : Int).toNat) (xs := bvs ((stN nm nm.length).set 60 (UInt8.ofNat i))) (v := bv (UInt8.ofNat (i / 256))) ?_ sc5 (by rw [bvs_length, List.length_set, stN_length (Nat.le_refl _) hn]; decide)
    refine .to (A := buf b7 5 64 ((bvs ((stN nm nm.length).set 60 (UInt8.ofNat i))).set (0 + (61 : Int).toNat) (bv (UInt8.ofNat (i / 256))))) (A' := buf b7 5 64 (bvs (rslotB (some (nm, i))))) (fun h hh => by rw [show rslotB (some (nm, i)) = _ from (stN_end hn _ _).symm, bvs_set]; exact hh) ?_
    refine .x (.move (.assign (.z ?_)))
    refine .ret (?_)
    exact .ret1 (h1 := .tmp (t := 4) rfl) ⟨_, ⟨b7, rfl, rfl⟩, Am.auto⟩
theorem bor_i64 (a b : Nat) (ha : a < 256) (hb : b < 256) : bor .i64 (a : Int) ((b * 256 : Nat) : Int) = ((a + b * 256 : Nat) : Int) := by
  have h : bor .i64 (a : Int) ((b * 256 : Nat) : Int) = IntKind.i64.wrap ((a ||| (b * 256) : Nat) : Int) := by
    unfold bor
    congr 2
    rw [BitVec.toNat_or]
    rw [show IntKind.i64.bits = 64 from rfl, ofInt_nat64 _ (by omega), ofInt_nat64 _ (by omega)]
  have hor : a ||| (b * 256) = a + b * 256 := by
    have := Nat.two_pow_add_eq_or_of_lt (i := 8) (b := a) (by omega) b
    rw [Nat.or_comm, show b * 256 = 2 ^ 8 * b from by omega, ← this]; omega
  rw [h, hor, IntWalk.i64_in _ (by omega)]
theorem slot_lo {n : Nat} : (UInt8.ofNat n).toNat = n % 256 := UInt8.toNat_ofNat' ..
theorem rslotB_parts {s : Slot} (hs : (slotNm s).length ≤ 50) : (bvs (rslotB s))[0]? = some (bv (UInt8.ofNat (slotNm s).length)) ∧ (bvs (rslotB s))[60]? = some (bv (UInt8.ofNat (slotNo s))) ∧ (bvs (rslotB s))[61]? = some (bv (UInt8.ofNat (slotNo s / 256))) ∧ ((rslotB s).drop 1).take (slotNm s).length = slotNm s := by
  cases s with
  | none => exact ⟨rfl, rfl, rfl, rfl⟩
  | some x =>
    obtain ⟨nm, i⟩ := x
    have hs : nm.length ≤ 50 := hs
    have hl : ((nm ++ List.replicate 59 (0 : UInt8)).take 59).length = 59 := by rw [List.length_take, List.length_append, List.length_replicate]; omega
    have g : ∀ j, (bvs (rslotB (some (nm, i))))[60 + j]? = (bvs [UInt8.ofNat i, UInt8.ofNat (i / 256), 0, 0])[j]? := by
      intro j
      unfold bvs rslotB
      rw [List.getElem?_map, List.getElem?_map, show 60 + j = (59 + j) + 1 from by omega, List.getElem?_cons_succ, List.getElem?_append_right (by omega), hl, show 59 + j - 59 = j from by omega]
    refine ⟨rfl, g 0, g 1, ?_⟩
    show (((nm ++ List.replicate 59 (0 : UInt8)).take 59 ++ [UInt8.ofNat i, UInt8.ofNat (i / 256), 0, 0])).take nm.length = nm
    rw [List.take_append_of_le_length (by omega), List.take_take, Nat.min_eq_left (by omega), List.take_left']
    rfl
theorem rfAt {R : HP} {A : Option Addr} {m c k : Nat} {bs : Bytes} {s : Slot} (hR : Reads R A (bvs bs)) (hm : bs.length = m) (hk : 64 * k + 64 ≤ m) (hmc : m ≤ c) (hm2 : m ≤ 1000000) (hs : (bs.drop (64 * k)).take 64 = rslotB s) (hnl : (slotNm s).length ≤ 50) (hno : slotNo s < 65536) : Spec Tryz.prog 48 #[.slice A m c, nI k] [R] fun F v M => v = .tuple #[sv (slotNm s), nI (slotNo s)] ∧ M = R :: F := by
  refine Spec.intro Tryz.func48 rfl rfl fun B F => ?_
  simp only [Tryz.ntmps48, List.cons_append, List.nil_append, env0, Nat.reduceAdd]
  rcases A with _ | ⟨ab, ao, asp⟩
  · exact absurd (congrArg List.length (show bvs bs = [] from hR)) (by rw [bvs_length]; simp only [List.length_nil]; omega)
  have hsp : asp = none := hR.1
  subst hsp
  have hx : Reads R (some ⟨ab, ao + 64 * k, none⟩) (bvs (rslotB s)) := by
    have := (hR.drop (64 * k)).take 64
    rwa [← bvs_drop, ← bvs_take, hs] at this
  obtain ⟨g0, g60, g61, gn⟩ := rslotB_parts hnl
  have hxl := rslotB_length s
  have hxn : Reads R (some ⟨ab, ao + 64 * k + 1, none⟩) (bvs (slotNm s)) := by
    have := (hx.drop 1).take (slotNm s).length
    rwa [← bvs_drop, ← bvs_take, gn] at this
  obtain ⟨ln, hln⟩ : ∃ ln, (slotNm s).length = ln := ⟨_, rfl⟩
  rw [hln] at g0 hnl
  obtain ⟨no, hnn⟩ : ∃ no, slotNo s = no := ⟨_, rfl⟩
  rw [hnn] at g60 g61 hno ⊢
  have c0 : IntKind.i64.wrap ((UInt8.ofNat ln).toNat : Int) = (ln : Int) := by rw [slot_lo, IntWalk.i64_in _ (by omega)]; omega
  have c1 : IntKind.i64.wrap ((UInt8.ofNat no).toNat : Int) = ((no % 256 : Nat) : Int) := by rw [slot_lo, IntWalk.i64_in _ (by omega)]
  have c2 : IntKind.i64.wrap ((UInt8.ofNat (no / 256)).toNat : Int) = ((no / 256 : Nat) : Int) := by rw [slot_lo, IntWalk.i64_in _ (by omega)]; omega
  have c3 : IntKind.i64.wrap (((no / 256 : Nat) : Int) * 2 ^ (min (8 : Int).toNat IntKind.i64.bits)) = ((no / 256 * 256 : Nat) : Int) := by
    have h8 : (2 : Int) ^ (min (8 : Int).toNat IntKind.i64.bits) = 256 := by decide
    rw [h8, IntWalk.i64_in _ (by omega)]; omega
  have c4 : bor .i64 ((no % 256 : Nat) : Int) ((no / 256 * 256 : Nat) : Int) = (no : Int) := by rw [bor_i64 _ _ (by omega) (by omega)]; omega
  refine .sr (.assign (.assign (.x (.move (.move ?_)))))
  refine .mul ?_
  refine .move ?_
  refine .mul ?_
  refine .add ?_
  refine .slcLH ?_ so91
  refine .cast (d := 13) (u := .slice (some ⟨ab, ao + 64 * k, none⟩) 64 (c - 64 * k)) rfl (by rw [show (64 * ((k : Nat) : Int)).toNat = 64 * k from by omega, show (64 * ((k : Nat) : Int) + 64).toNat - 64 * k = 64 from by omega, if_neg (by omega), Nat.mul_one]) ?_
  refine .assign (.z (.seq ?_))
  refine .dr ([R]) [] 20 mixed .autoJ ?_
  refine .tk 0 rfl .move ?_
  refine .tk 1 rfl .move ?_
  refine .tk 2 rfl (.idx1 so91) ?_
  refine .tk 3 rfl (Qt.ldR (i := (0 : Int).toNat) sc5 hx g0) ?_
  refine .tk 4 rfl ((Qt.cvt un5 un3).eq (v' := nI ln) (congrArg (Value.int .i64) c0)) ?_
  refine .tk 5 rfl .add ?_
  refine .tk 6 rfl ((Qt.slcLH (p := 1) (q := 1 + (ln : Int)) so91 (hp := by omega)).eq (v' := .slice (some ⟨ab, ao + 64 * k + 1, none⟩) ln (c - 64 * k - 1)) (by rw [show (1 : Int).toNat = 1 from rfl, if_neg (by omega), show (1 + (ln : Int)).toNat - 1 = ln from by omega])) ?_
  refine .tk 7 rfl (Qt.cvtBS by91 st9 hxn hln) ?_
  refine .tk 8 rfl .move ?_
  refine .tk 9 rfl (.idx1 so91) ?_
  refine .tk 10 rfl (Qt.ldR (i := (60 : Int).toNat) sc5 hx g60) ?_
  refine .tk 11 rfl ((Qt.cvt un5 un3).eq (v' := nI (no % 256)) (congrArg (Value.int .i64) c1)) ?_
  refine .tk 12 rfl .move ?_
  refine .tk 13 rfl (.idx1 so91) ?_
  refine .tk 14 rfl (Qt.ldR (i := (61 : Int).toNat) sc5 hx g61) ?_
  refine .tk 15 rfl ((Qt.cvt un5 un3).eq (v' := nI (no / 256)) (congrArg (Value.int .i64) c2)) ?_
  refine .tk 16 rfl ((Qt.shl).eq (v' := nI (no / 256 * 256)) (congrArg (Value.int .i64) c3)) ?_
  refine .tk 17 rfl ((Qt.or).eq (v' := nI no) (congrArg (Value.int .i64) c4)) ?_
  refine .tk 18 rfl .assign ?_
  refine .tk 19 rfl .assign ?_
  refine .fin ?_
  refine .next ?_
  refine .ret (?_)
  exact .ret2 (h1 := .tmp (t := 4) rfl) (h2 := .tmp (t := 5) rfl) ⟨_, ⟨rfl, rfl⟩, Am.auto⟩
end Go.Proofs.YtdmjkjeoamiedaaGreat
end
section
namespace Go.Proofs.YtdmjkjeoamiedaaGreat
open Go
theorem fo80_1 : fieldOk Tryz.prog 80 1 7 = true := by kernel_rfl
theorem sc77 : scalarOk Tryz.prog 77 = true := by kernel_rfl
theorem sl77 : Tryz.prog.underlying 77 = some (.slice 93) := by kernel_rfl
theorem so77 : sliceOk Tryz.prog 77 93 2 32 = true := by kernel_rfl
theorem fo93_0 : fieldOk Tryz.prog 93 0 0 = true := by kernel_rfl
theorem fo93_1 : fieldOk Tryz.prog 93 1 1 = true := by kernel_rfl
theorem rowR_some {el size k : Nat} {v : Value} {xs : List Value} (hk : 0 < k) : ∀ h, rowR el size v k xs h → ∃ g cap, v = .slice (some ⟨g, 0, none⟩) k cap ∧ Reads (rowR el size v k xs) (some ⟨g, 0, none⟩) xs ∧ k ≤ cap ∧ cap ≤ maxLen := by
  intro h hh
  obtain ⟨A, c, hv, hR, h1, h2, _⟩ := rowR_shape h hh
  unfold rowR at hh
  obtain ⟨_, ⟨_, h0⟩ | ⟨g, cap, cur, hv2, _⟩⟩ := hh
  · omega
  · rw [hv] at hv2
    injection hv2 with e1 _ _
    subst e1
    exact ⟨g, c, hv, hR, h1, h2⟩
structure RT (p : Pl) (T : FT) : Prop where
  ok : TOk T
  small : RTOk T
  out : ∀ i, p.ino ≤ i → T i = none
structure RsY where
  u : Value
  L : List (Nat × Value)
  wk : Nat
  mv : Value
  ms : List Int
structure RSP (p : Pl) (T : FT) (os : List (Nat × Obj)) (N : Nat) (y : RsY) : Prop where
  len : y.L.length = p.ino
  row : ∀ i (h : i < y.L.length), RRow 5 os (T i) y.L[i]
  wk : y.wk ≤ N
  ml : y.ms.length ≤ N
def sO (p : Pl) (u : Value) (wk : Nat) (mv : Value) : Obj := .cells #[nI p.n, nI p.ino, nI p.im, nI p.bm, nI p.tb, nI p.da, nI p.dc, u, nI wk, mv] 80 (0, 0)
def rsLs (s : Nat) (p : Pl) (y : RsY) : List HP := [pt s (sO p y.u y.wk y.mv), rowR 93 2 y.u p.ino (y.L.flatMap rowV), rowR 3 1 y.mv y.ms.length (ints y.ms)]
def RS (s : Nat) (p : Pl) (T : FT) (os : List (Nat × Obj)) (N : Nat) : HP := fun h => ∃ y, RSP p T os N y ∧ star (rsLs s p y) h
theorem RS.opens (s : Nat) (p : Pl) (T : FT) (os : List (Nat × Obj)) (N : Nat) : Opens (RS s p T os N) (RSP p T os N) (rsLs s p) := ⟨fun h hh => hh, fun x hp h hh => ⟨x, hp, hh⟩⟩
attribute [irreducible] RS
theorem RRow.mono {el : Nat} {os os2 : List (Nat × Obj)} {o : Option NodeT} {e : Nat × Value} (h : RRow el os o e) (hs : ∀ x ∈ os, x ∈ os2) : RRow el os2 o e := by
  refine ⟨h.kd, ?_⟩
  rcases h.by' with h | ⟨g, cap, cur, fr, h1, h2, h3⟩
  · exact .inl h
  · exact .inr ⟨g, cap, cur, fr, h1, hs _ h2, h3⟩
theorem RRow.sl {el : Nat} {os : List (Nat × Obj)} {o : Option NodeT} {e : Nat × Value} (h : RRow el os o e) : ∃ A cap, e.2 = .slice A (refBy o).length cap ∧ (refBy o = [] ∨ Reads (frz os) A (bvs (refBy o))) ∧ (refBy o).length ≤ cap ∧ cap ≤ maxLen := by
  rcases h.by' with ⟨h1, h2⟩ | ⟨g, cap, cur, fr, h1, h2, h3, h4, h5⟩
  · exact ⟨none, 0, by rw [h1, h2]; rfl, .inl h2, by rw [h2]; exact Nat.le_refl _, Nat.zero_le _⟩
  · refine ⟨some ⟨g, 0, none⟩, cap, h1, .inr ?_, h3, h4⟩
    have := (Reads.frz h2).take (refBy o).length
    rwa [h5] at this
def beginT (T : FT) (d : Nat) (nm : Bytes) : Nat := if nameOk nm then (match T d with
  | none => 4
  | some (.file _) => 6
  | some (.dir _) => 0) else 1
theorem refBy_dir {T : FT} {d : Nat} {sl : List Slot} (h : T d = some (.dir sl)) : refBy (T d) = rdirB sl := by rw [h]; rfl
theorem findT_dir {T : FT} {d : Nat} {nm : Bytes} {sl : List Slot} (hn : nameOk nm = true) (h : T d = some (.dir sl)) : findT T d nm = match findSl nm sl with
    | some q => (slotNo (sl.getD q none), 0)
    | none => (0, 4) := by
  have hne : nm ≠ [] := fun h0 => by subst h0; exact absurd hn (by decide)
  unfold findT
  rw [if_pos hn]
  simp only [h]
  rw [findSl_look hne]
  cases hl : lookS nm sl with
  | none => rfl
  | some x =>
    obtain ⟨q, i⟩ := x
    have := lookS_some hl
    show (i, 0) = (slotNo (sl.getD q none), 0)
    rw [List.getD_eq_getElem?_getD, this]; rfl
theorem findT_bad {T : FT} {d : Nat} {nm : Bytes} (h : beginT T d nm ≠ 0) : findT T d nm = (0, beginT T d nm) := by
  unfold beginT at h
  unfold findT beginT
  by_cases hn : nameOk nm = true
  · rw [if_pos hn] at h
    rw [if_pos hn, if_pos hn]
    cases hT : T d with
    | none => rfl
    | some x =>
      cases x with
      | file b => rfl
      | dir sl => simp only [hT] at h; exact absurd rfl h
  · rw [if_neg hn, if_neg hn]
theorem begin_dir {T : FT} {d : Nat} {nm : Bytes} (h : beginT T d nm = 0) : nameOk nm = true ∧ ∃ sl, T d = some (.dir sl) := by
  unfold beginT at h
  split at h
  · rename_i hn
    refine ⟨hn, ?_⟩
    split at h
    · cases h
    · cases h
    · rename_i sl hT; exact ⟨sl, hT⟩
  · cases h
theorem rsThere {s : Nat} {p : Pl} {T : FT} {os : List (Nat × Obj)} {N : Nat} (hi0 : 1 ≤ p.ino) (hi1 : p.ino ≤ 4096) {i : Nat} (hT : RT p T) : Spec Tryz.prog 60 #[.pointer (some ⟨s, 0, none⟩), nI i] [RS s p T os N] fun F v M => v = .bool (T i).isSome ∧ M = RS s p T os N :: F := by
  refine Spec.intro Tryz.func60 rfl rfl fun B F => ?_
  simp only [Tryz.ntmps60, List.cons_append, List.nil_append, env0, Nat.reduceAdd]
  refine .openR (RS.opens s p T os N) fun y hy => ?_
  obtain ⟨u, L, wk, mv, ms⟩ := y
  simp only [rsLs, List.cons_append, List.nil_append]
  refine .fact (rowR_some (el := 93) (size := 2) (v := u) (k := p.ino) (xs := L.flatMap rowV) (by omega)) (fun ⟨ab, cc, hu, hR, hc1, hc2⟩ => ?_)
  subst hu
  have hlen : L.length = p.ino := hy.len
  by_cases hi : i < p.ino
  · have hil : i < L.length := by omega
    have hrow := hy.row i hil
    obtain ⟨A1, c1, hs1, hr1, hl1, hm1⟩ := hrow.sl
    obtain ⟨e1, hek⟩ : ∃ e, L[i] = e := ⟨_, rfl⟩
    have hkd : e1.1 = refK (T i) := hek ▸ hrow.kd
    have hg0 : (L.flatMap rowV)[((i : Nat) : Int).toNat * 2 + 0]? = some (nI e1.1) := by rw [Int.toNat_natCast, ← hek]; exact (rowV_get hil).1
    have hg1 : (L.flatMap rowV)[((i : Nat) : Int).toNat * 2 + 1]? = some (.slice A1 (refBy (T i)).length c1) := by rw [Int.toNat_natCast, ← hs1]; exact (rowV_get hil).2
    rw [hkd] at hg0
    cases hTi : T i with
    | none =>
      rw [hTi] at hg0
      refine .sr (.assign (.x (.move ?_)))
      refine .geq ?_
      refine .move ?_
      refine .cast (d := 7) (u := .bool true) rfl (congrArg Value.bool (by first | (simp; done) | (simp; omega) | omega)) ?_
      refine .gT ?_
      refine .move ?_
      refine .gT ?_
      refine .move ?_
      refine .gT ?_
      refine .nilCheck ?_
      refine .gT ?_
      refine .fa ?_ fo80_1
      refine .gT ?_
      refine .ld ?_ sc77
      refine .gT ?_
      refine .lenS ?_ sl77
      refine .gT ?_
      refine .lss ?_
      refine .pickT ?_
      refine .move ?_
      refine .cast (d := 16) (u := .bool true) rfl (congrArg Value.bool (by first | (simp; done) | (simp; omega) | omega)) ?_
      refine .gT ?_
      refine .move ?_
      refine .gT ?_
      refine .nilCheck ?_
      refine .gT ?_
      refine .fa ?_ fo80_1
      refine .gT ?_
      refine .ld ?_ sc77
      refine .gT ?_
      refine .move ?_
      refine .gT ?_
      refine .idx ?_ so77
      refine .gT ?_
      refine .fa ?_ fo93_0
      refine .gT ?_
      refine .ldR (R := rowR 93 2 (.slice (some ⟨ab, 0, none⟩) p.ino cc) p.ino (L.flatMap rowV)) ?_ sc3 hR hg0
      refine .gT ?_
      refine .nei ?_
      refine .cast (d := 25) (u := .bool false) rfl rfl ?_
      refine .pickT ?_
      refine .assign (.z ?_)
      refine .ret (?_)
      refine .shutR (RS.opens s p T os N) ⟨.slice (some ⟨ab, 0, none⟩) p.ino cc, L, wk, mv, ms⟩ hy ?_
      exact .ret1 (h1 := .tmp (t := 4) rfl) ⟨_, ⟨rfl, rfl⟩, Am.auto⟩
    | some x =>
      rw [hTi] at hg0
      have hkz : refK (some x) ≠ 0 := fun h => by cases (refK_zero.1 h)
      refine .sr (.assign (.x (.move ?_)))
      refine .geq ?_
      refine .move ?_
      refine .cast (d := 7) (u := .bool true) rfl (congrArg Value.bool (by first | (simp; done) | (simp; omega) | omega)) ?_
      refine .gT ?_
      refine .move ?_
      refine .gT ?_
      refine .move ?_
      refine .gT ?_
      refine .nilCheck ?_
      refine .gT ?_
      refine .fa ?_ fo80_1
      refine .gT ?_
      refine .ld ?_ sc77
      refine .gT ?_
      refine .lenS ?_ sl77
      refine .gT ?_
      refine .lss ?_
      refine .pickT ?_
      refine .move ?_
      refine .cast (d := 16) (u := .bool true) rfl (congrArg Value.bool (by first | (simp; done) | (simp; omega) | omega)) ?_
      refine .gT ?_
      refine .move ?_
      refine .gT ?_
      refine .nilCheck ?_
      refine .gT ?_
      refine .fa ?_ fo80_1
      refine .gT ?_
      refine .ld ?_ sc77
      refine .gT ?_
      refine .move ?_
      refine .gT ?_
      refine .idx ?_ so77
      refine .gT ?_
      refine .fa ?_ fo93_0
      refine .gT ?_
      refine .ldR (R := rowR 93 2 (.slice (some ⟨ab, 0, none⟩) p.ino cc) p.ino (L.flatMap rowV)) ?_ sc3 hR hg0
      refine .gT ?_
      refine .nei ?_
      refine .cast (d := 25) (u := .bool true) rfl (congrArg Value.bool (by rw [decide_eq_false (by omega)]; rfl)) ?_
      refine .pickT ?_
      refine .assign (.z ?_)
      refine .ret (?_)
      refine .shutR (RS.opens s p T os N) ⟨.slice (some ⟨ab, 0, none⟩) p.ino cc, L, wk, mv, ms⟩ hy ?_
      exact .ret1 (h1 := .tmp (t := 4) rfl) ⟨_, ⟨rfl, rfl⟩, Am.auto⟩
  · have hTi : T i = none := hT.out i (by omega)
    rw [hTi]
    refine .sr (.assign (.x (.move ?_)))
    refine .geq ?_
    refine .move ?_
    refine .cast (d := 7) (u := .bool true) rfl (congrArg Value.bool (by first | (simp; done) | (simp; omega) | omega)) ?_
    refine .gT ?_
    refine .move ?_
    refine .gT ?_
    refine .move ?_
    refine .gT ?_
    refine .nilCheck ?_
    refine .gT ?_
    refine .fa ?_ fo80_1
    refine .gT ?_
    refine .ld ?_ sc77
    refine .gT ?_
    refine .lenS ?_ sl77
    refine .gT ?_
    refine .lss ?_
    refine .pickT ?_
    refine .move ?_
    refine .cast (d := 16) (u := .bool false) rfl (congrArg Value.bool (by first | (simp; done) | (simp; omega) | omega)) ?_
    refine .gF ?_
    refine .gF ?_
    refine .gF ?_
    refine .gF ?_
    refine .gF ?_
    refine .gF ?_
    refine .gF ?_
    refine .gF ?_
    refine .gF ?_
    refine .pickF ?_
    refine .assign (.z ?_)
    refine .ret (?_)
    refine .shutR (RS.opens s p T os N) ⟨.slice (some ⟨ab, 0, none⟩) p.ino cc, L, wk, mv, ms⟩ hy ?_
    exact .ret1 (h1 := .tmp (t := 4) rfl) ⟨_, ⟨rfl, rfl⟩, Am.auto⟩
theorem rsBeginN {s : Nat} {p : Pl} {T : FT} {os : List (Nat × Obj)} {N : Nat} (hi0 : 1 ≤ p.ino) (hi1 : p.ino ≤ 4096) {d : Nat} {nm : Bytes} (hT : RT p T) (hnl : nm.length ≤ 1000000) : Spec Tryz.prog 43 #[.pointer (some ⟨s, 0, none⟩), nI d, sv nm] [RS s p T os N] fun F v M => v = nI (beginT T d nm) ∧ M = RS s p T os N :: F := by
  refine Spec.intro Tryz.func43 rfl rfl fun B F => ?_
  simp only [Tryz.ntmps43, List.cons_append, List.nil_append, env0, Nat.reduceAdd]
  cases hn : nameOk nm with
  | false =>
    have hb : beginT T d nm = 1 := by unfold beginT; rw [if_neg (by rw [hn]; decide)]
    refine .sr (.assign (.z (.seq (.sr (.move ?_)))))
    refine .call (hc := Tryz.call91) (sp := rfName (xs := nm) hnl) (h := ?_)
    rintro _ _ ⟨rfl, hM⟩
    obtain rfl := hM.symm
    rw [hn]
    refine .not ?_
    refine .z ?_
    refine .condT rfl rfl ?_
    refine .sr (.assign (.z ?_))
    refine .ret (.thenRet (?_))
    exact .ret1 (h1 := .tmp (t := 6) rfl) ⟨_, ⟨by rw [hb]; rfl, rfl⟩, Am.auto⟩
  | true =>
    cases hTd : T d with
    | none =>
      have hb : beginT T d nm = 4 := by unfold beginT; rw [if_pos hn, hTd]
      refine .sr (.assign (.z (.seq (.sr (.move ?_)))))
      refine .call (hc := Tryz.call91) (sp := rfName (xs := nm) hnl) (h := ?_)
      rintro _ _ ⟨rfl, hM⟩
      obtain rfl := hM.symm
      rw [hn]
      refine .not ?_
      refine .z ?_
      refine .condF rfl rfl ?_
      refine .skip (.next (.seq (.sr (.move (.move ?_)))))
      refine .call (hc := Tryz.call60) (sp := rsThere (s := s) (p := p) (T := T) (os := os) (N := N) hi0 hi1 (i := d) hT) (h := ?_)
      rintro _ _ ⟨rfl, rfl⟩
      rw [hTd]
      refine .not ?_
      refine .z ?_
      refine .condT rfl rfl ?_
      refine .sr (.assign (.z ?_))
      refine .ret (.thenRet (?_))
      exact .ret1 (h1 := .tmp (t := 6) rfl) ⟨_, ⟨by rw [hb]; rfl, rfl⟩, Am.auto⟩
    | some x =>
      cases x with
      | file fb =>
        have hb : beginT T d nm = 6 := by unfold beginT; rw [if_pos hn, hTd]
        refine .sr (.assign (.z (.seq (.sr (.move ?_)))))
        refine .call (hc := Tryz.call91) (sp := rfName (xs := nm) hnl) (h := ?_)
        rintro _ _ ⟨rfl, hM⟩
        obtain rfl := hM.symm
        rw [hn]
        refine .not ?_
        refine .z ?_
        refine .condF rfl rfl ?_
        refine .skip (.next (.seq (.sr (.move (.move ?_)))))
        refine .call (hc := Tryz.call60) (sp := rsThere (s := s) (p := p) (T := T) (os := os) (N := N) hi0 hi1 (i := d) hT) (h := ?_)
        rintro _ _ ⟨rfl, rfl⟩
        rw [hTd]
        refine .not ?_
        refine .z ?_
        refine .condF rfl rfl ?_
        refine .skip (.next (.seq (.sr ?_)))
        have hi : d < p.ino := Nat.lt_of_not_le fun h => by rw [hT.out d h] at hTd; cases hTd
        refine .openR (RS.opens s p T os N) fun y hy => ?_
        obtain ⟨u, L, wk, mv, ms⟩ := y
        simp only [rsLs, List.cons_append, List.nil_append]
        refine .fact (rowR_some (el := 93) (size := 2) (v := u) (k := p.ino) (xs := L.flatMap rowV) (by omega)) (fun ⟨ab, cc, hu, hR, hc1, hc2⟩ => ?_)
        subst hu
        have hlen : L.length = p.ino := hy.len
        have hil : d < L.length := by omega
        have hrow := hy.row d hil
        obtain ⟨A1, c1, hs1, hr1, hl1, hm1⟩ := hrow.sl
        obtain ⟨e1, hek⟩ : ∃ e, L[d] = e := ⟨_, rfl⟩
        have hkd : e1.1 = refK (T d) := hek ▸ hrow.kd
        have hg0 : (L.flatMap rowV)[((d : Nat) : Int).toNat * 2 + 0]? = some (nI e1.1) := by rw [Int.toNat_natCast, ← hek]; exact (rowV_get hil).1
        have hg1 : (L.flatMap rowV)[((d : Nat) : Int).toNat * 2 + 1]? = some (.slice A1 (refBy (T d)).length c1) := by rw [Int.toNat_natCast, ← hs1]; exact (rowV_get hil).2
        rw [hkd] at hg0
        rw [hTd] at hg0
        refine .move ?_
        refine .nilCheck ?_
        refine .fa ?_ fo80_1
        refine .ld ?_ sc77
        refine .move ?_
        refine .idx ?_ so77
        refine .fa ?_ fo93_0
        refine .ldR (R := rowR 93 2 (.slice (some ⟨ab, 0, none⟩) p.ino cc) p.ino (L.flatMap rowV)) ?_ sc3 hR hg0
        refine .cast (d := 21) (u := nI 1) rfl rfl ?_
        refine .nei ?_
        refine .z ?_
        refine .condT rfl (congrArg Value.bool (by first | (simp; done) | (simp; omega) | omega)) ?_
        refine .sr (.assign (.z ?_))
        refine .ret (.thenRet (?_))
        refine .shutR (RS.opens s p T os N) ⟨.slice (some ⟨ab, 0, none⟩) p.ino cc, L, wk, mv, ms⟩ hy ?_
        exact .ret1 (h1 := .tmp (t := 6) rfl) ⟨_, ⟨by rw [hb]; rfl, rfl⟩, Am.auto⟩
      | dir sl =>
        have hb : beginT T d nm = 0 := by unfold beginT; rw [if_pos hn, hTd]
        refine .sr (.assign (.z (.seq (.sr (.move ?_)))))
        refine .call (hc := Tryz.call91) (sp := rfName (xs := nm) hnl) (h := ?_)
        rintro _ _ ⟨rfl, hM⟩
        obtain rfl := hM.symm
        rw [hn]
        refine .not ?_
        refine .z ?_
        refine .condF rfl rfl ?_
        refine .skip (.next (.seq (.sr (.move (.move ?_)))))
        refine .call (hc := Tryz.call60) (sp := rsThere (s := s) (p := p) (T := T) (os := os) (N := N) hi0 hi1 (i := d) hT) (h := ?_)
        rintro _ _ ⟨rfl, rfl⟩
        rw [hTd]
        refine .not ?_
        refine .z ?_
        refine .condF rfl rfl ?_
        refine .skip (.next (.seq (.sr ?_)))
        have hi : d < p.ino := Nat.lt_of_not_le fun h => by rw [hT.out d h] at hTd; cases hTd
        refine .openR (RS.opens s p T os N) fun y hy => ?_
        obtain ⟨u, L, wk, mv, ms⟩ := y
        simp only [rsLs, List.cons_append, List.nil_append]
        refine .fact (rowR_some (el := 93) (size := 2) (v := u) (k := p.ino) (xs := L.flatMap rowV) (by omega)) (fun ⟨ab, cc, hu, hR, hc1, hc2⟩ => ?_)
        subst hu
        have hlen : L.length = p.ino := hy.len
        have hil : d < L.length := by omega
        have hrow := hy.row d hil
        obtain ⟨A1, c1, hs1, hr1, hl1, hm1⟩ := hrow.sl
        obtain ⟨e1, hek⟩ : ∃ e, L[d] = e := ⟨_, rfl⟩
        have hkd : e1.1 = refK (T d) := hek ▸ hrow.kd
        have hg0 : (L.flatMap rowV)[((d : Nat) : Int).toNat * 2 + 0]? = some (nI e1.1) := by rw [Int.toNat_natCast, ← hek]; exact (rowV_get hil).1
        have hg1 : (L.flatMap rowV)[((d : Nat) : Int).toNat * 2 + 1]? = some (.slice A1 (refBy (T d)).length c1) := by rw [Int.toNat_natCast, ← hs1]; exact (rowV_get hil).2
        rw [hkd] at hg0
        rw [hTd] at hg0
        refine .move ?_
        refine .nilCheck ?_
        refine .fa ?_ fo80_1
        refine .ld ?_ sc77
        refine .move ?_
        refine .idx ?_ so77
        refine .fa ?_ fo93_0
        refine .ldR (R := rowR 93 2 (.slice (some ⟨ab, 0, none⟩) p.ino cc) p.ino (L.flatMap rowV)) ?_ sc3 hR hg0
        refine .cast (d := 21) (u := nI 2) rfl rfl ?_
        refine .nei ?_
        refine .z ?_
        refine .condF rfl (congrArg Value.bool (by first | (simp; done) | (simp; omega) | omega)) ?_
        refine .skip (.next (.sr (.assign (.z ?_))))
        refine .ret (?_)
        refine .shutR (RS.opens s p T os N) ⟨.slice (some ⟨ab, 0, none⟩) p.ino cc, L, wk, mv, ms⟩ hy ?_
        exact .ret1 (h1 := .tmp (t := 6) rfl) ⟨_, ⟨by rw [hb]; rfl, rfl⟩, Am.auto⟩
def findSlV (nm : Bytes) (sl : List Slot) : Int := match findSl nm sl with | some q => (q : Int) | none => -1
theorem slot_small {p : Pl} {T : FT} {d : Nat} {sl : List Slot} (hT : RT p T) (hd : T d = some (.dir sl)) {k : Nat} (hk : k < sl.length) : (slotNm sl[k]).length ≤ 50 ∧ slotNo sl[k] < 65536 := by
  cases hs : sl[k] with
  | none => exact ⟨Nat.zero_le _, by decide⟩
  | some x =>
    obtain ⟨n, i⟩ := x
    have h1 : sl[k]? = some (some (n, i)) := by rw [List.getElem?_eq_getElem hk, hs]
    exact ⟨((hT.ok d sl hd).1.nm k n i h1).1.2, hT.small d sl hd k n i h1⟩
theorem in_ino {p : Pl} {T : FT} {d : Nat} {x : NodeT} (hT : RT p T) (hd : T d = some x) : d < p.ino := Nat.lt_of_not_le fun h => by rw [hT.out d h] at hd; cases hd
theorem rsFindSl {s : Nat} {p : Pl} {T : FT} {os : List (Nat × Obj)} {N : Nat} (hi0 : 1 ≤ p.ino) (hi1 : p.ino ≤ 4096) {d : Nat} {nm : Bytes} {sl : List Slot} (hT : RT p T) (hTd : T d = some (.dir sl)) : Spec Tryz.prog 44 #[.pointer (some ⟨s, 0, none⟩), nI d, sv nm] [RS s p T os N, frz os] fun F v M => v = .int .i64 (findSlV nm sl) ∧ M = RS s p T os N :: frz os :: F := by
  refine Spec.intro Tryz.func44 rfl rfl fun B F => ?_
  simp only [Tryz.ntmps44, List.cons_append, List.nil_append, env0, Nat.reduceAdd]
  have hi : d < p.ino := in_ino hT hTd
  have hsl := (hT.ok d sl hTd).2
  refine .openR (RS.opens s p T os N) fun y hy => ?_
  obtain ⟨u, L, wk, mv, ms⟩ := y
  simp only [rsLs, List.cons_append, List.nil_append]
  refine .fact (rowR_some (el := 93) (size := 2) (v := u) (k := p.ino) (xs := L.flatMap rowV) (by omega)) (fun ⟨ab, cc, hu, hR, hc1, hc2⟩ => ?_)
  subst hu
  have hlen : L.length = p.ino := hy.len
  have hil : d < L.length := by omega
  have hrow := hy.row d hil
  obtain ⟨A1, c1, hs1, hr1, hl1, hm1⟩ := hrow.sl
  obtain ⟨e1, hek⟩ : ∃ e, L[d] = e := ⟨_, rfl⟩
  have hkd : e1.1 = refK (T d) := hek ▸ hrow.kd
  have hg0 : (L.flatMap rowV)[((d : Nat) : Int).toNat * 2 + 0]? = some (nI e1.1) := by rw [Int.toNat_natCast, ← hek]; exact (rowV_get hil).1
  have hg1 : (L.flatMap rowV)[((d : Nat) : Int).toNat * 2 + 1]? = some (.slice A1 (refBy (T d)).length c1) := by rw [Int.toNat_natCast, ← hs1]; exact (rowV_get hil).2
  rw [hkd] at hg0
  rw [refBy_dir hTd] at hg1 hr1 hl1
  have hrl := rdirB_length sl
  refine .sr (.assign (.x (.move ?_)))
  refine .nilCheck ?_
  refine .fa ?_ fo80_1
  refine .ld ?_ sc77
  refine .move ?_
  refine .idx ?_ so77
  refine .fa ?_ fo93_1
  refine .ldR (R := rowR 93 2 (.slice (some ⟨ab, 0, none⟩) p.ino cc) p.ino (L.flatMap rowV)) ?_ sc91 hR hg1
  refine .assign (.z (.seq (.sr (.assign (.z (.block ?_))))))
  refine .loopA (σ := Nat) (fun k => [(2, sv nm), (7, .slice A1 (rdirB sl).length c1), (8, .int .i64 ((k : Nat) : Int))]) (fun _ => [pt s (sO p (.slice (some ⟨ab, 0, none⟩) p.ino cc) wk mv), rowR 93 2 (.slice (some ⟨ab, 0, none⟩) p.ino cc) p.ino (L.flatMap rowV), rowR 3 1 mv ms.length (ints ms), frz os] ++ F) (fun k => k ≤ sl.length ∧ ∀ j, j < k → ∀ h : j < sl.length, slotNm sl[j] ≠ nm) (fun k => sl.length - k) 0 ⟨Nat.zero_le _, fun j hj => absurd hj (Nat.not_lt_zero _)⟩ ?_
  rintro k hk
  refine .seq (.sr (.move ?_))
  refine .mul ?_
  refine .move ?_
  refine .lenS ?_ sl91
  refine .lss ?_
  refine .z ?_
  refine .cond rfl (fun hb => ?_) (fun hb => ?_)
  · have hlt : k < sl.length := by have h : 64 * (k : Int) < ((rdirB sl).length : Int) := of_decide_eq_true hb; omega
    have hrR := hr1.resolve_left (fun h => by rw [h] at hrl; simp only [List.length_nil] at hrl; omega)
    obtain ⟨hs50, hs65⟩ := slot_small hT hTd hlt
    by_cases he : slotNm sl[k] = nm
    · have hf : findSlV nm sl = (k : Int) := by unfold findSlV; rw [findSl_at hlt he (fun j hj => hk.2 j hj (Nat.lt_trans hj hlt))]
      refine .skip (.next (.seq (.block (.sr (.move (.move ?_))))))
      refine .call (hc := Tryz.call48) (sp := rfAt (k := k) (bs := rdirB sl) (s := sl[k]) hrR rfl (by omega) hl1 (by omega) (rdirB_at hlt) hs50 hs65) (h := ?_)
      rintro _ _ ⟨rfl, rfl⟩
      refine .move ?_
      refine .extract ?_
      refine .extract ?_
      refine .assign (.assign (.x (.move (.move ?_))))
      refine .eqS (slotNm sl[k]) nm ?_
      refine .cast (d := 34) (u := .bool true) rfl (congrArg Value.bool (decide_eq_true he)) ?_
      refine .z ?_
      refine .condT rfl rfl ?_
      refine .sr (.move (.assign (.z ?_)))
      refine .ret (.blockRet (.thenRet (.thenRet (.blockRet (.thenRet (?_))))))
      refine .shutR (RS.opens s p T os N) ⟨.slice (some ⟨ab, 0, none⟩) p.ino cc, L, wk, mv, ms⟩ hy ?_
      exact .ret1 (h1 := .tmp (t := 6) rfl) ⟨_, ⟨by rw [hf], rfl⟩, Am.auto⟩
    · refine .skip (.next (.seq (.block (.sr (.move (.move ?_))))))
      refine .call (hc := Tryz.call48) (sp := rfAt (k := k) (bs := rdirB sl) (s := sl[k]) hrR rfl (by omega) hl1 (by omega) (rdirB_at hlt) hs50 hs65) (h := ?_)
      rintro _ _ ⟨rfl, rfl⟩
      refine .move ?_
      refine .extract ?_
      refine .extract ?_
      refine .assign (.assign (.x (.move (.move ?_))))
      refine .eqS (slotNm sl[k]) nm ?_
      refine .cast (d := 34) (u := .bool false) rfl (congrArg Value.bool (decide_eq_false he)) ?_
      refine .z ?_
      refine .condF rfl rfl ?_
      refine .skip (.blockNormal (.next (.region (.move ?_))))
      refine .add ?_
      refine .assign (.nil ?_)
      refine .cast (d := 8) (u := .int .i64 ((k + 1 : Nat) : Int)) rfl (congrArg (Value.int .i64) (by omega)) ?_
      exact .back (k + 1) ⟨by show k + 1 ≤ sl.length; omega, fun j hj hjl => (Nat.lt_or_ge j k).elim (fun h => hk.2 j h hjl) (fun h => by have h2 : j = k := (by omega); subst h2; exact he)⟩ (by show sl.length - (k + 1) < sl.length - k; omega)
  · have hge : k = sl.length := by have h : ¬ 64 * (k : Int) < ((rdirB sl).length : Int) := of_decide_eq_false hb; omega
    have hf : findSlV nm sl = -1 := by
      unfold findSlV
      cases hl : findSl nm sl with
      | none => rfl
      | some q =>
        obtain ⟨h1, h2, _⟩ := findSl_some hl
        exact absurd h2 (hk.2 q (by omega) h1)
    refine .exit (.thenExit (.thenExit (.blockExit (?_))))
    refine .next (.sr (.assign (.z ?_)))
    refine .ret (?_)
    refine .shutR (RS.opens s p T os N) ⟨.slice (some ⟨ab, 0, none⟩) p.ino cc, L, wk, mv, ms⟩ hy ?_
    exact .ret1 (h1 := .tmp (t := 6) rfl) ⟨_, ⟨by rw [hf], rfl⟩, Am.auto⟩
theorem rsFind {s : Nat} {p : Pl} {T : FT} {os : List (Nat × Obj)} {N : Nat} (hi0 : 1 ≤ p.ino) (hi1 : p.ino ≤ 4096) {d : Nat} {nm : Bytes} (hT : RT p T) (hnl : nm.length ≤ 1000000) : Spec Tryz.prog 11 #[.pointer (some ⟨s, 0, none⟩), nI d, sv nm] [RS s p T os N, frz os] fun F v M => v = .tuple #[nI (findT T d nm).1, nI (findT T d nm).2] ∧ M = RS s p T os N :: frz os :: F := by
  refine Spec.intro Tryz.func11 rfl rfl fun B F => ?_
  simp only [Tryz.ntmps11, List.cons_append, List.nil_append, env0, Nat.reduceAdd]
  obtain ⟨e, he⟩ : ∃ e, beginT T d nm = e := ⟨_, rfl⟩
  by_cases he0 : e = 0
  · subst he0
    obtain ⟨hn, sl, hTd⟩ := begin_dir he
    have hfd := findT_dir hn hTd
    have hi : d < p.ino := in_ino hT hTd
    have hsl := (hT.ok d sl hTd).2
    have hrl := rdirB_length sl
    cases hf : findSl nm sl with
    | none =>
      have hfv : findSlV nm sl = -1 := by unfold findSlV; rw [hf]
      rw [hf] at hfd
      simp only at hfd
      rw [hfd]
      refine .sr (.assign (.assign (.x (.move (.move (.move ?_))))))
      refine .call (hc := Tryz.call43) (sp := rsBeginN (s := s) (p := p) (T := T) (os := os) (N := N) hi0 hi1 (d := d) (nm := nm) hT hnl) (h := ?_)
      rintro _ _ ⟨rfl, rfl⟩
      rw [he]
      refine .assign (.z (.seq (.sr (.move ?_))))
      refine .nei ?_
      refine .z ?_
      refine .condF rfl (congrArg Value.bool (by first | (simp; done) | (simp; omega) | omega)) ?_
      refine .skip (.next (.sr (.move (.move (.move ?_)))))
      refine .call (hc := Tryz.call44) (sp := rsFindSl (s := s) (p := p) (T := T) (os := os) (N := N) hi0 hi1 (d := d) (nm := nm) (sl := sl) hT hTd) (h := ?_)
      rintro _ _ ⟨rfl, rfl⟩
      rw [hfv]
      refine .assign (.z (.seq (.sr (.move ?_))))
      refine .lss ?_
      refine .z ?_
      refine .condT rfl (congrArg Value.bool (by first | (simp; done) | (simp; omega) | omega)) ?_
      refine .sr (.assign (.assign (.z ?_)))
      refine .ret (.thenRet (?_))
      exact .ret2 (h1 := .tmp (t := 6) rfl) (h2 := .tmp (t := 7) rfl) ⟨_, ⟨rfl, rfl⟩, Am.auto⟩
    | some q =>
      have hfv : findSlV nm sl = (q : Int) := by unfold findSlV; rw [hf]
      obtain ⟨hql, hqn, _⟩ := findSl_some hf
      rw [hf] at hfd
      simp only at hfd
      rw [show sl.getD q none = sl[q] from by rw [List.getD_eq_getElem?_getD, List.getElem?_eq_getElem hql]; rfl] at hfd
      rw [hfd]
      obtain ⟨hs50, hs65⟩ := slot_small hT hTd hql
      refine .sr (.assign (.assign (.x (.move (.move (.move ?_))))))
      refine .call (hc := Tryz.call43) (sp := rsBeginN (s := s) (p := p) (T := T) (os := os) (N := N) hi0 hi1 (d := d) (nm := nm) hT hnl) (h := ?_)
      rintro _ _ ⟨rfl, rfl⟩
      rw [he]
      refine .assign (.z (.seq (.sr (.move ?_))))
      refine .nei ?_
      refine .z ?_
      refine .condF rfl (congrArg Value.bool (by first | (simp; done) | (simp; omega) | omega)) ?_
      refine .skip (.next (.sr (.move (.move (.move ?_)))))
      refine .call (hc := Tryz.call44) (sp := rsFindSl (s := s) (p := p) (T := T) (os := os) (N := N) hi0 hi1 (d := d) (nm := nm) (sl := sl) hT hTd) (h := ?_)
      rintro _ _ ⟨rfl, rfl⟩
      rw [hfv]
      refine .assign (.z (.seq (.sr (.move ?_))))
      refine .lss ?_
      refine .z ?_
      refine .condF rfl (congrArg Value.bool (by first | (simp; done) | (simp; omega) | omega)) ?_
      refine .skip (.next (.sr ?_))
      refine .openR (RS.opens s p T os N) fun y hy => ?_
      obtain ⟨u, L, wk, mv, ms⟩ := y
      simp only [rsLs, List.cons_append, List.nil_append]
      refine .fact (rowR_some (el := 93) (size := 2) (v := u) (k := p.ino) (xs := L.flatMap rowV) (by omega)) (fun ⟨ab, cc, hu, hR, hc1, hc2⟩ => ?_)
      subst hu
      have hlen : L.length = p.ino := hy.len
      have hil : d < L.length := by omega
      have hrow := hy.row d hil
      obtain ⟨A1, c1, hs1, hr1, hl1, hm1⟩ := hrow.sl
      obtain ⟨e1, hek⟩ : ∃ e, L[d] = e := ⟨_, rfl⟩
      have hkd : e1.1 = refK (T d) := hek ▸ hrow.kd
      have hg0 : (L.flatMap rowV)[((d : Nat) : Int).toNat * 2 + 0]? = some (nI e1.1) := by rw [Int.toNat_natCast, ← hek]; exact (rowV_get hil).1
      have hg1 : (L.flatMap rowV)[((d : Nat) : Int).toNat * 2 + 1]? = some (.slice A1 (refBy (T d)).length c1) := by rw [Int.toNat_natCast, ← hs1]; exact (rowV_get hil).2
      rw [hkd] at hg0
      rw [refBy_dir hTd] at hg1 hr1 hl1
      have hrR := hr1.resolve_left (fun h => by rw [h] at hrl; simp only [List.length_nil] at hrl; omega)
      refine .move ?_
      refine .nilCheck ?_
      refine .fa ?_ fo80_1
      refine .ld ?_ sc77
      refine .move ?_
      refine .idx ?_ so77
      refine .fa ?_ fo93_1
      refine .ldR (R := rowR 93 2 (.slice (some ⟨ab, 0, none⟩) p.ino cc) p.ino (L.flatMap rowV)) ?_ sc91 hR hg1
      refine .move ?_
      refine .call (hc := Tryz.call48) (sp := rfAt (k := q) (bs := rdirB sl) (s := sl[q]) hrR rfl (by omega) hl1 (by omega) (rdirB_at hql) hs50 hs65) (h := ?_)
      rintro _ _ ⟨rfl, rfl⟩
      refine .move ?_
      refine .extract ?_
      refine .extract ?_
      refine .assign (.assign (.x (.move (.assign (.assign (.z ?_))))))
      refine .ret (?_)
      refine .shutR (RS.opens s p T os N) ⟨.slice (some ⟨ab, 0, none⟩) p.ino cc, L, wk, mv, ms⟩ hy ?_
      exact .ret2 (h1 := .tmp (t := 6) rfl) (h2 := .tmp (t := 7) rfl) ⟨_, ⟨rfl, rfl⟩, Am.auto⟩
  · have hfb := findT_bad (T := T) (d := d) (nm := nm) (by rw [he]; exact he0)
    rw [he] at hfb
    rw [hfb]
    refine .sr (.assign (.assign (.x (.move (.move (.move ?_))))))
    refine .call (hc := Tryz.call43) (sp := rsBeginN (s := s) (p := p) (T := T) (os := os) (N := N) hi0 hi1 (d := d) (nm := nm) hT hnl) (h := ?_)
    rintro _ _ ⟨rfl, rfl⟩
    rw [he]
    refine .assign (.z (.seq (.sr (.move ?_))))
    refine .nei ?_
    refine .z ?_
    refine .condT rfl (congrArg Value.bool (by first | (simp; done) | (simp; omega) | omega)) ?_
    refine .sr (.move (.assign (.assign (.z ?_))))
    refine .ret (.thenRet (?_))
    exact .ret2 (h1 := .tmp (t := 6) rfl) (h2 := .tmp (t := 7) rfl) ⟨_, ⟨rfl, rfl⟩, Am.auto⟩
end Go.Proofs.YtdmjkjeoamiedaaGreat
end
section
namespace Go.Proofs.YtdmjkjeoamiedaaGreat
open Go
theorem fo80_2 : fieldOk Tryz.prog 80 2 8 = true := by kernel_rfl
theorem fo80_3 : fieldOk Tryz.prog 80 3 9 = true := by kernel_rfl
theorem fo80_0 : fieldOk Tryz.prog 80 0 0 = true := by kernel_rfl
theorem bdFl (a : Int) : BuildOk Tryz.prog 93 [(0, .int .i64 a)] #[.int .i64 a, .slice none 0 0] := fun w => by kernel_rfl
theorem bsI1' (a : Int) : BuildSOk Tryz.prog 78 1 [(0, .int .i64 a)] 3 #[.int .i64 a] := fun w => by kernel_rfl
theorem ints_last (ms : List Int) (i : Nat) : ints ms ++ [nI i] = ints (ms ++ [(i : Int)]) := by unfold ints; rw [List.map_append]; rfl
theorem rowR_opens {el size n c g : Nat} {xs : List Value} : Opens (rowR el size (.slice (some ⟨g, 0, none⟩) n c) n xs) (fun cur : Array Value => xs.length = n * size ∧ n ≤ c ∧ c ≤ maxLen ∧ cur.size = c * size ∧ cur.toList.take (n * size) = xs) (fun cur => [pt g (.cells cur el (0, 0))]) := by
  refine ⟨fun k hk => ?_, fun cur hp k hk => ?_⟩
  · unfold rowR at hk
    obtain ⟨h1, ⟨h, _⟩ | ⟨g', cap, cur, hv, hh, h2, h3, h4, h5⟩⟩ := hk
    · cases h
    · injection hv with e1 e2 e3
      injection e1 with e1
      injection e1 with e1 _ _
      subst e1; subst e3
      refine ⟨cur, ⟨h1, h2, h3, h4, h5⟩, ?_⟩
      unfold star
      exact ⟨[k], by unfold pt; exact hh, Sub.refl _, by simp, trivial⟩
  · unfold star at hk
    obtain ⟨ks, hk⟩ := hk
    obtain ⟨h1, h2, h3, h4, h5⟩ := hp
    unfold rowR
    match ks, hk with
    | k1 :: _, hk => exact ⟨h1, .inr ⟨g, c, cur, rfl, hk.2.1 _ _ (by have h0 := hk.1; unfold pt at h0; exact h0), h2, h3, h4, h5⟩⟩
theorem buf_opens {el k g : Nat} {xs : List Value} : Opens (buf g el k xs) (fun cur : Array Value => cur.size = k ∧ cur.toList.take xs.length = xs ∧ xs.length ≤ k) (fun cur => [pt g (.cells cur el (0, 0))]) := by
  refine ⟨fun h hk => ?_, fun cur hp h hk => ?_⟩
  · unfold buf at hk
    obtain ⟨cur, hh, h1, h2, h3⟩ := hk
    refine ⟨cur, ⟨h1, h2, h3⟩, ?_⟩
    unfold star
    exact ⟨[h], by unfold pt; exact hh, Sub.refl _, by simp, trivial⟩
  · unfold star at hk
    obtain ⟨ks, hk⟩ := hk
    unfold buf
    match ks, hk with
    | k1 :: _, hk => exact ⟨cur, hk.2.1 _ _ (by have h0 := hk.1; unfold pt at h0; exact h0), hp.1, hp.2.1, hp.2.2⟩
theorem take_midr {α : Type} {A us : List α} {off m : Nat} (h1 : off + us.length ≤ m) (h2 : m ≤ A.length) : (A.take off ++ us ++ A.drop (off + us.length)).take m = (A.take m).take off ++ us ++ (A.take m).drop (off + us.length) := by
  have h3 : (A.take off).length = off := by rw [List.length_take]; omega
  rw [List.take_append, List.take_of_length_le (by rw [List.length_append, h3]; omega), List.length_append, h3, List.take_take, Nat.min_eq_left (by omega), List.drop_take]
section
variable {P : Program} {B : Base} {n : Fr} {Q : Exit → Act → World → Prop} {e : Env} {L M : List HP} {ops : Array Oper} {l : List Oper} {ty : TypeId} {pos : String} {af : Array Edge} {x y : Operand}
theorem WL.stRowA {t k g el size num c off : Nat} {xs : List Value} {us : Array Value} {s : Value} (hsv : s = .slice (some ⟨g, 0, none⟩) num c)
    (h : WL P B n ops l Q e (rowR el size s num (xs.take off ++ us.toList ++ xs.drop (off + us.toList.length)) :: M)) (hag : aggOk P t k = true) (hk : us.size = k) (hk0 : us.toList ≠ []) (hsing : ∀ v ∈ us.toList, Value.single v = true) (hle : off + k ≤ xs.length)
    (r : Rem L (rowR el size s num xs) M) (hx : evo e x = some (.pointer (some ⟨g, off, none⟩)) := by rfl) (hy : evo e y = some (.agg us) := by rfl) : WL P B n ops (⟨none, .store t x y, ty, pos, af, none⟩ :: l) Q e L := by
  subst hsv
  refine WL.openR rowR_opens (fun cur hc => ?_) r
  obtain ⟨h1, h2, h3, h4, h5⟩ := hc
  have hul : us.toList.length = k := by simpa using hk
  have hnc := Nat.mul_le_mul_right size h2
  have hcl : cur.toList.length = cur.size := by simp
  refine WL.stA (cs := cur) (off := off) ?_ hag hk hk0 hsing (by omega) rfl hx hy .here
  refine WL.shutR rowR_opens _ ⟨?_, h2, h3, ?_, ?_⟩ h
  · rw [← h5, List.length_append, List.length_append, List.length_take, List.length_drop, List.length_take]; omega
  · rw [List.size_toArray, List.length_append, List.length_append, List.length_take, List.length_drop]; omega
  · show (cur.toList.take off ++ us.toList ++ cur.toList.drop (off + us.toList.length)).take (num * size) = _
    rw [take_midr (by omega) (by omega), h5]
theorem WL.stRow1 {t g el size num c off : Nat} {xs : List Value} {v s : Value} (hsv : s = .slice (some ⟨g, 0, none⟩) num c)
    (h : WL P B n ops l Q e (rowR el size s num (xs.set off v) :: M)) (hsc : scalarOk P t = true) (hle : off < xs.length) (hv : Value.single v = true)
    (r : Rem L (rowR el size s num xs) M) (hx : evo e x = some (.pointer (some ⟨g, off, none⟩)) := by rfl) (hy : evo e y = some v := by rfl) : WL P B n ops (⟨none, .store t x y, ty, pos, af, none⟩ :: l) Q e L := by
  subst hsv
  refine WL.openR rowR_opens (fun cur hc => ?_) r
  obtain ⟨h1, h2, h3, h4, h5⟩ := hc
  have hnc := Nat.mul_le_mul_right size h2
  refine WL.st (cs := cur) (off := off) ?_ hsc hx hy .here (by rw [Nat.ble_eq]; omega) hv
  refine WL.shutR rowR_opens _ ⟨?_, h2, h3, ?_, ?_⟩ h
  · rw [List.length_set]; exact h1
  · rw [Array.size_setIfInBounds]; exact h4
  · rw [Array.toList_setIfInBounds, List.take_set, h5]
end
theorem tot_mono (F : FM) {m n : Nat} (h : m ≤ n) : tot F m ≤ tot F n := by
  induction h with
  | refl => exact Nat.le_refl _
  | step _ ih => exact Nat.le_trans ih (Nat.le_add_right _ _)
theorem cntB_le (f : Nat → Bool) : ∀ n, cntB f n ≤ n
  | 0 => Nat.le_refl _
  | n + 1 => by
    rw [cntB_succ]
    have := cntB_le f n
    split <;> omega
theorem rsTouch {s : Nat} {p : Pl} {T : FT} {os : List (Nat × Obj)} {N : Nat} (hi0 : 1 ≤ p.ino) (hi1 : p.ino ≤ 4096) {i n : Nat} (hN : N ≤ 1000000) (hn : n ≤ 1000000) : Spec Tryz.prog 89 #[.pointer (some ⟨s, 0, none⟩), nI i, nI n] [RS s p T os N] fun F v M => v = .tuple #[] ∧ M = RS s p T os (N + n + 1) :: F := by
  refine Spec.intro Tryz.func89 rfl rfl fun B F => ?_
  simp only [Tryz.ntmps89, List.cons_append, List.nil_append, env0, Nat.reduceAdd]
  refine .openR (RS.opens s p T os N) fun y hy => ?_
  obtain ⟨u, L, wk, mv, ms⟩ := y
  simp only [rsLs, List.cons_append, List.nil_append]
  refine .fact (rowR_some (el := 93) (size := 2) (v := u) (k := p.ino) (xs := (L).flatMap rowV) (by omega)) (fun ⟨ab, cc, hu, hR, hc1, hc2⟩ => ?_)
  subst hu
  have hlen : (L).length = p.ino := (hy).len
  refine .fact (rowR_shape (el := 3) (size := 1) (v := mv) (k := ms.length) (xs := ints ms)) (fun ⟨A2, c2, hmv, hR2, hk2, hc3, hl2⟩ => ?_)
  subst hmv
  have hwk : wk ≤ N := hy.wk
  have hml : ms.length ≤ N := hy.ml
  refine .sr (.move (.move ?_))
  refine .nilCheck ?_
  refine .fa ?_ fo80_2
  refine .ld ?_ sc3
  refine .move ?_
  refine .add ?_
  refine .cast (d := 13) (u := nI (wk + n)) rfl (congrArg (Value.int .i64) (by omega)) ?_
  refine .nilCheck ?_
  refine .fa ?_ fo80_2
  refine .st ?_ sc3
  refine .z (.seq (.sr (.assign (.z (.block ?_)))))
  refine .loopA (σ := Nat) (fun k => [(0, .pointer (some ⟨s, 0, none⟩)), (1, nI i), (6, .int .i64 ((k : Nat) : Int))]) (fun _ => [pt s (sO p (.slice (some ⟨ab, 0, none⟩) p.ino cc) (wk + n) (.slice A2 ms.length c2)), rowR 93 2 (.slice (some ⟨ab, 0, none⟩) p.ino cc) p.ino (L.flatMap rowV), rowR 3 1 (.slice A2 ms.length c2) ms.length (ints ms)] ++ F) (fun k => k ≤ ms.length) (fun k => ms.length - k) 0 (Nat.zero_le _) ?_
  rintro k hk
  refine .seq (.sr (.move (.move ?_)))
  refine .nilCheck ?_
  refine .fa ?_ fo80_3
  refine .ld ?_ sc78
  refine .lenS ?_ sl78
  refine .lss ?_
  refine .z ?_
  refine .cond rfl (fun hb => ?_) (fun hb => ?_)
  · have hlt : k < ms.length := by have h : (k : Int) < (ms.length : Int) := of_decide_eq_true hb; omega
    rcases A2 with _ | ⟨a2, o2, sp2⟩
    · exact absurd (congrArg List.length (show ints ms = [] from hR2)) (by unfold ints; rw [List.length_map]; simp only [List.length_nil]; omega)
    have hsp : sp2 = none := hR2.1
    subst hsp
    have hgm : (ints ms)[((k : Nat) : Int).toNat]? = some (.int .i64 ms[k]) := by rw [Int.toNat_natCast]; unfold ints; rw [List.getElem?_map, List.getElem?_eq_getElem hlt]; rfl
    by_cases he : ms[k] = (i : Int)
    · refine .skip (.next (.seq (.block (.sr (.move ?_)))))
      refine .nilCheck ?_
      refine .fa ?_ fo80_3
      refine .ld ?_ sc78
      refine .move ?_
      refine .idx1 ?_ so78
      refine .ldR (R := rowR 3 1 (.slice (some ⟨a2, o2, none⟩) ms.length c2) ms.length (ints ms)) ?_ sc3 hR2 hgm
      refine .move ?_
      refine .eqi ?_
      refine .z ?_
      refine .condT rfl (congrArg Value.bool (by first | (simp; done) | (simp; omega) | omega)) ?_
      refine .ret (.blockRet (.thenRet (.thenRet (.blockRet (.thenRet (?_))))))
      refine .shutR (RS.opens s p T os (N + n + 1)) ⟨.slice (some ⟨ab, 0, none⟩) p.ino cc, L, wk + n, .slice (some ⟨a2, o2, none⟩) ms.length c2, ms⟩ ⟨hy.len, hy.row, by show wk + n ≤ _; omega, by show ms.length ≤ _; omega⟩ ?_
      exact .ret0 ⟨_, ⟨rfl, rfl⟩, Am.auto⟩
    · refine .skip (.next (.seq (.block (.sr (.move ?_)))))
      refine .nilCheck ?_
      refine .fa ?_ fo80_3
      refine .ld ?_ sc78
      refine .move ?_
      refine .idx1 ?_ so78
      refine .ldR (R := rowR 3 1 (.slice (some ⟨a2, o2, none⟩) ms.length c2) ms.length (ints ms)) ?_ sc3 hR2 hgm
      refine .move ?_
      refine .eqi ?_
      refine .z ?_
      refine .condF rfl (congrArg Value.bool (by first | (simp; done) | (simp; omega) | omega)) ?_
      refine .skip (.blockNormal (.next (.region (.move ?_))))
      refine .add ?_
      refine .assign (.nil ?_)
      refine .cast (d := 6) (u := .int .i64 ((k + 1 : Nat) : Int)) rfl (congrArg (Value.int .i64) (by omega)) ?_
      exact .back (k + 1) (by show k + 1 ≤ ms.length; omega) (by show ms.length - (k + 1) < ms.length - k; omega)
  · have hge : k = ms.length := by have h : ¬ (k : Int) < (ms.length : Int) := of_decide_eq_false hb; omega
    refine .exit (.thenExit (.thenExit (.blockExit (?_))))
    refine .next (.region (.move (.move ?_)))
    refine .nilCheck ?_
    refine .fa ?_ fo80_3
    refine .ld ?_ sc78
    refine .move ?_
    refine .buildS (fun b40 => ?_) (bsI1' _)
    refine .append (m := 1) (news := [nI i]) so78 (by decide) (by repeat (first | exact .here | apply Rem.there | apply Repl.there | apply Mem.there)) (Reads.pt (cs := #[nI i])) (by repeat (first | exact .here | apply Rem.there | apply Repl.there | apply Mem.there)) rfl (by intro x hx; simp only [List.mem_cons, List.not_mem_nil, or_false] at hx; rcases hx with rfl; rfl) (by show ms.length + 1 ≤ maxLen; unfold maxLen; omega) (by show (ms.length + 1) * _ ≤ 140737488355328; omega) ⟨_, z3, rfl⟩ (fun vB hvB => ?_)
    refine .to (A := rowR 3 1 vB (ms.length + 1) (ints ms ++ [nI i])) (A' := rowR 3 1 vB (ms ++ [(i : Int)]).length (ints (ms ++ [(i : Int)]))) (fun h hh => by rw [← ints_last, List.length_append]; exact hh) ?_
    refine .fact (rowR_shape (el := 3) (size := 1) (v := vB) (k := (ms ++ [(i : Int)]).length) (xs := ints (ms ++ [(i : Int)]))) (fun ⟨A4, c4, hv4, hR4, hk4, hc4, hl4⟩ => ?_)
    subst hv4
    refine .nilCheck ?_
    refine .fa ?_ fo80_3
    refine .st ?_ sc78
    refine .nil ?_
    refine .shutR (RS.opens s p T os (N + n + 1)) ⟨.slice (some ⟨ab, 0, none⟩) p.ino cc, L, wk + n, .slice A4 (ms ++ [(i : Int)]).length c4, ms ++ [(i : Int)]⟩ ⟨hy.len, hy.row, by show wk + n ≤ _; omega, by show (ms ++ [(i : Int)]).length ≤ _; rw [List.length_append]; simp only [List.length_cons, List.length_nil]; omega⟩ ?_
    exact .ret0 ⟨_, ⟨rfl, rfl⟩, Am.auto⟩
theorem rsFree {s : Nat} {p : Pl} {T : FT} {os : List (Nat × Obj)} {N : Nat} (hi0 : 1 ≤ p.ino) (hi1 : p.ino ≤ 4096) (hdc : p.dc ≤ 1000000) (hT : RT p T) (htot : tot (fmT T) p.ino ≤ p.dc) : Spec Tryz.prog 22 #[.pointer (some ⟨s, 0, none⟩)] [RS s p T os N] fun F v M => v = .tuple #[.int .i64 ((p.dc : Int) - tot (fmT T) p.ino), .int .i64 ((p.ino : Int) - cntF (fmT T) p.ino)] ∧ M = RS s p T os N :: F := by
  refine Spec.intro Tryz.func22 rfl rfl fun B F => ?_
  simp only [Tryz.ntmps22, List.cons_append, List.nil_append, env0, Nat.reduceAdd]
  refine .openR (RS.opens s p T os N) fun y hy => ?_
  obtain ⟨u, L, wk, mv, ms⟩ := y
  simp only [rsLs, List.cons_append, List.nil_append]
  refine .fact (rowR_some (el := 93) (size := 2) (v := u) (k := p.ino) (xs := (L).flatMap rowV) (by omega)) (fun ⟨ab, cc, hu, hR, hc1, hc2⟩ => ?_)
  subst hu
  have hlen : (L).length = p.ino := (hy).len
  have htm : ∀ k, k ≤ p.ino → tot (fmT T) k ≤ p.dc := fun k hk => Nat.le_trans (tot_mono (fmT T) hk) htot
  have hcm : ∀ k, cntF (fmT T) k ≤ k := fun k => cntB_le _ k
  refine .sr (.assign (.assign (.x (.move ?_))))
  refine .nilCheck ?_
  refine .fa ?_ fo80_0
  refine .fa ?_ fo59_6
  refine .ld ?_ sc3
  refine .assign (.x (.assign (.z (.seq (.sr (.assign (.z (.block ?_))))))))
  refine .loopA (σ := Nat) (fun k => [(0, .pointer (some ⟨s, 0, none⟩)), (4, .int .i64 ((p.dc : Int) - tot (fmT T) k)), (5, .int .i64 (((k : Nat) : Int) - cntF (fmT T) k)), (6, .int .i64 ((k : Nat) : Int))]) (fun _ => [pt s (sO p (.slice (some ⟨ab, 0, none⟩) p.ino cc) wk mv), rowR 93 2 (.slice (some ⟨ab, 0, none⟩) p.ino cc) p.ino (L.flatMap rowV), rowR 3 1 mv ms.length (ints ms)] ++ F) (fun k => k ≤ p.ino) (fun k => p.ino - k) 0 (Nat.zero_le _) ?_
  rintro k hk
  refine .seq (.sr (.move (.move ?_)))
  refine .nilCheck ?_
  refine .fa ?_ fo80_1
  refine .ld ?_ sc77
  refine .lenS ?_ sl77
  refine .lss ?_
  refine .z ?_
  refine .cond rfl (fun hb => ?_) (fun hb => ?_)
  · have hlt : k < p.ino := by have h : (k : Int) < (p.ino : Int) := of_decide_eq_true hb; omega
    have ht1 := htm (k + 1) (by omega)
    have ht2 : tot (fmT T) (k + 1) = tot (fmT T) k + hasO (fmT T k) := rfl
    have hc1' : cntF (fmT T) (k + 1) = cntF (fmT T) k + (if (fmT T k).isSome then 1 else 0) := cntB_succ _ k
    have hck := hcm k
    have hil : k < L.length := by omega
    have hrow := hy.row k hil
    obtain ⟨A1, c1, hs1, hr1, hl1, hm1⟩ := hrow.sl
    obtain ⟨e1, hek⟩ : ∃ e, L[k] = e := ⟨_, rfl⟩
    have hkd : e1.1 = refK (T k) := hek ▸ hrow.kd
    have hg0 : (L.flatMap rowV)[((k : Nat) : Int).toNat * 2 + 0]? = some (nI e1.1) := by rw [Int.toNat_natCast, ← hek]; exact (rowV_get hil).1
    have hg1 : (L.flatMap rowV)[((k : Nat) : Int).toNat * 2 + 1]? = some (.slice A1 (refBy (T k)).length c1) := by rw [Int.toNat_natCast, ← hs1]; exact (rowV_get hil).2
    rw [hkd] at hg0
    cases hTk : T k with
    | none =>
      rw [fmT_none hTk] at ht2 hc1'
      rw [hTk] at hg0
      have h0 : hasO none = 0 := rfl
      have h1 : (none : Option (Nat × Bytes)).isSome = false := rfl
      rw [h1] at hc1'
      simp only [Bool.false_eq_true, if_false] at hc1'
      refine .skip (.next (.seq (.block (.sr (.move ?_)))))
      refine .nilCheck ?_
      refine .fa ?_ fo80_1
      refine .ld ?_ sc77
      refine .move ?_
      refine .idx ?_ so77
      refine .fa ?_ fo93_0
      refine .ldR (R := rowR 93 2 (.slice (some ⟨ab, 0, none⟩) p.ino cc) p.ino (L.flatMap rowV)) ?_ sc3 hR hg0
      refine .eqi ?_
      refine .z ?_
      refine .condT rfl (congrArg Value.bool (by first | rfl | (simp; done) | (simp; omega) | omega)) ?_
      refine .region (.move ?_)
      refine .add ?_
      refine .assign (.nil (.blockNormal (.next (.region (.move ?_)))))
      refine .add ?_
      refine .assign (.nil ?_)
      refine .cast (d := 6) (u := .int .i64 ((k + 1 : Nat) : Int)) rfl (congrArg (Value.int .i64) (by omega)) ?_
      refine .cast (d := 4) (u := .int .i64 ((p.dc : Int) - tot (fmT T) (k + 1))) rfl (congrArg (Value.int .i64) (by omega)) ?_
      refine .cast (d := 5) (u := .int .i64 (((k + 1 : Nat) : Int) - cntF (fmT T) (k + 1))) rfl (congrArg (Value.int .i64) (by omega)) ?_
      exact .back (k + 1) (by show k + 1 ≤ p.ino; omega) (by show p.ino - (k + 1) < p.ino - k; omega)
    | some x =>
      rw [fmT_some hTk] at ht2 hc1'
      rw [hTk] at hg0 hg1
      have h0 : hasO (some x.f) = has x.size := by show has x.f.2.length = _; rw [x.f_size]
      have h1 : (some x.f).isSome = true := rfl
      rw [h1] at hc1'
      simp only [if_true] at hc1'
      have hkz : refK (some x) ≠ 0 := fun h => by cases (refK_zero.1 h)
      have hsz : (refBy (some x)).length = x.size := x.r_length
      rw [hsz] at hg1
      have hxl : x.size ≤ 1000000000 := by
        have h2 : has x.size ≤ 1000000 := by omega
        unfold has dat at h2
        split at h2 <;> omega
      refine .skip (.next (.seq (.block (.sr (.move ?_)))))
      refine .nilCheck ?_
      refine .fa ?_ fo80_1
      refine .ld ?_ sc77
      refine .move ?_
      refine .idx ?_ so77
      refine .fa ?_ fo93_0
      refine .ldR (R := rowR 93 2 (.slice (some ⟨ab, 0, none⟩) p.ino cc) p.ino (L.flatMap rowV)) ?_ sc3 hR hg0
      refine .eqi ?_
      refine .z ?_
      refine .condF rfl (congrArg Value.bool (by first | (exact decide_eq_false (by omega)) | (simp; done) | (simp; omega) | omega)) ?_
      refine .region (.move (.move ?_))
      refine .nilCheck ?_
      refine .fa ?_ fo80_1
      refine .ld ?_ sc77
      refine .move ?_
      refine .idx ?_ so77
      refine .fa ?_ fo93_1
      refine .ldR (R := rowR 93 2 (.slice (some ⟨ab, 0, none⟩) p.ino cc) p.ino (L.flatMap rowV)) ?_ sc91 hR hg1
      refine .lenS ?_ sl91
      refine .call (hc := Tryz.call64) (sp := rfNeed (n := x.size) hxl) (h := ?_)
      rintro _ _ ⟨rfl, hM⟩
      obtain rfl := hM.symm
      refine .sub ?_
      refine .assign (.nil (.blockNormal (.next (.region (.move ?_)))))
      refine .add ?_
      refine .assign (.nil ?_)
      refine .cast (d := 6) (u := .int .i64 ((k + 1 : Nat) : Int)) rfl (congrArg (Value.int .i64) (by omega)) ?_
      refine .cast (d := 4) (u := .int .i64 ((p.dc : Int) - tot (fmT T) (k + 1))) rfl (congrArg (Value.int .i64) (by omega)) ?_
      refine .cast (d := 5) (u := .int .i64 (((k + 1 : Nat) : Int) - cntF (fmT T) (k + 1))) rfl (congrArg (Value.int .i64) (by omega)) ?_
      exact .back (k + 1) (by show k + 1 ≤ p.ino; omega) (by show p.ino - (k + 1) < p.ino - k; omega)
  · have hge : k = p.ino := by have h : ¬ (k : Int) < (p.ino : Int) := of_decide_eq_false hb; omega
    subst hge
    refine .exit (.thenExit (.thenExit (.blockExit (?_))))
    refine .next (.sr (.move (.move (.assign (.assign (.z ?_))))))
    refine .ret (?_)
    refine .shutR (RS.opens s p T os N) ⟨.slice (some ⟨ab, 0, none⟩) p.ino cc, L, wk, mv, ms⟩ hy ?_
    exact .ret2 (h1 := .tmp (t := 2) rfl) (h2 := .tmp (t := 3) rfl) ⟨_, ⟨rfl, rfl⟩, Am.auto⟩
end Go.Proofs.YtdmjkjeoamiedaaGreat
end
section
namespace Go.Proofs.YtdmjkjeoamiedaaGreat
open Go
theorem rsResize {s : Nat} {p : Pl} {T : FT} {os : List (Nat × Obj)} {N : Nat} (hi0 : 1 ≤ p.ino) (hi1 : p.ino ≤ 4096) {i z : Nat} {x : NodeT} (hdc : p.dc ≤ 1000000) (hT : RT p T) (htot : tot (fmT T) p.ino ≤ p.dc) (hTi : T i = some x) (hxs : x.size ≤ 70656) (hz : z ≤ 70656) (hfit : tot (fmT T) p.ino + has z ≤ p.dc + has x.size) : Spec Tryz.prog 92 #[.pointer (some ⟨s, 0, none⟩), nI i, nI z] [RS s p T os N] fun F v M => v = .int .i64 0 ∧ M = RS s p T os N :: F := by
  refine Spec.intro Tryz.func92 rfl rfl fun B F => ?_
  simp only [Tryz.ntmps92, List.cons_append, List.nil_append, env0, Nat.reduceAdd]
  have hh : ∀ n, n ≤ 70656 → has n ≤ 200 := fun n hn => by unfold has dat; split <;> omega
  have hz1 := hh z hz
  have hx1 := hh x.size hxs
  refine .sr (.assign (.z (.seq (.sr (.move ?_)))))
  refine .gtr ?_
  refine .z ?_
  refine .condF rfl (congrArg Value.bool (by first | (simp; done) | (simp; omega) | omega)) ?_
  refine .skip (.next (.sr (.move ?_)))
  refine .call (hc := Tryz.call22) (sp := rsFree (s := s) (p := p) (T := T) (os := os) (N := N) hi0 hi1 hdc hT htot) (h := ?_)
  rintro _ _ ⟨rfl, rfl⟩
  refine .move ?_
  refine .extract ?_
  refine .extract ?_
  refine .assign (.assign (.z (.seq (.seq ?_))))
  have hi : i < p.ino := in_ino hT hTi
  refine .openR (RS.opens s p T os N) fun y hy => ?_
  obtain ⟨u, L, wk, mv, ms⟩ := y
  simp only [rsLs, List.cons_append, List.nil_append]
  refine .fact (rowR_some (el := 93) (size := 2) (v := u) (k := p.ino) (xs := (L).flatMap rowV) (by omega)) (fun ⟨ab, cc, hu, hR, hc1, hc2⟩ => ?_)
  subst hu
  have hlen : (L).length = p.ino := (hy).len
  have hil : i < L.length := by omega
  have hrow := hy.row i hil
  obtain ⟨A1, c1, hs1, hr1, hl1, hm1⟩ := hrow.sl
  obtain ⟨e1, hek⟩ : ∃ e, L[i] = e := ⟨_, rfl⟩
  have hkd : e1.1 = refK (T i) := hek ▸ hrow.kd
  have hg0 : (L.flatMap rowV)[((i : Nat) : Int).toNat * 2 + 0]? = some (nI e1.1) := by rw [Int.toNat_natCast, ← hek]; exact (rowV_get hil).1
  have hg1 : (L.flatMap rowV)[((i : Nat) : Int).toNat * 2 + 1]? = some (.slice A1 (refBy (T i)).length c1) := by rw [Int.toNat_natCast, ← hs1]; exact (rowV_get hil).2
  rw [hkd] at hg0
  rw [hTi] at hg1
  have hsz : (refBy (some x)).length = x.size := x.r_length
  rw [hsz] at hg1
  refine .dr ([pt s (sO p (.slice (some ⟨ab, 0, none⟩) p.ino cc) wk mv), rowR 93 2 (.slice (some ⟨ab, 0, none⟩) p.ino cc) p.ino (L.flatMap rowV)]) [] 15 mixed .autoJ ?_
  refine .tk 0 rfl .move ?_
  refine .tk 2 rfl .move ?_
  refine .tk 3 rfl .nilCheck ?_
  refine .tk 4 rfl (.fa fo80_1) ?_
  refine .tk 5 rfl (.ld sc77) ?_
  refine .tk 6 rfl .move ?_
  refine .tk 7 rfl (.idx so77) ?_
  refine .tk 8 rfl (.fa fo93_1) ?_
  refine .tk 9 rfl (Qt.ldR sc91 hR hg1) ?_
  refine .tk 10 rfl (.lenS sl91) ?_
  refine .tk 13 rfl .move ?_
  refine .on 1 rfl fun hnp => ?_
  refine .call (hc := Tryz.call64) (sp := rfNeed (n := z) (by omega)) (h := ?_)
  rintro _ _ ⟨rfl, hM⟩
  obtain rfl := hM.symm
  refine .nil (.wa hnp ?_)
  refine .on 11 rfl fun hnp => ?_
  refine .call (hc := Tryz.call64) (sp := rfNeed (n := x.size) (by omega)) (h := ?_)
  rintro _ _ ⟨rfl, hM⟩
  obtain rfl := hM.symm
  refine .nil (.wa hnp ?_)
  refine .tk 12 rfl .sub ?_
  refine .tk 14 rfl .gtr ?_
  refine .fin ?_
  refine .next ?_
  refine .condF rfl (congrArg Value.bool (by first | (simp; done) | (simp; omega) | omega)) ?_
  refine .skip (.next (.sr (.assign (.z ?_))))
  refine .ret (?_)
  refine .shutR (RS.opens s p T os N) ⟨.slice (some ⟨ab, 0, none⟩) p.ino cc, L, wk, mv, ms⟩ hy ?_
  exact .ret1 (h1 := .tmp (t := 6) rfl) ⟨_, ⟨rfl, rfl⟩, Am.auto⟩
theorem rsResizeFull {s : Nat} {p : Pl} {T : FT} {os : List (Nat × Obj)} {N : Nat} (hi0 : 1 ≤ p.ino) (hi1 : p.ino ≤ 4096) {i z : Nat} {x : NodeT} (hdc : p.dc ≤ 1000000) (hT : RT p T) (htot : tot (fmT T) p.ino ≤ p.dc) (hTi : T i = some x) (hxs : x.size ≤ 70656) (hz : z ≤ 70656) (hfit : p.dc + has x.size < tot (fmT T) p.ino + has z) : Spec Tryz.prog 92 #[.pointer (some ⟨s, 0, none⟩), nI i, nI z] [RS s p T os N] fun F v M => v = .int .i64 3 ∧ M = RS s p T os N :: F := by
  refine Spec.intro Tryz.func92 rfl rfl fun B F => ?_
  simp only [Tryz.ntmps92, List.cons_append, List.nil_append, env0, Nat.reduceAdd]
  have hh : ∀ n, n ≤ 70656 → has n ≤ 200 := fun n hn => by unfold has dat; split <;> omega
  have hz1 := hh z hz
  have hx1 := hh x.size hxs
  refine .sr (.assign (.z (.seq (.sr (.move ?_)))))
  refine .gtr ?_
  refine .z ?_
  refine .condF rfl (congrArg Value.bool (by first | (simp; done) | (simp; omega) | omega)) ?_
  refine .skip (.next (.sr (.move ?_)))
  refine .call (hc := Tryz.call22) (sp := rsFree (s := s) (p := p) (T := T) (os := os) (N := N) hi0 hi1 hdc hT htot) (h := ?_)
  rintro _ _ ⟨rfl, rfl⟩
  refine .move ?_
  refine .extract ?_
  refine .extract ?_
  refine .assign (.assign (.z (.seq (.seq ?_))))
  have hi : i < p.ino := in_ino hT hTi
  refine .openR (RS.opens s p T os N) fun y hy => ?_
  obtain ⟨u, L, wk, mv, ms⟩ := y
  simp only [rsLs, List.cons_append, List.nil_append]
  refine .fact (rowR_some (el := 93) (size := 2) (v := u) (k := p.ino) (xs := (L).flatMap rowV) (by omega)) (fun ⟨ab, cc, hu, hR, hc1, hc2⟩ => ?_)
  subst hu
  have hlen : (L).length = p.ino := (hy).len
  have hil : i < L.length := by omega
  have hrow := hy.row i hil
  obtain ⟨A1, c1, hs1, hr1, hl1, hm1⟩ := hrow.sl
  obtain ⟨e1, hek⟩ : ∃ e, L[i] = e := ⟨_, rfl⟩
  have hkd : e1.1 = refK (T i) := hek ▸ hrow.kd
  have hg0 : (L.flatMap rowV)[((i : Nat) : Int).toNat * 2 + 0]? = some (nI e1.1) := by rw [Int.toNat_natCast, ← hek]; exact (rowV_get hil).1
  have hg1 : (L.flatMap rowV)[((i : Nat) : Int).toNat * 2 + 1]? = some (.slice A1 (refBy (T i)).length c1) := by rw [Int.toNat_natCast, ← hs1]; exact (rowV_get hil).2
  rw [hkd] at hg0
  rw [hTi] at hg1
  have hsz : (refBy (some x)).length = x.size := x.r_length
  rw [hsz] at hg1
  refine .dr ([pt s (sO p (.slice (some ⟨ab, 0, none⟩) p.ino cc) wk mv), rowR 93 2 (.slice (some ⟨ab, 0, none⟩) p.ino cc) p.ino (L.flatMap rowV)]) [] 15 mixed .autoJ ?_
  refine .tk 0 rfl .move ?_
  refine .tk 2 rfl .move ?_
  refine .tk 3 rfl .nilCheck ?_
  refine .tk 4 rfl (.fa fo80_1) ?_
  refine .tk 5 rfl (.ld sc77) ?_
  refine .tk 6 rfl .move ?_
  refine .tk 7 rfl (.idx so77) ?_
  refine .tk 8 rfl (.fa fo93_1) ?_
  refine .tk 9 rfl (Qt.ldR sc91 hR hg1) ?_
  refine .tk 10 rfl (.lenS sl91) ?_
  refine .tk 13 rfl .move ?_
  refine .on 1 rfl fun hnp => ?_
  refine .call (hc := Tryz.call64) (sp := rfNeed (n := z) (by omega)) (h := ?_)
  rintro _ _ ⟨rfl, hM⟩
  obtain rfl := hM.symm
  refine .nil (.wa hnp ?_)
  refine .on 11 rfl fun hnp => ?_
  refine .call (hc := Tryz.call64) (sp := rfNeed (n := x.size) (by omega)) (h := ?_)
  rintro _ _ ⟨rfl, hM⟩
  obtain rfl := hM.symm
  refine .nil (.wa hnp ?_)
  refine .tk 12 rfl .sub ?_
  refine .tk 14 rfl .gtr ?_
  refine .fin ?_
  refine .next ?_
  refine .condT rfl (congrArg Value.bool (by first | (simp; done) | (simp; omega) | omega)) ?_
  refine .sr (.assign (.z ?_))
  refine .ret (.thenRet (?_))
  refine .shutR (RS.opens s p T os N) ⟨.slice (some ⟨ab, 0, none⟩) p.ino cc, L, wk, mv, ms⟩ hy ?_
  exact .ret1 (h1 := .tmp (t := 6) rfl) ⟨_, ⟨rfl, rfl⟩, Am.auto⟩
theorem rsp_step {base src : Bytes} {off k : Nat} (h1 : off + (k + 1) ≤ base.length) (h2 : k < src.length) : (splice base off (src.take k)).set (off + k) (src.getD k 0) = splice base off (src.take (k + 1)) := by
  have hl1 : (src.take k).length = k := by rw [List.length_take]; omega
  have hl2 : (src.take (k + 1)).length = k + 1 := by rw [List.length_take]; omega
  have e1 := splice_length (xs := base) (ys := src.take k) (off := off) (by omega)
  have e2 := splice_length (xs := base) (ys := src.take (k + 1)) (off := off) (by omega)
  apply List.ext_getElem (by rw [List.length_set]; omega)
  intro j h3 h4
  have g1 : ∀ (l : Bytes) (h : j < l.length), l[j] = l.getD j 0 := fun l h => by rw [List.getD_eq_getElem?_getD, List.getElem?_eq_getElem h]; rfl
  rw [g1 _ h3, g1 _ h4, splice_getD (by omega), hl2]
  rw [List.getD_eq_getElem?_getD, List.getElem?_set]
  by_cases hj : off + k = j
  · subst hj
    rw [if_pos rfl, if_pos (by omega), if_pos ⟨by omega, by omega⟩, show off + k - off = k from by omega]
    simp only [Option.getD_some]
    rw [List.getD_eq_getElem?_getD, List.getD_eq_getElem?_getD, List.getElem?_take, if_pos (by omega)]
  · rw [if_neg hj, ← List.getD_eq_getElem?_getD, splice_getD (by omega), hl1]
    by_cases hk : off ≤ j ∧ j < off + k
    · rw [if_pos hk, if_pos ⟨by omega, by omega⟩]
      rw [List.getD_eq_getElem?_getD, List.getD_eq_getElem?_getD, List.getElem?_take, List.getElem?_take, if_pos (by omega), if_pos (by omega)]
    · rw [if_neg hk, if_neg (by omega)]
theorem rsp_nil (base : Bytes) (off : Nat) : splice base off [] = base := by
  unfold splice
  simp
theorem rsp_all {base src : Bytes} {off k : Nat} (h : src.length = k) : splice base off (src.take k) = splice base off src := by rw [List.take_of_length_le (by omega)]
theorem rsp_made (a b : Bytes) (at' : Nat) : splice (splice (List.replicate (max a.length (at' + b.length)) 0) 0 a) at' b = wrB a at' b := by
  unfold wrB
  congr 1
  unfold splice ext
  rw [List.take_zero, List.nil_append, List.drop_replicate]
  congr 2
  omega
theorem bv_getD {xs : Bytes} {k : Nat} (h : k < xs.length) : (bvs xs)[k]? = some (bv (xs.getD k 0)) := by
  unfold bvs
  rw [List.getElem?_map, List.getElem?_eq_getElem h, List.getD_eq_getElem?_getD, List.getElem?_eq_getElem h]; rfl
theorem RSP.write {p : Pl} {T : FT} {os : List (Nat × Obj)} {N i Z bw : Nat} {u mv : Value} {L : List (Nat × Value)} {wk : Nat} {ms : List Int} {x x' : NodeT} {cur : Array Value} (hy : RSP p T os N ⟨u, L, wk, mv, ms⟩) (hTi : T i = some x) (hi : i < L.length) (hk : x'.kind = x.kind) (hl : x'.r.length = Z) (hc1 : cur.size = Z) (hc2 : cur.toList.take (bvs x'.r).length = bvs x'.r) (hZ : Z ≤ maxLen) :
    RSP p (updT T i (some x')) ((bw, .cells cur 5 (0, 0)) :: os) N ⟨u, L.set i (L[i].1, .slice (some ⟨bw, 0, none⟩) Z Z), wk, mv, ms⟩ := by
  refine ⟨by show (L.set i _).length = _; rw [List.length_set]; exact hy.len, fun j hj => ?_, hy.wk, hy.ml⟩
  have hj2 : j < L.length := by have : j < (L.set i (L[i].1, .slice (some ⟨bw, 0, none⟩) Z Z)).length := hj; rwa [List.length_set] at this
  show RRow _ _ (updT T i (some x') j) (L.set i (L[i].1, .slice (some ⟨bw, 0, none⟩) Z Z))[j]
  by_cases hji : i = j
  · subst hji
    rw [updT_same, List.getElem_set_self]
    refine ⟨?_, .inr ⟨bw, Z, cur, (0, 0), ?_, List.mem_cons_self .., ?_, hZ, ?_⟩⟩
    · show L[i].1 = x'.kind
      have := (hy.row i hi).kd
      rw [hTi] at this
      rw [hk]; exact this
    · show Value.slice (some ⟨bw, 0, none⟩) Z Z = .slice (some ⟨bw, 0, none⟩) x'.r.length Z
      rw [hl]
    · show x'.r.length ≤ Z; omega
    · show cur.toList.take x'.r.length = bvs x'.r
      rwa [bvs_length] at hc2
  · rw [updT_other _ _ (fun h => hji h.symm), List.getElem_set_ne hji]
    exact (hy.row j hj2).mono fun e he => List.mem_cons_of_mem _ he
theorem rsWrite {s : Nat} {p : Pl} {T : FT} {os : List (Nat × Obj)} {N : Nat} (hi0 : 1 ≤ p.ino) (hi1 : p.ino ≤ 4096) {i at' m c : Nat} {R : HP} {A : Option Addr} {bs : Bytes} {x x2 : NodeT} (hdc : p.dc ≤ 1000000) (hT : RT p T) (htot : tot (fmT T) p.ino ≤ p.dc) (hTi : T i = some x) (hxs : x.size ≤ 70656) (hR0 : bs = [] ∨ Reads R A (bvs bs)) (hm : bs.length = m) (hmc : m ≤ c) (hcm : c ≤ maxLen) (hat : at' ≤ x.size) (hm7 : m ≤ 70656) (hz : max x.size (at' + m) ≤ 70656) (hN : N ≤ 1000) (hfit : tot (fmT T) p.ino + has (max x.size (at' + m)) ≤ p.dc + has x.size) (hx2 : x2.r = wrB x.r at' bs) (hk2 : x2.kind = x.kind) : Spec Tryz.prog 45 #[.pointer (some ⟨s, 0, none⟩), nI i, nI at', .slice A m c] [RS s p T os N, frz os, R] fun F v M => v = .int .i64 0 ∧ ∃ os2, (∀ e ∈ os, e ∈ os2) ∧ M = RS s p (updT T i (some x2)) os2 (N + (has m + 2) + 1) :: frz os2 :: R :: F := by
  refine Spec.intro Tryz.func45 rfl rfl fun B F => ?_
  simp only [Tryz.ntmps45, List.cons_append, List.nil_append, env0, Nat.reduceAdd]
  obtain ⟨Z, hZ⟩ : ∃ Z, max x.size (at' + m) = Z := ⟨_, rfl⟩
  rw [hZ] at hz hfit
  obtain ⟨X, hX⟩ : ∃ X, x.r = X := ⟨_, rfl⟩
  have hXl : X.length = x.size := by rw [← hX]; exact x.r_length
  rw [hX] at hx2
  have hi : i < p.ino := in_ino hT hTi
  have hhm : has m ≤ 200 := by unfold has dat; split <;> omega
  refine .sr (.assign (.z (.seq (.sr (.move (.move ?_))))))
  refine .call (hc := Tryz.call60) (sp := rsThere (s := s) (p := p) (T := T) (os := os) (N := N) hi0 hi1 (i := i) hT) (h := ?_)
  rintro _ _ ⟨rfl, rfl⟩
  rw [hTi]
  refine .not ?_
  refine .z ?_
  refine .condF rfl rfl ?_
  refine .skip (.next (.sr ?_))
  refine .openR (RS.opens s p T os N) fun y hy => ?_
  obtain ⟨u, L, wk, mv, ms⟩ := y
  simp only [rsLs, List.cons_append, List.nil_append]
  refine .fact (rowR_some (el := 93) (size := 2) (v := u) (k := p.ino) (xs := (L).flatMap rowV) (by omega)) (fun ⟨ab, cc, hu, hR, hc1, hc2⟩ => ?_)
  subst hu
  have hlen : (L).length = p.ino := (hy).len
  have hil : i < L.length := by omega
  have hrow := hy.row i hil
  obtain ⟨A1, c1, hs1, hr1, hl1, hm1⟩ := hrow.sl
  obtain ⟨e1, hek⟩ : ∃ e, L[i] = e := ⟨_, rfl⟩
  have hkd : e1.1 = refK (T i) := hek ▸ hrow.kd
  have hg0 : (L.flatMap rowV)[((i : Nat) : Int).toNat * 2 + 0]? = some (nI e1.1) := by rw [Int.toNat_natCast, ← hek]; exact (rowV_get hil).1
  have hg1 : (L.flatMap rowV)[((i : Nat) : Int).toNat * 2 + 1]? = some (.slice A1 (refBy (T i)).length c1) := by rw [Int.toNat_natCast, ← hs1]; exact (rowV_get hil).2
  rw [hkd] at hg0
  rw [hTi] at hg1 hr1 hl1
  rw [show refBy (some x) = X from hX] at hg1 hr1 hl1
  refine .move ?_
  refine .nilCheck ?_
  refine .fa ?_ fo80_1
  refine .ld ?_ sc77
  refine .move ?_
  refine .idx ?_ so77
  refine .fa ?_ fo93_1
  refine .ldR (R := rowR 93 2 (.slice (some ⟨ab, 0, none⟩) p.ino cc) p.ino (L.flatMap rowV)) ?_ sc91 hR hg1
  refine .assign (.z (.seq (.sr ?_)))
  refine .shutR (RS.opens s p T os N) ⟨.slice (some ⟨ab, 0, none⟩) p.ino cc, L, wk, mv, ms⟩ hy ?_
  clear hy hrow hg0 hg1 hkd hek hs1 hR hlen
  refine .move ?_
  refine .lss ?_
  refine .move ?_
  refine .cast (d := 29) (u := .bool false) rfl (congrArg Value.bool (by first | (simp; done) | (simp; omega) | omega)) ?_
  refine .gT ?_
  refine .move ?_
  refine .gT ?_
  refine .move ?_
  refine .gT ?_
  refine .lenS ?_ sl91
  refine .gT ?_
  refine .gtr ?_
  refine .pickF ?_
  refine .z ?_
  refine .condF rfl (congrArg Value.bool (by first | (simp; done) | (simp; omega) | omega)) ?_
  refine .skip (.next (.seq (.sr (.move ?_))))
  refine .lenS ?_ sl91
  refine .gtr ?_
  refine .z ?_
  refine .condF rfl (congrArg Value.bool (by first | (simp; done) | (simp; omega) | omega)) ?_
  refine .skip (.next (.sr (.move ?_)))
  refine .lenS ?_ sl91
  refine .move (.move ?_)
  refine .lenS ?_ sl91
  refine .add ?_
  refine .maxI ?_
  refine .cast (d := 44) (u := nI Z) rfl (congrArg (Value.int .i64) (by split <;> omega)) ?_
  refine .assign (.x (.move (.move (.move ?_))))
  refine .call (hc := Tryz.call92) (sp := rsResize (s := s) (p := p) (T := T) (os := os) (N := N) hi0 hi1 (i := i) (z := Z) (x := x) hdc hT htot hTi hxs hz hfit) (h := ?_)
  rintro _ _ ⟨rfl, rfl⟩
  refine .assign (.z (.seq (.sr (.move ?_))))
  refine .nei ?_
  refine .z ?_
  refine .condF rfl (congrArg Value.bool (by first | (simp; done) | (simp; omega) | omega)) ?_
  refine .skip (.next (.sr (.move (.move (.move ?_)))))
  refine .lenS ?_ sl91
  refine .call (hc := Tryz.call64) (sp := rfNeed (n := m) (by omega)) (h := ?_)
  rintro _ _ ⟨rfl, hM⟩
  obtain rfl := hM.symm
  refine .add ?_
  refine .cast (d := 57) (u := nI (has m + 2)) rfl (congrArg (Value.int .i64) (by omega)) ?_
  refine .call (hc := Tryz.call89) (sp := rsTouch (s := s) (p := p) (T := T) (os := os) (N := N) hi0 hi1 (i := i) (n := has m + 2) (by omega) (by omega)) (h := ?_)
  rintro _ _ ⟨rfl, rfl⟩
  refine .x (.move ?_)
  refine .mkS (k := (Z : Int)) z5 (fun bw => ?_) so91 (by omega) (by omega) (by omega)
  refine .cast (d := 60) (u := .slice (some ⟨bw, 0, none⟩) Z Z) rfl (by rw [Int.toNat_natCast]) ?_
  refine .to (A := buf bw 5 (Z : Int).toNat (List.replicate (Z : Int).toNat (.int .u8 0))) (A' := buf bw 5 Z (bvs (splice (List.replicate Z 0) 0 (X.take 0)))) (fun h hh => by rw [List.take_zero, rsp_nil, bvs_replicate]; rw [Int.toNat_natCast] at hh; exact hh) ?_
  refine .assign (.z (.seq (.sr (.assign (.z (.block ?_))))))
  refine .loopA (σ := Nat) (fun k => [(0, .pointer (some ⟨s, 0, none⟩)), (1, nI i), (2, nI at'), (3, .slice A m c), (9, .slice A1 X.length c1), (12, .slice (some ⟨bw, 0, none⟩) Z Z), (13, .int .i64 (k : Int))]) (fun k => [buf bw 5 Z (bvs (splice (List.replicate Z 0) 0 (X.take k))), RS s p T os (N + (has m + 2) + 1), frz os, R] ++ F) (fun k => k ≤ X.length) (fun k => X.length - k) 0 (Nat.zero_le _) ?_
  rintro k hk
  refine .seq (.sr (.move (.move ?_)))
  refine .lenS ?_ sl91
  refine .lss ?_
  refine .z ?_
  refine .cond rfl (fun hb => ?_) (fun hb => ?_)
  · have hlt : k < X.length := by have h : (k : Int) < (X.length : Int) := of_decide_eq_true hb; omega
    have hsl : (splice (List.replicate Z 0) 0 (X.take k)).length = Z := by rw [splice_length (by rw [List.length_replicate, List.length_take]; omega), List.length_replicate]
    have hrX := hr1.resolve_left (by intro h; rw [h] at hlt; simp at hlt)
    rcases A1 with _ | ⟨a1, o1, sp1⟩
    · exact absurd (congrArg List.length (show bvs X = [] from hrX)) (by rw [bvs_length]; simp only [List.length_nil]; omega)
    have hsp : sp1 = none := hrX.1
    subst hsp
    have hgx : (bvs X)[((k : Nat) : Int).toNat]? = some (bv (X.getD k 0)) := by rw [Int.toNat_natCast]; exact bv_getD hlt
    refine .skip (.next (.seq (.block (.region (.move (.move (.move (.move ?_))))))))
    refine .idx1 ?_ so91
    refine .ldR (R := frz os) (xs := bvs X) (i := ((k : Nat) : Int).toNat) ?_ sc5 hrX hgx
    refine .idx1 ?_ so91
    refine .stB ?_ sc5 (show 0 + ((k : Nat) : Int).toNat < (bvs (splice (List.replicate Z 0) 0 (X.take k))).length by rw [bvs_length]; omega)
    refine .nil (.blockNormal (.next (.region (.move ?_))))
    refine .add ?_
    refine .assign (.nil ?_)
    refine .to (A := buf bw 5 Z ((bvs (splice (List.replicate Z 0) 0 (X.take k))).set (0 + ((k : Nat) : Int).toNat) (bv (X.getD k 0)))) (A' := buf bw 5 Z (bvs (splice (List.replicate Z 0) 0 (X.take (k + 1))))) (fun h hh => by rw [← rsp_step (by rw [List.length_replicate]; omega) (by omega), bvs_set]; rw [Int.toNat_natCast] at hh; exact hh) ?_
    refine .cast (d := 13) (u := .int .i64 ((k + 1 : Nat) : Int)) rfl (congrArg (Value.int .i64) (by omega)) ?_
    exact .back (k + 1) (by show k + 1 ≤ X.length; omega) (by show X.length - (k + 1) < X.length - k; omega)
  · have hge : ¬ k < X.length := by have h : ¬ (k : Int) < (X.length : Int) := of_decide_eq_false hb; omega
    have hkS : k = X.length := by omega
    subst hkS
    obtain ⟨Z0, hZ0⟩ : ∃ Z0, Z0 = splice (List.replicate Z 0) 0 X := ⟨_, rfl⟩
    have hZl : Z0.length = Z := by rw [hZ0, splice_length (by rw [List.length_replicate]; omega), List.length_replicate]
    refine .to (A := buf bw 5 Z (bvs (splice (List.replicate Z 0) 0 (X.take X.length)))) (A' := buf bw 5 Z (bvs (splice Z0 at' (bs.take 0)))) (fun h hh => by rw [List.take_zero, rsp_nil, hZ0]; rw [rsp_all rfl] at hh; exact hh) ?_
    refine .exit (.thenExit (.thenExit (.blockExit (?_))))
    refine .next (.seq (.sr (.assign (.z (.block ?_)))))
    refine .loopA (σ := Nat) (fun j => [(0, .pointer (some ⟨s, 0, none⟩)), (1, nI i), (2, nI at'), (3, .slice A m c), (9, .slice A1 X.length c1), (12, .slice (some ⟨bw, 0, none⟩) Z Z), (14, .int .i64 (j : Int))]) (fun j => [buf bw 5 Z (bvs (splice Z0 at' (bs.take j))), RS s p T os (N + (has m + 2) + 1), frz os, R] ++ F) (fun j => j ≤ m) (fun j => m - j) 0 (Nat.zero_le _) ?_
    rintro j hj
    refine .seq (.sr (.move (.move ?_)))
    refine .lenS ?_ sl91
    refine .lss ?_
    refine .z ?_
    refine .cond rfl (fun hb2 => ?_) (fun hb2 => ?_)
    · have hlt : j < m := by have h : (j : Int) < (m : Int) := of_decide_eq_true hb2; omega
      have hsl : (splice Z0 at' (bs.take j)).length = Z := by rw [splice_length (by rw [hZl, List.length_take]; omega), hZl]
      have hrB := hR0.resolve_left (by intro h; rw [h] at hm; simp at hm; omega)
      rcases A with _ | ⟨ax, ox, spx⟩
      · exact absurd (congrArg List.length (show bvs bs = [] from hrB)) (by rw [bvs_length]; simp only [List.length_nil]; omega)
      have hsp : spx = none := hrB.1
      subst hsp
      have hgx : (bvs bs)[((j : Nat) : Int).toNat]? = some (bv (bs.getD j 0)) := by rw [Int.toNat_natCast]; exact bv_getD (by omega)
      refine .skip (.next (.seq (.block (.region (.move (.move (.move ?_)))))))
      refine .add ?_
      refine .cast (d := 83) (u := nI (at' + j)) rfl (congrArg (Value.int .i64) (by omega)) ?_
      refine .move (.move ?_)
      refine .idx1 ?_ so91
      refine .ldR (R := R) (xs := bvs bs) (i := ((j : Nat) : Int).toNat) ?_ sc5 hrB hgx
      refine .idx1 ?_ so91
      refine .stB ?_ sc5 (show 0 + ((at' + j : Nat) : Int).toNat < (bvs (splice Z0 at' (bs.take j))).length by rw [bvs_length]; omega)
      refine .nil (.blockNormal (.next (.region (.move ?_))))
      refine .add ?_
      refine .assign (.nil ?_)
      refine .to (A := buf bw 5 Z ((bvs (splice Z0 at' (bs.take j))).set (0 + ((at' + j : Nat) : Int).toNat) (bv (bs.getD j 0)))) (A' := buf bw 5 Z (bvs (splice Z0 at' (bs.take (j + 1))))) (fun h hh => by rw [← rsp_step (by omega) (by omega), bvs_set]; rw [Int.toNat_natCast, Nat.zero_add] at hh; exact hh) ?_
      refine .cast (d := 14) (u := .int .i64 ((j + 1 : Nat) : Int)) rfl (congrArg (Value.int .i64) (by omega)) ?_
      exact .back (j + 1) (by omega) (by omega)
    · have hge2 : ¬ j < m := by have h : ¬ (j : Int) < (m : Int) := of_decide_eq_false hb2; omega
      have hjN : j = m := by omega
      subst hjN
      have hfin : splice Z0 at' (bs.take j) = x2.r := by rw [rsp_all hm, hZ0, hx2, ← hZ, ← hXl, ← hm]; exact rsp_made X bs at'
      have hxl2 : x2.r.length = Z := by rw [hx2, wrB_length, hXl, hm, hZ]
      refine .to (A := buf bw 5 Z (bvs (splice Z0 at' (bs.take j)))) (A' := buf bw 5 Z (bvs x2.r)) (fun h hh => by rw [hfin] at hh; exact hh) ?_
      refine .openR (RS.opens s p T os (N + (has j + 2) + 1)) fun y hy => ?_
      obtain ⟨u, L, wk, mv, ms⟩ := y
      simp only [rsLs, List.cons_append, List.nil_append]
      refine .fact (rowR_some (el := 93) (size := 2) (v := u) (k := p.ino) (xs := (L).flatMap rowV) (by omega)) (fun ⟨ab, cc, hu, hR, hc1, hc2⟩ => ?_)
      subst hu
      have hlen : (L).length = p.ino := (hy).len
      have hil : i < L.length := by omega
      have hlV := rowV_length L
      refine .exit (.thenExit (.thenExit (.blockExit (?_))))
      refine .next (.sr (.move ?_))
      refine .nilCheck ?_
      refine .fa ?_ fo80_1
      refine .ld ?_ sc77
      refine .move (.move ?_)
      refine .idx ?_ so77
      refine .fa ?_ fo93_1
      refine .stRow1 (g := ab) (size := 2) (num := p.ino) (c := cc) (off := 0 + ((i : Nat) : Int).toNat * 2 + 1) (xs := L.flatMap rowV) (v := .slice (some ⟨bw, 0, none⟩) Z Z) rfl ?_ sc91 (by rw [hlV]; omega) rfl (by repeat (first | exact .here | apply Rem.there | apply Repl.there | apply Mem.there))
      refine .to (A := rowR 93 2 (.slice (some ⟨ab, 0, none⟩) p.ino cc) p.ino ((L.flatMap rowV).set (0 + ((i : Nat) : Int).toNat * 2 + 1) (.slice (some ⟨bw, 0, none⟩) Z Z))) (A' := rowR 93 2 (.slice (some ⟨ab, 0, none⟩) p.ino cc) p.ino ((L.set i (L[i].1, .slice (some ⟨bw, 0, none⟩) Z Z)).flatMap rowV)) (fun h hh => by rw [← rowV_set1 hil]; rw [Int.toNat_natCast, Nat.zero_add] at hh; exact hh) ?_
      refine .x (.assign (.z ?_))
      refine .ret (?_)
      refine .openR (buf_opens (g := bw) (el := 5) (k := Z) (xs := bvs x2.r)) fun cur hcur => ?_
      simp only [List.cons_append, List.nil_append]
      refine .frzAdd (b := bw) (os := os) ?_
      refine .shutR (RS.opens s p (updT T i (some x2)) ((bw, .cells cur 5 (0, 0)) :: os) (N + (has j + 2) + 1)) ⟨.slice (some ⟨ab, 0, none⟩) p.ino cc, L.set i (L[i].1, .slice (some ⟨bw, 0, none⟩) Z Z), wk, mv, ms⟩ (hy.write hTi hil hk2 hxl2 hcur.1 hcur.2.1 (by unfold maxLen; omega)) ?_
      exact .ret1 (h1 := .tmp (t := 8) rfl) ⟨_, ⟨rfl, _, (fun e he => List.mem_cons_of_mem _ he), rfl⟩, Am.auto⟩
end Go.Proofs.YtdmjkjeoamiedaaGreat
end
section
namespace Go.Proofs.YtdmjkjeoamiedaaGreat
open Go
theorem agg93 : aggOk Tryz.prog 93 2 = true := by kernel_rfl
theorem RSP.set {p : Pl} {T : FT} {os : List (Nat × Obj)} {N i : Nat} {u mv : Value} {L : List (Nat × Value)} {wk : Nat} {ms : List Int} {x : NodeT} (hy : RSP p T os N ⟨u, L, wk, mv, ms⟩) (hi : i < L.length) (hx : x.r = []) : RSP p (updT T i (some x)) os N ⟨u, L.set i (x.kind, .slice none 0 0), wk, mv, ms⟩ := by
  refine ⟨by show (L.set i _).length = _; rw [List.length_set]; exact hy.len, fun j hj => ?_, hy.wk, hy.ml⟩
  have hj2 : j < L.length := by have : j < (L.set i (x.kind, Value.slice none 0 0)).length := hj; rwa [List.length_set] at this
  show RRow _ _ (updT T i (some x) j) (L.set i (x.kind, Value.slice none 0 0))[j]
  by_cases hji : i = j
  · subst hji
    rw [updT_same, List.getElem_set_self]
    exact ⟨rfl, .inl ⟨rfl, hx⟩⟩
  · rw [updT_other _ _ (fun h => hji h.symm), List.getElem_set_ne hji]
    exact hy.row j hj2
theorem rsMake {s : Nat} {p : Pl} {T : FT} {os : List (Nat × Obj)} {N : Nat} (hi0 : 1 ≤ p.ino) (hi1 : p.ino ≤ 4096) {i kind : Nat} {x : NodeT} (hk : kind = 1 ∨ kind = 2) (hi : i < p.ino) (hTi : T i = none) (hb : ∀ j < i, T j ≠ none) (hx : x.kind = kind) (hxr : x.r = []) (hN : N ≤ 1000) : Spec Tryz.prog 38 #[.pointer (some ⟨s, 0, none⟩), nI kind] [RS s p T os N] fun F v M => v = .tuple #[nI i, .int .i64 0] ∧ M = RS s p (updT T i (some x)) os (N + 0 + 1) :: F := by
  refine Spec.intro Tryz.func38 rfl rfl fun B F => ?_
  simp only [Tryz.ntmps38, List.cons_append, List.nil_append, env0, Nat.reduceAdd]
  refine .openR (RS.opens s p T os N) fun y hy => ?_
  obtain ⟨u, L, wk, mv, ms⟩ := y
  simp only [rsLs, List.cons_append, List.nil_append]
  refine .fact (rowR_some (el := 93) (size := 2) (v := u) (k := p.ino) (xs := (L).flatMap rowV) (by omega)) (fun ⟨ab, cc, hu, hR, hc1, hc2⟩ => ?_)
  subst hu
  have hlen : (L).length = p.ino := (hy).len
  have hk3 : kind ≤ 2 := by omega
  by_cases hk1 : kind = 1
  · refine .sr (.assign (.assign (.z (.seq (.sr (.move ?_))))))
    refine .nei ?_
    refine .move ?_
    refine .cast (d := 9) (u := .bool false) rfl (congrArg Value.bool (by first | (simp; done) | (simp; omega) | omega)) ?_
    refine .gF ?_
    refine .gF ?_
    refine .pickF ?_
    refine .z ?_
    refine .condF rfl rfl ?_
    refine .skip (.next (.seq (.sr (.assign (.z (.block ?_))))))
    refine .loopA (σ := Nat) (fun k => [(0, .pointer (some ⟨s, 0, none⟩)), (1, nI kind), (6, .int .i64 ((k : Nat) : Int))]) (fun _ => [pt s (sO p (.slice (some ⟨ab, 0, none⟩) p.ino cc) wk mv), rowR 93 2 (.slice (some ⟨ab, 0, none⟩) p.ino cc) p.ino (L.flatMap rowV), rowR 3 1 mv ms.length (ints ms)] ++ F) (fun k => k ≤ i) (fun k => i - k) 0 (Nat.zero_le _) ?_
    rintro k hkk
    refine .seq (.sr (.move (.move ?_)))
    refine .nilCheck ?_
    refine .fa ?_ fo80_1
    refine .ld ?_ sc77
    refine .lenS ?_ sl77
    refine .lss ?_
    refine .z ?_
    refine .cond rfl (fun hb2 => ?_) (fun hb2 => ?_)
    · have hlt : k < p.ino := by have h : (k : Int) < (p.ino : Int) := of_decide_eq_true hb2; omega
      have hil : k < L.length := by omega
      have hrow := hy.row k hil
      obtain ⟨A1, c1, hs1, hr1, hl1, hm1⟩ := hrow.sl
      obtain ⟨e1, hek⟩ : ∃ e, L[k] = e := ⟨_, rfl⟩
      have hkd : e1.1 = refK (T k) := hek ▸ hrow.kd
      have hg0 : (L.flatMap rowV)[((k : Nat) : Int).toNat * 2 + 0]? = some (nI e1.1) := by rw [Int.toNat_natCast, ← hek]; exact (rowV_get hil).1
      have hg1 : (L.flatMap rowV)[((k : Nat) : Int).toNat * 2 + 1]? = some (.slice A1 (refBy (T k)).length c1) := by rw [Int.toNat_natCast, ← hs1]; exact (rowV_get hil).2
      rw [hkd] at hg0
      by_cases hki : k = i
      · subst hki
        rw [hTi] at hg0
        refine .skip (.next (.seq (.block (.sr (.move ?_)))))
        refine .nilCheck ?_
        refine .fa ?_ fo80_1
        refine .ld ?_ sc77
        refine .move ?_
        refine .idx ?_ so77
        refine .fa ?_ fo93_0
        refine .ldR (R := rowR 93 2 (.slice (some ⟨ab, 0, none⟩) p.ino cc) p.ino (L.flatMap rowV)) ?_ sc3 hR hg0
        refine .eqi ?_
        refine .z ?_
        refine .condT rfl (congrArg Value.bool (by first | rfl | (simp; done) | (simp; omega) | omega)) ?_
        refine .sr (.move ?_)
        refine .nilCheck ?_
        refine .fa ?_ fo80_1
        refine .ld ?_ sc77
        refine .move (.move ?_)
        refine .build ?_ (bdFl _)
        refine .idx ?_ so77
        refine .stRowA (g := ab) (size := 2) (num := p.ino) (c := cc) (off := 0 + ((k : Nat) : Int).toNat * 2) (xs := L.flatMap rowV) (us := #[nI kind, .slice none 0 0]) rfl ?_ agg93 rfl (by simp) (by intro x hx; simp only [List.mem_cons, List.not_mem_nil, or_false] at hx; rcases hx with rfl | rfl <;> rfl) (by rw [rowV_length]; omega) (by repeat (first | exact .here | apply Rem.there | apply Repl.there | apply Mem.there))
        refine .to (A := rowR 93 2 (.slice (some ⟨ab, 0, none⟩) p.ino cc) p.ino ((L.flatMap rowV).take (0 + ((k : Nat) : Int).toNat * 2) ++ (#[nI kind, Value.slice none 0 0] : Array Value).toList ++ (L.flatMap rowV).drop (0 + ((k : Nat) : Int).toNat * 2 + (#[nI kind, Value.slice none 0 0] : Array Value).toList.length))) (A' := rowR 93 2 (.slice (some ⟨ab, 0, none⟩) p.ino cc) p.ino ((L.set k (x.kind, .slice none 0 0)).flatMap rowV)) (fun h hh => by rw [← rowV_set hil, hx]; rw [Int.toNat_natCast, Nat.zero_add] at hh; exact hh) ?_
        refine .x ?_
        refine .shutR (RS.opens s p (updT T k (some x)) os N) ⟨.slice (some ⟨ab, 0, none⟩) p.ino cc, L.set k (x.kind, .slice none 0 0), wk, mv, ms⟩ (hy.set hil hxr) ?_
        refine .move (.move ?_)
        refine .call (hc := Tryz.call89) (sp := rsTouch (s := s) (p := p) (T := updT T k (some x)) (os := os) (N := N) hi0 hi1 (i := k) (n := 0) (by omega) (by omega)) (h := ?_)
        rintro _ _ ⟨rfl, rfl⟩
        refine .x (.move (.assign (.assign (.z ?_))))
        refine .ret (.blockRet (.thenRet (.thenRet (.blockRet (.thenRet (?_))))))
        exact .ret2 (h1 := .tmp (t := 4) rfl) (h2 := .tmp (t := 5) rfl) ⟨_, ⟨rfl, rfl⟩, Am.auto⟩
      · obtain ⟨z, hz⟩ : ∃ z, T k = some z := by
          cases hTk : T k with
          | none => exact absurd hTk (hb k (by omega))
          | some z => exact ⟨z, rfl⟩
        rw [hz] at hg0
        have hkz : refK (some z) ≠ 0 := fun h => by cases (refK_zero.1 h)
        refine .skip (.next (.seq (.block (.sr (.move ?_)))))
        refine .nilCheck ?_
        refine .fa ?_ fo80_1
        refine .ld ?_ sc77
        refine .move ?_
        refine .idx ?_ so77
        refine .fa ?_ fo93_0
        refine .ldR (R := rowR 93 2 (.slice (some ⟨ab, 0, none⟩) p.ino cc) p.ino (L.flatMap rowV)) ?_ sc3 hR hg0
        refine .eqi ?_
        refine .z ?_
        refine .condF rfl (congrArg Value.bool (by first | (exact decide_eq_false (by omega)) | (simp; done) | (simp; omega) | omega)) ?_
        refine .skip (.blockNormal (.next (.region (.move ?_))))
        refine .add ?_
        refine .assign (.nil ?_)
        refine .cast (d := 6) (u := .int .i64 ((k + 1 : Nat) : Int)) rfl (congrArg (Value.int .i64) (by omega)) ?_
        exact .back (k + 1) (by show k + 1 ≤ i; omega) (by show i - (k + 1) < i - k; omega)
    · have hge : ¬ k < p.ino := by have h : ¬ (k : Int) < (p.ino : Int) := of_decide_eq_false hb2; omega
      exact absurd (Nat.lt_of_le_of_lt hkk hi) hge
  · have hk2 : kind = 2 := by omega
    refine .sr (.assign (.assign (.z (.seq (.sr (.move ?_))))))
    refine .nei ?_
    refine .move ?_
    refine .cast (d := 9) (u := .bool true) rfl (congrArg Value.bool (by first | (simp; done) | (simp; omega) | omega)) ?_
    refine .gT ?_
    refine .move ?_
    refine .gT ?_
    refine .nei ?_
    refine .pickT ?_
    refine .z ?_
    refine .condF rfl (congrArg Value.bool (by first | (simp; done) | (simp; omega) | omega)) ?_
    refine .skip (.next (.seq (.sr (.assign (.z (.block ?_))))))
    refine .loopA (σ := Nat) (fun k => [(0, .pointer (some ⟨s, 0, none⟩)), (1, nI kind), (6, .int .i64 ((k : Nat) : Int))]) (fun _ => [pt s (sO p (.slice (some ⟨ab, 0, none⟩) p.ino cc) wk mv), rowR 93 2 (.slice (some ⟨ab, 0, none⟩) p.ino cc) p.ino (L.flatMap rowV), rowR 3 1 mv ms.length (ints ms)] ++ F) (fun k => k ≤ i) (fun k => i - k) 0 (Nat.zero_le _) ?_
    rintro k hkk
    refine .seq (.sr (.move (.move ?_)))
    refine .nilCheck ?_
    refine .fa ?_ fo80_1
    refine .ld ?_ sc77
    refine .lenS ?_ sl77
    refine .lss ?_
    refine .z ?_
    refine .cond rfl (fun hb2 => ?_) (fun hb2 => ?_)
    · have hlt : k < p.ino := by have h : (k : Int) < (p.ino : Int) := of_decide_eq_true hb2; omega
      have hil : k < L.length := by omega
      have hrow := hy.row k hil
      obtain ⟨A1, c1, hs1, hr1, hl1, hm1⟩ := hrow.sl
      obtain ⟨e1, hek⟩ : ∃ e, L[k] = e := ⟨_, rfl⟩
      have hkd : e1.1 = refK (T k) := hek ▸ hrow.kd
      have hg0 : (L.flatMap rowV)[((k : Nat) : Int).toNat * 2 + 0]? = some (nI e1.1) := by rw [Int.toNat_natCast, ← hek]; exact (rowV_get hil).1
      have hg1 : (L.flatMap rowV)[((k : Nat) : Int).toNat * 2 + 1]? = some (.slice A1 (refBy (T k)).length c1) := by rw [Int.toNat_natCast, ← hs1]; exact (rowV_get hil).2
      rw [hkd] at hg0
      by_cases hki : k = i
      · subst hki
        rw [hTi] at hg0
        refine .skip (.next (.seq (.block (.sr (.move ?_)))))
        refine .nilCheck ?_
        refine .fa ?_ fo80_1
        refine .ld ?_ sc77
        refine .move ?_
        refine .idx ?_ so77
        refine .fa ?_ fo93_0
        refine .ldR (R := rowR 93 2 (.slice (some ⟨ab, 0, none⟩) p.ino cc) p.ino (L.flatMap rowV)) ?_ sc3 hR hg0
        refine .eqi ?_
        refine .z ?_
        refine .condT rfl (congrArg Value.bool (by first | rfl | (simp; done) | (simp; omega) | omega)) ?_
        refine .sr (.move ?_)
        refine .nilCheck ?_
        refine .fa ?_ fo80_1
        refine .ld ?_ sc77
        refine .move (.move ?_)
        refine .build ?_ (bdFl _)
        refine .idx ?_ so77
        refine .stRowA (g := ab) (size := 2) (num := p.ino) (c := cc) (off := 0 + ((k : Nat) : Int).toNat * 2) (xs := L.flatMap rowV) (us := #[nI kind, .slice none 0 0]) rfl ?_ agg93 rfl (by simp) (by intro x hx; simp only [List.mem_cons, List.not_mem_nil, or_false] at hx; rcases hx with rfl | rfl <;> rfl) (by rw [rowV_length]; omega) (by repeat (first | exact .here | apply Rem.there | apply Repl.there | apply Mem.there))
        refine .to (A := rowR 93 2 (.slice (some ⟨ab, 0, none⟩) p.ino cc) p.ino ((L.flatMap rowV).take (0 + ((k : Nat) : Int).toNat * 2) ++ (#[nI kind, Value.slice none 0 0] : Array Value).toList ++ (L.flatMap rowV).drop (0 + ((k : Nat) : Int).toNat * 2 + (#[nI kind, Value.slice none 0 0] : Array Value).toList.length))) (A' := rowR 93 2 (.slice (some ⟨ab, 0, none⟩) p.ino cc) p.ino ((L.set k (x.kind, .slice none 0 0)).flatMap rowV)) (fun h hh => by rw [← rowV_set hil, hx]; rw [Int.toNat_natCast, Nat.zero_add] at hh; exact hh) ?_
        refine .x ?_
        refine .shutR (RS.opens s p (updT T k (some x)) os N) ⟨.slice (some ⟨ab, 0, none⟩) p.ino cc, L.set k (x.kind, .slice none 0 0), wk, mv, ms⟩ (hy.set hil hxr) ?_
        refine .move (.move ?_)
        refine .call (hc := Tryz.call89) (sp := rsTouch (s := s) (p := p) (T := updT T k (some x)) (os := os) (N := N) hi0 hi1 (i := k) (n := 0) (by omega) (by omega)) (h := ?_)
        rintro _ _ ⟨rfl, rfl⟩
        refine .x (.move (.assign (.assign (.z ?_))))
        refine .ret (.blockRet (.thenRet (.thenRet (.blockRet (.thenRet (?_))))))
        exact .ret2 (h1 := .tmp (t := 4) rfl) (h2 := .tmp (t := 5) rfl) ⟨_, ⟨rfl, rfl⟩, Am.auto⟩
      · obtain ⟨z, hz⟩ : ∃ z, T k = some z := by
          cases hTk : T k with
          | none => exact absurd hTk (hb k (by omega))
          | some z => exact ⟨z, rfl⟩
        rw [hz] at hg0
        have hkz : refK (some z) ≠ 0 := fun h => by cases (refK_zero.1 h)
        refine .skip (.next (.seq (.block (.sr (.move ?_)))))
        refine .nilCheck ?_
        refine .fa ?_ fo80_1
        refine .ld ?_ sc77
        refine .move ?_
        refine .idx ?_ so77
        refine .fa ?_ fo93_0
        refine .ldR (R := rowR 93 2 (.slice (some ⟨ab, 0, none⟩) p.ino cc) p.ino (L.flatMap rowV)) ?_ sc3 hR hg0
        refine .eqi ?_
        refine .z ?_
        refine .condF rfl (congrArg Value.bool (by first | (exact decide_eq_false (by omega)) | (simp; done) | (simp; omega) | omega)) ?_
        refine .skip (.blockNormal (.next (.region (.move ?_))))
        refine .add ?_
        refine .assign (.nil ?_)
        refine .cast (d := 6) (u := .int .i64 ((k + 1 : Nat) : Int)) rfl (congrArg (Value.int .i64) (by omega)) ?_
        exact .back (k + 1) (by show k + 1 ≤ i; omega) (by show i - (k + 1) < i - k; omega)
    · have hge : ¬ k < p.ino := by have h : ¬ (k : Int) < (p.ino : Int) := of_decide_eq_false hb2; omega
      exact absurd (Nat.lt_of_le_of_lt hkk hi) hge
theorem rsAdd {s : Nat} {p : Pl} {T : FT} {os : List (Nat × Obj)} {N : Nat} (hi0 : 1 ≤ p.ino) (hi1 : p.ino ≤ 4096) {d i : Nat} {nm : Bytes} {sl : List Slot} (hdc : p.dc ≤ 1000000) (hT : RT p T) (htot : tot (fmT T) p.ino ≤ p.dc) (hn : nameOk nm = true) (hTd : T d = some (.dir sl)) (hl : lookS nm sl = none) (hi : i < 65536) (hN : N ≤ 1000) (hfit : tot (fmT T) p.ino + has (max (64 * sl.length) (64 * freeS sl + 64)) ≤ p.dc + has (64 * sl.length)) : Spec Tryz.prog 9 #[.pointer (some ⟨s, 0, none⟩), nI d, sv nm, nI i] [RS s p T os N, frz os] fun F v M => v = .int .i64 0 ∧ ∃ os2, (∀ e ∈ os, e ∈ os2) ∧ M = RS s p (updT T d (some (.dir (setS sl (freeS sl) (some (nm, i)))))) os2 (N + (has 64 + 2) + 1) :: frz os2 :: F := by
  refine Spec.intro Tryz.func9 rfl rfl fun B F => ?_
  simp only [Tryz.ntmps9, List.cons_append, List.nil_append, env0, Nat.reduceAdd]
  have hnl := (nameOk_len hn).2
  have hne : nm ≠ [] := fun h0 => by subst h0; exact absurd hn (by decide)
  have hb0 : beginT T d nm = 0 := by unfold beginT; rw [if_pos hn]; simp only [hTd]
  have hf1 : findSlV nm sl = -1 := by unfold findSlV; rw [findSl_look hne, hl]; rfl
  have hdo := hT.ok d sl hTd
  have hfr := freeS_find hdo.1
  have hfl := freeS_le sl
  have hrl := rdirB_length sl
  have hid : d < p.ino := in_ino hT hTd
  have hln := hdo.2
  obtain ⟨q, hq⟩ : ∃ q, freeS sl = q := ⟨_, rfl⟩
  rw [hq] at hfr hfl hfit ⊢
  cases hfs : findSl [] sl with
  | none =>
    have hfv : findSlV [] sl = -1 := by unfold findSlV; rw [hfs]
    have hqr : q = sl.length := by rw [hfr, hfs]; rfl
    refine .sr (.assign (.x (.move (.move (.move ?_)))))
    refine .call (hc := Tryz.call43) (sp := rsBeginN (s := s) (p := p) (T := T) (os := os) (N := N) hi0 hi1 (d := d) (nm := nm) hT (by omega)) (h := ?_)
    rintro _ _ ⟨rfl, rfl⟩
    rw [hb0]
    refine .assign (.z (.seq (.sr (.move ?_))))
    refine .nei ?_
    refine .z ?_
    refine .condF rfl (congrArg Value.bool (by first | (simp; done) | (simp; omega) | omega)) ?_
    refine .skip (.next (.seq (.sr (.move (.move (.move ?_))))))
    refine .call (hc := Tryz.call44) (sp := rsFindSl (s := s) (p := p) (T := T) (os := os) (N := N) hi0 hi1 (d := d) (nm := nm) (sl := sl) hT hTd) (h := ?_)
    rintro _ _ ⟨rfl, rfl⟩
    rw [hf1]
    refine .geq ?_
    refine .z ?_
    refine .condF rfl (congrArg Value.bool (by first | (simp; done) | (simp; omega) | omega)) ?_
    refine .skip (.next (.sr (.move (.move ?_))))
    refine .call (hc := Tryz.call44) (sp := rsFindSl (s := s) (p := p) (T := T) (os := os) (N := N) hi0 hi1 (d := d) (nm := []) (sl := sl) hT hTd) (h := ?_)
    rintro _ _ ⟨rfl, rfl⟩
    rw [hfv]
    refine .assign (.z (.seq (.sr (.move ?_))))
    refine .lss ?_
    refine .z ?_
    refine .condT rfl (congrArg Value.bool (by first | (simp; done) | (simp; omega) | omega)) ?_
    refine .region ?_
    refine .openR (RS.opens s p T os N) fun y hy => ?_
    obtain ⟨u, L, wk, mv, ms⟩ := y
    simp only [rsLs, List.cons_append, List.nil_append]
    refine .fact (rowR_some (el := 93) (size := 2) (v := u) (k := p.ino) (xs := (L).flatMap rowV) (by omega)) (fun ⟨ab, cc, hu, hR, hc1, hc2⟩ => ?_)
    subst hu
    have hlen : (L).length = p.ino := (hy).len
    have hil : d < L.length := by omega
    have hrow := hy.row d hil
    obtain ⟨A1, c1, hs1, hr1, hl1, hm1⟩ := hrow.sl
    obtain ⟨e1, hek⟩ : ∃ e, L[d] = e := ⟨_, rfl⟩
    have hkd : e1.1 = refK (T d) := hek ▸ hrow.kd
    have hg0 : (L.flatMap rowV)[((d : Nat) : Int).toNat * 2 + 0]? = some (nI e1.1) := by rw [Int.toNat_natCast, ← hek]; exact (rowV_get hil).1
    have hg1 : (L.flatMap rowV)[((d : Nat) : Int).toNat * 2 + 1]? = some (.slice A1 (refBy (T d)).length c1) := by rw [Int.toNat_natCast, ← hs1]; exact (rowV_get hil).2
    rw [hkd] at hg0
    rw [refBy_dir hTd] at hg1 hr1 hl1
    refine .move ?_
    refine .nilCheck ?_
    refine .fa ?_ fo80_1
    refine .ld ?_ sc77
    refine .move ?_
    refine .idx ?_ so77
    refine .fa ?_ fo93_1
    refine .ldR (R := rowR 93 2 (.slice (some ⟨ab, 0, none⟩) p.ino cc) p.ino (L.flatMap rowV)) ?_ sc91 hR hg1
    refine .lenS ?_ sl91
    refine .quo ?_
    refine .cast (d := 37) (u := nI q) rfl (congrArg (Value.int .i64) (by omega)) ?_
    refine .assign (.x ?_)
    refine .shutR (RS.opens s p T os N) ⟨.slice (some ⟨ab, 0, none⟩) p.ino cc, L, wk, mv, ms⟩ hy ?_
    refine .move (.move (.move ?_))
    refine .mul ?_
    refine .cast (d := 41) (u := nI (64 * q)) rfl (congrArg (Value.int .i64) (by omega)) ?_
    refine .move (.move ?_)
    refine .call (hc := Tryz.call46) (sp := rfSlot (nm := nm) (i := i) hnl hi) (h := ?_)
    rintro _ _ ⟨bb, rfl, rfl⟩
    refine .call (hc := Tryz.call45) (sp := rsWrite (s := s) (p := p) (T := T) (os := os) (N := N) hi0 hi1 (i := d) (at' := 64 * q) (m := 64) (c := 64) (R := buf bb 5 64 (bvs (rslotB (some (nm, i))))) (A := some ⟨bb, 0, none⟩) (bs := rslotB (some (nm, i))) (x := .dir sl) (x2 := .dir (setS sl q (some (nm, i)))) hdc hT htot hTd (by show 64 * sl.length ≤ _; omega) (.inr Reads.buf) (rslotB_length _) (Nat.le_refl _) (by decide) (by show 64 * q ≤ 64 * sl.length; omega) (by decide) (by show max (64 * sl.length) (64 * q + 64) ≤ _; omega) hN hfit (rsetS_wr hfl _).symm rfl) (h := ?_)
    rintro _ _ ⟨rfl, os2, hsub, rfl⟩
    refine .assign (.z ?_)
    refine .ret (?_)
    exact .ret1 (h1 := .tmp (t := 8) rfl) ⟨_, ⟨rfl, os2, hsub, rfl⟩, Am.auto⟩
  | some r =>
    have hfv : findSlV [] sl = (r : Int) := by unfold findSlV; rw [hfs]
    have hqr : q = r := by rw [hfr, hfs]; rfl
    subst hqr
    refine .sr (.assign (.x (.move (.move (.move ?_)))))
    refine .call (hc := Tryz.call43) (sp := rsBeginN (s := s) (p := p) (T := T) (os := os) (N := N) hi0 hi1 (d := d) (nm := nm) hT (by omega)) (h := ?_)
    rintro _ _ ⟨rfl, rfl⟩
    rw [hb0]
    refine .assign (.z (.seq (.sr (.move ?_))))
    refine .nei ?_
    refine .z ?_
    refine .condF rfl (congrArg Value.bool (by first | (simp; done) | (simp; omega) | omega)) ?_
    refine .skip (.next (.seq (.sr (.move (.move (.move ?_))))))
    refine .call (hc := Tryz.call44) (sp := rsFindSl (s := s) (p := p) (T := T) (os := os) (N := N) hi0 hi1 (d := d) (nm := nm) (sl := sl) hT hTd) (h := ?_)
    rintro _ _ ⟨rfl, rfl⟩
    rw [hf1]
    refine .geq ?_
    refine .z ?_
    refine .condF rfl (congrArg Value.bool (by first | (simp; done) | (simp; omega) | omega)) ?_
    refine .skip (.next (.sr (.move (.move ?_))))
    refine .call (hc := Tryz.call44) (sp := rsFindSl (s := s) (p := p) (T := T) (os := os) (N := N) hi0 hi1 (d := d) (nm := []) (sl := sl) hT hTd) (h := ?_)
    rintro _ _ ⟨rfl, rfl⟩
    rw [hfv]
    refine .assign (.z (.seq (.sr (.move ?_))))
    refine .lss ?_
    refine .z ?_
    refine .condF rfl (congrArg Value.bool (by first | (simp; done) | (simp; omega) | omega)) ?_
    refine .skip (.next (.sr (.move (.move (.move ?_)))))
    refine .mul ?_
    refine .cast (d := 41) (u := nI (64 * q)) rfl (congrArg (Value.int .i64) (by omega)) ?_
    refine .move (.move ?_)
    refine .call (hc := Tryz.call46) (sp := rfSlot (nm := nm) (i := i) hnl hi) (h := ?_)
    rintro _ _ ⟨bb, rfl, rfl⟩
    refine .call (hc := Tryz.call45) (sp := rsWrite (s := s) (p := p) (T := T) (os := os) (N := N) hi0 hi1 (i := d) (at' := 64 * q) (m := 64) (c := 64) (R := buf bb 5 64 (bvs (rslotB (some (nm, i))))) (A := some ⟨bb, 0, none⟩) (bs := rslotB (some (nm, i))) (x := .dir sl) (x2 := .dir (setS sl q (some (nm, i)))) hdc hT htot hTd (by show 64 * sl.length ≤ _; omega) (.inr Reads.buf) (rslotB_length _) (Nat.le_refl _) (by decide) (by show 64 * q ≤ 64 * sl.length; omega) (by decide) (by show max (64 * sl.length) (64 * q + 64) ≤ _; omega) hN hfit (rsetS_wr hfl _).symm rfl) (h := ?_)
    rintro _ _ ⟨rfl, os2, hsub, rfl⟩
    refine .assign (.z ?_)
    refine .ret (?_)
    exact .ret1 (h1 := .tmp (t := 8) rfl) ⟨_, ⟨rfl, os2, hsub, rfl⟩, Am.auto⟩
theorem rsBegin0 {s : Nat} {p : Pl} {T : FT} {os : List (Nat × Obj)} {N : Nat} (hi0 : 1 ≤ p.ino) (hi1 : p.ino ≤ 4096) : Spec Tryz.prog 39 #[.pointer (some ⟨s, 0, none⟩)] [RS s p T os N] fun F v M => v = .tuple #[] ∧ M = RS s p T os 0 :: F := by
  refine Spec.intro Tryz.func39 rfl rfl fun B F => ?_
  simp only [Tryz.ntmps39, List.cons_append, List.nil_append, env0, Nat.reduceAdd]
  refine .openR (RS.opens s p T os N) fun y hy => ?_
  obtain ⟨u, L, wk, mv, ms⟩ := y
  simp only [rsLs, List.cons_append, List.nil_append]
  refine .fact (rowR_some (el := 93) (size := 2) (v := u) (k := p.ino) (xs := (L).flatMap rowV) (by omega)) (fun ⟨ab, cc, hu, hR, hc1, hc2⟩ => ?_)
  subst hu
  have hlen : (L).length = p.ino := (hy).len
  refine .emp (rowR.nil (e := 3) (size := 1) _) ?_
  refine .sr (.move ?_)
  refine .nilCheck ?_
  refine .fa ?_ fo80_2
  refine .st ?_ sc3
  refine .y (.move ?_)
  refine .nilCheck ?_
  refine .fa ?_ fo80_3
  refine .st ?_ sc78
  refine .nil ?_
  refine .shutR (RS.opens s p T os 0) ⟨.slice (some ⟨ab, 0, none⟩) p.ino cc, L, 0, .slice none 0 0, []⟩ ⟨hy.len, hy.row, Nat.le_refl _, Nat.le_refl _⟩ ?_
  exact .ret0 ⟨_, ⟨rfl, rfl⟩, Am.auto⟩
end Go.Proofs.YtdmjkjeoamiedaaGreat
end
section
namespace Go.Proofs.YtdmjkjeoamiedaaGreat
open Go
theorem z93 : zeroOf Tryz.prog 93 = some (#[.int .i64 0, .slice none 0 0]) := by kernel_rfl
theorem bsFl0 : BuildSOk Tryz.prog 77 0 [] 93 #[] := fun w => by kernel_rfl
theorem bsI0 : BuildSOk Tryz.prog 78 0 [] 3 #[] := fun w => by kernel_rfl
theorem bdSto3 (a b c d e f h : Int) (A A2 : Option Addr) (k cc k2 c2 : Nat) (wk : Int) : BuildOk Tryz.prog 80 [(0, .agg #[.int .i64 a, .int .i64 b, .int .i64 c, .int .i64 d, .int .i64 e, .int .i64 f, .int .i64 h]), (1, .slice A k cc), (2, .int .i64 wk), (3, .slice A2 k2 c2)] #[.int .i64 a, .int .i64 b, .int .i64 c, .int .i64 d, .int .i64 e, .int .i64 f, .int .i64 h, .slice A k cc, .int .i64 wk, .slice A2 k2 c2] := fun w => by kernel_rfl
theorem bdSto2 (a b c d e f h : Int) (A : Option Addr) (k cc : Nat) : BuildOk Tryz.prog 80 [(0, .agg #[.int .i64 a, .int .i64 b, .int .i64 c, .int .i64 d, .int .i64 e, .int .i64 f, .int .i64 h]), (1, .slice A k cc)] #[.int .i64 a, .int .i64 b, .int .i64 c, .int .i64 d, .int .i64 e, .int .i64 f, .int .i64 h, .slice A k cc, .int .i64 0, .slice none 0 0] := fun w => by kernel_rfl
theorem rowR_empty {g el size : Nat} : ∀ h, pt g (.cells #[] el (0, 0)) h → rowR el size (.slice (some ⟨g, 0, none⟩) 0 0) 0 [] h := by
  intro h hh
  unfold pt at hh
  unfold rowR
  exact ⟨by simp, .inr ⟨g, 0, #[], rfl, hh, Nat.le_refl _, Nat.zero_le _, by simp, by simp⟩⟩
theorem rowR_row {g el size k : Nat} {xs : List Value} (hl : xs.length = k * size) (hk : k ≤ maxLen) : ∀ h, row g el xs h → rowR el size (.slice (some ⟨g, 0, none⟩) k k) k xs h := by
  intro h hh
  unfold row pt at hh
  unfold rowR
  exact ⟨hl, .inr ⟨g, k, xs.toArray, rfl, hh, Nat.le_refl _, hk, by simp [hl], by rw [← hl]; simp⟩⟩
theorem rowV_single {p : Pl} {T : FT} {os : List (Nat × Obj)} {N : Nat} {y : RsY} (hy : RSP p T os N y) : ∀ u ∈ y.L.flatMap rowV, Value.single u = true := by
  intro u hu
  obtain ⟨e, he, hu⟩ := List.mem_flatMap.1 hu
  obtain ⟨i, hi, rfl⟩ := List.mem_iff_getElem.1 he
  simp only [rowV, List.mem_cons, List.not_mem_nil, or_false] at hu
  rcases hu with rfl | rfl
  · rfl
  · rcases (hy.row i hi).by' with ⟨h, _⟩ | ⟨_, _, _, _, h, _⟩ <;> rw [h] <;> rfl
theorem ints_single (ms : List Int) : ∀ u ∈ ints ms, Value.single u = true := by
  intro u hu
  unfold ints at hu
  obtain ⟨x, _, rfl⟩ := List.mem_map.1 hu
  rfl
def rootL (n : Nat) : List (Nat × Value) := (2, .slice none 0 0) :: List.replicate (n - 1) (0, .slice none 0 0)
theorem getEl_of {α : Type} {l : List α} {i : Nat} {x : α} (h : i < l.length) (h2 : l[i]? = some x) : l[i] = x := by rw [List.getElem?_eq_getElem h] at h2; injection h2
theorem zeroL_rows : ∀ k : Nat, (List.replicate k [Value.int .i64 0, Value.slice none 0 0]).flatten = (List.replicate k ((0 : Nat), Value.slice none 0 0)).flatMap rowV
  | 0 => rfl
  | k + 1 => by rw [List.replicate_succ, List.flatten_cons, List.replicate_succ, List.flatMap_cons, zeroL_rows k]; rfl
theorem rootL_rows {n : Nat} (h : 1 ≤ n) : ((List.replicate n [Value.int .i64 0, Value.slice none 0 0]).flatten).set 0 (.int .i64 2) = (rootL n).flatMap rowV := by
  obtain ⟨k, rfl⟩ : ∃ k, n = k + 1 := ⟨n - 1, by omega⟩
  unfold rootL
  rw [List.replicate_succ, List.flatten_cons, List.flatMap_cons, Nat.add_sub_cancel, zeroL_rows]
  rfl
theorem rootL_ok (p : Pl) (h : 1 ≤ p.ino) (u : Value) : RSP p rootT [] 0 ⟨u, rootL p.ino, 0, .slice none 0 0, []⟩ := by
  have hl : (rootL p.ino).length = p.ino := by unfold rootL; rw [List.length_cons, List.length_replicate]; omega
  refine ⟨hl, fun i hi => ?_, Nat.le_refl _, Nat.le_refl _⟩
  have hi2 : i < (rootL p.ino).length := hi
  show RRow _ _ (rootT i) (rootL p.ino)[i]
  cases i with
  | zero => exact ⟨rfl, .inl ⟨rfl, rfl⟩⟩
  | succ i =>
    have : (rootL p.ino)[i + 1] = (0, .slice none 0 0) := getEl_of hi2 (by
      unfold rootL
      rw [List.getElem?_cons_succ, List.getElem?_replicate, if_pos (by omega)])
    rw [this, show rootT (i + 1) = none from if_neg (by omega)]
    exact ⟨rfl, .inl ⟨rfl, rfl⟩⟩
theorem flat_pos' {k : Nat} (h : 1 ≤ k) : 0 < ((List.replicate k [Value.int .i64 0, .slice none 0 0]).flatten).length := by
  obtain ⟨j, rfl⟩ : ∃ j, k = j + 1 := ⟨k - 1, by omega⟩
  rw [List.replicate_succ, List.flatten_cons, List.length_append]
  exact Nat.lt_of_lt_of_le (by decide : 0 < [Value.int .i64 0, Value.slice none 0 0].length) (Nat.le_add_right _ _)
theorem rsCopy {s : Nat} {p : Pl} {T : FT} {os : List (Nat × Obj)} {N : Nat} (hi0 : 1 ≤ p.ino) (hi1 : p.ino ≤ 4096) (hNN : N ≤ 1000000) : Spec Tryz.prog 7 #[.pointer (some ⟨s, 0, none⟩)] [RS s p T os N] fun F v M => ∃ s2, v = .pointer (some ⟨s2, 0, none⟩) ∧ M = RS s p T os N :: RS s2 p T os N :: F := by
  refine Spec.intro Tryz.func7 rfl rfl fun B F => ?_
  simp only [Tryz.ntmps7, List.cons_append, List.nil_append, env0, Nat.reduceAdd]
  refine .openR (RS.opens s p T os N) fun y hy => ?_
  obtain ⟨u, L, wk, mv, ms⟩ := y
  simp only [rsLs, List.cons_append, List.nil_append]
  refine .fact (rowR_some (el := 93) (size := 2) (v := u) (k := p.ino) (xs := (L).flatMap rowV) (by omega)) (fun ⟨ab, cc, hu, hR, hc1, hc2⟩ => ?_)
  subst hu
  have hlen : (L).length = p.ino := (hy).len
  refine .fact (rowR_shape (el := 3) (size := 1) (v := mv) (k := ms.length) (xs := ints ms)) (fun ⟨A2, c2, hmv, hR2, hk2, hc3, hl2⟩ => ?_)
  subst hmv
  have hsg := rowV_single hy
  have hlV := rowV_length L
  refine .sr (.assign (.z (.seq ?_)))
  have hNb : N ≤ 1000000 := hNN
  have hmsl : ms.length ≤ N := hy.ml
  refine .dr ([pt s (sO p (.slice (some ⟨ab, 0, none⟩) p.ino cc) wk (.slice A2 ms.length c2))]) [] 23 mixed .autoJ ?_
  refine .tk 0 rfl .move ?_
  refine .tk 1 rfl .nilCheck ?_
  refine .tk 2 rfl (.fa fo80_0) ?_
  refine .tk 3 rfl (Qt.ldP (us := #[nI p.n, nI p.ino, nI p.im, nI p.bm, nI p.tb, nI p.da, nI p.dc]) agg59 rfl rfl) ?_
  refine .tk 5 rfl .move ?_
  refine .tk 6 rfl .nilCheck ?_
  refine .tk 7 rfl (.fa fo80_1) ?_
  refine .tk 8 rfl (.ld sc77) ?_
  refine .tk 10 rfl .move ?_
  refine .tk 11 rfl .nilCheck ?_
  refine .tk 12 rfl (.fa fo80_2) ?_
  refine .tk 13 rfl (.ld sc3) ?_
  refine .tk 15 rfl .move ?_
  refine .tk 16 rfl .nilCheck ?_
  refine .tk 17 rfl (.fa fo80_3) ?_
  refine .tk 18 rfl (.ld sc78) ?_
  refine .tw 4 14 rfl rfl (fun hnp => ?_) (fun hnp => ?_)
  · refine .buildS (fun b7 => ?_) bsFl0
    refine .nil (.wa hnp ?_)
    refine .tw 9 14 rfl rfl (fun hnp => ?_) (fun hnp => ?_)
    · refine .to (A := pt b7 (.cells #[] 93 (0, 0))) (A' := rowR 93 2 (.slice (some ⟨b7, 0, none⟩) 0 0) 0 []) rowR_empty ?_
      refine .append (m := p.ino) (news := L.flatMap rowV) so77 (by decide) (by repeat (first | exact .here | apply Rem.there | apply Repl.there | apply Mem.there)) hR (by repeat (first | exact .here | apply Rem.there | apply Repl.there | apply Mem.there)) (by rw [hlV, hlen]) hsg (by show 0 + p.ino ≤ maxLen; unfold maxLen; omega) (by show (0 + p.ino) * _ ≤ 140737488355328; omega) ⟨_, z93, rfl⟩ (fun vB hvB => ?_)
      refine .to (A := rowR 93 2 vB (0 + p.ino) ([] ++ L.flatMap rowV)) (A' := rowR 93 2 vB p.ino (L.flatMap rowV)) (fun h hh => by rw [Nat.zero_add, List.nil_append] at hh; exact hh) ?_
      refine .fact (rowR_shape (el := 93) (size := 2) (v := vB) (k := p.ino) (xs := L.flatMap rowV)) (fun ⟨A6, c6, hv6, hR6, hk6, hc6, hl6⟩ => ?_)
      subst hv6
      refine .nil (.wa hnp ?_)
      refine .on 14 rfl fun hnp => ?_
      refine .buildS (fun b17 => ?_) bsI0
      refine .nil (.wa hnp ?_)
      refine .on 19 rfl fun hnp => ?_
      refine .to (A := pt b17 (.cells #[] 3 (0, 0))) (A' := rowR 3 1 (.slice (some ⟨b17, 0, none⟩) 0 0) 0 []) rowR_empty ?_
      refine .appendAny (m := ms.length) (A := A2) (news := ints ms) so78 (by decide) (by repeat (first | exact .here | apply Rem.there | apply Repl.there | apply Mem.there)) hR2 (by repeat (first | exact .here | apply Rem.there | apply Repl.there | apply Mem.there)) (by rw [Nat.mul_one]; unfold ints; rw [List.length_map]) (ints_single ms) (by show 0 + ms.length ≤ maxLen; omega) (by show (0 + ms.length) * _ ≤ 140737488355328; omega) ⟨_, z3, rfl⟩ (fun vC hvC => ?_)
      refine .to (A := rowR 3 1 vC (0 + ms.length) ([] ++ ints ms)) (A' := rowR 3 1 vC ms.length (ints ms)) (fun h hh => by rw [Nat.zero_add, List.nil_append] at hh; exact hh) ?_
      refine .fact (rowR_shape (el := 3) (size := 1) (v := vC) (k := ms.length) (xs := ints ms)) (fun ⟨A7, c7, hv7, hR7, hk7, hc7, hl7⟩ => ?_)
      subst hv7
      refine .nil (.wa hnp ?_)
      refine .tk 20 rfl (.build (bdSto3 _ _ _ _ _ _ _ _ _ _ _ _ _ _)) ?_
      refine .on 21 rfl fun hnp => ?_
      refine .box fun b24 => ?_
      refine .nil (.wa hnp ?_)
      refine .tk 22 rfl .assign ?_
      refine .fin ?_
      refine .next ?_
      refine .ret (?_)
      refine .shutR (RS.opens s p T os N) ⟨.slice (some ⟨ab, 0, none⟩) p.ino cc, L, wk, .slice A2 ms.length c2, ms⟩ hy ?_
      refine .shutR (RS.opens b24 p T os N) ⟨.slice A6 p.ino c6, L, wk, .slice A7 ms.length c7, ms⟩ ⟨hy.len, hy.row, hy.wk, hy.ml⟩ ?_
      exact .ret1 (h1 := .tmp (t := 2) rfl) ⟨_, ⟨b24, rfl, rfl⟩, Am.auto⟩
    · refine .buildS (fun b17 => ?_) bsI0
      refine .nil (.wa hnp ?_)
      refine .on 9 rfl fun hnp => ?_
      refine .to (A := pt b7 (.cells #[] 93 (0, 0))) (A' := rowR 93 2 (.slice (some ⟨b7, 0, none⟩) 0 0) 0 []) rowR_empty ?_
      refine .append (m := p.ino) (news := L.flatMap rowV) so77 (by decide) (by repeat (first | exact .here | apply Rem.there | apply Repl.there | apply Mem.there)) hR (by repeat (first | exact .here | apply Rem.there | apply Repl.there | apply Mem.there)) (by rw [hlV, hlen]) hsg (by show 0 + p.ino ≤ maxLen; unfold maxLen; omega) (by show (0 + p.ino) * _ ≤ 140737488355328; omega) ⟨_, z93, rfl⟩ (fun vB hvB => ?_)
      refine .to (A := rowR 93 2 vB (0 + p.ino) ([] ++ L.flatMap rowV)) (A' := rowR 93 2 vB p.ino (L.flatMap rowV)) (fun h hh => by rw [Nat.zero_add, List.nil_append] at hh; exact hh) ?_
      refine .fact (rowR_shape (el := 93) (size := 2) (v := vB) (k := p.ino) (xs := L.flatMap rowV)) (fun ⟨A6, c6, hv6, hR6, hk6, hc6, hl6⟩ => ?_)
      subst hv6
      refine .nil (.wa hnp ?_)
      refine .on 19 rfl fun hnp => ?_
      refine .to (A := pt b17 (.cells #[] 3 (0, 0))) (A' := rowR 3 1 (.slice (some ⟨b17, 0, none⟩) 0 0) 0 []) rowR_empty ?_
      refine .appendAny (m := ms.length) (A := A2) (news := ints ms) so78 (by decide) (by repeat (first | exact .here | apply Rem.there | apply Repl.there | apply Mem.there)) hR2 (by repeat (first | exact .here | apply Rem.there | apply Repl.there | apply Mem.there)) (by rw [Nat.mul_one]; unfold ints; rw [List.length_map]) (ints_single ms) (by show 0 + ms.length ≤ maxLen; omega) (by show (0 + ms.length) * _ ≤ 140737488355328; omega) ⟨_, z3, rfl⟩ (fun vC hvC => ?_)
      refine .to (A := rowR 3 1 vC (0 + ms.length) ([] ++ ints ms)) (A' := rowR 3 1 vC ms.length (ints ms)) (fun h hh => by rw [Nat.zero_add, List.nil_append] at hh; exact hh) ?_
      refine .fact (rowR_shape (el := 3) (size := 1) (v := vC) (k := ms.length) (xs := ints ms)) (fun ⟨A7, c7, hv7, hR7, hk7, hc7, hl7⟩ => ?_)
      subst hv7
      refine .nil (.wa hnp ?_)
      refine .tk 20 rfl (.build (bdSto3 _ _ _ _ _ _ _ _ _ _ _ _ _ _)) ?_
      refine .on 21 rfl fun hnp => ?_
      refine .box fun b24 => ?_
      refine .nil (.wa hnp ?_)
      refine .tk 22 rfl .assign ?_
      refine .fin ?_
      refine .next ?_
      refine .ret (?_)
      refine .shutR (RS.opens s p T os N) ⟨.slice (some ⟨ab, 0, none⟩) p.ino cc, L, wk, .slice A2 ms.length c2, ms⟩ hy ?_
      refine .shutR (RS.opens b24 p T os N) ⟨.slice A6 p.ino c6, L, wk, .slice A7 ms.length c7, ms⟩ ⟨hy.len, hy.row, hy.wk, hy.ml⟩ ?_
      exact .ret1 (h1 := .tmp (t := 2) rfl) ⟨_, ⟨b24, rfl, rfl⟩, Am.auto⟩
  · refine .buildS (fun b17 => ?_) bsI0
    refine .nil (.wa hnp ?_)
    refine .on 4 rfl fun hnp => ?_
    refine .buildS (fun b7 => ?_) bsFl0
    refine .nil (.wa hnp ?_)
    refine .on 9 rfl fun hnp => ?_
    refine .to (A := pt b7 (.cells #[] 93 (0, 0))) (A' := rowR 93 2 (.slice (some ⟨b7, 0, none⟩) 0 0) 0 []) rowR_empty ?_
    refine .append (m := p.ino) (news := L.flatMap rowV) so77 (by decide) (by repeat (first | exact .here | apply Rem.there | apply Repl.there | apply Mem.there)) hR (by repeat (first | exact .here | apply Rem.there | apply Repl.there | apply Mem.there)) (by rw [hlV, hlen]) hsg (by show 0 + p.ino ≤ maxLen; unfold maxLen; omega) (by show (0 + p.ino) * _ ≤ 140737488355328; omega) ⟨_, z93, rfl⟩ (fun vB hvB => ?_)
    refine .to (A := rowR 93 2 vB (0 + p.ino) ([] ++ L.flatMap rowV)) (A' := rowR 93 2 vB p.ino (L.flatMap rowV)) (fun h hh => by rw [Nat.zero_add, List.nil_append] at hh; exact hh) ?_
    refine .fact (rowR_shape (el := 93) (size := 2) (v := vB) (k := p.ino) (xs := L.flatMap rowV)) (fun ⟨A6, c6, hv6, hR6, hk6, hc6, hl6⟩ => ?_)
    subst hv6
    refine .nil (.wa hnp ?_)
    refine .on 19 rfl fun hnp => ?_
    refine .to (A := pt b17 (.cells #[] 3 (0, 0))) (A' := rowR 3 1 (.slice (some ⟨b17, 0, none⟩) 0 0) 0 []) rowR_empty ?_
    refine .appendAny (m := ms.length) (A := A2) (news := ints ms) so78 (by decide) (by repeat (first | exact .here | apply Rem.there | apply Repl.there | apply Mem.there)) hR2 (by repeat (first | exact .here | apply Rem.there | apply Repl.there | apply Mem.there)) (by rw [Nat.mul_one]; unfold ints; rw [List.length_map]) (ints_single ms) (by show 0 + ms.length ≤ maxLen; omega) (by show (0 + ms.length) * _ ≤ 140737488355328; omega) ⟨_, z3, rfl⟩ (fun vC hvC => ?_)
    refine .to (A := rowR 3 1 vC (0 + ms.length) ([] ++ ints ms)) (A' := rowR 3 1 vC ms.length (ints ms)) (fun h hh => by rw [Nat.zero_add, List.nil_append] at hh; exact hh) ?_
    refine .fact (rowR_shape (el := 3) (size := 1) (v := vC) (k := ms.length) (xs := ints ms)) (fun ⟨A7, c7, hv7, hR7, hk7, hc7, hl7⟩ => ?_)
    subst hv7
    refine .nil (.wa hnp ?_)
    refine .tk 20 rfl (.build (bdSto3 _ _ _ _ _ _ _ _ _ _ _ _ _ _)) ?_
    refine .on 21 rfl fun hnp => ?_
    refine .box fun b24 => ?_
    refine .nil (.wa hnp ?_)
    refine .tk 22 rfl .assign ?_
    refine .fin ?_
    refine .next ?_
    refine .ret (?_)
    refine .shutR (RS.opens s p T os N) ⟨.slice (some ⟨ab, 0, none⟩) p.ino cc, L, wk, .slice A2 ms.length c2, ms⟩ hy ?_
    refine .shutR (RS.opens b24 p T os N) ⟨.slice A6 p.ino c6, L, wk, .slice A7 ms.length c7, ms⟩ ⟨hy.len, hy.row, hy.wk, hy.ml⟩ ?_
    exact .ret1 (h1 := .tmp (t := 2) rfl) ⟨_, ⟨b24, rfl, rfl⟩, Am.auto⟩
theorem rsNew {p : Pl} (h1 : 1 ≤ p.ino) (h2 : p.ino ≤ 4096) : Spec Tryz.prog 37 #[.agg p.cells] [] fun F v M => ∃ s, v = .pointer (some ⟨s, 0, none⟩) ∧ M = RS s p rootT [] 0 :: F := by
  refine Spec.intro Tryz.func37 rfl rfl fun B F => ?_
  simp only [Tryz.ntmps37, List.cons_append, List.nil_append, env0, Nat.reduceAdd]
  refine .sr ?_
  refine .box fun b1 => ?_
  refine .to (A := pt b1 (.cells p.cells 59 (0, 0))) (A' := pt b1 (.cells p.cells 59 (0, 0))) (fun h hh => hh) ?_
  refine .assign (.z (.seq ?_))
  refine .dr ([pt b1 (.cells p.cells 59 (0, 0))]) [] 7 mixed .autoJ ?_
  refine .tk 0 rfl (.ldA agg59) ?_
  refine .tk 1 rfl (.fa fo59_1) ?_
  refine .tk 2 rfl (.ld sc3) ?_
  refine .on 3 rfl fun hnp => ?_
  refine .mkSt (k := p.ino) (zs := [.int .i64 0, .slice none 0 0]) z93 rfl (by decide) (fun b7 => ?_) so77 (by omega) (by omega)
  refine .nil (.wa hnp ?_)
  refine .tk 4 rfl (.build (bdSto2 _ _ _ _ _ _ _ _ _ _)) ?_
  refine .on 5 rfl fun hnp => ?_
  refine .box fun b9 => ?_
  refine .nil (.wa hnp ?_)
  refine .tk 6 rfl .assign ?_
  refine .fin ?_
  refine .next (.sr (.move ?_))
  refine .nilCheck ?_
  refine .fa ?_ fo80_1
  refine .ld ?_ sc77
  refine .idx ?_ so77
  refine .fa ?_ fo93_0
  refine .stL (xs := (List.replicate p.ino [Value.int .i64 0, .slice none 0 0]).flatten) (i := 0) ?_ sc3 (flat_pos' h1)
  refine .to (A := row b7 93 ((List.replicate p.ino [Value.int .i64 0, .slice none 0 0]).flatten.set 0 (.int .i64 2))) (A' := rowR 93 2 (.slice (some ⟨b7, 0, none⟩) p.ino p.ino) p.ino ((rootL p.ino).flatMap rowV)) (fun h hh => by rw [← rootL_rows h1]; exact rowR_row (by rw [rootL_rows h1, rowV_length]; unfold rootL; rw [List.length_cons, List.length_replicate]; omega) (by unfold maxLen; omega) h hh) ?_
  refine .x (.move (.assign (.z ?_)))
  refine .ret (?_)
  refine .emp (rowR.nil (e := 3) (size := 1) _) ?_
  refine .shutR (RS.opens b9 p rootT [] 0) ⟨.slice (some ⟨b7, 0, none⟩) p.ino p.ino, rootL p.ino, 0, .slice none 0 0, []⟩ (rootL_ok p h1 _) ?_
  exact .ret1 (h1 := .tmp (t := 2) rfl) ⟨_, ⟨b9, rfl, rfl⟩, Am.auto⟩
end Go.Proofs.YtdmjkjeoamiedaaGreat
end
section
namespace Go.Proofs.YtdmjkjeoamiedaaGreat
open Go
theorem rsThereNeg {x : Value} {d : Int} (hd : d < 0) : Spec Tryz.prog 60 #[x, .int .i64 d] [] fun F v M => v = .bool false ∧ M = F := by
  refine Spec.intro Tryz.func60 rfl rfl fun B F => ?_
  simp only [Tryz.ntmps60, List.cons_append, List.nil_append, env0, Nat.reduceAdd]
  refine .sr (.assign (.x (.move ?_)))
  refine .geq ?_
  refine .move ?_
  refine .cast (d := 7) (u := .bool false) rfl (congrArg Value.bool (by first | (exact decide_eq_false (by omega)) | (simp; done) | (simp; omega) | omega)) ?_
  refine .gF ?_
  refine .gF ?_
  refine .gF ?_
  refine .gF ?_
  refine .gF ?_
  refine .gF ?_
  refine .gF ?_
  refine .pickF ?_
  refine .move ?_
  refine .gF ?_
  refine .gF ?_
  refine .gF ?_
  refine .gF ?_
  refine .gF ?_
  refine .gF ?_
  refine .gF ?_
  refine .gF ?_
  refine .gF ?_
  refine .pickF ?_
  refine .assign (.z ?_)
  refine .ret (?_)
  exact .ret1 (h1 := .tmp (t := 4) rfl) ⟨_, ⟨rfl, rfl⟩, Am.auto⟩
theorem rsBeginNeg {x : Value} {nm : Bytes} {d : Int} (hd : d < 0) (hnl : nm.length ≤ 1000000) : Spec Tryz.prog 43 #[x, .int .i64 d, sv nm] [] fun F v M => v = nI (if nameOk nm then 4 else 1) ∧ M = F := by
  refine Spec.intro Tryz.func43 rfl rfl fun B F => ?_
  simp only [Tryz.ntmps43, List.cons_append, List.nil_append, env0, Nat.reduceAdd]
  cases hn : nameOk nm with
  | false =>
    refine .sr (.assign (.z (.seq (.sr (.move ?_)))))
    refine .call (hc := Tryz.call91) (sp := rfName (xs := nm) hnl) (h := ?_)
    rintro _ _ ⟨rfl, hM⟩
    obtain rfl := hM.symm
    rw [hn]
    refine .not ?_
    refine .z ?_
    refine .condT rfl rfl ?_
    refine .sr (.assign (.z ?_))
    refine .ret (.thenRet (?_))
    exact .ret1 (h1 := .tmp (t := 6) rfl) ⟨_, ⟨rfl, rfl⟩, Am.auto⟩
  | true =>
    refine .sr (.assign (.z (.seq (.sr (.move ?_)))))
    refine .call (hc := Tryz.call91) (sp := rfName (xs := nm) hnl) (h := ?_)
    rintro _ _ ⟨rfl, hM⟩
    obtain rfl := hM.symm
    rw [hn]
    refine .not ?_
    refine .z ?_
    refine .condF rfl rfl ?_
    refine .skip (.next (.seq (.sr (.move (.move ?_)))))
    refine .call (hc := Tryz.call60) (sp := rsThereNeg (x := x) hd) (h := ?_)
    rintro _ _ ⟨rfl, hM⟩
    obtain rfl := hM.symm
    refine .not ?_
    refine .z ?_
    refine .condT rfl rfl ?_
    refine .sr (.assign (.z ?_))
    refine .ret (.thenRet (?_))
    exact .ret1 (h1 := .tmp (t := 6) rfl) ⟨_, ⟨rfl, rfl⟩, Am.auto⟩
theorem rsAddNeg {x y : Value} {nm : Bytes} {d : Int} (hd : d < 0) (hnl : nm.length ≤ 1000000) : Spec Tryz.prog 9 #[x, .int .i64 d, sv nm, y] [] fun F v M => v = nI (if nameOk nm then 4 else 1) ∧ M = F := by
  refine Spec.intro Tryz.func9 rfl rfl fun B F => ?_
  simp only [Tryz.ntmps9, List.cons_append, List.nil_append, env0, Nat.reduceAdd]
  refine .sr (.assign (.x (.move (.move (.move ?_)))))
  refine .call (hc := Tryz.call43) (sp := rsBeginNeg (x := x) (nm := nm) hd hnl) (h := ?_)
  rintro _ _ ⟨rfl, hM⟩
  obtain rfl := hM.symm
  obtain ⟨e, he⟩ : ∃ e, (if nameOk nm then 4 else 1) = e := ⟨_, rfl⟩
  rw [he]
  have he0 : e ≠ 0 := by rw [← he]; split <;> decide
  refine .assign (.z (.seq (.sr (.move ?_))))
  refine .nei ?_
  refine .z ?_
  refine .condT rfl (congrArg Value.bool (by first | (simp; done) | (simp; omega) | omega)) ?_
  refine .sr (.move (.assign (.z ?_)))
  refine .ret (.thenRet (?_))
  exact .ret1 (h1 := .tmp (t := 8) rfl) ⟨_, ⟨rfl, rfl⟩, Am.auto⟩
theorem rsFindNeg {x : Value} {nm : Bytes} {d : Int} (hd : d < 0) (hnl : nm.length ≤ 1000000) : Spec Tryz.prog 11 #[x, .int .i64 d, sv nm] [] fun F v M => v = .tuple #[.int .i64 0, nI (if nameOk nm then 4 else 1)] ∧ M = F := by
  refine Spec.intro Tryz.func11 rfl rfl fun B F => ?_
  simp only [Tryz.ntmps11, List.cons_append, List.nil_append, env0, Nat.reduceAdd]
  refine .sr (.assign (.assign (.x (.move (.move (.move ?_))))))
  refine .call (hc := Tryz.call43) (sp := rsBeginNeg (x := x) (nm := nm) hd hnl) (h := ?_)
  rintro _ _ ⟨rfl, hM⟩
  obtain rfl := hM.symm
  obtain ⟨e, he⟩ : ∃ e, (if nameOk nm then 4 else 1) = e := ⟨_, rfl⟩
  rw [he]
  have he0 : e ≠ 0 := by rw [← he]; split <;> decide
  refine .assign (.z (.seq (.sr (.move ?_))))
  refine .nei ?_
  refine .z ?_
  refine .condT rfl (congrArg Value.bool (by first | (simp; done) | (simp; omega) | omega)) ?_
  refine .sr (.move (.assign (.assign (.z ?_))))
  refine .ret (.thenRet (?_))
  exact .ret2 (h1 := .tmp (t := 6) rfl) (h2 := .tmp (t := 7) rfl) ⟨_, ⟨rfl, rfl⟩, Am.auto⟩
theorem rsAddE {s : Nat} {p : Pl} {T : FT} {os : List (Nat × Obj)} {N : Nat} (hi0 : 1 ≤ p.ino) (hi1 : p.ino ≤ 4096) {d : Nat} {nm : Bytes} {y : Value} (hT : RT p T) (hnl : nm.length ≤ 1000000) (hb : beginT T d nm ≠ 0) : Spec Tryz.prog 9 #[.pointer (some ⟨s, 0, none⟩), nI d, sv nm, y] [RS s p T os N] fun F v M => v = nI (beginT T d nm) ∧ M = RS s p T os N :: F := by
  refine Spec.intro Tryz.func9 rfl rfl fun B F => ?_
  simp only [Tryz.ntmps9, List.cons_append, List.nil_append, env0, Nat.reduceAdd]
  refine .sr (.assign (.x (.move (.move (.move ?_)))))
  refine .call (hc := Tryz.call43) (sp := rsBeginN (s := s) (p := p) (T := T) (os := os) (N := N) hi0 hi1 (d := d) (nm := nm) hT hnl) (h := ?_)
  rintro _ _ ⟨rfl, rfl⟩
  obtain ⟨e, he⟩ : ∃ e, beginT T d nm = e := ⟨_, rfl⟩
  rw [he] at hb ⊢
  refine .assign (.z (.seq (.sr (.move ?_))))
  refine .nei ?_
  refine .z ?_
  refine .condT rfl (congrArg Value.bool (by first | (simp; done) | (simp; omega) | omega)) ?_
  refine .sr (.move (.assign (.z ?_)))
  refine .ret (.thenRet (?_))
  exact .ret1 (h1 := .tmp (t := 8) rfl) ⟨_, ⟨rfl, rfl⟩, Am.auto⟩
theorem rsAddExist {s : Nat} {p : Pl} {T : FT} {os : List (Nat × Obj)} {N : Nat} (hi0 : 1 ≤ p.ino) (hi1 : p.ino ≤ 4096) {d q j : Nat} {nm : Bytes} {sl : List Slot} {y : Value} (hT : RT p T) (hn : nameOk nm = true) (hTd : T d = some (.dir sl)) (hl : lookS nm sl = some (q, j)) : Spec Tryz.prog 9 #[.pointer (some ⟨s, 0, none⟩), nI d, sv nm, y] [RS s p T os N, frz os] fun F v M => v = nI 5 ∧ M = RS s p T os N :: frz os :: F := by
  refine Spec.intro Tryz.func9 rfl rfl fun B F => ?_
  simp only [Tryz.ntmps9, List.cons_append, List.nil_append, env0, Nat.reduceAdd]
  have hnl := (nameOk_len hn).2
  have hne : nm ≠ [] := fun h0 => by subst h0; exact absurd hn (by decide)
  have hb0 : beginT T d nm = 0 := by unfold beginT; rw [if_pos hn]; simp only [hTd]
  have hf1 : findSlV nm sl = (q : Int) := by unfold findSlV; rw [findSl_look hne, hl]; rfl
  refine .sr (.assign (.x (.move (.move (.move ?_)))))
  refine .call (hc := Tryz.call43) (sp := rsBeginN (s := s) (p := p) (T := T) (os := os) (N := N) hi0 hi1 (d := d) (nm := nm) hT (by omega)) (h := ?_)
  rintro _ _ ⟨rfl, rfl⟩
  rw [hb0]
  refine .assign (.z (.seq (.sr (.move ?_))))
  refine .nei ?_
  refine .z ?_
  refine .condF rfl (congrArg Value.bool (by first | (simp; done) | (simp; omega) | omega)) ?_
  refine .skip (.next (.seq (.sr (.move (.move (.move ?_))))))
  refine .call (hc := Tryz.call44) (sp := rsFindSl (s := s) (p := p) (T := T) (os := os) (N := N) hi0 hi1 (d := d) (nm := nm) (sl := sl) hT hTd) (h := ?_)
  rintro _ _ ⟨rfl, rfl⟩
  rw [hf1]
  refine .geq ?_
  refine .z ?_
  refine .condT rfl (congrArg Value.bool (by first | (simp; done) | (simp; omega) | omega)) ?_
  refine .sr (.assign (.z ?_))
  refine .ret (.thenRet (?_))
  exact .ret1 (h1 := .tmp (t := 8) rfl) ⟨_, ⟨rfl, rfl⟩, Am.auto⟩
end Go.Proofs.YtdmjkjeoamiedaaGreat
end
section
namespace Go.Proofs.YtdmjkjeoamiedaaGreat
open Go
theorem rsWriteFull {s : Nat} {p : Pl} {T : FT} {os : List (Nat × Obj)} {N : Nat} (hi0 : 1 ≤ p.ino) (hi1 : p.ino ≤ 4096) {i at' m c : Nat} {A : Option Addr} {x : NodeT} (hdc : p.dc ≤ 1000000) (hT : RT p T) (htot : tot (fmT T) p.ino ≤ p.dc) (hTi : T i = some x) (hxs : x.size ≤ 70656) (hmc : m ≤ c) (hcm : c ≤ maxLen) (hat : at' ≤ x.size) (hm7 : m ≤ 70656) (hz : max x.size (at' + m) ≤ 70656) (hfit : p.dc + has x.size < tot (fmT T) p.ino + has (max x.size (at' + m))) : Spec Tryz.prog 45 #[.pointer (some ⟨s, 0, none⟩), nI i, nI at', .slice A m c] [RS s p T os N] fun F v M => v = nI 3 ∧ M = RS s p T os N :: F := by
  refine Spec.intro Tryz.func45 rfl rfl fun B F => ?_
  simp only [Tryz.ntmps45, List.cons_append, List.nil_append, env0, Nat.reduceAdd]
  obtain ⟨Z, hZ⟩ : ∃ Z, max x.size (at' + m) = Z := ⟨_, rfl⟩
  rw [hZ] at hz hfit
  obtain ⟨X, hX⟩ : ∃ X, x.r = X := ⟨_, rfl⟩
  have hXl : X.length = x.size := by rw [← hX]; exact x.r_length
  have hi : i < p.ino := in_ino hT hTi
  refine .sr (.assign (.z (.seq (.sr (.move (.move ?_))))))
  refine .call (hc := Tryz.call60) (sp := rsThere (s := s) (p := p) (T := T) (os := os) (N := N) hi0 hi1 (i := i) hT) (h := ?_)
  rintro _ _ ⟨rfl, rfl⟩
  rw [hTi]
  refine .not ?_
  refine .z ?_
  refine .condF rfl rfl ?_
  refine .skip (.next (.sr ?_))
  refine .openR (RS.opens s p T os N) fun y hy => ?_
  obtain ⟨u, L, wk, mv, ms⟩ := y
  simp only [rsLs, List.cons_append, List.nil_append]
  refine .fact (rowR_some (el := 93) (size := 2) (v := u) (k := p.ino) (xs := (L).flatMap rowV) (by omega)) (fun ⟨ab, cc, hu, hR, hc1, hc2⟩ => ?_)
  subst hu
  have hlen : (L).length = p.ino := (hy).len
  have hil : i < L.length := by omega
  have hrow := hy.row i hil
  obtain ⟨A1, c1, hs1, hr1, hl1, hm1⟩ := hrow.sl
  obtain ⟨e1, hek⟩ : ∃ e, L[i] = e := ⟨_, rfl⟩
  have hkd : e1.1 = refK (T i) := hek ▸ hrow.kd
  have hg0 : (L.flatMap rowV)[((i : Nat) : Int).toNat * 2 + 0]? = some (nI e1.1) := by rw [Int.toNat_natCast, ← hek]; exact (rowV_get hil).1
  have hg1 : (L.flatMap rowV)[((i : Nat) : Int).toNat * 2 + 1]? = some (.slice A1 (refBy (T i)).length c1) := by rw [Int.toNat_natCast, ← hs1]; exact (rowV_get hil).2
  rw [hkd] at hg0
  rw [hTi] at hg1 hr1 hl1
  rw [show refBy (some x) = X from hX] at hg1 hr1 hl1
  refine .move ?_
  refine .nilCheck ?_
  refine .fa ?_ fo80_1
  refine .ld ?_ sc77
  refine .move ?_
  refine .idx ?_ so77
  refine .fa ?_ fo93_1
  refine .ldR (R := rowR 93 2 (.slice (some ⟨ab, 0, none⟩) p.ino cc) p.ino (L.flatMap rowV)) ?_ sc91 hR hg1
  refine .assign (.z (.seq (.sr ?_)))
  refine .shutR (RS.opens s p T os N) ⟨.slice (some ⟨ab, 0, none⟩) p.ino cc, L, wk, mv, ms⟩ hy ?_
  clear hy hrow hg0 hg1 hkd hek hs1 hR hlen
  refine .move ?_
  refine .lss ?_
  refine .move ?_
  refine .cast (d := 29) (u := .bool false) rfl (congrArg Value.bool (by first | (simp; done) | (simp; omega) | omega)) ?_
  refine .gT ?_
  refine .move ?_
  refine .gT ?_
  refine .move ?_
  refine .gT ?_
  refine .lenS ?_ sl91
  refine .gT ?_
  refine .gtr ?_
  refine .pickF ?_
  refine .z ?_
  refine .condF rfl (congrArg Value.bool (by first | (simp; done) | (simp; omega) | omega)) ?_
  refine .skip (.next (.seq (.sr (.move ?_))))
  refine .lenS ?_ sl91
  refine .gtr ?_
  refine .z ?_
  refine .condF rfl (congrArg Value.bool (by first | (simp; done) | (simp; omega) | omega)) ?_
  refine .skip (.next (.sr (.move ?_)))
  refine .lenS ?_ sl91
  refine .move (.move ?_)
  refine .lenS ?_ sl91
  refine .add ?_
  refine .maxI ?_
  refine .cast (d := 44) (u := nI Z) rfl (congrArg (Value.int .i64) (by split <;> omega)) ?_
  refine .assign (.x (.move (.move (.move ?_))))
  refine .call (hc := Tryz.call92) (sp := rsResizeFull (s := s) (p := p) (T := T) (os := os) (N := N) hi0 hi1 (i := i) (z := Z) (x := x) hdc hT htot hTi hxs hz hfit) (h := ?_)
  rintro _ _ ⟨rfl, rfl⟩
  refine .assign (.z (.seq (.sr (.move ?_))))
  refine .nei ?_
  refine .z ?_
  refine .condT rfl (congrArg Value.bool (by first | (simp; done) | (simp; omega) | omega)) ?_
  refine .sr (.move (.assign (.z ?_)))
  refine .ret (.thenRet (?_))
  exact .ret1 (h1 := .tmp (t := 8) rfl) ⟨_, ⟨rfl, rfl⟩, Am.auto⟩
theorem rsAddFull {s : Nat} {p : Pl} {T : FT} {os : List (Nat × Obj)} {N : Nat} (hi0 : 1 ≤ p.ino) (hi1 : p.ino ≤ 4096) {d i : Nat} {nm : Bytes} {sl : List Slot} (hdc : p.dc ≤ 1000000) (hT : RT p T) (htot : tot (fmT T) p.ino ≤ p.dc) (hn : nameOk nm = true) (hTd : T d = some (.dir sl)) (hl : lookS nm sl = none) (hi : i < 65536) (hfit : p.dc + has (64 * sl.length) < tot (fmT T) p.ino + has (max (64 * sl.length) (64 * freeS sl + 64))) : Spec Tryz.prog 9 #[.pointer (some ⟨s, 0, none⟩), nI d, sv nm, nI i] [RS s p T os N, frz os] fun F v M => v = nI 3 ∧ M = RS s p T os N :: frz os :: F := by
  refine Spec.intro Tryz.func9 rfl rfl fun B F => ?_
  simp only [Tryz.ntmps9, List.cons_append, List.nil_append, env0, Nat.reduceAdd]
  have hnl := (nameOk_len hn).2
  have hne : nm ≠ [] := fun h0 => by subst h0; exact absurd hn (by decide)
  have hb0 : beginT T d nm = 0 := by unfold beginT; rw [if_pos hn]; simp only [hTd]
  have hf1 : findSlV nm sl = -1 := by unfold findSlV; rw [findSl_look hne, hl]; rfl
  have hdo := hT.ok d sl hTd
  have hfr := freeS_find hdo.1
  have hfl := freeS_le sl
  have hrl := rdirB_length sl
  have hid : d < p.ino := in_ino hT hTd
  have hln := hdo.2
  obtain ⟨q, hq⟩ : ∃ q, freeS sl = q := ⟨_, rfl⟩
  rw [hq] at hfr hfl hfit
  cases hfs : findSl [] sl with
  | none =>
    have hfv : findSlV [] sl = -1 := by unfold findSlV; rw [hfs]
    have hqr : q = sl.length := by rw [hfr, hfs]; rfl
    refine .sr (.assign (.x (.move (.move (.move ?_)))))
    refine .call (hc := Tryz.call43) (sp := rsBeginN (s := s) (p := p) (T := T) (os := os) (N := N) hi0 hi1 (d := d) (nm := nm) hT (by omega)) (h := ?_)
    rintro _ _ ⟨rfl, rfl⟩
    rw [hb0]
    refine .assign (.z (.seq (.sr (.move ?_))))
    refine .nei ?_
    refine .z ?_
    refine .condF rfl (congrArg Value.bool (by first | (simp; done) | (simp; omega) | omega)) ?_
    refine .skip (.next (.seq (.sr (.move (.move (.move ?_))))))
    refine .call (hc := Tryz.call44) (sp := rsFindSl (s := s) (p := p) (T := T) (os := os) (N := N) hi0 hi1 (d := d) (nm := nm) (sl := sl) hT hTd) (h := ?_)
    rintro _ _ ⟨rfl, rfl⟩
    rw [hf1]
    refine .geq ?_
    refine .z ?_
    refine .condF rfl (congrArg Value.bool (by first | (simp; done) | (simp; omega) | omega)) ?_
    refine .skip (.next (.sr (.move (.move ?_))))
    refine .call (hc := Tryz.call44) (sp := rsFindSl (s := s) (p := p) (T := T) (os := os) (N := N) hi0 hi1 (d := d) (nm := []) (sl := sl) hT hTd) (h := ?_)
    rintro _ _ ⟨rfl, rfl⟩
    rw [hfv]
    refine .assign (.z (.seq (.sr (.move ?_))))
    refine .lss ?_
    refine .z ?_
    refine .condT rfl (congrArg Value.bool (by first | (simp; done) | (simp; omega) | omega)) ?_
    refine .region ?_
    refine .openR (RS.opens s p T os N) fun y hy => ?_
    obtain ⟨u, L, wk, mv, ms⟩ := y
    simp only [rsLs, List.cons_append, List.nil_append]
    refine .fact (rowR_some (el := 93) (size := 2) (v := u) (k := p.ino) (xs := (L).flatMap rowV) (by omega)) (fun ⟨ab, cc, hu, hR, hc1, hc2⟩ => ?_)
    subst hu
    have hlen : (L).length = p.ino := (hy).len
    have hil : d < L.length := by omega
    have hrow := hy.row d hil
    obtain ⟨A1, c1, hs1, hr1, hl1, hm1⟩ := hrow.sl
    obtain ⟨e1, hek⟩ : ∃ e, L[d] = e := ⟨_, rfl⟩
    have hkd : e1.1 = refK (T d) := hek ▸ hrow.kd
    have hg0 : (L.flatMap rowV)[((d : Nat) : Int).toNat * 2 + 0]? = some (nI e1.1) := by rw [Int.toNat_natCast, ← hek]; exact (rowV_get hil).1
    have hg1 : (L.flatMap rowV)[((d : Nat) : Int).toNat * 2 + 1]? = some (.slice A1 (refBy (T d)).length c1) := by rw [Int.toNat_natCast, ← hs1]; exact (rowV_get hil).2
    rw [hkd] at hg0
    rw [refBy_dir hTd] at hg1 hr1 hl1
    refine .move ?_
    refine .nilCheck ?_
    refine .fa ?_ fo80_1
    refine .ld ?_ sc77
    refine .move ?_
    refine .idx ?_ so77
    refine .fa ?_ fo93_1
    refine .ldR (R := rowR 93 2 (.slice (some ⟨ab, 0, none⟩) p.ino cc) p.ino (L.flatMap rowV)) ?_ sc91 hR hg1
    refine .lenS ?_ sl91
    refine .quo ?_
    refine .cast (d := 37) (u := nI q) rfl (congrArg (Value.int .i64) (by omega)) ?_
    refine .assign (.x ?_)
    refine .shutR (RS.opens s p T os N) ⟨.slice (some ⟨ab, 0, none⟩) p.ino cc, L, wk, mv, ms⟩ hy ?_
    refine .move (.move (.move ?_))
    refine .mul ?_
    refine .cast (d := 41) (u := nI (64 * q)) rfl (congrArg (Value.int .i64) (by omega)) ?_
    refine .move (.move ?_)
    refine .call (hc := Tryz.call46) (sp := rfSlot (nm := nm) (i := i) hnl hi) (h := ?_)
    rintro _ _ ⟨bb, rfl, rfl⟩
    refine .call (hc := Tryz.call45) (sp := rsWriteFull (s := s) (p := p) (T := T) (os := os) (N := N) hi0 hi1 (i := d) (at' := 64 * q) (m := 64) (c := 64) (A := some ⟨bb, 0, none⟩) (x := .dir sl) hdc hT htot hTd (by show 64 * sl.length ≤ _; omega) (Nat.le_refl _) (by decide) (by show 64 * q ≤ 64 * sl.length; omega) (by decide) (by show max (64 * sl.length) (64 * q + 64) ≤ _; omega) hfit) (h := ?_)
    rintro _ _ ⟨rfl, rfl⟩
    refine .assign (.z ?_)
    refine .ret (?_)
    exact .ret1 (h1 := .tmp (t := 8) rfl) ⟨_, ⟨rfl, rfl⟩, Am.auto⟩
  | some r =>
    have hfv : findSlV [] sl = (r : Int) := by unfold findSlV; rw [hfs]
    have hqr : q = r := by rw [hfr, hfs]; rfl
    subst hqr
    refine .sr (.assign (.x (.move (.move (.move ?_)))))
    refine .call (hc := Tryz.call43) (sp := rsBeginN (s := s) (p := p) (T := T) (os := os) (N := N) hi0 hi1 (d := d) (nm := nm) hT (by omega)) (h := ?_)
    rintro _ _ ⟨rfl, rfl⟩
    rw [hb0]
    refine .assign (.z (.seq (.sr (.move ?_))))
    refine .nei ?_
    refine .z ?_
    refine .condF rfl (congrArg Value.bool (by first | (simp; done) | (simp; omega) | omega)) ?_
    refine .skip (.next (.seq (.sr (.move (.move (.move ?_))))))
    refine .call (hc := Tryz.call44) (sp := rsFindSl (s := s) (p := p) (T := T) (os := os) (N := N) hi0 hi1 (d := d) (nm := nm) (sl := sl) hT hTd) (h := ?_)
    rintro _ _ ⟨rfl, rfl⟩
    rw [hf1]
    refine .geq ?_
    refine .z ?_
    refine .condF rfl (congrArg Value.bool (by first | (simp; done) | (simp; omega) | omega)) ?_
    refine .skip (.next (.sr (.move (.move ?_))))
    refine .call (hc := Tryz.call44) (sp := rsFindSl (s := s) (p := p) (T := T) (os := os) (N := N) hi0 hi1 (d := d) (nm := []) (sl := sl) hT hTd) (h := ?_)
    rintro _ _ ⟨rfl, rfl⟩
    rw [hfv]
    refine .assign (.z (.seq (.sr (.move ?_))))
    refine .lss ?_
    refine .z ?_
    refine .condF rfl (congrArg Value.bool (by first | (simp; done) | (simp; omega) | omega)) ?_
    refine .skip (.next (.sr (.move (.move (.move ?_)))))
    refine .mul ?_
    refine .cast (d := 41) (u := nI (64 * q)) rfl (congrArg (Value.int .i64) (by omega)) ?_
    refine .move (.move ?_)
    refine .call (hc := Tryz.call46) (sp := rfSlot (nm := nm) (i := i) hnl hi) (h := ?_)
    rintro _ _ ⟨bb, rfl, rfl⟩
    refine .call (hc := Tryz.call45) (sp := rsWriteFull (s := s) (p := p) (T := T) (os := os) (N := N) hi0 hi1 (i := d) (at' := 64 * q) (m := 64) (c := 64) (A := some ⟨bb, 0, none⟩) (x := .dir sl) hdc hT htot hTd (by show 64 * sl.length ≤ _; omega) (Nat.le_refl _) (by decide) (by show 64 * q ≤ 64 * sl.length; omega) (by decide) (by show max (64 * sl.length) (64 * q + 64) ≤ _; omega) hfit) (h := ?_)
    rintro _ _ ⟨rfl, rfl⟩
    refine .assign (.z ?_)
    refine .ret (?_)
    exact .ret1 (h1 := .tmp (t := 8) rfl) ⟨_, ⟨rfl, rfl⟩, Am.auto⟩
end Go.Proofs.YtdmjkjeoamiedaaGreat
end
