/- Walks of dir: Add, Find, Remove, Move. -/
import Derived.Test.YtedmihapieleaaaGreatFa
import Derived.Test.YtedmihapieleaaaGreatWbc
import Derived.KernelRfl
set_option linter.unusedVariables false
set_option linter.unusedSimpArgs false
namespace Go.Proofs.YtedmihapieleaaaGreat
open Go
theorem zv121 : zvOf Tryz.prog 121 = some (.agg (#[.int .i64 0, .int .i64 0])) := by kernel_rfl
theorem z121 : zeroOf Tryz.prog 121 = some (#[.int .i64 0, .int .i64 0]) := by kernel_rfl
theorem agg121 : aggOk Tryz.prog 121 2 = true := by kernel_rfl
theorem fo121_1 : fieldOk Tryz.prog 121 1 1 = true := by kernel_rfl
theorem fo121_0 : fieldOk Tryz.prog 121 0 0 = true := by kernel_rfl

theorem nReady {s a c : Nat} {p : Pl} {F0 Fm : FM} {W : Nat} {op : Bool} : Spec Tryz.prog 49 #[.pointer (some ⟨s, 0, none⟩)] [IN s a c p F0 Fm W op] fun G v M => v = .bool op ∧ M = IN s a c p F0 Fm W op :: G := by
  refine Spec.opens (IN.opens s a c p F0 Fm W op) fun y hy => ((inReady (s := s) (c := c) (a := a) (n := p.n) (p := p) (V0 := y.1) (V := y.2.1) (D := y.2.2) (op := op)).mid).post ?_
  rintro G v M ⟨rfl, rfl⟩
  exact ⟨_, ⟨rfl, rfl⟩, Wk.trans (Am.wk Am.auto) (Wk.shutR (M := G) (IN.opens s a c p F0 Fm W op) y hy)⟩
/-- What a directory is refused for. -/
def FindErr (nm : Bytes) (F : FM) (d : Int) (e : Int) : Prop :=
  (nameOk nm = false ∧ e = 1) ∨ (nameOk nm = true ∧ fileAt F d = none ∧ e = 4) ∨ (nameOk nm = true ∧ (∃ k b, 0 ≤ d ∧ F d.toNat = some (k, b) ∧ k ≠ 2) ∧ e = 6)
def ChgErr (op : Bool) (nm : Bytes) (F : FM) (d : Int) (e : Int) : Prop := (op = false ∧ e = 8) ∨ (op = true ∧ FindErr nm F d e)
theorem nameOk_len {nm : Bytes} (h : nameOk nm = true) : 1 ≤ nm.length ∧ nm.length ≤ 50 := by
  unfold nameOk at h
  simp only [Bool.and_eq_true, Bool.not_eq_true', decide_eq_false_iff_not, decide_eq_true_iff] at h
  obtain ⟨h1, h2, _⟩ := h
  refine ⟨?_, h2⟩
  cases nm with
  | nil => exact absurd rfl h1
  | cons _ _ => rw [List.length_cons]; omega

theorem dNamesNo {s a c : Nat} {p : Pl} {F0 Fm : FM} {W : Nat} {d : Int} {op : Bool} (ho : PlOk p) (hF : fileAt Fm d = none) : Spec Tryz.prog 73 #[.pointer (some ⟨s, 0, none⟩), .int .i64 d] [IN s a c p F0 Fm W op] fun G v M => v = .tuple #[.map none, .int .i64 0, .int .i64 4] ∧ M = IN s a c p F0 Fm W op :: G := by
  refine Spec.intro Tryz.func73 rfl rfl fun B F => ?_
  simp only [Tryz.ntmps73, List.cons_append, List.nil_append, env0, Nat.reduceAdd]
  refine WC.seq ?_
  refine WC.region ?_
  refine WL.assign ?_
  refine WL.assign ?_
  refine WL.assign ?_
  refine WL.nil ?_
  refine WQ.next ?_
  refine WC.seq ?_
  refine WC.region ?_
  refine WL.move ?_
  refine WL.move ?_
  refine WL.call (hc := Tryz.call29) (sp := nStatNo (s := s) (a := a) (c := c) (p := p) (F0 := F0) (F := Fm) (W := W) (op := op) (i := d) ho hF) (h := ?_)
  rintro _ _ ⟨rfl, rfl⟩
  refine WL.move ?_
  refine WL.extract ?_
  refine WL.extract ?_
  refine WL.alloc z55 fun b7 => ?_
  refine WL.stV ?_ agg55
  refine WL.assign ?_
  refine WL.nil ?_
  refine WQ.next ?_
  refine WC.seq ?_
  refine WC.seq ?_
  refine WC.region ?_
  refine WL.move ?_
  refine WL.nei ?_
  refine WL.nil ?_
  refine WQ.next ?_
  refine WC.condT rfl rfl ?_
  refine WC.seq ?_
  refine WC.region ?_
  refine WL.move ?_
  refine WL.assign ?_
  refine WL.assign ?_
  refine WL.assign ?_
  refine WL.nil ?_
  refine WQ.next ?_
  refine WC.ret (WQ.thenRet (?_))
  exact WQ.ret3 (h1 := .tmp (t := 4) rfl) (h2 := .tmp (t := 5) rfl) (h3 := .tmp (t := 6) rfl) ⟨_, ⟨rfl, rfl⟩, Am.auto⟩

theorem dNamesKind {s a c : Nat} {p : Pl} {F0 Fm : FM} {W : Nat} {d k : Nat} {b : Bytes} {op : Bool} (ho : PlOk p) (hF : Fm d = some (k, b)) (hk : k ≠ 2) : Spec Tryz.prog 73 #[.pointer (some ⟨s, 0, none⟩), nI d] [IN s a c p F0 Fm W op] fun G v M => v = .tuple #[.map none, .int .i64 0, .int .i64 6] ∧ M = IN s a c p F0 Fm W op :: G := by
  refine Spec.intro Tryz.func73 rfl rfl fun B F => ?_
  simp only [Tryz.ntmps73, List.cons_append, List.nil_append, env0, Nat.reduceAdd]
  refine WC.seq ?_
  refine WC.region ?_
  refine WL.assign ?_
  refine WL.assign ?_
  refine WL.assign ?_
  refine WL.nil ?_
  refine WQ.next ?_
  refine WC.seq ?_
  refine WC.region ?_
  refine WL.move ?_
  refine WL.move ?_
  refine WL.call (hc := Tryz.call29) (sp := nStat (s := s) (a := a) (c := c) (p := p) (F0 := F0) (F := Fm) (W := W) (op := op) (i := d) (f := (k, b)) ho hF) (h := ?_)
  rintro _ _ ⟨rfl, rfl⟩
  refine WL.move ?_
  refine WL.extract ?_
  refine WL.extract ?_
  refine WL.alloc z55 fun b7 => ?_
  refine WL.stV ?_ agg55
  refine WL.assign ?_
  refine WL.nil ?_
  refine WQ.next ?_
  refine WC.seq ?_
  refine WC.seq ?_
  refine WC.region ?_
  refine WL.move ?_
  refine WL.nei ?_
  refine WL.nil ?_
  refine WQ.next ?_
  refine WC.condF rfl rfl ?_
  refine WC.skip ?_
  refine WQ.next ?_
  refine WC.seq ?_
  refine WC.seq ?_
  refine WC.region ?_
  refine WL.fa ?_ fo55_0
  refine WL.ld ?_ sc3
  refine WL.nei ?_
  refine WL.nil ?_
  refine WQ.next ?_
  refine WC.condT rfl (congrArg Value.bool (by first | (simp; done) | (simp; omega) | omega)) ?_
  refine WC.seq ?_
  refine WC.region ?_
  refine WL.assign ?_
  refine WL.assign ?_
  refine WL.assign ?_
  refine WL.nil ?_
  refine WQ.next ?_
  refine WC.ret (WQ.thenRet (?_))
  exact WQ.ret3 (h1 := .tmp (t := 4) rfl) (h2 := .tmp (t := 5) rfl) (h3 := .tmp (t := 6) rfl) ⟨_, ⟨rfl, rfl⟩, Am.auto⟩


theorem dNamesErr {s a c : Nat} {p : Pl} {F0 Fm : FM} {W : Nat} {d : Int} {op : Bool} {nm : Bytes} {e : Int} (ho : PlOk p) (hn : nameOk nm = true) (he : FindErr nm Fm d e) : Spec Tryz.prog 73 #[.pointer (some ⟨s, 0, none⟩), .int .i64 d] [IN s a c p F0 Fm W op] fun G v M => v = .tuple #[.map none, .int .i64 0, .int .i64 e] ∧ M = IN s a c p F0 Fm W op :: G := by
  rcases he with ⟨h, _⟩ | ⟨_, h, rfl⟩ | ⟨_, ⟨k, b, h0, h, hk⟩, rfl⟩
  · rw [hn] at h; cases h
  · exact dNamesNo ho h
  · have := dNamesKind (s := s) (a := a) (c := c) (F0 := F0) (W := W) (op := op) ho h hk
    rwa [show nI d.toNat = .int .i64 d from congrArg (Value.int .i64) (by omega)] at this

theorem dChg {s a c : Nat} {p : Pl} {F0 Fm : FM} {W : Nat} {d : Nat} {nm : Bytes} {sl : List Slot} (ho : PlOk p) (hn : nameOk nm = true) (hF : Fm d = some (2, dirB sl)) (hd : DirOk sl) (hsz : sl.length ≤ 1104) :
    Spec Tryz.prog 70 #[.pointer (some ⟨s, 0, none⟩), nI d, sv nm] [IN s a c p F0 Fm W true] fun G v M => ∃ mp es cl, v = .tuple #[.map (some mp), nI (64 * freeS sl), .int .i64 0] ∧ MapIs encK es cl (kvF sl sl.length) ∧ M = pt mp (.map es cl) :: IN s a c p F0 Fm W true :: G := by
  refine Spec.intro Tryz.func70 rfl rfl fun B F => ?_
  simp only [Tryz.ntmps70, List.cons_append, List.nil_append, env0, Nat.reduceAdd]
  refine WC.seq ?_
  refine WC.region ?_
  refine WL.assign ?_
  refine WL.assign ?_
  refine WL.assign ?_
  refine WL.nil ?_
  refine WQ.next ?_
  refine WC.seq ?_
  refine WC.seq ?_
  refine WC.region ?_
  refine WL.move ?_
  refine WL.call (hc := Tryz.call49) (sp := nReady (s := s) (a := a) (c := c) (p := p) (F0 := F0) (Fm := Fm) (W := W) (op := true)) (h := ?_)
  rintro _ _ ⟨rfl, rfl⟩
  refine WL.not ?_
  refine WL.nil ?_
  refine WQ.next ?_
  refine WC.condF rfl rfl ?_
  refine WC.skip ?_
  refine WQ.next ?_
  refine WC.seq ?_
  refine WC.seq ?_
  refine WC.region ?_
  refine WL.move ?_
  refine WL.call (hc := Tryz.call30) (sp := dName (xs := nm)) (h := ?_)
  rintro _ _ ⟨rfl, rfl⟩
  rw [hn]
  refine WL.not ?_
  refine WL.nil ?_
  refine WQ.next ?_
  refine WC.condF rfl rfl ?_
  refine WC.skip ?_
  refine WQ.next ?_
  refine WC.seq ?_
  refine WC.region ?_
  refine WL.move ?_
  refine WL.move ?_
  refine WL.call (hc := Tryz.call73) (sp := dNames (s := s) (a := a) (c := c) (p := p) (F0 := F0) (Fm := Fm) (W := W) (d := d) (op := true) ho hF hd hsz) (h := ?_)
  rintro _ _ ⟨mp, es, cl, rfl, hm, rfl⟩
  refine WL.extract ?_
  refine WL.extract ?_
  refine WL.extract ?_
  refine WL.assign ?_
  refine WL.assign ?_
  refine WL.assign ?_
  refine WL.nil ?_
  refine WQ.next ?_
  refine WC.ret (?_)
  exact WQ.ret3 (h1 := .tmp (t := 6) rfl) (h2 := .tmp (t := 7) rfl) (h3 := .tmp (t := 8) rfl) ⟨_, ⟨mp, es, cl, rfl, hm, rfl⟩, Am.auto⟩

theorem dChgE {s a c : Nat} {p : Pl} {F0 Fm : FM} {W : Nat} {d : Int} {op : Bool} {nm : Bytes} {e : Int} (ho : PlOk p) (he : ChgErr op nm Fm d e) : Spec Tryz.prog 70 #[.pointer (some ⟨s, 0, none⟩), .int .i64 d, sv nm] [IN s a c p F0 Fm W op] fun G v M => v = .tuple #[.map none, .int .i64 0, .int .i64 e] ∧ M = IN s a c p F0 Fm W op :: G := by
  refine Spec.intro Tryz.func70 rfl rfl fun B F => ?_
  simp only [Tryz.ntmps70, List.cons_append, List.nil_append, env0, Nat.reduceAdd]
  rcases he with ⟨rfl, rfl⟩ | ⟨rfl, he⟩
  · refine WC.seq ?_
    refine WC.region ?_
    refine WL.assign ?_
    refine WL.assign ?_
    refine WL.assign ?_
    refine WL.nil ?_
    refine WQ.next ?_
    refine WC.seq ?_
    refine WC.seq ?_
    refine WC.region ?_
    refine WL.move ?_
    refine WL.call (hc := Tryz.call49) (sp := nReady (s := s) (a := a) (c := c) (p := p) (F0 := F0) (Fm := Fm) (W := W) (op := false)) (h := ?_)
    rintro _ _ ⟨rfl, rfl⟩
    refine WL.not ?_
    refine WL.nil ?_
    refine WQ.next ?_
    refine WC.condT rfl rfl ?_
    refine WC.seq ?_
    refine WC.region ?_
    refine WL.assign ?_
    refine WL.assign ?_
    refine WL.assign ?_
    refine WL.nil ?_
    refine WQ.next ?_
    refine WC.ret (WQ.thenRet (?_))
    exact WQ.ret3 (h1 := .tmp (t := 6) rfl) (h2 := .tmp (t := 7) rfl) (h3 := .tmp (t := 8) rfl) ⟨_, ⟨rfl, rfl⟩, Am.auto⟩
  · cases hn : nameOk nm
    · have he1 : e = 1 := by
        rcases he with ⟨_, h⟩ | ⟨h, _⟩ | ⟨h, _⟩
        · exact h
        · rw [hn] at h; cases h
        · rw [hn] at h; cases h
      subst he1
      refine WC.seq ?_
      refine WC.region ?_
      refine WL.assign ?_
      refine WL.assign ?_
      refine WL.assign ?_
      refine WL.nil ?_
      refine WQ.next ?_
      refine WC.seq ?_
      refine WC.seq ?_
      refine WC.region ?_
      refine WL.move ?_
      refine WL.call (hc := Tryz.call49) (sp := nReady (s := s) (a := a) (c := c) (p := p) (F0 := F0) (Fm := Fm) (W := W) (op := true)) (h := ?_)
      rintro _ _ ⟨rfl, rfl⟩
      refine WL.not ?_
      refine WL.nil ?_
      refine WQ.next ?_
      refine WC.condF rfl rfl ?_
      refine WC.skip ?_
      refine WQ.next ?_
      refine WC.seq ?_
      refine WC.seq ?_
      refine WC.region ?_
      refine WL.move ?_
      refine WL.call (hc := Tryz.call30) (sp := dName (xs := nm)) (h := ?_)
      rintro _ _ ⟨rfl, rfl⟩
      rw [hn]
      refine WL.not ?_
      refine WL.nil ?_
      refine WQ.next ?_
      refine WC.condT rfl rfl ?_
      refine WC.seq ?_
      refine WC.region ?_
      refine WL.assign ?_
      refine WL.assign ?_
      refine WL.assign ?_
      refine WL.nil ?_
      refine WQ.next ?_
      refine WC.ret (WQ.thenRet (?_))
      exact WQ.ret3 (h1 := .tmp (t := 6) rfl) (h2 := .tmp (t := 7) rfl) (h3 := .tmp (t := 8) rfl) ⟨_, ⟨rfl, rfl⟩, Am.auto⟩
    · refine WC.seq ?_
      refine WC.region ?_
      refine WL.assign ?_
      refine WL.assign ?_
      refine WL.assign ?_
      refine WL.nil ?_
      refine WQ.next ?_
      refine WC.seq ?_
      refine WC.seq ?_
      refine WC.region ?_
      refine WL.move ?_
      refine WL.call (hc := Tryz.call49) (sp := nReady (s := s) (a := a) (c := c) (p := p) (F0 := F0) (Fm := Fm) (W := W) (op := true)) (h := ?_)
      rintro _ _ ⟨rfl, rfl⟩
      refine WL.not ?_
      refine WL.nil ?_
      refine WQ.next ?_
      refine WC.condF rfl rfl ?_
      refine WC.skip ?_
      refine WQ.next ?_
      refine WC.seq ?_
      refine WC.seq ?_
      refine WC.region ?_
      refine WL.move ?_
      refine WL.call (hc := Tryz.call30) (sp := dName (xs := nm)) (h := ?_)
      rintro _ _ ⟨rfl, rfl⟩
      rw [hn]
      refine WL.not ?_
      refine WL.nil ?_
      refine WQ.next ?_
      refine WC.condF rfl rfl ?_
      refine WC.skip ?_
      refine WQ.next ?_
      refine WC.seq ?_
      refine WC.region ?_
      refine WL.move ?_
      refine WL.move ?_
      refine WL.call (hc := Tryz.call73) (sp := dNamesErr (s := s) (a := a) (c := c) (p := p) (F0 := F0) (Fm := Fm) (W := W) (d := d) (op := true) ho hn he) (h := ?_)
      rintro _ _ ⟨rfl, rfl⟩
      refine WL.extract ?_
      refine WL.extract ?_
      refine WL.extract ?_
      refine WL.assign ?_
      refine WL.assign ?_
      refine WL.assign ?_
      refine WL.nil ?_
      refine WQ.next ?_
      refine WC.ret (?_)
      exact WQ.ret3 (h1 := .tmp (t := 6) rfl) (h2 := .tmp (t := 7) rfl) (h3 := .tmp (t := 8) rfl) ⟨_, ⟨rfl, rfl⟩, Am.auto⟩

theorem dAdd {s a c : Nat} {p : Pl} {F0 Fm : FM} {W : Nat} {d : Nat} {nm : Bytes} {sl : List Slot} (ho : PlOk p) (hn : nameOk nm = true) (hF : Fm d = some (2, dirB sl)) (hd : DirOk sl) (hsz : sl.length ≤ 1104) (hno : ∀ (q i : Nat), sl[q]? ≠ some (some (nm, i))) {i : Nat} (hi : i < 4294967296) (hw : Rw p W 13) (hfs : freeS sl < 1104) (hfit : tot Fm p.ino + has (max (64 * sl.length) (64 * freeS sl + 64)) ≤ p.dc + has (64 * sl.length)) : Spec Tryz.prog 34 #[.pointer (some ⟨s, 0, none⟩), nI d, sv nm, nI i] [IN s a c p F0 Fm W true] fun G v M => v = okV ∧ M = IN s a c p F0 (updM Fm d (some (2, dirB (setS sl (freeS sl) (some (nm, i)))))) (W + 8) true :: G := by
  refine Spec.intro Tryz.func34 rfl rfl fun B F => ?_
  simp only [Tryz.ntmps34, List.cons_append, List.nil_append, env0, Nat.reduceAdd]
  refine WC.seq ?_
  refine WC.region ?_
  refine WL.assign ?_
  refine WL.nil ?_
  refine WQ.next ?_
  refine WC.seq ?_
  refine WC.region ?_
  refine WL.move ?_
  refine WL.move ?_
  refine WL.move ?_
  refine WL.call (hc := Tryz.call70) (sp := dChg (s := s) (a := a) (c := c) (p := p) (F0 := F0) (Fm := Fm) (W := W) (d := d) (nm := nm) ho hn hF hd hsz) (h := ?_)
  rintro _ _ ⟨mp, es, cl, rfl, hm, rfl⟩
  refine WL.move ?_
  refine WL.extract ?_
  refine WL.extract ?_
  refine WL.extract ?_
  refine WL.assign ?_
  refine WL.assign ?_
  refine WL.assign ?_
  refine WL.nil ?_
  refine WQ.next ?_
  refine WC.seq ?_
  refine WC.seq ?_
  refine WC.region ?_
  refine WL.move ?_
  refine WL.nei ?_
  refine WL.nil ?_
  refine WQ.next ?_
  refine WC.condF rfl rfl ?_
  refine WC.skip ?_
  refine WQ.next ?_
  refine WC.seq ?_
  refine WC.seq ?_
  refine WC.region ?_
  refine WL.move ?_
  refine WL.move ?_
  refine WL.call (hc := Tryz.call71) (sp := dOf (nameOk_len hn).2) (h := ?_)
  rintro _ _ ⟨rfl, rfl⟩
  refine WL.lookOk (k := keyK nm) klN hm mp117 zv121 ?_
  refine WL.cast (d := 29) (u := .tuple #[.agg #[.int .i64 0, .int .i64 0], .bool false]) rfl (by rw [kvF_no hd (nameOk_len hn).2 hno]; rfl) ?_
  refine WL.move ?_
  refine WL.extract ?_
  refine WL.extract ?_
  refine WL.alloc z121 fun b12 => ?_
  refine WL.stV ?_ agg121
  refine WL.assign ?_
  refine WL.nil ?_
  refine WQ.next ?_
  refine WC.seq ?_
  refine WC.region ?_
  refine WL.move ?_
  refine WL.nil ?_
  refine WQ.next ?_
  refine WC.condF rfl rfl ?_
  refine WC.skip ?_
  refine WQ.next ?_
  refine WC.seq ?_
  refine WC.region ?_
  refine WL.move ?_
  refine WL.move ?_
  refine WL.move ?_
  refine WL.move ?_
  refine WL.move ?_
  refine WL.call (hc := Tryz.call72) (sp := dLay (s := s) (a := a) (c := c) (p := p) (F0 := F0) (Fm := Fm) (W := W) (d := d) (q := freeS sl) (i := i) (nm := nm) (sl := sl) ho hF (freeS_le sl) hfs (nameOk_len hn).2 hi hw hfit) (h := ?_)
  rintro _ _ ⟨rfl, rfl⟩
  refine WL.assign ?_
  refine WL.nil ?_
  refine WQ.next ?_
  refine WC.ret (?_)
  exact WQ.ret1 (h1 := .tmp (t := 8) rfl) ⟨_, ⟨rfl, rfl⟩, Am.auto⟩

theorem dAddExist {s a c : Nat} {p : Pl} {F0 Fm : FM} {W : Nat} {d : Nat} {nm : Bytes} {sl : List Slot} (ho : PlOk p) (hn : nameOk nm = true) (hF : Fm d = some (2, dirB sl)) (hd : DirOk sl) (hsz : sl.length ≤ 1104) {q j : Nat} (hq : sl[q]? = some (some (nm, j))) {i : Value} : Spec Tryz.prog 34 #[.pointer (some ⟨s, 0, none⟩), nI d, sv nm, i] [IN s a c p F0 Fm W true] fun G v M => v = .int .i64 5 ∧ M = IN s a c p F0 Fm W true :: G := by
  refine Spec.intro Tryz.func34 rfl rfl fun B F => ?_
  simp only [Tryz.ntmps34, List.cons_append, List.nil_append, env0, Nat.reduceAdd]
  have hlt : q < sl.length := by
    by_cases h : q < sl.length
    · exact h
    · rw [List.getElem?_eq_none (by omega)] at hq; cases hq
  refine WC.seq ?_
  refine WC.region ?_
  refine WL.assign ?_
  refine WL.nil ?_
  refine WQ.next ?_
  refine WC.seq ?_
  refine WC.region ?_
  refine WL.move ?_
  refine WL.move ?_
  refine WL.move ?_
  refine WL.call (hc := Tryz.call70) (sp := dChg (s := s) (a := a) (c := c) (p := p) (F0 := F0) (Fm := Fm) (W := W) (d := d) (nm := nm) ho hn hF hd hsz) (h := ?_)
  rintro _ _ ⟨mp, es, cl, rfl, hm, rfl⟩
  refine WL.move ?_
  refine WL.extract ?_
  refine WL.extract ?_
  refine WL.extract ?_
  refine WL.assign ?_
  refine WL.assign ?_
  refine WL.assign ?_
  refine WL.nil ?_
  refine WQ.next ?_
  refine WC.seq ?_
  refine WC.seq ?_
  refine WC.region ?_
  refine WL.move ?_
  refine WL.nei ?_
  refine WL.nil ?_
  refine WQ.next ?_
  refine WC.condF rfl rfl ?_
  refine WC.skip ?_
  refine WQ.next ?_
  refine WC.seq ?_
  refine WC.seq ?_
  refine WC.region ?_
  refine WL.move ?_
  refine WL.move ?_
  refine WL.call (hc := Tryz.call71) (sp := dOf (nameOk_len hn).2) (h := ?_)
  rintro _ _ ⟨rfl, rfl⟩
  refine WL.lookOk (k := keyK nm) klN hm mp117 zv121 ?_
  refine WL.cast (d := 29) (u := .tuple #[.agg #[nI (64 * q), nI j], .bool true]) rfl (by rw [kvF_has hd hq sl.length hlt]; rfl) ?_
  refine WL.move ?_
  refine WL.extract ?_
  refine WL.extract ?_
  refine WL.alloc z121 fun b12 => ?_
  refine WL.stV ?_ agg121
  refine WL.assign ?_
  refine WL.nil ?_
  refine WQ.next ?_
  refine WC.seq ?_
  refine WC.region ?_
  refine WL.move ?_
  refine WL.nil ?_
  refine WQ.next ?_
  refine WC.condT rfl rfl ?_
  refine WC.seq ?_
  refine WC.region ?_
  refine WL.assign ?_
  refine WL.nil ?_
  refine WQ.next ?_
  refine WC.ret (WQ.thenRet (?_))
  exact WQ.ret1 (h1 := .tmp (t := 8) rfl) ⟨_, ⟨rfl, rfl⟩, Am.auto⟩

theorem dAddE {s a c : Nat} {p : Pl} {F0 Fm : FM} {W : Nat} {d : Int} {op : Bool} {nm : Bytes} {e : Int} {i : Value} (ho : PlOk p) (he : ChgErr op nm Fm d e) (he0 : e ≠ 0) : Spec Tryz.prog 34 #[.pointer (some ⟨s, 0, none⟩), .int .i64 d, sv nm, i] [IN s a c p F0 Fm W op] fun G v M => v = .int .i64 e ∧ M = IN s a c p F0 Fm W op :: G := by
  refine Spec.intro Tryz.func34 rfl rfl fun B F => ?_
  simp only [Tryz.ntmps34, List.cons_append, List.nil_append, env0, Nat.reduceAdd]
  refine WC.seq ?_
  refine WC.region ?_
  refine WL.assign ?_
  refine WL.nil ?_
  refine WQ.next ?_
  refine WC.seq ?_
  refine WC.region ?_
  refine WL.move ?_
  refine WL.move ?_
  refine WL.move ?_
  refine WL.call (hc := Tryz.call70) (sp := dChgE (s := s) (a := a) (c := c) (p := p) (F0 := F0) (Fm := Fm) (W := W) (d := d) (op := op) (nm := nm) (e := e) ho he) (h := ?_)
  rintro _ _ ⟨rfl, rfl⟩
  refine WL.move ?_
  refine WL.extract ?_
  refine WL.extract ?_
  refine WL.extract ?_
  refine WL.assign ?_
  refine WL.assign ?_
  refine WL.assign ?_
  refine WL.nil ?_
  refine WQ.next ?_
  refine WC.seq ?_
  refine WC.seq ?_
  refine WC.region ?_
  refine WL.move ?_
  refine WL.nei ?_
  refine WL.nil ?_
  refine WQ.next ?_
  refine WC.condT rfl (congrArg Value.bool (by first | (simp; done) | (simp; omega) | omega)) ?_
  refine WC.seq ?_
  refine WC.region ?_
  refine WL.move ?_
  refine WL.assign ?_
  refine WL.nil ?_
  refine WQ.next ?_
  refine WC.ret (WQ.thenRet (?_))
  exact WQ.ret1 (h1 := .tmp (t := 8) rfl) ⟨_, ⟨rfl, rfl⟩, Am.auto⟩

theorem dRemoveE {s a c : Nat} {p : Pl} {F0 Fm : FM} {W : Nat} {d : Int} {op : Bool} {nm : Bytes} {e : Int} {i : Value} (ho : PlOk p) (he : ChgErr op nm Fm d e) (he0 : e ≠ 0) : Spec Tryz.prog 38 #[.pointer (some ⟨s, 0, none⟩), .int .i64 d, sv nm] [IN s a c p F0 Fm W op] fun G v M => v = .int .i64 e ∧ M = IN s a c p F0 Fm W op :: G := by
  refine Spec.intro Tryz.func38 rfl rfl fun B F => ?_
  simp only [Tryz.ntmps38, List.cons_append, List.nil_append, env0, Nat.reduceAdd]
  refine WC.seq ?_
  refine WC.region ?_
  refine WL.assign ?_
  refine WL.nil ?_
  refine WQ.next ?_
  refine WC.seq ?_
  refine WC.region ?_
  refine WL.move ?_
  refine WL.move ?_
  refine WL.move ?_
  refine WL.call (hc := Tryz.call70) (sp := dChgE (s := s) (a := a) (c := c) (p := p) (F0 := F0) (Fm := Fm) (W := W) (d := d) (op := op) (nm := nm) (e := e) ho he) (h := ?_)
  rintro _ _ ⟨rfl, rfl⟩
  refine WL.move ?_
  refine WL.extract ?_
  refine WL.extract ?_
  refine WL.extract ?_
  refine WL.assign ?_
  refine WL.assign ?_
  refine WL.assign ?_
  refine WL.nil ?_
  refine WQ.next ?_
  refine WC.seq ?_
  refine WC.seq ?_
  refine WC.region ?_
  refine WL.move ?_
  refine WL.nei ?_
  refine WL.nil ?_
  refine WQ.next ?_
  refine WC.condT rfl (congrArg Value.bool (by first | (simp; done) | (simp; omega) | omega)) ?_
  refine WC.seq ?_
  refine WC.region ?_
  refine WL.move ?_
  refine WL.assign ?_
  refine WL.nil ?_
  refine WQ.next ?_
  refine WC.ret (WQ.thenRet (?_))
  exact WQ.ret1 (h1 := .tmp (t := 6) rfl) ⟨_, ⟨rfl, rfl⟩, Am.auto⟩

theorem dMoveE {s a c : Nat} {p : Pl} {F0 Fm : FM} {W : Nat} {d : Int} {op : Bool} {nm : Bytes} {e : Int} {i : Value} (ho : PlOk p) (he : ChgErr op nm Fm d e) (he0 : e ≠ 0) : Spec Tryz.prog 36 #[.pointer (some ⟨s, 0, none⟩), .int .i64 d, sv nm, i] [IN s a c p F0 Fm W op] fun G v M => v = .int .i64 e ∧ M = IN s a c p F0 Fm W op :: G := by
  refine Spec.intro Tryz.func36 rfl rfl fun B F => ?_
  simp only [Tryz.ntmps36, List.cons_append, List.nil_append, env0, Nat.reduceAdd]
  refine WC.seq ?_
  refine WC.region ?_
  refine WL.assign ?_
  refine WL.nil ?_
  refine WQ.next ?_
  refine WC.seq ?_
  refine WC.region ?_
  refine WL.move ?_
  refine WL.move ?_
  refine WL.move ?_
  refine WL.call (hc := Tryz.call70) (sp := dChgE (s := s) (a := a) (c := c) (p := p) (F0 := F0) (Fm := Fm) (W := W) (d := d) (op := op) (nm := nm) (e := e) ho he) (h := ?_)
  rintro _ _ ⟨rfl, rfl⟩
  refine WL.move ?_
  refine WL.extract ?_
  refine WL.extract ?_
  refine WL.extract ?_
  refine WL.assign ?_
  refine WL.assign ?_
  refine WL.assign ?_
  refine WL.nil ?_
  refine WQ.next ?_
  refine WC.seq ?_
  refine WC.seq ?_
  refine WC.region ?_
  refine WL.move ?_
  refine WL.nei ?_
  refine WL.nil ?_
  refine WQ.next ?_
  refine WC.condT rfl (congrArg Value.bool (by first | (simp; done) | (simp; omega) | omega)) ?_
  refine WC.seq ?_
  refine WC.region ?_
  refine WL.move ?_
  refine WL.assign ?_
  refine WL.nil ?_
  refine WQ.next ?_
  refine WC.ret (WQ.thenRet (?_))
  exact WQ.ret1 (h1 := .tmp (t := 8) rfl) ⟨_, ⟨rfl, rfl⟩, Am.auto⟩

theorem dFindE {s a c : Nat} {p : Pl} {F0 Fm : FM} {W : Nat} {d : Int} {op : Bool} {nm : Bytes} {e : Int} (ho : PlOk p) (he : FindErr nm Fm d e) (he0 : e ≠ 0) : Spec Tryz.prog 37 #[.pointer (some ⟨s, 0, none⟩), .int .i64 d, sv nm] [IN s a c p F0 Fm W op] fun G v M => v = .tuple #[.int .i64 0, .int .i64 e] ∧ M = IN s a c p F0 Fm W op :: G := by
  refine Spec.intro Tryz.func37 rfl rfl fun B F => ?_
  simp only [Tryz.ntmps37, List.cons_append, List.nil_append, env0, Nat.reduceAdd]
  cases hn : nameOk nm
  · have he1 : e = 1 := by
      rcases he with ⟨_, h⟩ | ⟨h, _⟩ | ⟨h, _⟩
      · exact h
      · rw [hn] at h; cases h
      · rw [hn] at h; cases h
    subst he1
    refine WC.seq ?_
    refine WC.region ?_
    refine WL.assign ?_
    refine WL.assign ?_
    refine WL.nil ?_
    refine WQ.next ?_
    refine WC.seq ?_
    refine WC.seq ?_
    refine WC.region ?_
    refine WL.move ?_
    refine WL.call (hc := Tryz.call30) (sp := dName (xs := nm)) (h := ?_)
    rintro _ _ ⟨rfl, rfl⟩
    rw [hn]
    refine WL.not ?_
    refine WL.nil ?_
    refine WQ.next ?_
    refine WC.condT rfl rfl ?_
    refine WC.seq ?_
    refine WC.region ?_
    refine WL.assign ?_
    refine WL.assign ?_
    refine WL.nil ?_
    refine WQ.next ?_
    refine WC.ret (WQ.thenRet (?_))
    exact WQ.ret2 (h1 := .tmp (t := 6) rfl) (h2 := .tmp (t := 7) rfl) ⟨_, ⟨rfl, rfl⟩, Am.auto⟩
  · refine WC.seq ?_
    refine WC.region ?_
    refine WL.assign ?_
    refine WL.assign ?_
    refine WL.nil ?_
    refine WQ.next ?_
    refine WC.seq ?_
    refine WC.seq ?_
    refine WC.region ?_
    refine WL.move ?_
    refine WL.call (hc := Tryz.call30) (sp := dName (xs := nm)) (h := ?_)
    rintro _ _ ⟨rfl, rfl⟩
    rw [hn]
    refine WL.not ?_
    refine WL.nil ?_
    refine WQ.next ?_
    refine WC.condF rfl rfl ?_
    refine WC.skip ?_
    refine WQ.next ?_
    refine WC.seq ?_
    refine WC.region ?_
    refine WL.move ?_
    refine WL.move ?_
    refine WL.call (hc := Tryz.call73) (sp := dNamesErr (s := s) (a := a) (c := c) (p := p) (F0 := F0) (Fm := Fm) (W := W) (d := d) (op := op) ho hn he) (h := ?_)
    rintro _ _ ⟨rfl, rfl⟩
    refine WL.move ?_
    refine WL.extract ?_
    refine WL.extract ?_
    refine WL.extract ?_
    refine WL.assign ?_
    refine WL.assign ?_
    refine WL.assign ?_
    refine WL.nil ?_
    refine WQ.next ?_
    refine WC.seq ?_
    refine WC.seq ?_
    refine WC.region ?_
    refine WL.move ?_
    refine WL.nei ?_
    refine WL.nil ?_
    refine WQ.next ?_
    refine WC.condT rfl (congrArg Value.bool (by first | (simp; done) | (simp; omega) | omega)) ?_
    refine WC.seq ?_
    refine WC.region ?_
    refine WL.move ?_
    refine WL.assign ?_
    refine WL.assign ?_
    refine WL.nil ?_
    refine WQ.next ?_
    refine WC.ret (WQ.thenRet (?_))
    exact WQ.ret2 (h1 := .tmp (t := 6) rfl) (h2 := .tmp (t := 7) rfl) ⟨_, ⟨rfl, rfl⟩, Am.auto⟩

theorem dFind {s a c : Nat} {p : Pl} {F0 Fm : FM} {W : Nat} {d : Nat} {op : Bool} {nm : Bytes} {sl : List Slot} (ho : PlOk p) (hn : nameOk nm = true) (hF : Fm d = some (2, dirB sl)) (hd : DirOk sl) (hsz : sl.length ≤ 1104) {q j : Nat} (hq : sl[q]? = some (some (nm, j))) : Spec Tryz.prog 37 #[.pointer (some ⟨s, 0, none⟩), nI d, sv nm] [IN s a c p F0 Fm W op] fun G v M => v = .tuple #[nI j, .int .i64 0] ∧ M = IN s a c p F0 Fm W op :: G := by
  refine Spec.intro Tryz.func37 rfl rfl fun B F => ?_
  simp only [Tryz.ntmps37, List.cons_append, List.nil_append, env0, Nat.reduceAdd]
  have hlt : q < sl.length := by
    by_cases h : q < sl.length
    · exact h
    · rw [List.getElem?_eq_none (by omega)] at hq; cases hq
  refine WC.seq ?_
  refine WC.region ?_
  refine WL.assign ?_
  refine WL.assign ?_
  refine WL.nil ?_
  refine WQ.next ?_
  refine WC.seq ?_
  refine WC.seq ?_
  refine WC.region ?_
  refine WL.move ?_
  refine WL.call (hc := Tryz.call30) (sp := dName (xs := nm)) (h := ?_)
  rintro _ _ ⟨rfl, rfl⟩
  rw [hn]
  refine WL.not ?_
  refine WL.nil ?_
  refine WQ.next ?_
  refine WC.condF rfl rfl ?_
  refine WC.skip ?_
  refine WQ.next ?_
  refine WC.seq ?_
  refine WC.region ?_
  refine WL.move ?_
  refine WL.move ?_
  refine WL.call (hc := Tryz.call73) (sp := dNames (s := s) (a := a) (c := c) (p := p) (F0 := F0) (Fm := Fm) (W := W) (d := d) (op := op) ho hF hd hsz) (h := ?_)
  rintro _ _ ⟨mp, es, cl, rfl, hm, rfl⟩
  refine WL.move ?_
  refine WL.extract ?_
  refine WL.extract ?_
  refine WL.extract ?_
  refine WL.assign ?_
  refine WL.assign ?_
  refine WL.assign ?_
  refine WL.nil ?_
  refine WQ.next ?_
  refine WC.seq ?_
  refine WC.seq ?_
  refine WC.region ?_
  refine WL.move ?_
  refine WL.nei ?_
  refine WL.nil ?_
  refine WQ.next ?_
  refine WC.condF rfl rfl ?_
  refine WC.skip ?_
  refine WQ.next ?_
  refine WC.seq ?_
  refine WC.region ?_
  refine WL.move ?_
  refine WL.move ?_
  refine WL.call (hc := Tryz.call71) (sp := dOf (nameOk_len hn).2) (h := ?_)
  rintro _ _ ⟨rfl, rfl⟩
  refine WL.lookOk (k := keyK nm) klN hm mp117 zv121 ?_
  refine WL.cast (d := 30) (u := .tuple #[.agg #[nI (64 * q), nI j], .bool true]) rfl (by rw [kvF_has hd hq sl.length hlt]; rfl) ?_
  refine WL.move ?_
  refine WL.extract ?_
  refine WL.extract ?_
  refine WL.alloc z121 fun b11 => ?_
  refine WL.stV ?_ agg121
  refine WL.assign ?_
  refine WL.nil ?_
  refine WQ.next ?_
  refine WC.seq ?_
  refine WC.seq ?_
  refine WC.region ?_
  refine WL.move ?_
  refine WL.not ?_
  refine WL.nil ?_
  refine WQ.next ?_
  refine WC.condF rfl rfl ?_
  refine WC.skip ?_
  refine WQ.next ?_
  refine WC.seq ?_
  refine WC.region ?_
  refine WL.fa ?_ fo121_1
  refine WL.ld ?_ sc3
  refine WL.assign ?_
  refine WL.assign ?_
  refine WL.nil ?_
  refine WQ.next ?_
  refine WC.ret (?_)
  exact WQ.ret2 (h1 := .tmp (t := 6) rfl) (h2 := .tmp (t := 7) rfl) ⟨_, ⟨rfl, rfl⟩, Am.auto⟩

theorem dFindNo {s a c : Nat} {p : Pl} {F0 Fm : FM} {W : Nat} {d : Nat} {op : Bool} {nm : Bytes} {sl : List Slot} (ho : PlOk p) (hn : nameOk nm = true) (hF : Fm d = some (2, dirB sl)) (hd : DirOk sl) (hsz : sl.length ≤ 1104) (hno : ∀ (q i : Nat), sl[q]? ≠ some (some (nm, i))) : Spec Tryz.prog 37 #[.pointer (some ⟨s, 0, none⟩), nI d, sv nm] [IN s a c p F0 Fm W op] fun G v M => v = .tuple #[.int .i64 0, .int .i64 4] ∧ M = IN s a c p F0 Fm W op :: G := by
  refine Spec.intro Tryz.func37 rfl rfl fun B F => ?_
  simp only [Tryz.ntmps37, List.cons_append, List.nil_append, env0, Nat.reduceAdd]
  refine WC.seq ?_
  refine WC.region ?_
  refine WL.assign ?_
  refine WL.assign ?_
  refine WL.nil ?_
  refine WQ.next ?_
  refine WC.seq ?_
  refine WC.seq ?_
  refine WC.region ?_
  refine WL.move ?_
  refine WL.call (hc := Tryz.call30) (sp := dName (xs := nm)) (h := ?_)
  rintro _ _ ⟨rfl, rfl⟩
  rw [hn]
  refine WL.not ?_
  refine WL.nil ?_
  refine WQ.next ?_
  refine WC.condF rfl rfl ?_
  refine WC.skip ?_
  refine WQ.next ?_
  refine WC.seq ?_
  refine WC.region ?_
  refine WL.move ?_
  refine WL.move ?_
  refine WL.call (hc := Tryz.call73) (sp := dNames (s := s) (a := a) (c := c) (p := p) (F0 := F0) (Fm := Fm) (W := W) (d := d) (op := op) ho hF hd hsz) (h := ?_)
  rintro _ _ ⟨mp, es, cl, rfl, hm, rfl⟩
  refine WL.move ?_
  refine WL.extract ?_
  refine WL.extract ?_
  refine WL.extract ?_
  refine WL.assign ?_
  refine WL.assign ?_
  refine WL.assign ?_
  refine WL.nil ?_
  refine WQ.next ?_
  refine WC.seq ?_
  refine WC.seq ?_
  refine WC.region ?_
  refine WL.move ?_
  refine WL.nei ?_
  refine WL.nil ?_
  refine WQ.next ?_
  refine WC.condF rfl rfl ?_
  refine WC.skip ?_
  refine WQ.next ?_
  refine WC.seq ?_
  refine WC.region ?_
  refine WL.move ?_
  refine WL.move ?_
  refine WL.call (hc := Tryz.call71) (sp := dOf (nameOk_len hn).2) (h := ?_)
  rintro _ _ ⟨rfl, rfl⟩
  refine WL.lookOk (k := keyK nm) klN hm mp117 zv121 ?_
  refine WL.cast (d := 30) (u := .tuple #[.agg #[.int .i64 0, .int .i64 0], .bool false]) rfl (by rw [kvF_no hd (nameOk_len hn).2 hno]; rfl) ?_
  refine WL.move ?_
  refine WL.extract ?_
  refine WL.extract ?_
  refine WL.alloc z121 fun b11 => ?_
  refine WL.stV ?_ agg121
  refine WL.assign ?_
  refine WL.nil ?_
  refine WQ.next ?_
  refine WC.seq ?_
  refine WC.seq ?_
  refine WC.region ?_
  refine WL.move ?_
  refine WL.not ?_
  refine WL.nil ?_
  refine WQ.next ?_
  refine WC.condT rfl rfl ?_
  refine WC.seq ?_
  refine WC.region ?_
  refine WL.assign ?_
  refine WL.assign ?_
  refine WL.nil ?_
  refine WQ.next ?_
  refine WC.ret (WQ.thenRet (?_))
  exact WQ.ret2 (h1 := .tmp (t := 6) rfl) (h2 := .tmp (t := 7) rfl) ⟨_, ⟨rfl, rfl⟩, Am.auto⟩

theorem dRemoveNo {s a c : Nat} {p : Pl} {F0 Fm : FM} {W : Nat} {d : Nat} {nm : Bytes} {sl : List Slot} (ho : PlOk p) (hn : nameOk nm = true) (hF : Fm d = some (2, dirB sl)) (hd : DirOk sl) (hsz : sl.length ≤ 1104) (hno : ∀ (q i : Nat), sl[q]? ≠ some (some (nm, i))) : Spec Tryz.prog 38 #[.pointer (some ⟨s, 0, none⟩), nI d, sv nm] [IN s a c p F0 Fm W true] fun G v M => v = .int .i64 4 ∧ M = IN s a c p F0 Fm W true :: G := by
  refine Spec.intro Tryz.func38 rfl rfl fun B F => ?_
  simp only [Tryz.ntmps38, List.cons_append, List.nil_append, env0, Nat.reduceAdd]
  refine WC.seq ?_
  refine WC.region ?_
  refine WL.assign ?_
  refine WL.nil ?_
  refine WQ.next ?_
  refine WC.seq ?_
  refine WC.region ?_
  refine WL.move ?_
  refine WL.move ?_
  refine WL.move ?_
  refine WL.call (hc := Tryz.call70) (sp := dChg (s := s) (a := a) (c := c) (p := p) (F0 := F0) (Fm := Fm) (W := W) (d := d) (nm := nm) ho hn hF hd hsz) (h := ?_)
  rintro _ _ ⟨mp, es, cl, rfl, hm, rfl⟩
  refine WL.move ?_
  refine WL.extract ?_
  refine WL.extract ?_
  refine WL.extract ?_
  refine WL.assign ?_
  refine WL.assign ?_
  refine WL.assign ?_
  refine WL.nil ?_
  refine WQ.next ?_
  refine WC.seq ?_
  refine WC.seq ?_
  refine WC.region ?_
  refine WL.move ?_
  refine WL.nei ?_
  refine WL.nil ?_
  refine WQ.next ?_
  refine WC.condF rfl rfl ?_
  refine WC.skip ?_
  refine WQ.next ?_
  refine WC.seq ?_
  refine WC.region ?_
  refine WL.move ?_
  refine WL.move ?_
  refine WL.call (hc := Tryz.call71) (sp := dOf (nameOk_len hn).2) (h := ?_)
  rintro _ _ ⟨rfl, rfl⟩
  refine WL.lookOk (k := keyK nm) klN hm mp117 zv121 ?_
  refine WL.cast (d := 27) (u := .tuple #[.agg #[.int .i64 0, .int .i64 0], .bool false]) rfl (by rw [kvF_no hd (nameOk_len hn).2 hno]; rfl) ?_
  refine WL.move ?_
  refine WL.extract ?_
  refine WL.extract ?_
  refine WL.alloc z121 fun b10 => ?_
  refine WL.stV ?_ agg121
  refine WL.assign ?_
  refine WL.nil ?_
  refine WQ.next ?_
  refine WC.seq ?_
  refine WC.seq ?_
  refine WC.region ?_
  refine WL.move ?_
  refine WL.not ?_
  refine WL.nil ?_
  refine WQ.next ?_
  refine WC.condT rfl rfl ?_
  refine WC.seq ?_
  refine WC.region ?_
  refine WL.assign ?_
  refine WL.nil ?_
  refine WQ.next ?_
  refine WC.ret (WQ.thenRet (?_))
  exact WQ.ret1 (h1 := .tmp (t := 6) rfl) ⟨_, ⟨rfl, rfl⟩, Am.auto⟩

theorem dMoveNo {s a c : Nat} {p : Pl} {F0 Fm : FM} {W : Nat} {d : Nat} {nm : Bytes} {sl : List Slot} (ho : PlOk p) (hn : nameOk nm = true) (hF : Fm d = some (2, dirB sl)) (hd : DirOk sl) (hsz : sl.length ≤ 1104) (hno : ∀ (q i : Nat), sl[q]? ≠ some (some (nm, i))) {i : Value} : Spec Tryz.prog 36 #[.pointer (some ⟨s, 0, none⟩), nI d, sv nm, i] [IN s a c p F0 Fm W true] fun G v M => v = .int .i64 4 ∧ M = IN s a c p F0 Fm W true :: G := by
  refine Spec.intro Tryz.func36 rfl rfl fun B F => ?_
  simp only [Tryz.ntmps36, List.cons_append, List.nil_append, env0, Nat.reduceAdd]
  refine WC.seq ?_
  refine WC.region ?_
  refine WL.assign ?_
  refine WL.nil ?_
  refine WQ.next ?_
  refine WC.seq ?_
  refine WC.region ?_
  refine WL.move ?_
  refine WL.move ?_
  refine WL.move ?_
  refine WL.call (hc := Tryz.call70) (sp := dChg (s := s) (a := a) (c := c) (p := p) (F0 := F0) (Fm := Fm) (W := W) (d := d) (nm := nm) ho hn hF hd hsz) (h := ?_)
  rintro _ _ ⟨mp, es, cl, rfl, hm, rfl⟩
  refine WL.move ?_
  refine WL.extract ?_
  refine WL.extract ?_
  refine WL.extract ?_
  refine WL.assign ?_
  refine WL.assign ?_
  refine WL.assign ?_
  refine WL.nil ?_
  refine WQ.next ?_
  refine WC.seq ?_
  refine WC.seq ?_
  refine WC.region ?_
  refine WL.move ?_
  refine WL.nei ?_
  refine WL.nil ?_
  refine WQ.next ?_
  refine WC.condF rfl rfl ?_
  refine WC.skip ?_
  refine WQ.next ?_
  refine WC.seq ?_
  refine WC.region ?_
  refine WL.move ?_
  refine WL.move ?_
  refine WL.call (hc := Tryz.call71) (sp := dOf (nameOk_len hn).2) (h := ?_)
  rintro _ _ ⟨rfl, rfl⟩
  refine WL.lookOk (k := keyK nm) klN hm mp117 zv121 ?_
  refine WL.cast (d := 29) (u := .tuple #[.agg #[.int .i64 0, .int .i64 0], .bool false]) rfl (by rw [kvF_no hd (nameOk_len hn).2 hno]; rfl) ?_
  refine WL.move ?_
  refine WL.extract ?_
  refine WL.extract ?_
  refine WL.alloc z121 fun b12 => ?_
  refine WL.stV ?_ agg121
  refine WL.assign ?_
  refine WL.nil ?_
  refine WQ.next ?_
  refine WC.seq ?_
  refine WC.seq ?_
  refine WC.region ?_
  refine WL.move ?_
  refine WL.not ?_
  refine WL.nil ?_
  refine WQ.next ?_
  refine WC.condT rfl rfl ?_
  refine WC.seq ?_
  refine WC.region ?_
  refine WL.assign ?_
  refine WL.nil ?_
  refine WQ.next ?_
  refine WC.ret (WQ.thenRet (?_))
  exact WQ.ret1 (h1 := .tmp (t := 8) rfl) ⟨_, ⟨rfl, rfl⟩, Am.auto⟩

theorem dMove {s a c : Nat} {p : Pl} {F0 Fm : FM} {W : Nat} {d : Nat} {nm : Bytes} {sl : List Slot} (ho : PlOk p) (hn : nameOk nm = true) (hF : Fm d = some (2, dirB sl)) (hd : DirOk sl) (hsz : sl.length ≤ 1104) {q j : Nat} (hq : sl[q]? = some (some (nm, j))) {i : Nat} (hi : i < 4294967296) (hw : Rw p W 13) (hfit : tot Fm p.ino ≤ p.dc) : Spec Tryz.prog 36 #[.pointer (some ⟨s, 0, none⟩), nI d, sv nm, nI i] [IN s a c p F0 Fm W true] fun G v M => v = okV ∧ M = IN s a c p F0 (updM Fm d (some (2, dirB (setS sl q (some (nm, i)))))) (W + 8) true :: G := by
  refine Spec.intro Tryz.func36 rfl rfl fun B F => ?_
  simp only [Tryz.ntmps36, List.cons_append, List.nil_append, env0, Nat.reduceAdd]
  have hlt : q < sl.length := by
    by_cases h : q < sl.length
    · exact h
    · rw [List.getElem?_eq_none (by omega)] at hq; cases hq
  have hmx : max (64 * sl.length) (64 * q + 64) = 64 * sl.length := by omega
  refine WC.seq ?_
  refine WC.region ?_
  refine WL.assign ?_
  refine WL.nil ?_
  refine WQ.next ?_
  refine WC.seq ?_
  refine WC.region ?_
  refine WL.move ?_
  refine WL.move ?_
  refine WL.move ?_
  refine WL.call (hc := Tryz.call70) (sp := dChg (s := s) (a := a) (c := c) (p := p) (F0 := F0) (Fm := Fm) (W := W) (d := d) (nm := nm) ho hn hF hd hsz) (h := ?_)
  rintro _ _ ⟨mp, es, cl, rfl, hm, rfl⟩
  refine WL.move ?_
  refine WL.extract ?_
  refine WL.extract ?_
  refine WL.extract ?_
  refine WL.assign ?_
  refine WL.assign ?_
  refine WL.assign ?_
  refine WL.nil ?_
  refine WQ.next ?_
  refine WC.seq ?_
  refine WC.seq ?_
  refine WC.region ?_
  refine WL.move ?_
  refine WL.nei ?_
  refine WL.nil ?_
  refine WQ.next ?_
  refine WC.condF rfl rfl ?_
  refine WC.skip ?_
  refine WQ.next ?_
  refine WC.seq ?_
  refine WC.region ?_
  refine WL.move ?_
  refine WL.move ?_
  refine WL.call (hc := Tryz.call71) (sp := dOf (nameOk_len hn).2) (h := ?_)
  rintro _ _ ⟨rfl, rfl⟩
  refine WL.lookOk (k := keyK nm) klN hm mp117 zv121 ?_
  refine WL.cast (d := 29) (u := .tuple #[.agg #[nI (64 * q), nI j], .bool true]) rfl (by rw [kvF_has hd hq sl.length hlt]; rfl) ?_
  refine WL.move ?_
  refine WL.extract ?_
  refine WL.extract ?_
  refine WL.alloc z121 fun b12 => ?_
  refine WL.stV ?_ agg121
  refine WL.assign ?_
  refine WL.nil ?_
  refine WQ.next ?_
  refine WC.seq ?_
  refine WC.seq ?_
  refine WC.region ?_
  refine WL.move ?_
  refine WL.not ?_
  refine WL.nil ?_
  refine WQ.next ?_
  refine WC.condF rfl rfl ?_
  refine WC.skip ?_
  refine WQ.next ?_
  refine WC.seq ?_
  refine WC.region ?_
  refine WL.move ?_
  refine WL.move ?_
  refine WL.fa ?_ fo121_0
  refine WL.ld ?_ sc3
  refine WL.move ?_
  refine WL.move ?_
  refine WL.call (hc := Tryz.call72) (sp := dLay (s := s) (a := a) (c := c) (p := p) (F0 := F0) (Fm := Fm) (W := W) (d := d) (q := q) (i := i) (nm := nm) (sl := sl) ho hF (by omega) (by omega) (nameOk_len hn).2 hi hw (by rw [hmx]; omega)) (h := ?_)
  rintro _ _ ⟨rfl, rfl⟩
  refine WL.assign ?_
  refine WL.nil ?_
  refine WQ.next ?_
  refine WC.ret (?_)
  exact WQ.ret1 (h1 := .tmp (t := 8) rfl) ⟨_, ⟨rfl, rfl⟩, Am.auto⟩

theorem dRemove {s a c : Nat} {p : Pl} {F0 Fm : FM} {W : Nat} {d : Nat} {nm : Bytes} {sl : List Slot} (ho : PlOk p) (hn : nameOk nm = true) (hF : Fm d = some (2, dirB sl)) (hd : DirOk sl) (hsz : sl.length ≤ 1104) {q j : Nat} (hq : sl[q]? = some (some (nm, j))) (hw : Rw p W 13) (hfit : tot Fm p.ino ≤ p.dc) : Spec Tryz.prog 38 #[.pointer (some ⟨s, 0, none⟩), nI d, sv nm] [IN s a c p F0 Fm W true] fun G v M => v = okV ∧ M = IN s a c p F0 (updM Fm d (some (2, dirB (setS sl q none)))) (W + 8) true :: G := by
  refine Spec.intro Tryz.func38 rfl rfl fun B F => ?_
  simp only [Tryz.ntmps38, List.cons_append, List.nil_append, env0, Nat.reduceAdd]
  have hlt : q < sl.length := by
    by_cases h : q < sl.length
    · exact h
    · rw [List.getElem?_eq_none (by omega)] at hq; cases hq
  have hmx : max (64 * sl.length) (64 * q + 64) = 64 * sl.length := by omega
  have hdl := dirB_length sl
  have hsl := slotB_length none
  have hhs := has_slot sl.length q (by omega)
  refine WC.seq ?_
  refine WC.region ?_
  refine WL.assign ?_
  refine WL.nil ?_
  refine WQ.next ?_
  refine WC.seq ?_
  refine WC.region ?_
  refine WL.move ?_
  refine WL.move ?_
  refine WL.move ?_
  refine WL.call (hc := Tryz.call70) (sp := dChg (s := s) (a := a) (c := c) (p := p) (F0 := F0) (Fm := Fm) (W := W) (d := d) (nm := nm) ho hn hF hd hsz) (h := ?_)
  rintro _ _ ⟨mp, es, cl, rfl, hm, rfl⟩
  refine WL.move ?_
  refine WL.extract ?_
  refine WL.extract ?_
  refine WL.extract ?_
  refine WL.assign ?_
  refine WL.assign ?_
  refine WL.assign ?_
  refine WL.nil ?_
  refine WQ.next ?_
  refine WC.seq ?_
  refine WC.seq ?_
  refine WC.region ?_
  refine WL.move ?_
  refine WL.nei ?_
  refine WL.nil ?_
  refine WQ.next ?_
  refine WC.condF rfl rfl ?_
  refine WC.skip ?_
  refine WQ.next ?_
  refine WC.seq ?_
  refine WC.region ?_
  refine WL.move ?_
  refine WL.move ?_
  refine WL.call (hc := Tryz.call71) (sp := dOf (nameOk_len hn).2) (h := ?_)
  rintro _ _ ⟨rfl, rfl⟩
  refine WL.lookOk (k := keyK nm) klN hm mp117 zv121 ?_
  refine WL.cast (d := 27) (u := .tuple #[.agg #[nI (64 * q), nI j], .bool true]) rfl (by rw [kvF_has hd hq sl.length hlt]; rfl) ?_
  refine WL.move ?_
  refine WL.extract ?_
  refine WL.extract ?_
  refine WL.alloc z121 fun b10 => ?_
  refine WL.stV ?_ agg121
  refine WL.assign ?_
  refine WL.nil ?_
  refine WQ.next ?_
  refine WC.seq ?_
  refine WC.seq ?_
  refine WC.region ?_
  refine WL.move ?_
  refine WL.not ?_
  refine WL.nil ?_
  refine WQ.next ?_
  refine WC.condF rfl rfl ?_
  refine WC.skip ?_
  refine WQ.next ?_
  refine WC.seq ?_
  refine WC.draw ([pt b10 (.cells #[nI (64 * q), nI j] 121 (0, 0))]) [] 7 #[false, false, false, false, false, false, false] mixed (by kernel_rfl) NoPanic.autoJ ?_
  refine WD.take (i := 0) #[true, false, false, false, false, false, false] rfl (by kernel_rfl) (Qt.move ) ?_
  refine WD.take (i := 1) #[true, true, false, false, false, false, false] rfl (by kernel_rfl) (Qt.move ) ?_
  refine WD.take (i := 2) #[true, true, true, false, false, false, false] rfl (by kernel_rfl) (Qt.fa fo121_0) ?_
  refine WD.take (i := 3) #[true, true, true, true, false, false, false] rfl (by kernel_rfl) (Qt.ld sc3) ?_
  refine WD.one (i := 4) #[true, true, true, true, true, false, false] rfl (by kernel_rfl) fun hnp => ?_
  refine WL.mkSN 64 z5 so33 (by decide) (by decide) fun b36 => ?_
  refine WL.nil (WQ.wd hnp (.inl Am.auto) ?_)
  refine WD.one (i := 5) #[true, true, true, true, true, true, false] rfl (by kernel_rfl) fun hnp => ?_
  refine WL.to (A' := buf b36 5 64 (bvs (slotB none))) (fun h hh => by show buf _ _ _ (bvs (List.replicate 64 0)) _; rw [bvs_replicate]; exact hh) ?_
  refine WL.call (hc := Tryz.call20) (sp := nWrite (s := s) (a := a) (c := c) (p := p) (F0 := F0) (F := Fm) (W := W) (i := d) (at' := 64 * q) (f := (2, dirB sl)) (bs := slotB none) (m := 64) ho hF (hw.less (by show has (max (dirB sl).length (64 * q + 64)) - has (dirB sl).length + (64 + 511) / 512 + 10 ≤ 13; rw [hdl]; omega)) (.inr Reads.buf) hsl (Nat.le_refl _) (by decide) (by show 64 * q ≤ (dirB sl).length; omega) (by omega) (by show tot Fm p.ino + has (max (dirB sl).length (64 * q + 64)) ≤ p.dc + has (dirB sl).length; rw [hdl, hmx]; omega)) (h := ?_)
  rintro _ _ ⟨rfl, rfl⟩
  refine WL.nil (WQ.wd hnp (.inl Am.auto) ?_)
  refine WD.take (i := 6) #[true, true, true, true, true, true, true] rfl (by kernel_rfl) (Qt.assign ) ?_
  refine WD.done (by kernel_rfl) ?_
  refine WQ.next ?_
  refine WC.ret (?_)
  simp only [setS_wr (Nat.le_of_lt hlt)]
  refine WQ.to (A' := IN s a c p F0 (updM Fm d (some (2, dirB (setS sl q none)))) (W + 8) true) (fun h hh => IN.more (by show W + (has (max (dirB sl).length (64 * q + 64)) - has (dirB sl).length) + (64 + 511) / 512 + 5 ≤ W + 8; rw [hdl]; omega) h hh) ?_
  exact WQ.ret1 (h1 := .tmp (t := 6) rfl) ⟨_, ⟨rfl, rfl⟩, Am.auto⟩

end Go.Proofs.YtedmihapieleaaaGreat
