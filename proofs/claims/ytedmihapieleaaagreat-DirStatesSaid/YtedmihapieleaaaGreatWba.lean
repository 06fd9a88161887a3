/- Walks of the library's search for a rune that may not be in a name. -/
import Derived.Test.YtedmihapieleaaaGreatFa
import Derived.Test.YtedmihapieleaaaGreatWa
import Derived.Test.YtedmihapieleaaaGreatSv
import Derived.KernelRfl
set_option linter.unusedVariables false
set_option linter.unusedSimpArgs false
namespace Go.Proofs.YtedmihapieleaaaGreat
open Go
theorem un21 : Tryz.prog.underlying 21 = some (.int .i32) := by kernel_rfl

def sepIn (xs : Bytes) : Bool := xs.any fun b => b == 47 || b == 0
theorem sepIn_no {xs : Bytes} (h : ∀ (j : Nat) (hj : j < xs.length), xs[j] ≠ 47 ∧ xs[j] ≠ 0) : sepIn xs = false := by
  unfold sepIn
  rw [List.any_eq_false]
  intro b hb
  obtain ⟨j, hj, rfl⟩ := List.mem_iff_getElem.1 hb
  obtain ⟨h1, h2⟩ := h j hj
  simp [h1, h2]
theorem sepIn_yes {xs : Bytes} {j : Nat} (hj : j < xs.length) (h : xs[j] = 47 ∨ xs[j] = 0) : sepIn xs = true := by
  unfold sepIn
  rw [List.any_eq_true]
  exact ⟨xs[j], List.getElem_mem hj, by rcases h with h | h <;> simp [h]⟩
theorem idxByteX (xs : Bytes) (c : Int) (w : World) : (callFunc 178 #[sv xs, .int .u8 c]).run Tryz.prog w = .ok (.value (.int .i64 (Lib.indexByte xs c.toNat.toUInt8))) w := by
  rw [run_callFunc_extern Tryz.func178 (by kernel_rfl) (by kernel_rfl) (by kernel_rfl) (e := Extern.BytealgIndexByte.indexByte) (by kernel_rfl), sv_bstr, Lib.run_indexByteString]
  rfl
theorem sep_low : ∀ c : Nat, c < 128 → decide ((0 : Int) ≤ Lib.indexByte [47, 0] (c : Int).toNat.toUInt8) = decide (c = 47 ∨ c = 0) := by decide +kernel
theorem rune_sep0 : rune [47, 0] 0 = (47, 1) := rune_low (by decide) (by decide)
theorem rune_sep1 : rune [47, 0] 1 = (0, 1) := rune_low (by decide) (by decide)
def validR (c : Nat) : Bool := decide (c < 55296) || (decide (57343 < c) && decide (c ≤ 1114111))

theorem idxByteL {xs : Bytes} {c : Int} : Spec Tryz.prog 175 #[sv xs, .int .u8 c] [] fun F v M => v = .int .i64 (Lib.indexByte xs c.toNat.toUInt8) ∧ M = F := by
  refine Spec.intro Tryz.func175 rfl rfl fun B F => ?_
  simp only [Tryz.ntmps175, List.cons_append, List.nil_append, env0, Nat.reduceAdd]
  refine WC.seq ?_
  refine WC.region ?_
  refine WL.assign ?_
  refine WL.nil ?_
  refine WQ.next ?_
  refine WC.seq ?_
  refine WC.region ?_
  refine WL.move ?_
  refine WL.move ?_
  refine WL.callX (hc := idxByteX xs c) (h := ?_)
  refine WL.assign ?_
  refine WL.nil ?_
  refine WQ.next ?_
  refine WC.ret (?_)
  exact WQ.ret1 (h1 := .tmp (t := 4) rfl) ⟨_, ⟨rfl, rfl⟩, Am.auto⟩

theorem idxByte {xs : Bytes} {c : Int} : Spec Tryz.prog 162 #[sv xs, .int .u8 c] [] fun F v M => v = .int .i64 (Lib.indexByte xs c.toNat.toUInt8) ∧ M = F := by
  refine Spec.intro Tryz.func162 rfl rfl fun B F => ?_
  simp only [Tryz.ntmps162, List.cons_append, List.nil_append, env0, Nat.reduceAdd]
  refine WC.seq ?_
  refine WC.region ?_
  refine WL.assign ?_
  refine WL.nil ?_
  refine WQ.next ?_
  refine WC.seq ?_
  refine WC.region ?_
  refine WL.move ?_
  refine WL.move ?_
  refine WL.call (hc := Tryz.call175) (sp := idxByteL) (h := ?_)
  rintro _ _ ⟨rfl, rfl⟩
  refine WL.assign ?_
  refine WL.nil ?_
  refine WQ.next ?_
  refine WC.ret (?_)
  exact WQ.ret1 (h1 := .tmp (t := 4) rfl) ⟨_, ⟨rfl, rfl⟩, Am.auto⟩

theorem validRune {c : Nat} : Spec Tryz.prog 163 #[.int .i32 (c : Int)] [] fun F v M => v = .bool (validR c) ∧ M = F := by
  refine Spec.intro Tryz.func163 rfl rfl fun B F => ?_
  simp only [Tryz.ntmps163, List.cons_append, List.nil_append, env0, Nat.reduceAdd]
  unfold validR
  rcases (show c < 55296 ∨ (¬ c < 55296 ∧ 57343 < c ∧ c ≤ 1114111) ∨ (¬ c < 55296 ∧ ¬ 57343 < c) ∨ (¬ c < 55296 ∧ 57343 < c ∧ ¬ c ≤ 1114111) from by omega) with hc | hc | hc | hc
  · refine WC.seq ?_
    refine WC.region ?_
    refine WL.assign ?_
    refine WL.nil ?_
    refine WQ.next ?_
    refine WC.seq ?_
    refine WC.block ?_
    refine WC.seq ?_
    refine WC.region ?_
    refine WL.move ?_
    refine WL.leq ?_
    refine WL.move ?_
    refine WL.cast (d := 6) (u := .bool true) rfl (congrArg Value.bool (by first | (simp; done) | (simp; omega) | omega)) ?_
    refine WL.gT ?_
    refine WL.move ?_
    refine WL.gT ?_
    refine WL.lss ?_
    refine WL.pickT ?_
    refine WL.assign ?_
    refine WL.nil ?_
    refine WQ.next ?_
    refine WC.condT rfl (congrArg Value.bool (by first | (simp; done) | (simp; omega) | omega)) ?_
    refine WC.seq ?_
    refine WC.region ?_
    refine WL.assign ?_
    refine WL.nil ?_
    refine WQ.next ?_
    refine WC.ret (WQ.blockRet (WQ.thenRet (?_)))
    exact WQ.ret1 (h1 := .tmp (t := 2) rfl) ⟨_, ⟨by simp [hc], rfl⟩, Am.auto⟩
  · refine WC.seq ?_
    refine WC.region ?_
    refine WL.assign ?_
    refine WL.nil ?_
    refine WQ.next ?_
    refine WC.seq ?_
    refine WC.block ?_
    refine WC.seq ?_
    refine WC.region ?_
    refine WL.move ?_
    refine WL.leq ?_
    refine WL.move ?_
    refine WL.cast (d := 6) (u := .bool true) rfl (congrArg Value.bool (by first | (simp; done) | (simp; omega) | omega)) ?_
    refine WL.gT ?_
    refine WL.move ?_
    refine WL.gT ?_
    refine WL.lss ?_
    refine WL.pickT ?_
    refine WL.assign ?_
    refine WL.nil ?_
    refine WQ.next ?_
    refine WC.condF rfl (congrArg Value.bool (by first | (simp; done) | (simp; omega) | omega)) ?_
    refine WC.seq ?_
    refine WC.region ?_
    refine WL.move ?_
    refine WL.lss ?_
    refine WL.move ?_
    refine WL.cast (d := 13) (u := .bool true) rfl (congrArg Value.bool (by first | (simp; done) | (simp; omega) | omega)) ?_
    refine WL.gT ?_
    refine WL.move ?_
    refine WL.gT ?_
    refine WL.leq ?_
    refine WL.pickT ?_
    refine WL.assign ?_
    refine WL.nil ?_
    refine WQ.next ?_
    refine WC.condT rfl (congrArg Value.bool (by first | (simp; done) | (simp; omega) | omega)) ?_
    refine WC.seq ?_
    refine WC.region ?_
    refine WL.assign ?_
    refine WL.nil ?_
    refine WQ.next ?_
    refine WC.ret (WQ.blockRet (WQ.thenRet (?_)))
    exact WQ.ret1 (h1 := .tmp (t := 2) rfl) ⟨_, ⟨by simp [hc], rfl⟩, Am.auto⟩
  · refine WC.seq ?_
    refine WC.region ?_
    refine WL.assign ?_
    refine WL.nil ?_
    refine WQ.next ?_
    refine WC.seq ?_
    refine WC.block ?_
    refine WC.seq ?_
    refine WC.region ?_
    refine WL.move ?_
    refine WL.leq ?_
    refine WL.move ?_
    refine WL.cast (d := 6) (u := .bool true) rfl (congrArg Value.bool (by first | (simp; done) | (simp; omega) | omega)) ?_
    refine WL.gT ?_
    refine WL.move ?_
    refine WL.gT ?_
    refine WL.lss ?_
    refine WL.pickT ?_
    refine WL.assign ?_
    refine WL.nil ?_
    refine WQ.next ?_
    refine WC.condF rfl (congrArg Value.bool (by first | (simp; done) | (simp; omega) | omega)) ?_
    refine WC.seq ?_
    refine WC.region ?_
    refine WL.move ?_
    refine WL.lss ?_
    refine WL.move ?_
    refine WL.cast (d := 13) (u := .bool false) rfl (congrArg Value.bool (by first | (simp; done) | (simp; omega) | omega)) ?_
    refine WL.gF ?_
    refine WL.gF ?_
    refine WL.pickF ?_
    refine WL.assign ?_
    refine WL.nil ?_
    refine WQ.next ?_
    refine WC.condF rfl rfl ?_
    refine WC.skip ?_
    refine WQ.blockNormal ?_
    refine WQ.next ?_
    refine WC.seq ?_
    refine WC.region ?_
    refine WL.assign ?_
    refine WL.nil ?_
    refine WQ.next ?_
    refine WC.ret (?_)
    exact WQ.ret1 (h1 := .tmp (t := 2) rfl) ⟨_, ⟨by simp [hc], rfl⟩, Am.auto⟩
  · refine WC.seq ?_
    refine WC.region ?_
    refine WL.assign ?_
    refine WL.nil ?_
    refine WQ.next ?_
    refine WC.seq ?_
    refine WC.block ?_
    refine WC.seq ?_
    refine WC.region ?_
    refine WL.move ?_
    refine WL.leq ?_
    refine WL.move ?_
    refine WL.cast (d := 6) (u := .bool true) rfl (congrArg Value.bool (by first | (simp; done) | (simp; omega) | omega)) ?_
    refine WL.gT ?_
    refine WL.move ?_
    refine WL.gT ?_
    refine WL.lss ?_
    refine WL.pickT ?_
    refine WL.assign ?_
    refine WL.nil ?_
    refine WQ.next ?_
    refine WC.condF rfl (congrArg Value.bool (by first | (simp; done) | (simp; omega) | omega)) ?_
    refine WC.seq ?_
    refine WC.region ?_
    refine WL.move ?_
    refine WL.lss ?_
    refine WL.move ?_
    refine WL.cast (d := 13) (u := .bool true) rfl (congrArg Value.bool (by first | (simp; done) | (simp; omega) | omega)) ?_
    refine WL.gT ?_
    refine WL.move ?_
    refine WL.gT ?_
    refine WL.leq ?_
    refine WL.pickT ?_
    refine WL.assign ?_
    refine WL.nil ?_
    refine WQ.next ?_
    refine WC.condF rfl (congrArg Value.bool (by first | (simp; done) | (simp; omega) | omega)) ?_
    refine WC.skip ?_
    refine WQ.blockNormal ?_
    refine WQ.next ?_
    refine WC.seq ?_
    refine WC.region ?_
    refine WL.assign ?_
    refine WL.nil ?_
    refine WQ.next ?_
    refine WC.ret (?_)
    exact WQ.ret1 (h1 := .tmp (t := 2) rfl) ⟨_, ⟨by simp [hc], rfl⟩, Am.auto⟩

theorem idxRune {c : Nat} : Spec Tryz.prog 135 #[sv [47, 0], .int .i32 (c : Int)] [] fun F v M => ∃ r : Int, v = .int .i64 r ∧ decide (0 ≤ r) = decide (c = 47 ∨ c = 0) ∧ M = F := by
  refine Spec.intro Tryz.func135 rfl rfl fun B F => ?_
  simp only [Tryz.ntmps135, List.cons_append, List.nil_append, env0, Nat.reduceAdd]
  rcases (show c < 128 ∨ c = 65533 ∨ (¬ c < 128 ∧ c ≠ 65533) from by omega) with hc | hc | hc
  · refine WC.seq ?_
    refine WC.region ?_
    refine WL.assign ?_
    refine WL.nil ?_
    refine WQ.next ?_
    refine WC.block ?_
    refine WC.seq ?_
    refine WC.region ?_
    refine WL.move ?_
    refine WL.leq ?_
    refine WL.move ?_
    refine WL.cast (d := 163) (u := .bool true) rfl (congrArg Value.bool (by first | (simp; done) | (simp; omega) | omega)) ?_
    refine WL.gT ?_
    refine WL.move ?_
    refine WL.gT ?_
    refine WL.lss ?_
    refine WL.pickT ?_
    refine WL.assign ?_
    refine WL.nil ?_
    refine WQ.next ?_
    refine WC.condT rfl (congrArg Value.bool (by first | (simp; done) | (simp; omega) | omega)) ?_
    refine WC.seq ?_
    refine WC.region ?_
    refine WL.move ?_
    refine WL.move ?_
    refine WL.cvt ?_ un21 un5
    refine WL.cast (d := 169) (u := .int .u8 (c : Int)) rfl (congrArg (Value.int .u8) (IntWalk.u8_in _ (by omega))) ?_
    refine WL.call (hc := Tryz.call162) (sp := idxByte (xs := [47, 0]) (c := (c : Int))) (h := ?_)
    rintro _ _ ⟨rfl, rfl⟩
    refine WL.assign ?_
    refine WL.nil ?_
    refine WQ.next ?_
    refine WC.ret (WQ.blockRet (?_))
    exact WQ.ret1 (h1 := .tmp (t := 4) rfl) ⟨_, ⟨_, rfl, sep_low c hc, rfl⟩, Am.auto⟩
  · subst hc
    refine WC.seq ?_
    refine WC.region ?_
    refine WL.assign ?_
    refine WL.nil ?_
    refine WQ.next ?_
    refine WC.block ?_
    refine WC.seq ?_
    refine WC.region ?_
    refine WL.move ?_
    refine WL.leq ?_
    refine WL.move ?_
    refine WL.cast (d := 163) (u := .bool true) rfl (congrArg Value.bool (by first | (simp; done) | (simp; omega) | omega)) ?_
    refine WL.gT ?_
    refine WL.move ?_
    refine WL.gT ?_
    refine WL.lss ?_
    refine WL.pickT ?_
    refine WL.assign ?_
    refine WL.nil ?_
    refine WQ.next ?_
    refine WC.condF rfl (congrArg Value.bool (by first | (simp; done) | (simp; omega) | omega)) ?_
    refine WC.seq ?_
    refine WC.region ?_
    refine WL.move ?_
    refine WL.eqi ?_
    refine WL.assign ?_
    refine WL.nil ?_
    refine WQ.next ?_
    refine WC.condT rfl rfl ?_
    refine WC.seq ?_
    refine WC.seq ?_
    refine WC.region ?_
    refine WL.move ?_
    refine WL.rangeT [47, 0] st9 (fun it => ?_)
    refine WL.nil ?_
    refine WQ.next ?_
    refine WC.block ?_
    refine WC.loopN 3 (RC.succ ?_)
    refine WC.seq ?_
    refine WC.region ?_
    refine WL.nextT (k := 0) [47, 0] (fun hk => absurd (by decide) hk) (fun _ => ?_)
    rw [rune_sep0]
    refine WL.extract ?_
    refine WL.nil ?_
    refine WQ.next ?_
    refine WC.seq ?_
    refine WC.condT rfl rfl ?_
    refine WC.skip ?_
    refine WQ.next ?_
    refine WC.block ?_
    refine WC.seq ?_
    refine WC.region ?_
    refine WL.extract ?_
    refine WL.extract ?_
    refine WL.assign ?_
    refine WL.assign ?_
    refine WL.nil ?_
    refine WQ.next ?_
    refine WC.seq ?_
    refine WC.region ?_
    refine WL.move ?_
    refine WL.eqi ?_
    refine WL.nil ?_
    refine WQ.next ?_
    refine WC.condF rfl rfl ?_
    refine WC.skip ?_
    refine WQ.blockNormal ?_
    refine WQ.again (RC.succ ?_)
    refine WC.seq ?_
    refine WC.region ?_
    refine WL.nextT (k := 1) [47, 0] (fun hk => absurd (by decide) hk) (fun _ => ?_)
    rw [rune_sep1]
    refine WL.extract ?_
    refine WL.nil ?_
    refine WQ.next ?_
    refine WC.seq ?_
    refine WC.condT rfl rfl ?_
    refine WC.skip ?_
    refine WQ.next ?_
    refine WC.block ?_
    refine WC.seq ?_
    refine WC.region ?_
    refine WL.extract ?_
    refine WL.extract ?_
    refine WL.assign ?_
    refine WL.assign ?_
    refine WL.nil ?_
    refine WQ.next ?_
    refine WC.seq ?_
    refine WC.region ?_
    refine WL.move ?_
    refine WL.eqi ?_
    refine WL.nil ?_
    refine WQ.next ?_
    refine WC.condF rfl rfl ?_
    refine WC.skip ?_
    refine WQ.blockNormal ?_
    refine WQ.again (RC.succ ?_)
    refine WC.seq ?_
    refine WC.region ?_
    refine WL.nextT (k := 2) [47, 0] (fun _ => ?_) (fun hk => absurd hk (by decide))
    refine WL.extract ?_
    refine WL.nil ?_
    refine WQ.next ?_
    refine WC.seq ?_
    refine WC.condF rfl rfl ?_
    refine WC.exit (WQ.thenExit (WQ.thenExit (WQ.blockExit (?_))))
    refine WQ.next ?_
    refine WC.seq ?_
    refine WC.region ?_
    refine WL.assign ?_
    refine WL.nil ?_
    refine WQ.next ?_
    refine WC.ret (WQ.blockRet (?_))
    exact WQ.ret1 (h1 := .tmp (t := 4) rfl) ⟨_, ⟨_, rfl, by decide, rfl⟩, Am.auto⟩
  · obtain ⟨l, hl, hl2, hl4, hlast⟩ := encode_high (c := c) (by omega)
    refine WC.seq ?_
    refine WC.region ?_
    refine WL.assign ?_
    refine WL.nil ?_
    refine WQ.next ?_
    refine WC.block ?_
    refine WC.seq ?_
    refine WC.region ?_
    refine WL.move ?_
    refine WL.leq ?_
    refine WL.move ?_
    refine WL.cast (d := 163) (u := .bool true) rfl (congrArg Value.bool (by first | (simp; done) | (simp; omega) | omega)) ?_
    refine WL.gT ?_
    refine WL.move ?_
    refine WL.gT ?_
    refine WL.lss ?_
    refine WL.pickT ?_
    refine WL.assign ?_
    refine WL.nil ?_
    refine WQ.next ?_
    refine WC.condF rfl (congrArg Value.bool (by first | (simp; done) | (simp; omega) | omega)) ?_
    refine WC.seq ?_
    refine WC.region ?_
    refine WL.move ?_
    refine WL.eqi ?_
    refine WL.assign ?_
    refine WL.nil ?_
    refine WQ.next ?_
    refine WC.condF rfl (congrArg Value.bool (by first | (simp; done) | (simp; omega) | omega)) ?_
    refine WC.seq ?_
    refine WC.region ?_
    refine WL.move ?_
    refine WL.call (hc := Tryz.call163) (sp := validRune (c := c)) (h := ?_)
    rintro _ _ ⟨rfl, rfl⟩
    refine WL.not ?_
    refine WL.assign ?_
    refine WL.nil ?_
    refine WQ.next ?_
    cases hv : validR c
    · refine WC.condT rfl rfl ?_
      refine WC.seq ?_
      refine WC.region ?_
      refine WL.assign ?_
      refine WL.nil ?_
      refine WQ.next ?_
      refine WC.ret (WQ.blockRet (?_))
      exact WQ.ret1 (h1 := .tmp (t := 4) rfl) ⟨_, ⟨_, rfl, by rw [decide_eq_false (by decide), decide_eq_false (by omega)], rfl⟩, Am.auto⟩
    · refine WC.condF rfl rfl ?_
      refine WC.scope ?_
      refine WC.seq ?_
      refine WC.region ?_
      refine WL.move ?_
      refine WL.pure ?_ rfl (Qt.cvtRT un21 st9)
      rw [hl]
      refine WL.assign ?_
      refine WL.nil ?_
      refine WQ.next ?_
      refine WC.seq ?_
      refine WC.region ?_
      refine WL.move ?_
      refine WL.lenT _ ?_ st9
      refine WL.sub ?_
      refine WL.assign ?_
      refine WL.nil ?_
      refine WQ.next ?_
      refine WC.seq ?_
      refine WC.region ?_
      refine WL.move ?_
      refine WL.assign ?_
      refine WL.nil ?_
      refine WQ.next ?_
      refine WC.seq ?_
      refine WC.region ?_
      refine WL.assign ?_
      refine WL.nil ?_
      refine WQ.next ?_
      refine WC.seq ?_
      refine WC.block ?_
      rcases (show l.length = 2 ∨ 3 ≤ l.length from by omega) with hl3 | hl3
      · obtain ⟨x, hx⟩ : ∃ x, l[1]? = some x := ⟨_, List.getElem?_eq_getElem (by omega)⟩
        have hx8 : 128 ≤ x.toNat := hlast x (by rw [List.getLast?_eq_getElem?, hl3]; exact hx)
        rw [hl3]
        refine WC.loopN 2 (RC.succ ?_)
        refine WC.seq ?_
        refine WC.seq ?_
        refine WC.region ?_
        refine WL.move ?_
        refine WL.move ?_
        refine WL.lenT _ ?_ st9
        refine WL.lss ?_
        refine WL.nil ?_
        refine WQ.next ?_
        refine WC.condT rfl rfl ?_
        refine WC.skip ?_
        refine WQ.next ?_
        refine WC.block ?_
        refine WC.scope ?_
        refine WC.seq ?_
        refine WC.seq ?_
        refine WC.draw ([]) [] 7 #[false, false, false, false, false, false, false] mixed (by kernel_rfl) NoPanic.autoS ?_
        refine WD.take (i := 0) #[true, false, false, false, false, false, false] rfl (by kernel_rfl) (Qt.move ) ?_
        refine WD.take (i := 1) #[true, true, false, false, false, false, false] rfl (by kernel_rfl) (Qt.move ) ?_
        refine WD.take (i := 2) #[true, true, true, false, false, false, false] rfl (by kernel_rfl) (Qt.ixT (p := 1) (v := 0) [47, 0] st9 rfl) ?_
        refine WD.take (i := 3) #[true, true, true, true, false, false, false] rfl (by kernel_rfl) (Qt.move ) ?_
        refine WD.take (i := 4) #[true, true, true, true, true, false, false] rfl (by kernel_rfl) (Qt.move ) ?_
        refine WD.take (i := 5) #[true, true, true, true, true, true, false] rfl (by kernel_rfl) (Qt.ixT (p := 1) (v := x) l st9 hx) ?_
        refine WD.take (i := 6) #[true, true, true, true, true, true, true] rfl (by kernel_rfl) ((Qt.nei).eq (v' := .bool true) (congrArg Value.bool (show (!decide ((0 : Int) = (x.toNat : Int))) = true from by rw [decide_eq_false (by omega)]; rfl))) ?_
        refine WD.done (by kernel_rfl) ?_
        refine WQ.next ?_
        refine WC.condT rfl rfl ?_
        refine WC.seq ?_
        refine WC.draw ([]) [] 9 #[false, false, false, false, false, false, false, false, false] mixed (by kernel_rfl) NoPanic.autoS ?_
        refine WD.take (i := 0) #[true, false, false, false, false, false, false, false, false] rfl (by kernel_rfl) (Qt.move ) ?_
        refine WD.take (i := 1) #[true, true, false, false, false, false, false, false, false] rfl (by kernel_rfl) (Qt.move ) ?_
        refine WD.take (i := 2) #[true, true, true, false, false, false, false, false, false] rfl (by kernel_rfl) (Qt.add ) ?_
        refine WD.take (i := 3) #[true, true, true, true, false, false, false, false, false] rfl (by kernel_rfl) (Qt.subT (p := 1 + 1) [47, 0] st9 (hp := ⟨by decide, by decide⟩)) ?_
        refine WD.take (i := 4) #[true, true, true, true, true, false, false, false, false] rfl (by kernel_rfl) (Qt.move ) ?_
        refine WD.take (i := 5) #[true, true, true, true, true, true, false, false, false] rfl (by kernel_rfl) (Qt.move ) ?_
        refine WD.take (i := 6) #[true, true, true, true, true, true, true, false, false] rfl (by kernel_rfl) (Qt.ixT (p := 1) (v := x) l st9 hx) ?_
        refine WD.one (i := 7) #[true, true, true, true, true, true, true, true, false] rfl (by kernel_rfl) fun hnp => ?_
        refine WL.call (hc := Tryz.call162) (sp := idxByte (xs := []) (c := (x.toNat : Int))) (h := ?_)
        rintro _ _ ⟨rfl, rfl⟩
        refine WL.nil (WQ.wd hnp (.inl Am.auto) ?_)
        refine WD.take (i := 8) #[true, true, true, true, true, true, true, true, true] rfl (by kernel_rfl) (Qt.assign ) ?_
        refine WD.done (by kernel_rfl) ?_
        refine WQ.next ?_
        refine WC.seq ?_
        refine WC.seq ?_
        refine WC.region ?_
        refine WL.move ?_
        refine WL.lss ?_
        refine WL.nil ?_
        refine WQ.next ?_
        refine WC.condT rfl rfl ?_
        refine WC.seq ?_
        refine WC.region ?_
        refine WL.assign ?_
        refine WL.nil ?_
        refine WQ.next ?_
        refine WC.ret (WQ.thenRet (WQ.thenRet (WQ.scopeRet (WQ.blockRet (WQ.thenRet (WQ.blockRet (WQ.thenRet (WQ.scopeRet (WQ.blockRet (?_))))))))))
        exact WQ.ret1 (h1 := .tmp (t := 4) rfl) ⟨_, ⟨_, rfl, by rw [decide_eq_false (by decide), decide_eq_false (by omega)], rfl⟩, Am.auto⟩
      · refine WC.loopN 1 (RC.succ ?_)
        refine WC.seq ?_
        refine WC.seq ?_
        refine WC.region ?_
        refine WL.move ?_
        refine WL.move ?_
        refine WL.lenT _ ?_ st9
        refine WL.lss ?_
        refine WL.nil ?_
        refine WQ.next ?_
        refine WC.condF rfl (congrArg Value.bool (by first | (simp; done) | (simp; omega) | omega)) ?_
        refine WC.exit (WQ.thenExit (WQ.thenExit (WQ.blockExit (?_))))
        refine WQ.next ?_
        refine WC.seq ?_
        refine WC.seq ?_
        refine WC.region ?_
        refine WL.assign ?_
        refine WL.nil ?_
        refine WQ.next ?_
        refine WC.ret (WQ.thenRet (WQ.scopeRet (WQ.blockRet (?_))))
        exact WQ.ret1 (h1 := .tmp (t := 4) rfl) ⟨_, ⟨_, rfl, by rw [decide_eq_false (by decide), decide_eq_false (by omega)], rfl⟩, Am.auto⟩

end Go.Proofs.YtedmihapieleaaaGreat
