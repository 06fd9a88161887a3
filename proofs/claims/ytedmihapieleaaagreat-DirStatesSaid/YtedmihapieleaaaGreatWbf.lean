/- Walks of bollardlaw9: awake, DirNames, DirStates. -/
import Derived.Test.YtedmihapieleaaaGreatFa
import Derived.Test.YtedmihapieleaaaGreatWbe
import Derived.KernelRfl
set_option linter.unusedVariables false
set_option linter.unusedSimpArgs false
namespace Go.Proofs.YtedmihapieleaaaGreat
open Go
theorem bk4 : boolOk Tryz.prog 4 = true := by kernel_rfl
theorem l9Awake : Spec Tryz.prog 32 #[] [] fun F v M => v = .bool true ∧ M = F := by
  refine Spec.intro Tryz.func32 rfl rfl fun B F => ?_
  simp only [Tryz.ntmps32, List.cons_append, List.nil_append, env0, Nat.reduceAdd]
  have hpn : PlIs (pN 300) := pN_is (by decide) (by decide)
  have ho : PlOk (pN 300) := hpn.ok
  have hd1 : DirOk [some ([97], 5)] := DirOk.nil.set (q := 0) (n := [97]) (i := 5) (Nat.le_refl _) (by decide) (by decide) (by intro r j hr h; simp at h)
  have hd2 : DirOk [some ([97], 5), some ([98], 6)] := hd1.set (q := 1) (n := [98]) (i := 6) (by decide) (by decide) (by decide) (by intro r j hr h; rcases r with _ | r <;> simp at h)
  have hd3 : DirOk [none, some ([98], 6)] := hd2.gone (q := 0) (by decide)
  have hd4 : DirOk [some ([99], 7), some ([98], 6)] := hd3.set (q := 0) (n := [99]) (i := 7) (by decide) (by decide) (by decide) (by intro r j hr h; rcases r with _ | _ | r <;> simp at h)
  refine WC.seq ?_
  refine WC.region ?_
  refine WL.assign ?_
  refine WL.nil ?_
  refine WQ.next ?_
  refine WC.seq ?_
  refine WC.region ?_
  refine WL.call (hc := Tryz.call33) (sp := l9Fresh (p := pN 300) (pN_is (n := 300) (by decide) (by decide)) rfl (by decide)) (h := ?_)
  rintro _ _ ⟨c, a, s, rfl, rfl⟩
  refine WL.move ?_
  refine WL.extract ?_
  refine WL.extract ?_
  refine WL.extract ?_
  refine WL.extract ?_
  refine WL.assign ?_
  refine WL.assign ?_
  refine WL.assign ?_
  refine WL.assign ?_
  refine WL.nil ?_
  refine WQ.next ?_
  refine WC.seq ?_
  refine WC.seq ?_
  refine WC.region ?_
  refine WL.move ?_
  refine WL.not ?_
  refine WL.move ?_
  refine WL.gT ?_
  refine WL.move ?_
  refine WL.gT ?_
  refine WL.call (hc := Tryz.call34) (sp := dAdd (s := s) (a := a) (c := c) (p := pN 300) (F0 := DM [] []) (Fm := DM [] []) (W := 0) (d := 0) (nm := [97]) (sl := []) ho rfl (DM_0 _ _) DirOk.nil (by decide) (by intro q i h; rcases q with _ | _ | q <;> simp at h) (i := 5) (by decide) (.inl (by decide)) (by decide) (by rw [tot_DM _ _ (by decide)]; decide)) (h := ?_)
  rintro _ _ ⟨rfl, rfl⟩
  rw [DM_upd0, show setS [] (freeS []) (some ([97], 5)) = [some ([97], 5)] from rfl]
  refine WL.gT ?_
  refine WL.nei ?_
  refine WL.pickF ?_
  refine WL.move ?_
  refine WL.gT ?_
  refine WL.move ?_
  refine WL.gT ?_
  refine WL.call (hc := Tryz.call34) (sp := dAdd (s := s) (a := a) (c := c) (p := pN 300) (F0 := DM [] []) (Fm := DM [some ([97], 5)] []) (W := 0 + 8) (d := 0) (nm := [98]) (sl := [some ([97], 5)]) ho rfl (DM_0 _ _) hd1 (by decide) (by intro q i h; rcases q with _ | _ | q <;> simp at h) (i := 6) (by decide) (.inl (by decide)) (by decide) (by rw [tot_DM _ _ (by decide)]; decide)) (h := ?_)
  rintro _ _ ⟨rfl, rfl⟩
  rw [DM_upd0, show setS [some ([97], 5)] (freeS [some ([97], 5)]) (some ([98], 6)) = [some ([97], 5), some ([98], 6)] from rfl]
  refine WL.gT ?_
  refine WL.nei ?_
  refine WL.pickF ?_
  refine WL.move ?_
  refine WL.gT ?_
  refine WL.move ?_
  refine WL.gT ?_
  refine WL.call (hc := Tryz.call38) (sp := dRemove (s := s) (a := a) (c := c) (p := pN 300) (F0 := DM [] []) (Fm := DM [some ([97], 5), some ([98], 6)] []) (W := 0 + 8 + 8) (d := 0) (nm := [97]) (sl := [some ([97], 5), some ([98], 6)]) (q := 0) (j := 5) ho rfl (DM_0 _ _) hd2 (by decide) rfl (.inl (by decide)) (by rw [tot_DM _ _ (by decide)]; decide)) (h := ?_)
  rintro _ _ ⟨rfl, rfl⟩
  rw [DM_upd0, show setS [some ([97], 5), some ([98], 6)] 0 none = [none, some ([98], 6)] from rfl]
  refine WL.gT ?_
  refine WL.nei ?_
  refine WL.pickF ?_
  refine WL.move ?_
  refine WL.gT ?_
  refine WL.move ?_
  refine WL.gT ?_
  refine WL.call (hc := Tryz.call34) (sp := dAdd (s := s) (a := a) (c := c) (p := pN 300) (F0 := DM [] []) (Fm := DM [none, some ([98], 6)] []) (W := 0 + 8 + 8 + 8) (d := 0) (nm := [99]) (sl := [none, some ([98], 6)]) ho rfl (DM_0 _ _) hd3 (by decide) (by intro q i h; rcases q with _ | _ | q <;> simp at h) (i := 7) (by decide) (.inl (by decide)) (by decide) (by rw [tot_DM _ _ (by decide)]; decide)) (h := ?_)
  rintro _ _ ⟨rfl, rfl⟩
  rw [DM_upd0, show setS [none, some ([98], 6)] (freeS [none, some ([98], 6)]) (some ([99], 7)) = [some ([99], 7), some ([98], 6)] from rfl]
  refine WL.gT ?_
  refine WL.nei ?_
  refine WL.pickF ?_
  refine WL.nil ?_
  refine WQ.next ?_
  refine WC.condF rfl rfl ?_
  refine WC.skip ?_
  refine WQ.next ?_
  refine WC.seq ?_
  refine WC.region ?_
  refine WL.move ?_
  refine WL.call (hc := Tryz.call29) (sp := nStat (s := s) (a := a) (c := c) (p := pN 300) (F0 := DM [] []) (F := DM [some ([99], 7), some ([98], 6)] []) (W := 0 + 8 + 8 + 8 + 8) (op := true) (i := 0) (f := (2, dirB [some ([99], 7), some ([98], 6)])) ho (DM_0 _ _)) (h := ?_)
  rintro _ _ ⟨rfl, rfl⟩
  refine WL.move ?_
  refine WL.extract ?_
  refine WL.extract ?_
  refine WL.alloc z55 fun b5 => ?_
  refine WL.stV ?_ agg55
  refine WL.assign ?_
  refine WL.nil ?_
  refine WQ.next ?_
  refine WC.seq ?_
  refine WC.region ?_
  refine WL.move ?_
  refine WL.call (hc := Tryz.call37) (sp := dFind (s := s) (a := a) (c := c) (p := pN 300) (F0 := DM [] []) (Fm := DM [some ([99], 7), some ([98], 6)] []) (W := 0 + 8 + 8 + 8 + 8) (op := true) (d := 0) (nm := [99]) (sl := [some ([99], 7), some ([98], 6)]) (q := 0) (j := 7) ho rfl (DM_0 _ _) hd4 (by decide) rfl) (h := ?_)
  rintro _ _ ⟨rfl, rfl⟩
  refine WL.move ?_
  refine WL.extract ?_
  refine WL.extract ?_
  refine WL.assign ?_
  refine WL.assign ?_
  refine WL.nil ?_
  refine WQ.next ?_
  refine WC.seq ?_
  refine WC.region ?_
  refine WL.move ?_
  refine WL.eqi ?_
  refine WL.move ?_
  refine WL.gT ?_
  refine WL.move ?_
  refine WL.gT ?_
  refine WL.eqi ?_
  refine WL.pickT ?_
  refine WL.move ?_
  refine WL.gT ?_
  refine WL.fa ?_ fo55_1
  refine WL.gT ?_
  refine WL.ld ?_ sc3
  refine WL.cast (d := 55) (u := .int .i64 128) rfl (congrArg (Value.int .i64) (by show ((dirB [some ([99], 7), some ([98], 6)]).length : Int) = 128; rw [dirB_length]; rfl)) ?_
  refine WL.gT ?_
  refine WL.eqi ?_
  refine WL.pickT ?_
  refine WL.move ?_
  refine WL.gT ?_
  refine WL.move ?_
  refine WL.gT ?_
  refine WL.eqi ?_
  refine WL.pickT ?_
  refine WL.move ?_
  refine WL.gT ?_
  refine WL.call (hc := Tryz.call30) (sp := dName (xs := [97])) (h := ?_)
  rintro _ _ ⟨rfl, rfl⟩
  refine WL.pickT ?_
  refine WL.move ?_
  refine WL.gT ?_
  refine WL.call (hc := Tryz.call30) (sp := dName (xs := [46, 46])) (h := ?_)
  rintro _ _ ⟨rfl, rfl⟩
  refine WL.gT ?_
  refine WL.not ?_
  refine WL.pickT ?_
  refine WL.assign ?_
  refine WL.nil ?_
  refine WQ.next ?_
  refine WC.ret (?_)
  exact WQ.ret1 (h1 := .tmp (t := 0) rfl) ⟨_, ⟨rfl, rfl⟩, Am.auto⟩


theorem sepIn_iff (xs : Bytes) : sepIn xs = false ↔ ∀ (j : Nat) (hj : j < xs.length), xs[j] ≠ 47 ∧ xs[j] ≠ 0 := by
  refine ⟨fun h j hj => ?_, sepIn_no⟩
  refine ⟨fun h2 => ?_, fun h2 => ?_⟩
  · rw [sepIn_yes hj (.inl h2)] at h; cases h
  · rw [sepIn_yes hj (.inr h2)] at h; cases h

theorem refName {xs : Bytes} : Spec Tryz.prog 31 #[sv xs] [] fun F v M => v = .bool (nameOk xs) ∧ M = F := by
  refine Spec.intro Tryz.func31 rfl rfl fun B F => ?_
  simp only [Tryz.ntmps31, List.cons_append, List.nil_append, env0, Nat.reduceAdd]
  by_cases h1 : xs = []
  · refine WC.seq ?_
    refine WC.region ?_
    refine WL.assign ?_
    refine WL.nil ?_
    refine WQ.next ?_
    refine WC.seq ?_
    refine WC.seq ?_
    refine WC.region ?_
    refine WL.move ?_
    refine WL.eqS _ _ ?_
    refine WL.cast (d := 5) (u := .bool true) rfl (congrArg Value.bool (by simp [h1])) ?_
    refine WL.move ?_
    refine WL.gF ?_
    refine WL.gF ?_
    refine WL.gF ?_
    refine WL.pickT ?_
    refine WL.move ?_
    refine WL.gF ?_
    refine WL.gF ?_
    refine WL.pickT ?_
    refine WL.move ?_
    refine WL.gF ?_
    refine WL.gF ?_
    refine WL.pickT ?_
    refine WL.nil ?_
    refine WQ.next ?_
    refine WC.condT rfl rfl ?_
    refine WC.seq ?_
    refine WC.region ?_
    refine WL.assign ?_
    refine WL.nil ?_
    refine WQ.next ?_
    refine WC.ret (WQ.thenRet (?_))
    exact WQ.ret1 (h1 := .tmp (t := 2) rfl) ⟨_, ⟨by unfold nameOk; simp [h1], rfl⟩, Am.auto⟩
  · by_cases h2 : xs.length ≤ 50
    · by_cases h4 : xs = [46]
      · refine WC.seq ?_
        refine WC.region ?_
        refine WL.assign ?_
        refine WL.nil ?_
        refine WQ.next ?_
        refine WC.seq ?_
        refine WC.seq ?_
        refine WC.region ?_
        refine WL.move ?_
        refine WL.eqS _ _ ?_
        refine WL.cast (d := 5) (u := .bool false) rfl (congrArg Value.bool (by simp [h1])) ?_
        refine WL.move ?_
        refine WL.gT ?_
        refine WL.move ?_
        refine WL.gT ?_
        refine WL.lenT _ ?_ st9
        refine WL.gT ?_
        refine WL.gtr ?_
        refine WL.pickF ?_
        refine WL.move ?_
        refine WL.cast (d := 11) (u := .bool false) rfl (congrArg Value.bool (by first | (simp; done) | (simp; omega) | omega)) ?_
        refine WL.gT ?_
        refine WL.move ?_
        refine WL.gT ?_
        refine WL.eqS _ _ ?_
        refine WL.cast (d := 13) (u := .bool true) rfl (congrArg Value.bool (by simp [h4])) ?_
        refine WL.pickF ?_
        refine WL.move ?_
        refine WL.gF ?_
        refine WL.gF ?_
        refine WL.pickT ?_
        refine WL.nil ?_
        refine WQ.next ?_
        refine WC.condT rfl rfl ?_
        refine WC.seq ?_
        refine WC.region ?_
        refine WL.assign ?_
        refine WL.nil ?_
        refine WQ.next ?_
        refine WC.ret (WQ.thenRet (?_))
        exact WQ.ret1 (h1 := .tmp (t := 2) rfl) ⟨_, ⟨by unfold nameOk; simp [h4], rfl⟩, Am.auto⟩
      · by_cases h5 : xs = [46, 46]
        · refine WC.seq ?_
          refine WC.region ?_
          refine WL.assign ?_
          refine WL.nil ?_
          refine WQ.next ?_
          refine WC.seq ?_
          refine WC.seq ?_
          refine WC.region ?_
          refine WL.move ?_
          refine WL.eqS _ _ ?_
          refine WL.cast (d := 5) (u := .bool false) rfl (congrArg Value.bool (by simp [h1])) ?_
          refine WL.move ?_
          refine WL.gT ?_
          refine WL.move ?_
          refine WL.gT ?_
          refine WL.lenT _ ?_ st9
          refine WL.gT ?_
          refine WL.gtr ?_
          refine WL.pickF ?_
          refine WL.move ?_
          refine WL.cast (d := 11) (u := .bool false) rfl (congrArg Value.bool (by first | (simp; done) | (simp; omega) | omega)) ?_
          refine WL.gT ?_
          refine WL.move ?_
          refine WL.gT ?_
          refine WL.eqS _ _ ?_
          refine WL.cast (d := 13) (u := .bool false) rfl (congrArg Value.bool (by simp [h4])) ?_
          refine WL.pickF ?_
          refine WL.move ?_
          refine WL.gT ?_
          refine WL.move ?_
          refine WL.gT ?_
          refine WL.eqS _ _ ?_
          refine WL.cast (d := 17) (u := .bool true) rfl (congrArg Value.bool (by simp [h5])) ?_
          refine WL.pickF ?_
          refine WL.nil ?_
          refine WQ.next ?_
          refine WC.condT rfl rfl ?_
          refine WC.seq ?_
          refine WC.region ?_
          refine WL.assign ?_
          refine WL.nil ?_
          refine WQ.next ?_
          refine WC.ret (WQ.thenRet (?_))
          exact WQ.ret1 (h1 := .tmp (t := 2) rfl) ⟨_, ⟨by unfold nameOk; simp [h5], rfl⟩, Am.auto⟩
        · refine WC.seq ?_
          refine WC.region ?_
          refine WL.assign ?_
          refine WL.nil ?_
          refine WQ.next ?_
          refine WC.seq ?_
          refine WC.seq ?_
          refine WC.region ?_
          refine WL.move ?_
          refine WL.eqS _ _ ?_
          refine WL.cast (d := 5) (u := .bool false) rfl (congrArg Value.bool (by simp [h1])) ?_
          refine WL.move ?_
          refine WL.gT ?_
          refine WL.move ?_
          refine WL.gT ?_
          refine WL.lenT _ ?_ st9
          refine WL.gT ?_
          refine WL.gtr ?_
          refine WL.pickF ?_
          refine WL.move ?_
          refine WL.cast (d := 11) (u := .bool false) rfl (congrArg Value.bool (by first | (simp; done) | (simp; omega) | omega)) ?_
          refine WL.gT ?_
          refine WL.move ?_
          refine WL.gT ?_
          refine WL.eqS _ _ ?_
          refine WL.cast (d := 13) (u := .bool false) rfl (congrArg Value.bool (by simp [h4])) ?_
          refine WL.pickF ?_
          refine WL.move ?_
          refine WL.gT ?_
          refine WL.move ?_
          refine WL.gT ?_
          refine WL.eqS _ _ ?_
          refine WL.cast (d := 17) (u := .bool false) rfl (congrArg Value.bool (by simp [h5])) ?_
          refine WL.pickF ?_
          refine WL.nil ?_
          refine WQ.next ?_
          refine WC.condF rfl rfl ?_
          refine WC.skip ?_
          refine WQ.next ?_
          refine WC.seq ?_
          refine WC.seq ?_
          refine WC.region ?_
          refine WL.assign ?_
          refine WL.nil ?_
          refine WQ.next ?_
          refine WC.block ?_
          have hok : nameOk xs = !sepIn xs := by unfold nameOk; simp [h1, h2, h4, h5]
          refine WC.loopA (σ := Nat) (fun i => [(0, sv xs), (3, .int .i64 (i : Int))]) (fun _ => F) (fun i => i ≤ xs.length ∧ ∀ (j : Nat), j < i → ∀ (hj : j < xs.length), xs[j] ≠ 47 ∧ xs[j] ≠ 0) (fun i => xs.length - i) 0 ⟨Nat.zero_le _, fun j hj => by omega⟩ ?_
          rintro i hi
          refine WC.seq ?_
          refine WC.seq ?_
          refine WC.region ?_
          refine WL.move ?_
          refine WL.move ?_
          refine WL.lenT _ ?_ st9
          refine WL.lss ?_
          refine WL.nil ?_
          refine WQ.next ?_
          refine WC.cond rfl (fun hb => ?_) (fun hb => ?_)
          · have hlt : i < xs.length := by have h : (i : Int) < (xs.length : Int) := of_decide_eq_true hb; omega
            have hx : xs[((i : Nat) : Int).toNat]? = some xs[i] := by rw [Int.toNat_natCast]; exact List.getElem?_eq_getElem hlt
            by_cases h0 : xs[i] = 0
            · refine WC.skip ?_
              refine WQ.next ?_
              refine WC.seq ?_
              refine WC.block ?_
              refine WC.seq ?_
              refine WC.region ?_
              refine WL.move ?_
              refine WL.move ?_
              refine WL.ixT (p := (i : Int)) (v := xs[i]) xs ?_ st9 hx
              refine WL.eqi ?_
              refine WL.cast (d := 28) (u := .bool true) rfl (congrArg Value.bool (by rw [h0]; rfl)) ?_
              refine WL.move ?_
              refine WL.gF ?_
              refine WL.gF ?_
              refine WL.gF ?_
              refine WL.gF ?_
              refine WL.pickT ?_
              refine WL.nil ?_
              refine WQ.next ?_
              refine WC.condT rfl rfl ?_
              refine WC.seq ?_
              refine WC.region ?_
              refine WL.assign ?_
              refine WL.nil ?_
              refine WQ.next ?_
              refine WC.ret (WQ.blockRet (WQ.thenRet (WQ.thenRet (WQ.blockRet (WQ.thenRet (?_))))))
              exact WQ.ret1 (h1 := .tmp (t := 2) rfl) ⟨_, ⟨by rw [hok, sepIn_yes hlt (.inr h0)]; rfl, rfl⟩, Am.auto⟩
            · have h0n : ¬ ((xs[i].toNat : Int) = 0) := fun hh => h0 (UInt8.toNat_inj.1 (by rw [show (0 : UInt8).toNat = 0 from rfl]; omega))
              by_cases h47 : xs[i] = 47
              · refine WC.skip ?_
                refine WQ.next ?_
                refine WC.seq ?_
                refine WC.block ?_
                refine WC.seq ?_
                refine WC.region ?_
                refine WL.move ?_
                refine WL.move ?_
                refine WL.ixT (p := (i : Int)) (v := xs[i]) xs ?_ st9 hx
                refine WL.eqi ?_
                refine WL.cast (d := 28) (u := .bool false) rfl (congrArg Value.bool (by exact decide_eq_false h0n)) ?_
                refine WL.move ?_
                refine WL.gT ?_
                refine WL.move ?_
                refine WL.gT ?_
                refine WL.move ?_
                refine WL.gT ?_
                refine WL.ixT (p := (i : Int)) (v := xs[i]) xs ?_ st9 hx
                refine WL.gT ?_
                refine WL.eqi ?_
                refine WL.cast (d := 33) (u := .bool true) rfl (congrArg Value.bool (by rw [h47]; rfl)) ?_
                refine WL.pickF ?_
                refine WL.nil ?_
                refine WQ.next ?_
                refine WC.condT rfl rfl ?_
                refine WC.seq ?_
                refine WC.region ?_
                refine WL.assign ?_
                refine WL.nil ?_
                refine WQ.next ?_
                refine WC.ret (WQ.blockRet (WQ.thenRet (WQ.thenRet (WQ.blockRet (WQ.thenRet (?_))))))
                exact WQ.ret1 (h1 := .tmp (t := 2) rfl) ⟨_, ⟨by rw [hok, sepIn_yes hlt (.inl h47)]; rfl, rfl⟩, Am.auto⟩
              · have h47n : ¬ ((xs[i].toNat : Int) = 47) := fun hh => h47 (UInt8.toNat_inj.1 (by rw [show (47 : UInt8).toNat = 47 from rfl]; omega))
                refine WC.skip ?_
                refine WQ.next ?_
                refine WC.seq ?_
                refine WC.block ?_
                refine WC.seq ?_
                refine WC.region ?_
                refine WL.move ?_
                refine WL.move ?_
                refine WL.ixT (p := (i : Int)) (v := xs[i]) xs ?_ st9 hx
                refine WL.eqi ?_
                refine WL.cast (d := 28) (u := .bool false) rfl (congrArg Value.bool (by exact decide_eq_false h0n)) ?_
                refine WL.move ?_
                refine WL.gT ?_
                refine WL.move ?_
                refine WL.gT ?_
                refine WL.move ?_
                refine WL.gT ?_
                refine WL.ixT (p := (i : Int)) (v := xs[i]) xs ?_ st9 hx
                refine WL.gT ?_
                refine WL.eqi ?_
                refine WL.cast (d := 33) (u := .bool false) rfl (congrArg Value.bool (by exact decide_eq_false h47n)) ?_
                refine WL.pickF ?_
                refine WL.nil ?_
                refine WQ.next ?_
                refine WC.condF rfl rfl ?_
                refine WC.skip ?_
                refine WQ.blockNormal ?_
                refine WQ.next ?_
                refine WC.region ?_
                refine WL.move ?_
                refine WL.add ?_
                refine WL.assign ?_
                refine WL.nil ?_
                refine WQ.cast (d := 3) (u := .int .i64 ((i + 1 : Nat) : Int)) rfl (congrArg (Value.int .i64) (by omega)) ?_
                exact WQ.back (i + 1) ⟨by omega, fun j hj hl => by by_cases hji : j = i; (subst hji; exact ⟨h47, h0⟩); exact hi.2 j (by omega) hl⟩ (by omega)
          · have hge : ¬ i < xs.length := by have h : ¬ (i : Int) < (xs.length : Int) := of_decide_eq_false hb; omega
            refine WC.exit (WQ.thenExit (WQ.thenExit (WQ.blockExit (?_))))
            refine WQ.next ?_
            refine WC.seq ?_
            refine WC.region ?_
            refine WL.assign ?_
            refine WL.nil ?_
            refine WQ.next ?_
            refine WC.ret (?_)
            exact WQ.ret1 (h1 := .tmp (t := 2) rfl) ⟨_, ⟨by rw [hok, sepIn_no (fun j hj => hi.2 j (by omega) hj)]; rfl, rfl⟩, Am.auto⟩
    · refine WC.seq ?_
      refine WC.region ?_
      refine WL.assign ?_
      refine WL.nil ?_
      refine WQ.next ?_
      refine WC.seq ?_
      refine WC.seq ?_
      refine WC.region ?_
      refine WL.move ?_
      refine WL.eqS _ _ ?_
      refine WL.cast (d := 5) (u := .bool false) rfl (congrArg Value.bool (by simp [h1])) ?_
      refine WL.move ?_
      refine WL.gT ?_
      refine WL.move ?_
      refine WL.gT ?_
      refine WL.lenT _ ?_ st9
      refine WL.gT ?_
      refine WL.gtr ?_
      refine WL.pickF ?_
      refine WL.move ?_
      refine WL.cast (d := 11) (u := .bool true) rfl (congrArg Value.bool (by first | (simp; done) | (simp; omega) | omega)) ?_
      refine WL.gF ?_
      refine WL.gF ?_
      refine WL.pickT ?_
      refine WL.move ?_
      refine WL.gF ?_
      refine WL.gF ?_
      refine WL.pickT ?_
      refine WL.nil ?_
      refine WQ.next ?_
      refine WC.condT rfl rfl ?_
      refine WC.seq ?_
      refine WC.region ?_
      refine WL.assign ?_
      refine WL.nil ?_
      refine WQ.next ?_
      refine WC.ret (WQ.thenRet (?_))
      exact WQ.ret1 (h1 := .tmp (t := 2) rfl) ⟨_, ⟨by unfold nameOk; simp [h2], rfl⟩, Am.auto⟩

theorem lawNames {xs : Bytes} : Spec Tryz.prog 9 #[sv xs] [] fun F v M => v = .bool true ∧ M = F := by
  refine Spec.intro Tryz.func9 rfl rfl fun B F => ?_
  simp only [Tryz.ntmps9, List.cons_append, List.nil_append, env0, Nat.reduceAdd]
  by_cases hl : 500 < xs.length
  · refine WC.seq ?_
    refine WC.region ?_
    refine WL.assign ?_
    refine WL.nil ?_
    refine WQ.next ?_
    refine WC.seq ?_
    refine WC.region ?_
    refine WL.move ?_
    refine WL.lenT _ ?_ st9
    refine WL.gtr ?_
    refine WL.move ?_
    refine WL.cast (d := 6) (u := .bool true) rfl (congrArg Value.bool (by first | (simp; done) | (simp; omega) | omega)) ?_
    refine WL.gF ?_
    refine WL.gF ?_
    refine WL.gF ?_
    refine WL.gF ?_
    refine WL.gF ?_
    refine WL.gF ?_
    refine WL.gU ?_
    refine WL.gF ?_
    refine WL.pickT ?_
    refine WL.assign ?_
    refine WL.nil ?_
    refine WQ.next ?_
    refine WC.ret (?_)
    exact WQ.ret1 (h1 := .tmp (t := 2) rfl) ⟨_, ⟨rfl, rfl⟩, Am.auto⟩
  · refine WC.seq ?_
    refine WC.region ?_
    refine WL.assign ?_
    refine WL.nil ?_
    refine WQ.next ?_
    refine WC.seq ?_
    refine WC.region ?_
    refine WL.move ?_
    refine WL.lenT _ ?_ st9
    refine WL.gtr ?_
    refine WL.move ?_
    refine WL.cast (d := 6) (u := .bool false) rfl (congrArg Value.bool (by first | (simp; done) | (simp; omega) | omega)) ?_
    refine WL.gT ?_
    refine WL.move ?_
    refine WL.gT ?_
    refine WL.call (hc := Tryz.call30) (sp := dName (xs := xs)) (h := ?_)
    rintro _ _ ⟨rfl, rfl⟩
    refine WL.gT ?_
    refine WL.move ?_
    refine WL.gT ?_
    refine WL.call (hc := Tryz.call31) (sp := refName (xs := xs)) (h := ?_)
    rintro _ _ ⟨rfl, rfl⟩
    refine WL.gT ?_
    refine WL.eqB ?_ bk4
    refine WL.cast (d := 11) (u := .bool true) rfl (congrArg Value.bool (by simp)) ?_
    refine WL.gT ?_
    refine WL.move ?_
    refine WL.gT ?_
    refine WL.call (hc := Tryz.call32) (sp := l9Awake) (h := ?_)
    rintro _ _ ⟨rfl, rfl⟩
    refine WL.gT ?_
    refine WL.pickT ?_
    refine WL.pickF ?_
    refine WL.assign ?_
    refine WL.nil ?_
    refine WQ.next ?_
    refine WC.ret (?_)
    exact WQ.ret1 (h1 := .tmp (t := 2) rfl) ⟨_, ⟨rfl, rfl⟩, Am.auto⟩

theorem lawStates9 {nm : Bytes} {i : Int} : Spec Tryz.prog 11 #[sv nm, .int .i64 i] [] fun F v M => v = .bool true ∧ M = F := by
  refine Spec.intro Tryz.func11 rfl rfl fun B F => ?_
  simp only [Tryz.ntmps11, List.cons_append, List.nil_append, env0, Nat.reduceAdd]
  have hpn : PlIs (pN 300) := pN_is (by decide) (by decide)
  have ho : PlOk (pN 300) := hpn.ok
  by_cases hl : 300 < nm.length
  · refine WC.seq ?_
    refine WC.region ?_
    refine WL.assign ?_
    refine WL.nil ?_
    refine WQ.next ?_
    refine WC.seq ?_
    refine WC.region ?_
    refine WL.call (hc := Tryz.call33) (sp := l9Fresh (p := pN 300) (pN_is (n := 300) (by decide) (by decide)) rfl (by decide)) (h := ?_)
    rintro _ _ ⟨c, a, s, rfl, rfl⟩
    refine WL.move ?_
    refine WL.extract ?_
    refine WL.extract ?_
    refine WL.extract ?_
    refine WL.extract ?_
    refine WL.assign ?_
    refine WL.assign ?_
    refine WL.assign ?_
    refine WL.assign ?_
    refine WL.nil ?_
    refine WQ.next ?_
    refine WC.seq ?_
    refine WC.seq ?_
    refine WC.region ?_
    refine WL.move ?_
    refine WL.not ?_
    refine WL.move ?_
    refine WL.gT ?_
    refine WL.move ?_
    refine WL.gT ?_
    refine WL.lenT _ ?_ st9
    refine WL.gT ?_
    refine WL.gtr ?_
    refine WL.pickF ?_
    refine WL.move ?_
    refine WL.cast (d := 22) (u := .bool true) rfl (congrArg Value.bool (by first | (simp; done) | (simp; omega) | omega)) ?_
    refine WL.gF ?_
    refine WL.gF ?_
    refine WL.gF ?_
    refine WL.pickT ?_
    refine WL.nil ?_
    refine WQ.next ?_
    refine WC.condT rfl rfl ?_
    refine WC.seq ?_
    refine WC.region ?_
    refine WL.move ?_
    refine WL.move ?_
    refine WL.gT ?_
    refine WL.call (hc := Tryz.call32) (sp := l9Awake) (h := ?_)
    rintro _ _ ⟨rfl, rfl⟩
    refine WL.pickT ?_
    refine WL.assign ?_
    refine WL.nil ?_
    refine WQ.next ?_
    refine WC.ret (WQ.thenRet (?_))
    exact WQ.ret1 (h1 := .tmp (t := 4) rfl) ⟨_, ⟨rfl, rfl⟩, Am.auto⟩
  · refine WC.seq ?_
    refine WC.region ?_
    refine WL.assign ?_
    refine WL.nil ?_
    refine WQ.next ?_
    refine WC.seq ?_
    refine WC.region ?_
    refine WL.call (hc := Tryz.call33) (sp := l9Fresh (p := pN 300) (pN_is (n := 300) (by decide) (by decide)) rfl (by decide)) (h := ?_)
    rintro _ _ ⟨c, a, s, rfl, rfl⟩
    refine WL.move ?_
    refine WL.extract ?_
    refine WL.extract ?_
    refine WL.extract ?_
    refine WL.extract ?_
    refine WL.assign ?_
    refine WL.assign ?_
    refine WL.assign ?_
    refine WL.assign ?_
    refine WL.nil ?_
    refine WQ.next ?_
    refine WC.seq ?_
    refine WC.seq ?_
    refine WC.region ?_
    refine WL.move ?_
    refine WL.not ?_
    refine WL.move ?_
    refine WL.gT ?_
    refine WL.move ?_
    refine WL.gT ?_
    refine WL.lenT _ ?_ st9
    refine WL.gT ?_
    refine WL.gtr ?_
    refine WL.pickF ?_
    refine WL.move ?_
    refine WL.cast (d := 22) (u := .bool false) rfl (congrArg Value.bool (by first | (simp; done) | (simp; omega) | omega)) ?_
    refine WL.gT ?_
    refine WL.move ?_
    refine WL.gT ?_
    refine WL.call (hc := Tryz.call28) (sp := nAbort (s := s) (a := a) (p := pN 300) (F0 := DM [] []) (F := DM [] []) (W := 0)) (h := ?_)
    rintro _ _ ⟨rfl, rfl⟩
    refine WL.gT ?_
    refine WL.nei ?_
    refine WL.pickF ?_
    refine WL.nil ?_
    refine WQ.next ?_
    refine WC.condF rfl rfl ?_
    refine WC.skip ?_
    refine WQ.next ?_
    refine WC.seq ?_
    refine WC.region ?_
    refine WL.move ?_
    refine WL.move ?_
    refine WL.move ?_
    refine WL.call (hc := Tryz.call34) (sp := dAddE (s := s) (a := a) (c := c) (p := pN 300) (F0 := DM [] []) (Fm := DM [] []) (W := 0) (d := 0) (op := false) (nm := nm) (e := 8) (i := .int .i64 i) ho (.inl ⟨rfl, rfl⟩) (by decide)) (h := ?_)
    rintro _ _ ⟨rfl, rfl⟩
    refine WL.eqi ?_
    refine WL.move ?_
    refine WL.gT ?_
    refine WL.move ?_
    refine WL.gT ?_
    refine WL.move ?_
    refine WL.gT ?_
    refine WL.call (hc := Tryz.call38) (sp := dRemoveE (s := s) (a := a) (c := c) (p := pN 300) (F0 := DM [] []) (Fm := DM [] []) (W := 0) (d := 0) (op := false) (nm := nm) (e := 8) (i := .int .i64 i) ho (.inl ⟨rfl, rfl⟩) (by decide)) (h := ?_)
    rintro _ _ ⟨rfl, rfl⟩
    refine WL.gT ?_
    refine WL.eqi ?_
    refine WL.pickT ?_
    refine WL.move ?_
    refine WL.gT ?_
    refine WL.move ?_
    refine WL.gT ?_
    refine WL.move ?_
    refine WL.gT ?_
    refine WL.move ?_
    refine WL.gT ?_
    refine WL.call (hc := Tryz.call36) (sp := dMoveE (s := s) (a := a) (c := c) (p := pN 300) (F0 := DM [] []) (Fm := DM [] []) (W := 0) (d := 0) (op := false) (nm := nm) (e := 8) (i := .int .i64 i) ho (.inl ⟨rfl, rfl⟩) (by decide)) (h := ?_)
    rintro _ _ ⟨rfl, rfl⟩
    refine WL.gT ?_
    refine WL.eqi ?_
    refine WL.pickT ?_
    refine WL.move ?_
    refine WL.gT ?_
    refine WL.call (hc := Tryz.call32) (sp := l9Awake) (h := ?_)
    rintro _ _ ⟨rfl, rfl⟩
    refine WL.pickT ?_
    refine WL.assign ?_
    refine WL.nil ?_
    refine WQ.next ?_
    refine WC.ret (?_)
    exact WQ.ret1 (h1 := .tmp (t := 4) rfl) ⟨_, ⟨rfl, rfl⟩, Am.auto⟩

end Go.Proofs.YtedmihapieleaaaGreat
