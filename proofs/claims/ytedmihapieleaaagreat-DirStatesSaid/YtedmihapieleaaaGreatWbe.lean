/- Walks of bollardlaw9: fresh, awake. -/
import Derived.Test.YtedmihapieleaaaGreatFa
import Derived.Test.YtedmihapieleaaaGreatWbd
import Derived.Test.YtedmihapieleaaaGreatWad
import Derived.KernelRfl
set_option linter.unusedVariables false
set_option linter.unusedSimpArgs false
namespace Go.Proofs.YtedmihapieleaaaGreat
open Go

theorem fmtD_dk {p : Pl} {D : List Nat} {first : Nat} (hd : Dk p D) : ∀ n, (∀ v, first ≤ v → v < first + n → 245 ≤ v ∧ v < p.n) → Dk p (fmtD D first n)
  | 0, _ => hd
  | n + 1, h => (fmtD_dk hd n (fun v h1 h2 => h v h1 (by omega))).ins (h _ (by omega) (by omega)).1 (h _ (by omega) (by omega)).2
theorem fmtB_dk {p : Pl} (h : PlIs p) : Dk p (insD (fmtB p []) (p.tb + 0 / 8)) := by
  have ho := h.ok; have hlo := ho.lo; have h1 := ho.i2; have h2 := ho.tbl; have h3 := ho.apart; have h4 := ho.dat; have h5 := ho.tab; have h6 := ho.i1
  refine Dk.ins ?_ (by omega) (by omega)
  unfold fmtB
  exact fmtD_dk (fmtD_dk (Dk.nil p) _ (fun v h1 h2 => by omega)) _ (fun v h1 h2 => by omega)
/-- Make over a cache whose files are not committed. -/
theorem mkT {s a c : Nat} {p : Pl} {V0 V : Nat → Bytes} {D : List Nat} {F : FM} {i k : Nat} (ho : PlOk p) (hr : Rep p V F) (hdk : Dk p D) (hrm : Rm p D 1) (hk : k = 1 ∨ k = 2) (hi : i < p.ino) (h0 : F i = none) (hb : ∀ j < i, F j ≠ none) :
    Spec Tryz.prog 17 #[.pointer (some ⟨s, 0, none⟩), nI k] [pt s (stO c a p), pt a (alO c p), TR c p.n V0 V D true] fun G v M => v = .tuple #[nI i, .int .i64 0] ∧ M = [pt s (stO c a p), pt a (alO c p), TR c p.n V0 (svV p (setD V p.im i true) i ⟨k, 0, List.replicate 11 0⟩) (mkD p D i) true] ++ G := by
  refine (inMake (s := s) (c := c) (a := a) (V0 := V0) (V := V) (D := D) (k := k) ho hk hdk hrm).post ?_
  rintro G v M (⟨j, hj, hj0, hjb, rfl, rfl⟩ | ⟨hall, _, _⟩)
  · rw [hr.imapF hj] at hj0
    have hji : j = i := by
      rcases Nat.lt_trichotomy j i with h1 | h1 | h1
      · have := hb j h1
        cases hF : F j with
        | none => exact absurd hF this
        | some f => rw [hF] at hj0; cases hj0
      · exact h1
      · have := hjb i h1
        rw [hr.imapF hi, h0] at this
        cases this
    subst hji
    exact ⟨_, ⟨rfl, rfl⟩, fun B w hs => hs⟩
  · have := hall i hi
    rw [hr.imapF hi, h0] at this
    cases this
/-- Two directories and a file. -/
def DM (s0 s1 : List Slot) : FM := fun j => if j = 0 then some (2, dirB s0) else if j = 1 then some (2, dirB s1) else if j = 2 then some (1, []) else none
theorem DM_0 (s0 s1 : List Slot) : DM s0 s1 0 = some (2, dirB s0) := rfl
theorem DM_1 (s0 s1 : List Slot) : DM s0 s1 1 = some (2, dirB s1) := rfl
theorem DM_2 (s0 s1 : List Slot) : DM s0 s1 2 = some (1, []) := rfl
theorem DM_upd0 (s0 s1 t : List Slot) : updM (DM s0 s1) 0 (some (2, dirB t)) = DM t s1 := by
  funext j
  unfold updM DM
  by_cases h : j = 0
  · subst h; rfl
  · simp only [if_neg h]
theorem DM_upd1 (s0 s1 t : List Slot) : updM (DM s0 s1) 1 (some (2, dirB t)) = DM s0 t := by
  funext j
  unfold updM DM
  by_cases h : j = 1
  · subst h; rfl
  · simp only [if_neg h]
theorem DM_made : updM (updM rootM 1 (some (2, []))) 2 (some (1, [])) = DM [] [] := by
  funext j
  unfold updM rootM DM
  by_cases h2 : j = 2
  · subst h2; rfl
  · by_cases h1 : j = 1
    · subst h1; rfl
    · simp only [if_neg h1, if_neg h2]; rfl
theorem tot_DM (s0 s1 : List Slot) {n : Nat} (h : 3 ≤ n) : tot (DM s0 s1) n = has (64 * s0.length) + has (64 * s1.length) := by
  have h0 : has 0 = 0 := rfl
  have e0 : tot (DM [] []) n = 0 := by
    have a1 := tot_upd' rootM (show 1 < n by omega) (some (2, []))
    have a2 := tot_upd' (updM rootM 1 (some (2, []))) (show 2 < n by omega) (some (1, []))
    rw [DM_made] at a2
    have b1 : hasO (rootM 1) = 0 := rfl
    have b2 : hasO (updM rootM 1 (some (2, [])) 2) = 0 := rfl
    have b3 : hasO (some (2, ([] : Bytes))) = 0 := rfl
    have b4 : hasO (some (1, ([] : Bytes))) = 0 := rfl
    rw [tot_root] at a1
    omega
  have e1 := tot_upd' (DM [] []) (show 0 < n by omega) (some (2, dirB s0))
  have e2 := tot_upd' (DM s0 []) (show 1 < n by omega) (some (2, dirB s1))
  rw [DM_upd0] at e1
  rw [DM_upd1] at e2
  have b1 : hasO (DM [] [] 0) = 0 := rfl
  have b2 : hasO (DM s0 [] 1) = 0 := rfl
  have b3 : hasO (some (2, dirB s0)) = has (64 * s0.length) := by show has (dirB s0).length = _; rw [dirB_length]
  have b4 : hasO (some (2, dirB s1)) = has (64 * s1.length) := by show has (dirB s1).length = _; rw [dirB_length]
  omega
theorem has64 {n : Nat} (h : n ≤ 72) : has (64 * n) ≤ 9 := by
  have h1 : dat (64 * n) ≤ 9 := by unfold dat; omega
  unfold has
  split <;> omega

theorem l9Fresh {p : Pl} (h : PlIs p) (h16 : p.ino = 16) (h304 : p.n ≤ 304) : Spec Tryz.prog 33 #[.int .i64 (p.n : Int)] [] fun F v M => ∃ c a s, v = .tuple #[.pointer (some ⟨c, 0, none⟩), .pointer (some ⟨a, 0, none⟩), .pointer (some ⟨s, 0, none⟩), .bool true] ∧ M = IN s a c p (DM [] []) (DM [] []) 0 true :: F := by
  refine Spec.intro Tryz.func33 rfl rfl fun B F => ?_
  simp only [Tryz.ntmps33, List.cons_append, List.nil_append, env0, Nat.reduceAdd]
  have hn2 := h.n2
  have h246 : 246 ≤ p.n := by have := h.bm; have := h.m1; have := h.da; have := h.dc; have := h.d1; omega
  have hfew := fmtB_few h
  have ho := h.ok
  have hr0 := fresh_rep h
  have hd0 := fmtB_dk h
  have hr1 : Rep p (svV p (setD (freshW p) p.im 1 true) 1 ⟨2, 0, List.replicate 11 0⟩) (updM rootM 1 (some (2, []))) := hr0.made ho (by omega) (by rw [hr0.imapF (by omega)]; rfl) (.inr rfl)
  have hd1 := (mkD_ok ho hd0 (i := 1) (by omega)).1
  have hr2 : Rep p (svV p (setD (svV p (setD (freshW p) p.im 1 true) 1 ⟨2, 0, List.replicate 11 0⟩) p.im 2 true) 2 ⟨1, 0, List.replicate 11 0⟩) (DM [] []) := DM_made ▸ hr1.made ho (by omega) (by rw [hr1.imapF (by omega)]; rfl) (.inl rfl)
  have hmk := layMake h
  rw [show (p.ino : Int) = 16 from by omega] at hmk
  refine WC.seq ?_
  refine WC.region ?_
  refine WL.assign ?_
  refine WL.assign ?_
  refine WL.assign ?_
  refine WL.assign ?_
  refine WL.nil ?_
  refine WQ.next ?_
  refine WC.seq ?_
  refine WC.region ?_
  refine WL.move ?_
  refine WL.call (hc := Tryz.call40) (sp := hmk) (h := ?_)
  rintro _ _ ⟨rfl, rfl⟩
  refine WL.move ?_
  refine WL.extract ?_
  refine WL.extract ?_
  refine WL.alloc z28 fun b6 => ?_
  refine WL.stV ?_ agg28
  refine WL.to (A := pt b6 (.cells p.cells 28 (0, 0))) (A' := pt b6 (.cells p.cells 28 (0, 0))) (fun h hh => hh) ?_
  refine WL.assign ?_
  refine WL.nil ?_
  refine WQ.next ?_
  refine WC.seq ?_
  refine WC.region ?_
  refine WL.move ?_
  refine WL.call (hc := Tryz.call41) (sp := devNew (n := p.n) (by omega) hn2) (h := ?_)
  rintro _ _ ⟨d, rfl, rfl⟩
  refine WL.move ?_
  refine WL.extract ?_
  refine WL.extract ?_
  refine WL.assign ?_
  refine WL.assign ?_
  refine WL.nil ?_
  refine WQ.next ?_
  refine WC.seq ?_
  refine WC.seq ?_
  refine WC.region ?_
  refine WL.move ?_
  refine WL.nei ?_
  refine WL.move ?_
  refine WL.gT ?_
  refine WL.move ?_
  refine WL.gT ?_
  refine WL.nei ?_
  refine WL.pickF ?_
  refine WL.move ?_
  refine WL.gT ?_
  refine WL.move ?_
  refine WL.gT ?_
  refine WL.eqNil ?_ ptr76
  refine WL.pickF ?_
  refine WL.move ?_
  refine WL.gT ?_
  refine WL.move ?_
  refine WL.gT ?_
  refine WL.call (hc := Tryz.call42) (sp := jFormat (n := p.n) (t := 0) (cur := zeroD) h246 (by decide)) (h := ?_)
  rintro _ _ ⟨rfl, rfl⟩
  refine WL.gT ?_
  refine WL.nei ?_
  refine WL.pickF ?_
  refine WL.nil ?_
  refine WQ.next ?_
  refine WC.condF rfl rfl ?_
  refine WC.skip ?_
  refine WQ.next ?_
  refine WC.seq ?_
  refine WC.region ?_
  refine WL.move ?_
  refine WL.call (hc := Tryz.call43) (sp := jOpen (n := p.n) (cur := formatted zeroD) h246 hn2 formatted0 (fun i _ => formattedH _ i)) (h := ?_)
  rintro _ _ ⟨j, rfl, rfl⟩
  refine WL.move ?_
  refine WL.extract ?_
  refine WL.extract ?_
  refine WL.assign ?_
  refine WL.assign ?_
  refine WL.nil ?_
  refine WQ.next ?_
  refine WC.seq ?_
  refine WC.region ?_
  refine WL.move ?_
  refine WL.call (hc := Tryz.call44) (sp := cNew (n := p.n) h246 hn2) (h := ?_)
  rintro _ _ ⟨c, rfl, rfl⟩
  refine WL.shutR (TR.opens c p.n zeroD zeroD [] false) (j, d, ⟨⟨beNat (seg (formatted zeroD 0) 8 8 false), 0, [], formatted zeroD⟩, [], false, false⟩) ⟨rfl, (fun k h1 h2 => formattedK (by omega)), (fun k h1 h2 => formattedK (by omega)), rfl⟩ ?_
  refine WL.assign ?_
  refine WL.nil ?_
  refine WQ.next ?_
  refine WC.seq ?_
  refine WC.region ?_
  refine WL.move ?_
  refine WL.ldA ?_ agg28
  refine WL.call (hc := Tryz.call45) (sp := alNew (p := p)) (h := ?_)
  rintro _ _ ⟨a, rfl, rfl⟩
  refine WL.assign ?_
  refine WL.nil ?_
  refine WQ.next ?_
  refine WC.seq ?_
  refine WC.region ?_
  refine WL.move ?_
  refine WL.move ?_
  refine WL.ldA ?_ agg28
  refine WL.call (hc := Tryz.call46) (sp := inNew (p := p)) (h := ?_)
  rintro _ _ ⟨s, rfl, rfl⟩
  refine WL.assign ?_
  refine WL.nil ?_
  refine WQ.next ?_
  refine WC.seq ?_
  refine WC.seq ?_
  refine WC.region ?_
  refine WL.move ?_
  refine WL.nei ?_
  refine WL.move ?_
  refine WL.gT ?_
  refine WL.move ?_
  refine WL.gT ?_
  refine WL.eqNil ?_ ptr24
  refine WL.pickF ?_
  refine WL.move ?_
  refine WL.gT ?_
  refine WL.move ?_
  refine WL.gT ?_
  refine WL.eqNil ?_ ptr25
  refine WL.pickF ?_
  refine WL.move ?_
  refine WL.gT ?_
  refine WL.move ?_
  refine WL.gT ?_
  refine WL.eqNil ?_ ptr26
  refine WL.pickF ?_
  refine WL.move ?_
  refine WL.gT ?_
  refine WL.move ?_
  refine WL.gT ?_
  refine WL.call (hc := Tryz.call22) (sp := tBegin (n := p.n) (V0 := zeroD) (V := zeroD) (D := [])) (h := ?_)
  rintro _ _ ⟨rfl, rfl⟩
  refine WL.gT ?_
  refine WL.nei ?_
  refine WL.pickF ?_
  refine WL.move ?_
  refine WL.gT ?_
  refine WL.move ?_
  refine WL.gT ?_
  refine WL.call (hc := Tryz.call47) (sp := alFormat (V0 := zeroD) (V := zeroD) h.ok) (h := ?_)
  rintro _ _ ⟨rfl, rfl⟩
  simp only [List.cons_append, List.nil_append]
  refine WL.gT ?_
  refine WL.nei ?_
  refine WL.pickF ?_
  refine WL.move ?_
  refine WL.gT ?_
  refine WL.move ?_
  refine WL.gT ?_
  refine WL.call (hc := Tryz.call48) (sp := inFormat (V0 := zeroD) (V := freshV p) (D := fmtB p []) h.ok (by unfold Room; omega)) (h := ?_)
  rintro _ _ ⟨rfl, rfl⟩
  simp only [List.cons_append, List.nil_append]
  refine WL.gT ?_
  refine WL.nei ?_
  refine WL.pickF ?_
  refine WL.nil ?_
  refine WQ.next ?_
  refine WC.condF rfl rfl ?_
  refine WC.skip ?_
  refine WQ.next ?_
  refine WC.seq ?_
  refine WC.region ?_
  refine WL.move ?_
  refine WL.call (hc := Tryz.call17) (sp := mkT (p := p) (V0 := zeroD) (i := 1) (k := 2) ho hr0 hd0 (.inl h304) (.inr rfl) (by omega) rfl root_one) (h := ?_)
  rintro _ _ ⟨rfl, rfl⟩
  simp only [List.cons_append, List.nil_append]
  refine WL.move ?_
  refine WL.extract ?_
  refine WL.extract ?_
  refine WL.assign ?_
  refine WL.assign ?_
  refine WL.nil ?_
  refine WQ.next ?_
  refine WC.seq ?_
  refine WC.region ?_
  refine WL.move ?_
  refine WL.call (hc := Tryz.call17) (sp := mkT (p := p) (V0 := zeroD) (i := 2) (k := 1) ho hr1 hd1 (.inl h304) (.inl rfl) (by omega) rfl (fun j hj => by rcases (show j = 0 ∨ j = 1 by omega) with rfl | rfl <;> (intro hh; cases hh))) (h := ?_)
  rintro _ _ ⟨rfl, rfl⟩
  simp only [List.cons_append, List.nil_append]
  refine WL.move ?_
  refine WL.extract ?_
  refine WL.extract ?_
  refine WL.assign ?_
  refine WL.assign ?_
  refine WL.nil ?_
  refine WQ.next ?_
  refine WC.seq ?_
  refine WC.seq ?_
  refine WC.region ?_
  refine WL.move ?_
  refine WL.nei ?_
  refine WL.move ?_
  refine WL.gT ?_
  refine WL.move ?_
  refine WL.gT ?_
  refine WL.nei ?_
  refine WL.pickF ?_
  refine WL.move ?_
  refine WL.gT ?_
  refine WL.move ?_
  refine WL.gT ?_
  refine WL.nei ?_
  refine WL.pickF ?_
  refine WL.move ?_
  refine WL.gT ?_
  refine WL.move ?_
  refine WL.gT ?_
  refine WL.nei ?_
  refine WL.pickF ?_
  refine WL.move ?_
  refine WL.gT ?_
  refine WL.move ?_
  refine WL.gT ?_
  refine WL.call (hc := Tryz.call21) (sp := tCommit (n := p.n) (V0 := zeroD) (V := (svV p (setD (svV p (setD (freshW p) p.im 1 true) 1 ⟨2, 0, List.replicate 11 0⟩) p.im 2 true) 2 ⟨1, 0, List.replicate 11 0⟩)) (D := (mkD p (mkD p (insD (fmtB p []) (p.tb + 0 / 8)) 1) 2))) (h := ?_)
  rintro _ _ ⟨rfl, rfl⟩
  refine WL.gT ?_
  refine WL.nei ?_
  refine WL.pickF ?_
  refine WL.nil ?_
  refine WQ.next ?_
  refine WC.condF rfl rfl ?_
  refine WC.skip ?_
  refine WQ.next ?_
  refine WC.seq ?_
  refine WC.region ?_
  refine WL.move ?_
  refine WL.move ?_
  refine WL.move ?_
  refine WL.move ?_
  refine WL.call (hc := Tryz.call22) (sp := tBegin (n := p.n) (V0 := (svV p (setD (svV p (setD (freshW p) p.im 1 true) 1 ⟨2, 0, List.replicate 11 0⟩) p.im 2 true) 2 ⟨1, 0, List.replicate 11 0⟩)) (V := (svV p (setD (svV p (setD (freshW p) p.im 1 true) 1 ⟨2, 0, List.replicate 11 0⟩) p.im 2 true) 2 ⟨1, 0, List.replicate 11 0⟩)) (D := [])) (h := ?_)
  rintro _ _ ⟨rfl, rfl⟩
  refine WL.shutR (IN.opens s a c p (DM [] []) (DM [] []) 0 true) ((svV p (setD (svV p (setD (freshW p) p.im 1 true) 1 ⟨2, 0, List.replicate 11 0⟩) p.im 2 true) 2 ⟨1, 0, List.replicate 11 0⟩), (svV p (setD (svV p (setD (freshW p) p.im 1 true) 1 ⟨2, 0, List.replicate 11 0⟩) p.im 2 true) 2 ⟨1, 0, List.replicate 11 0⟩), []) ⟨hr2, hr2, Dk.nil p, Nat.zero_le _⟩ ?_
  refine WL.eqi ?_
  refine WL.assign ?_
  refine WL.assign ?_
  refine WL.assign ?_
  refine WL.assign ?_
  refine WL.nil ?_
  refine WQ.next ?_
  refine WC.ret (?_)
  exact WQ.ret4 (h1 := .tmp (t := 2) rfl) (h2 := .tmp (t := 3) rfl) (h3 := .tmp (t := 4) rfl) (h4 := .tmp (t := 5) rfl) ⟨_, ⟨c, a, s, rfl, rfl⟩, Am.auto⟩

end Go.Proofs.YtedmihapieleaaaGreat
