/- Walks of awake and of AllocLeast. -/
import Derived.Test.YtfmkhhdohfagkaaGreatFa
import Derived.Test.YtfmkhhdohfagkaaGreatWpa
import Derived.KernelRfl
set_option linter.unusedVariables false
set_option linter.unusedSimpArgs false
namespace Go.Proofs.YtfmkhhdohfagkaaGreat
open Go

def p300 : Pl := ⟨300, 16, 246, 247, 248, 250, 50⟩
theorem p300_is : PlIs p300 := by
  refine ⟨?_, ?_, ?_, rfl, rfl, ?_, rfl, rfl, ?_, ?_, .inl rfl⟩ <;> decide
variable {a c : Nat} {p : Pl} {bk0 ik0 bk ik : Nat → Bool} {op : Bool}
theorem aTakeK {k : Nat} (h : PlIs p) (hk : k < p.dc) (h0 : bk k = false) (hb : ∀ i < k, bk i = true) : Spec Tryz.prog 9 #[.pointer (some ⟨a, 0, none⟩)] [AL a c p bk0 ik0 bk ik true] fun F v M =>
    v = .tuple #[.int .i64 ((p.da + k : Nat) : Int), .int .i64 0] ∧ M = AL a c p bk0 ik0 (setF bk k true) ik true :: F := by
  refine (aTakeBlock h).weak ?_
  rintro F v M (⟨j, hj, hj0, hjb, rfl, rfl⟩ | ⟨hall, rfl, rfl⟩)
  · have : j = k := by
      rcases Nat.lt_trichotomy j k with hlt | heq | hgt
      · rw [hb j hlt] at hj0; cases hj0
      · exact heq
      · rw [hjb k hgt] at h0; cases h0
    subst this
    exact ⟨_, ⟨rfl, rfl⟩, .refl⟩
  · rw [hall k hk] at h0; cases h0
def boolsV (f : Nat → Bool) (n : Nat) : List Value := (List.range n).map fun k => .bool (f k)
theorem boolsV_length (f : Nat → Bool) (n : Nat) : (boolsV f n).length = n := by simp [boolsV]
theorem boolsV_get (f : Nat → Bool) {n k : Nat} (h : k < n) : (boolsV f n)[k]? = some (.bool (f k)) := by simp [boolsV, h]
theorem boolsV_none (n : Nat) : List.replicate n (Value.bool false) = boolsV noneB n := by
  unfold boolsV noneB
  rw [List.map_const', List.length_range]
theorem boolsV_set (f : Nat → Bool) (n k : Nat) (on : Bool) : (boolsV f n).set k (.bool on) = boolsV (setF f k on) n := by
  apply List.ext_getElem?
  intro i
  rw [List.getElem?_set]
  unfold boolsV setF
  by_cases hk : k = i
  · subst hk
    simp only [if_true, List.length_map, List.length_range, List.getElem?_map]
    split
    · rename_i h; simp [h]
    · rename_i h; simp [h]
  · rw [if_neg hk, List.getElem?_map, List.getElem?_map]
    by_cases hi : i < n
    · simp [hi, Ne.symm hk]
    · simp [hi]

theorem lawAwake : Spec Tryz.prog 4 #[] [] fun F v M => v = .bool true ∧ M = F := by
  refine Spec.intro Tryz.func4 rfl rfl fun B F => ?_
  simp only [Tryz.ntmps4, List.cons_append, List.nil_append, env0, Nat.reduceAdd]
  have hda : (p300.da : Int) = 250 := rfl
  refine WC.seq ?_
  refine WC.region ?_
  refine WL.assign ?_
  refine WL.nil ?_
  refine WQ.next ?_
  refine WC.seq ?_
  refine WC.region ?_
  refine WL.call (hc := Tryz.call6) (sp := aFresh p300_is) (h := ?_)
  rintro _ _ ⟨c, a, rfl, rfl⟩
  refine WL.move ?_
  refine WL.extract ?_
  refine WL.extract ?_
  refine WL.extract ?_
  refine WL.extract ?_
  refine WL.alloc z25 fun b3 => ?_
  refine WL.assign ?_
  refine WL.assign ?_
  refine WL.stV ?_ agg25
  refine WL.assign ?_
  refine WL.nil ?_
  refine WQ.next ?_
  refine WC.seq ?_
  refine WC.seq ?_
  refine WC.region ?_
  refine WL.move ?_
  refine WL.not ?_
  refine WL.nil ?_
  refine WQ.next ?_
  refine WC.condF rfl rfl ?_
  refine WC.skip ?_
  refine WQ.next ?_
  refine WC.seq ?_
  refine WC.region ?_
  refine WL.move ?_
  refine WL.call (hc := Tryz.call9) (sp := aTakeK (k := 0) (bk := noneB) p300_is (by decide) rfl (fun i hi => by omega)) (h := ?_)
  rintro _ _ ⟨rfl, rfl⟩
  refine WL.move ?_
  refine WL.extract ?_
  refine WL.extract ?_
  refine WL.assign ?_
  refine WL.assign ?_
  refine WL.nil ?_
  refine WQ.next ?_
  refine WC.seq ?_
  refine WC.region ?_
  refine WL.move ?_
  have hone : ∀ i < 1, (setF noneB 0 true) i = true := by
    intro i hi
    have : i = 0 := by omega
    subst this
    rfl
  refine WL.call (hc := Tryz.call9) (sp := aTakeK (k := 1) (bk := (setF noneB 0 true)) p300_is (by decide) rfl hone) (h := ?_)
  rintro _ _ ⟨rfl, rfl⟩
  refine WL.move ?_
  refine WL.extract ?_
  refine WL.extract ?_
  refine WL.assign ?_
  refine WL.assign ?_
  refine WL.nil ?_
  refine WQ.next ?_
  refine WC.seq ?_
  refine WC.seq ?_
  refine WC.region ?_
  refine WL.move ?_
  refine WL.nei ?_
  refine WL.move ?_
  refine WL.gT ?_
  refine WL.move ?_
  refine WL.gT ?_
  refine WL.nei ?_
  refine WL.pickF ?_
  refine WL.move ?_
  refine WL.gT ?_
  refine WL.move ?_
  refine WL.gT ?_
  refine WL.fa ?_ fo25_5
  refine WL.gT ?_
  refine WL.ld ?_ sc3
  refine WL.gT ?_
  refine WL.nei ?_
  refine WL.pickF ?_
  refine WL.move ?_
  refine WL.gT ?_
  refine WL.move ?_
  refine WL.gT ?_
  refine WL.fa ?_ fo25_5
  refine WL.gT ?_
  refine WL.ld ?_ sc3
  refine WL.gT ?_
  refine WL.add ?_
  refine WL.gT ?_
  refine WL.nei ?_
  refine WL.pickF ?_
  refine WL.move ?_
  refine WL.gT ?_
  refine WL.move ?_
  refine WL.gT ?_
  refine WL.fa ?_ fo25_5
  refine WL.gT ?_
  refine WL.ld ?_ sc3
  refine WL.gT ?_
  refine WL.call (hc := Tryz.call11) (sp := aGiveBlock (k := 0) p300_is (by decide) rfl) (h := ?_)
  rintro _ _ ⟨rfl, rfl⟩
  refine WL.gT ?_
  refine WL.nei ?_
  refine WL.pickF ?_
  refine WL.nil ?_
  refine WQ.next ?_
  refine WC.condF rfl rfl ?_
  refine WC.skip ?_
  refine WQ.next ?_
  refine WC.seq ?_
  refine WC.region ?_
  refine WL.move ?_
  refine WL.call (hc := Tryz.call9) (sp := aTakeK (k := 0) (bk := (setF (setF (setF noneB 0 true) 1 true) 0 false)) p300_is (by decide) rfl (fun i hi => by omega)) (h := ?_)
  rintro _ _ ⟨rfl, rfl⟩
  refine WL.move ?_
  refine WL.extract ?_
  refine WL.extract ?_
  refine WL.assign ?_
  refine WL.assign ?_
  refine WL.nil ?_
  refine WQ.next ?_
  refine WC.seq ?_
  refine WC.region ?_
  refine WL.move ?_
  refine WL.eqi ?_
  refine WL.move ?_
  refine WL.gT ?_
  refine WL.move ?_
  refine WL.gT ?_
  refine WL.fa ?_ fo25_5
  refine WL.gT ?_
  refine WL.ld ?_ sc3
  refine WL.gT ?_
  refine WL.eqi ?_
  refine WL.pickT ?_
  refine WL.move ?_
  refine WL.gT ?_
  refine WL.move ?_
  refine WL.gT ?_
  refine WL.call (hc := Tryz.call19) (sp := aAbort) (h := ?_)
  rintro _ _ ⟨rfl, rfl⟩
  refine WL.gT ?_
  refine WL.eqi ?_
  refine WL.pickT ?_
  refine WL.assign ?_
  refine WL.nil ?_
  refine WQ.next ?_
  refine WC.ret (?_)
  exact WQ.ret1 (h1 := .tmp (t := 0) rfl) ⟨_, ⟨rfl, rfl⟩, Am.auto⟩


theorem setF_same {f : Nat → Bool} {k : Nat} {on : Bool} (h : f k = on) : setF f k on = f := by
  funext i
  unfold setF
  split
  · rename_i h2; rw [h2, h]
  · rfl
theorem aTakeFull (h : PlIs p) (hall : ∀ i < p.dc, bk i = true) : Spec Tryz.prog 9 #[.pointer (some ⟨a, 0, none⟩)] [AL a c p bk0 ik0 bk ik true] fun F v M =>
    v = .tuple #[.int .i64 0, .int .i64 3] ∧ M = AL a c p bk0 ik0 bk ik true :: F := by
  refine (aTakeBlock h).weak ?_
  rintro F v M (⟨j, hj, hj0, hjb, rfl, rfl⟩ | ⟨_, rfl, rfl⟩)
  · rw [hall j hj] at hj0; cases hj0
  · exact ⟨_, ⟨rfl, rfl⟩, .refl⟩
theorem first_free (f : Nat → Bool) : ∀ n : Nat, (∀ i < n, f i = true) ∨ ∃ i < n, f i = false ∧ ∀ j < i, f j = true
  | 0 => .inl fun i hi => by omega
  | n + 1 => by
    rcases first_free f n with h | ⟨i, hi, h1, h2⟩
    · cases hn : f n with
      | true =>
        refine .inl fun i hi => ?_
        by_cases hin : i = n
        · subst hin; exact hn
        · exact h i (by omega)
      | false => exact .inr ⟨n, by omega, hn, h⟩
    · exact .inr ⟨i, by omega, h1, h2⟩

end Go.Proofs.YtfmkhhdohfagkaaGreat
