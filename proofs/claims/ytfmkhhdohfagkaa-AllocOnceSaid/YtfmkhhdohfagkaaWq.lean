/- Walks of awake and of AllocLeast. -/
import Derived.Test.YtfmkhhdohfagkaaFa
import Derived.Test.YtfmkhhdohfagkaaWpa
import Derived.KernelRfl
set_option linter.unusedVariables false
set_option linter.unusedSimpArgs false
namespace Go.Proofs.Ytfmkhhdohfagkaa
open Go

def p300 : Pl := ⟨300, 16, 246, 247, 248, 250, 50⟩
theorem p300_is : PlIs p300 := by
  refine ⟨?_, ?_, ?_, rfl, rfl, ?_, rfl, rfl, ?_, ?_, .inl rfl⟩ <;> decide
variable {a c : Nat} {p : Pl} {bk0 ik0 bk ik : Nat → Bool} {op : Bool}
theorem aTakeK {k : Nat} (h : PlIs p) (hk : k < p.dc) (h0 : bk k = false) (hb : ∀ i < k, bk i = true) : Spec Try.prog 9 #[.pointer (some ⟨a, 0, none⟩)] [AL a c p bk0 ik0 bk ik true] fun F v M =>
    v = .tuple #[.int .i64 ((p.da + k : Nat) : Int), .int .i64 0] ∧ M = AL a c p bk0 ik0 (setF bk k true) ik true :: F := by
  refine (aTakeBlock h).weak ?_
  rintro F v M (⟨j, hj, hj0, hjb, rfl, rfl⟩ | ⟨hall, rfl, rfl⟩)
  · have : j = k := by
      rcases Nat.lt_trichotomy j k with hlt | heq | hgt
      · rw [hb j hlt] at hj0; cases hj0
      · exact heq
      · rw [hjb k hgt] at h0; cases h0
    subst this
    exact ⟨_, ⟨rfl, rfl⟩, .refl⟩
  · rw [hall k hk] at h0; cases h0
def boolsV (f : Nat → Bool) (n : Nat) : List Value := (List.range n).map fun k => .bool (f k)
theorem boolsV_length (f : Nat → Bool) (n : Nat) : (boolsV f n).length = n := by simp [boolsV]
theorem boolsV_get (f : Nat → Bool) {n k : Nat} (h : k < n) : (boolsV f n)[k]? = some (.bool (f k)) := by simp [boolsV, h]
theorem boolsV_none (n : Nat) : List.replicate n (Value.bool false) = boolsV noneB n := by
  unfold boolsV noneB
  rw [List.map_const', List.length_range]
theorem boolsV_set (f : Nat → Bool) (n k : Nat) (on : Bool) : (boolsV f n).set k (.bool on) = boolsV (setF f k on) n := by
  apply List.ext_getElem?
  intro i
  rw [List.getElem?_set]
  unfold boolsV setF
  by_cases hk : k = i
  · subst hk
    simp only [if_true, List.length_map, List.length_range, List.getElem?_map]
    split
    · rename_i h; simp [h]
    · rename_i h; simp [h]
  · rw [if_neg hk, List.getElem?_map, List.getElem?_map]
    by_cases hi : i < n
    · simp [hi, Ne.symm hk]
    · simp [hi]

theorem lawAwake : Spec Try.prog 7 #[] [] fun F v M => v = .bool true ∧ M = F := by
  refine Spec.intro Try.func7 rfl rfl fun B F => ?_
  simp only [Try.ntmps7, List.cons_append, List.nil_append, env0, Nat.reduceAdd]
  have hda : (p300.da : Int) = 250 := rfl
  refine WC.seq ?_
  refine WC.region ?_
  refine WL.assign ?_
  refine WL.nil ?_
  refine WQ.next ?_
  refine WC.seq ?_
  refine WC.region ?_
  refine WL.call (hc := Try.call8) (sp := aFresh p300_is) (h := ?_)
  rintro _ _ ⟨c, a, rfl, rfl⟩
  refine WL.move ?_
  refine WL.extract ?_
  refine WL.extract ?_
  refine WL.extract ?_
  refine WL.extract ?_
  refine WL.alloc z27 fun b3 => ?_
  refine WL.assign ?_
  refine WL.assign ?_
  refine WL.stV ?_ agg27
  refine WL.assign ?_
  refine WL.nil ?_
  refine WQ.next ?_
  refine WC.seq ?_
  refine WC.seq ?_
  refine WC.region ?_
  refine WL.move ?_
  refine WL.not ?_
  refine WL.nil ?_
  refine WQ.next ?_
  refine WC.condF rfl rfl ?_
  refine WC.skip ?_
  refine WQ.next ?_
  refine WC.seq ?_
  refine WC.region ?_
  refine WL.move ?_
  refine WL.call (hc := Try.call9) (sp := aTakeK (k := 0) (bk := noneB) p300_is (by decide) rfl (fun i hi => by omega)) (h := ?_)
  rintro _ _ ⟨rfl, rfl⟩
  refine WL.move ?_
  refine WL.extract ?_
  refine WL.extract ?_
  refine WL.assign ?_
  refine WL.assign ?_
  refine WL.nil ?_
  refine WQ.next ?_
  refine WC.seq ?_
  refine WC.region ?_
  refine WL.move ?_
  have hone : ∀ i < 1, (setF noneB 0 true) i = true := by
    intro i hi
    have : i = 0 := by omega
    subst this
    rfl
  refine WL.call (hc := Try.call9) (sp := aTakeK (k := 1) (bk := (setF noneB 0 true)) p300_is (by decide) rfl hone) (h := ?_)
  rintro _ _ ⟨rfl, rfl⟩
  refine WL.move ?_
  refine WL.extract ?_
  refine WL.extract ?_
  refine WL.assign ?_
  refine WL.assign ?_
  refine WL.nil ?_
  refine WQ.next ?_
  refine WC.seq ?_
  refine WC.seq ?_
  refine WC.region ?_
  refine WL.move ?_
  refine WL.nei ?_
  refine WL.move ?_
  refine WL.gT ?_
  refine WL.move ?_
  refine WL.gT ?_
  refine WL.nei ?_
  refine WL.pickF ?_
  refine WL.move ?_
  refine WL.gT ?_
  refine WL.move ?_
  refine WL.gT ?_
  refine WL.fa ?_ fo27_5
  refine WL.gT ?_
  refine WL.ld ?_ sc3
  refine WL.gT ?_
  refine WL.nei ?_
  refine WL.pickF ?_
  refine WL.move ?_
  refine WL.gT ?_
  refine WL.move ?_
  refine WL.gT ?_
  refine WL.fa ?_ fo27_5
  refine WL.gT ?_
  refine WL.ld ?_ sc3
  refine WL.gT ?_
  refine WL.add ?_
  refine WL.gT ?_
  refine WL.nei ?_
  refine WL.pickF ?_
  refine WL.move ?_
  refine WL.gT ?_
  refine WL.move ?_
  refine WL.gT ?_
  refine WL.fa ?_ fo27_5
  refine WL.gT ?_
  refine WL.ld ?_ sc3
  refine WL.gT ?_
  refine WL.call (hc := Try.call10) (sp := aGiveBlock (k := 0) p300_is (by decide) rfl) (h := ?_)
  rintro _ _ ⟨rfl, rfl⟩
  refine WL.gT ?_
  refine WL.nei ?_
  refine WL.pickF ?_
  refine WL.nil ?_
  refine WQ.next ?_
  refine WC.condF rfl rfl ?_
  refine WC.skip ?_
  refine WQ.next ?_
  refine WC.seq ?_
  refine WC.region ?_
  refine WL.move ?_
  refine WL.call (hc := Try.call9) (sp := aTakeK (k := 0) (bk := (setF (setF (setF noneB 0 true) 1 true) 0 false)) p300_is (by decide) rfl (fun i hi => by omega)) (h := ?_)
  rintro _ _ ⟨rfl, rfl⟩
  refine WL.move ?_
  refine WL.extract ?_
  refine WL.extract ?_
  refine WL.assign ?_
  refine WL.assign ?_
  refine WL.nil ?_
  refine WQ.next ?_
  refine WC.seq ?_
  refine WC.region ?_
  refine WL.move ?_
  refine WL.eqi ?_
  refine WL.move ?_
  refine WL.gT ?_
  refine WL.move ?_
  refine WL.gT ?_
  refine WL.fa ?_ fo27_5
  refine WL.gT ?_
  refine WL.ld ?_ sc3
  refine WL.gT ?_
  refine WL.eqi ?_
  refine WL.pickT ?_
  refine WL.move ?_
  refine WL.gT ?_
  refine WL.move ?_
  refine WL.gT ?_
  refine WL.call (hc := Try.call15) (sp := aAbort) (h := ?_)
  rintro _ _ ⟨rfl, rfl⟩
  refine WL.gT ?_
  refine WL.eqi ?_
  refine WL.pickT ?_
  refine WL.assign ?_
  refine WL.nil ?_
  refine WQ.next ?_
  refine WC.ret (?_)
  exact WQ.ret1 (h1 := .tmp (t := 0) rfl) ⟨_, ⟨rfl, rfl⟩, Am.auto⟩


theorem setF_same {f : Nat → Bool} {k : Nat} {on : Bool} (h : f k = on) : setF f k on = f := by
  funext i
  unfold setF
  split
  · rename_i h2; rw [h2, h]
  · rfl
theorem aTakeFull (h : PlIs p) (hall : ∀ i < p.dc, bk i = true) : Spec Try.prog 9 #[.pointer (some ⟨a, 0, none⟩)] [AL a c p bk0 ik0 bk ik true] fun F v M =>
    v = .tuple #[.int .i64 0, .int .i64 3] ∧ M = AL a c p bk0 ik0 bk ik true :: F := by
  refine (aTakeBlock h).weak ?_
  rintro F v M (⟨j, hj, hj0, hjb, rfl, rfl⟩ | ⟨_, rfl, rfl⟩)
  · rw [hall j hj] at hj0; cases hj0
  · exact ⟨_, ⟨rfl, rfl⟩, .refl⟩
theorem first_free (f : Nat → Bool) : ∀ n : Nat, (∀ i < n, f i = true) ∨ ∃ i < n, f i = false ∧ ∀ j < i, f j = true
  | 0 => .inl fun i hi => by omega
  | n + 1 => by
    rcases first_free f n with h | ⟨i, hi, h1, h2⟩
    · cases hn : f n with
      | true =>
        refine .inl fun i hi => ?_
        by_cases hin : i = n
        · subst hin; exact hn
        · exact h i (by omega)
      | false => exact .inr ⟨n, by omega, hn, h⟩
    · exact .inr ⟨i, by omega, h1, h2⟩

theorem lawLeast {R : HP} {A : Option Addr} {m c0 : Nat} {xs : List Int} (hR0 : xs = [] ∨ Reads R A (ints xs)) (hm : xs.length = m) (hxs : ∀ x ∈ xs, -9223372036854775808 ≤ x ∧ x ≤ 9223372036854775807) (hbig : m ≤ 9223372036854775807) : Spec Try.prog 3 #[.slice A m c0] [R] fun F v M => v = .bool true ∧ M = R :: F := by
  refine Spec.intro Try.func3 rfl rfl fun B F => ?_
  simp only [Try.ntmps3, List.cons_append, List.nil_append, env0, Nat.reduceAdd]
  have hda : (p300.da : Int) = 250 := rfl
  have hdc : (p300.dc : Int) = 50 := rfl
  refine WC.seq ?_
  refine WC.region ?_
  refine WL.assign ?_
  refine WL.nil ?_
  refine WQ.next ?_
  refine WC.seq ?_
  refine WC.seq ?_
  refine WC.region ?_
  refine WL.move ?_
  refine WL.lenS ?_ sl22
  refine WL.gtr ?_
  refine WL.nil ?_
  refine WQ.next ?_
  refine WC.cond rfl (fun hb => ?_) (fun hb => ?_)
  · refine WC.seq ?_
    refine WC.region ?_
    refine WL.call (hc := Try.call7) (sp := lawAwake) (h := ?_)
    rintro _ _ ⟨rfl, rfl⟩
    refine WL.assign ?_
    refine WL.nil ?_
    refine WQ.next ?_
    refine WC.ret (WQ.thenRet (?_))
    exact WQ.ret1 (h1 := .tmp (t := 2) rfl) ⟨_, ⟨rfl, rfl⟩, Am.auto⟩
  · have hm60 : m ≤ 60 := by have := of_decide_eq_false hb; omega
    refine WC.skip ?_
    refine WQ.next ?_
    refine WC.seq ?_
    refine WC.region ?_
    refine WL.call (hc := Try.call8) (sp := aFresh p300_is) (h := ?_)
    rintro _ _ ⟨c, a, rfl, rfl⟩
    refine WL.move ?_
    refine WL.extract ?_
    refine WL.extract ?_
    refine WL.extract ?_
    refine WL.extract ?_
    refine WL.alloc z27 fun b5 => ?_
    refine WL.assign ?_
    refine WL.assign ?_
    refine WL.stV ?_ agg27
    refine WL.assign ?_
    refine WL.nil ?_
    refine WQ.next ?_
    refine WC.seq ?_
    refine WC.seq ?_
    refine WC.region ?_
    refine WL.move ?_
    refine WL.not ?_
    refine WL.nil ?_
    refine WQ.next ?_
    refine WC.condF rfl rfl ?_
    refine WC.skip ?_
    refine WQ.next ?_
    refine WC.seq ?_
    refine WC.region ?_
    refine WL.fa ?_ fo27_6
    refine WL.ld ?_ sc3
    refine WL.mkSN 50 z4 so30 (by decide) (by decide) fun b27 => ?_
    refine WL.to (A := buf b27 4 50 (List.replicate 50 (.bool false))) (A' := buf b27 4 50 (boolsV noneB 50)) (fun h hh => by rw [← boolsV_none]; exact hh) ?_
    refine WL.assign ?_
    refine WL.nil ?_
    refine WQ.next ?_
    refine WC.seq ?_
    refine WC.seq ?_
    refine WC.region ?_
    refine WL.assign ?_
    refine WL.nil ?_
    refine WQ.next ?_
    refine WC.block ?_
    refine WC.loopA (σ := Int × (Nat → Bool)) (fun s => [(0, .slice A m c0), (4, .pointer (some ⟨a, 0, none⟩)), (5, .pointer (some ⟨b5, 0, none⟩)), (7, .slice (some ⟨b27, 0, none⟩) 50 50), (8, .int .i64 s.1)]) (fun s => [R, pt b5 (.cells p300.cells 27 (0, 0)), buf b27 4 50 (boolsV s.2 50), AL a c p300 noneB rootB s.2 rootB true] ++ F) (fun s => 0 ≤ s.1 ∧ s.1 ≤ (m : Int)) (fun s => ((m : Int) - s.1).toNat) (0, noneB) (by show (0 : Int) ≤ 0 ∧ (0 : Int) ≤ (m : Int); omega) ?_
    rintro ⟨i, f⟩ hi
    refine WC.seq ?_
    refine WC.seq ?_
    refine WC.region ?_
    refine WL.move ?_
    refine WL.move ?_
    refine WL.lenS ?_ sl22
    refine WL.lss ?_
    refine WL.nil ?_
    refine WQ.next ?_
    refine WC.cond rfl (fun hb2 => ?_) (fun hb2 => ?_)
    · have hlt : i < (m : Int) := of_decide_eq_true hb2
      have hil : i.toNat < xs.length := by omega
      have hR := hR0.resolve_left (by intro h; subst h; simp at hil)
      rcases A with _ | ⟨ab, ao, asp⟩
      · exact absurd hR (fun h => by have h2 : ints xs = [] := h; simp [ints] at h2; subst h2; simp at hil)
      have hsp : asp = none := hR.1
      subst hsp
      have hxr := hxs _ (List.getElem_mem hil)
      refine WC.skip ?_
      refine WQ.next ?_
      refine WC.seq ?_
      refine WC.block ?_
      refine WC.seq ?_
      refine WC.seq ?_
      refine WC.region ?_
      refine WL.move ?_
      refine WL.move ?_
      refine WL.idx1 ?_ so22
      refine WL.ldR ?_ sc3 hR (ints_get hil)
      refine WL.geq ?_
      refine WL.nil ?_
      refine WQ.next ?_
      refine WC.cond rfl (fun hx => ?_) (fun hx => ?_)
      · rcases first_free f 50 with hall | ⟨k, hk, hk0, hkb⟩
        · refine WC.seq ?_
          refine WC.region ?_
          refine WL.move ?_
          refine WL.call (hc := Try.call9) (sp := aTakeFull p300_is hall) (h := ?_)
          rintro _ _ ⟨rfl, rfl⟩
          refine WL.move ?_
          refine WL.extract ?_
          refine WL.extract ?_
          refine WL.assign ?_
          refine WL.assign ?_
          refine WL.nil ?_
          refine WQ.next ?_
          refine WC.seq ?_
          refine WC.region ?_
          refine WL.assign ?_
          refine WL.nil ?_
          refine WQ.next ?_
          refine WC.seq ?_
          refine WC.block ?_
          refine WC.loopA (σ := Nat) (fun j => [(0, .slice (some ⟨ab, ao, none⟩) m c0), (4, .pointer (some ⟨a, 0, none⟩)), (5, .pointer (some ⟨b5, 0, none⟩)), (7, .slice (some ⟨b27, 0, none⟩) 50 50), (8, .int .i64 i), (9, .int .i64 0), (10, .int .i64 3), (11, .int .i64 (j : Int))]) (fun _ => [R, pt b5 (.cells p300.cells 27 (0, 0)), buf b27 4 50 (boolsV f 50), AL a c p300 noneB rootB f rootB true] ++ F) (fun j => j ≤ 50 ∧ ∀ q < j, f q = true) (fun j => 50 - j) 0 ⟨by omega, fun q hq => by omega⟩ ?_
          rintro j hj
          refine WC.seq ?_
          refine WC.seq ?_
          refine WC.region ?_
          refine WL.move ?_
          refine WL.fa ?_ fo27_6
          refine WL.ld ?_ sc3
          refine WL.lss ?_
          refine WL.move ?_
          refine WL.split (t := 48) rfl (fun hg => ?_) (fun hg => ?_)
          · have hl50 : (j : Int) < (p300.dc : Int) := of_decide_eq_true hg
            refine WL.gT ?_
            refine WL.move ?_
            refine WL.gT ?_
            refine WL.move ?_
            refine WL.gT ?_
            refine WL.idx1 ?_ so30
            refine WL.gT ?_
            refine WL.ldR (i := j) ?_ sc4 Reads.buf (boolsV_get f (n := 50) (k := j) (by omega))
            refine WL.pickT ?_
            refine WL.nil ?_
            refine WQ.next ?_
            refine WC.cond rfl (fun hft => ?_) (fun hft => ?_)
            · refine WC.skip ?_
              refine WQ.next ?_
              refine WC.block ?_
              refine WC.region ?_
              refine WL.move ?_
              refine WL.add ?_
              refine WL.assign ?_
              refine WL.nil ?_
              refine WQ.blockNormal ?_
              refine WQ.cast (d := 11) (u := .int .i64 ((j + 1 : Nat) : Int)) rfl (congrArg (Value.int .i64) (by omega)) ?_
              exact WQ.back (j + 1) ⟨by omega, fun q hq => by by_cases hqj : q = j; (rw [hqj]; exact hft); exact hj.2 q (by omega)⟩ (by omega)
            · exact absurd hft (by rw [hall j (by omega)]; decide)
          · have hl50 : ¬ (j : Int) < (p300.dc : Int) := of_decide_eq_false hg
            have hj50 : j = 50 := by omega
            subst hj50
            refine WL.gF ?_
            refine WL.gF ?_
            refine WL.gF ?_
            refine WL.gF ?_
            refine WL.pickF ?_
            refine WL.nil ?_
            refine WQ.next ?_
            refine WC.condF rfl rfl ?_
            refine WC.exit (WQ.thenExit (WQ.thenExit (WQ.blockExit (?_))))
            refine WQ.next ?_
            refine WC.seq ?_
            refine WC.seq ?_
            refine WC.region ?_
            refine WL.move ?_
            refine WL.fa ?_ fo27_6
            refine WL.ld ?_ sc3
            refine WL.eqi ?_
            refine WL.nil ?_
            refine WQ.next ?_
            refine WC.condT rfl (congrArg Value.bool (by first | (simp; done) | (simp; omega) | omega)) ?_
            refine WC.seq ?_
            refine WC.seq ?_
            refine WC.region ?_
            refine WL.move ?_
            refine WL.nei ?_
            refine WL.nil ?_
            refine WQ.next ?_
            refine WC.condF rfl rfl ?_
            refine WC.skip ?_
            refine WQ.next ?_
            refine WC.exit (WQ.thenExit (WQ.thenExit (WQ.blockExit (?_))))
            refine WQ.next ?_
            refine WC.region ?_
            refine WL.move ?_
            refine WL.add ?_
            refine WL.assign ?_
            refine WL.nil ?_
            exact WQ.back (i + 1, f) (by show 0 ≤ i + 1 ∧ i + 1 ≤ (m : Int); omega) (by show ((m : Int) - (i + 1)).toNat < ((m : Int) - i).toNat; omega)
        · refine WC.seq ?_
          refine WC.region ?_
          refine WL.move ?_
          refine WL.call (hc := Try.call9) (sp := aTakeK (k := k) p300_is hk hk0 hkb) (h := ?_)
          rintro _ _ ⟨rfl, rfl⟩
          refine WL.move ?_
          refine WL.extract ?_
          refine WL.extract ?_
          refine WL.assign ?_
          refine WL.assign ?_
          refine WL.nil ?_
          refine WQ.next ?_
          refine WC.seq ?_
          refine WC.region ?_
          refine WL.assign ?_
          refine WL.nil ?_
          refine WQ.next ?_
          refine WC.seq ?_
          refine WC.block ?_
          refine WC.loopA (σ := Nat) (fun j => [(0, .slice (some ⟨ab, ao, none⟩) m c0), (4, .pointer (some ⟨a, 0, none⟩)), (5, .pointer (some ⟨b5, 0, none⟩)), (7, .slice (some ⟨b27, 0, none⟩) 50 50), (8, .int .i64 i), (9, .int .i64 ((p300.da + k : Nat) : Int)), (10, .int .i64 0), (11, .int .i64 (j : Int))]) (fun _ => [R, pt b5 (.cells p300.cells 27 (0, 0)), buf b27 4 50 (boolsV f 50), AL a c p300 noneB rootB (setF f k true) rootB true] ++ F) (fun j => j ≤ 50 ∧ ∀ q < j, f q = true) (fun j => 50 - j) 0 ⟨by omega, fun q hq => by omega⟩ ?_
          rintro j hj
          refine WC.seq ?_
          refine WC.seq ?_
          refine WC.region ?_
          refine WL.move ?_
          refine WL.fa ?_ fo27_6
          refine WL.ld ?_ sc3
          refine WL.lss ?_
          refine WL.move ?_
          refine WL.split (t := 48) rfl (fun hg => ?_) (fun hg => ?_)
          · have hl50 : (j : Int) < (p300.dc : Int) := of_decide_eq_true hg
            refine WL.gT ?_
            refine WL.move ?_
            refine WL.gT ?_
            refine WL.move ?_
            refine WL.gT ?_
            refine WL.idx1 ?_ so30
            refine WL.gT ?_
            refine WL.ldR (i := j) ?_ sc4 Reads.buf (boolsV_get f (n := 50) (k := j) (by omega))
            refine WL.pickT ?_
            refine WL.nil ?_
            refine WQ.next ?_
            refine WC.cond rfl (fun hft => ?_) (fun hft => ?_)
            · refine WC.skip ?_
              refine WQ.next ?_
              refine WC.block ?_
              refine WC.region ?_
              refine WL.move ?_
              refine WL.add ?_
              refine WL.assign ?_
              refine WL.nil ?_
              refine WQ.blockNormal ?_
              refine WQ.cast (d := 11) (u := .int .i64 ((j + 1 : Nat) : Int)) rfl (congrArg (Value.int .i64) (by omega)) ?_
              exact WQ.back (j + 1) ⟨by omega, fun q hq => by by_cases hqj : q = j; (rw [hqj]; exact hft); exact hj.2 q (by omega)⟩ (by omega)
            · have hjk : j = k := by
                rcases Nat.lt_trichotomy j k with h1 | h1 | h1
                · rw [hkb j h1] at hft; cases hft
                · exact h1
                · rw [hj.2 k h1] at hk0; cases hk0
              subst hjk
              refine WC.exit (WQ.thenExit (WQ.thenExit (WQ.blockExit (?_))))
              refine WQ.next ?_
              refine WC.seq ?_
              refine WC.seq ?_
              refine WC.region ?_
              refine WL.move ?_
              refine WL.fa ?_ fo27_6
              refine WL.ld ?_ sc3
              refine WL.eqi ?_
              refine WL.nil ?_
              refine WQ.next ?_
              refine WC.condF rfl (congrArg Value.bool (by first | (simp; done) | (simp; omega) | omega)) ?_
              refine WC.skip ?_
              refine WQ.next ?_
              refine WC.seq ?_
              refine WC.seq ?_
              refine WC.region ?_
              refine WL.move ?_
              refine WL.nei ?_
              refine WL.move ?_
              refine WL.gT ?_
              refine WL.move ?_
              refine WL.gT ?_
              refine WL.fa ?_ fo27_5
              refine WL.gT ?_
              refine WL.ld ?_ sc3
              refine WL.gT ?_
              refine WL.move ?_
              refine WL.gT ?_
              refine WL.add ?_
              refine WL.gT ?_
              refine WL.nei ?_
              refine WL.pickF ?_
              refine WL.nil ?_
              refine WQ.next ?_
              refine WC.condF rfl (congrArg Value.bool (by first | (simp; done) | (simp; omega) | omega)) ?_
              refine WC.skip ?_
              refine WQ.next ?_
              refine WC.seq ?_
              refine WC.region ?_
              refine WL.move ?_
              refine WL.move ?_
              refine WL.idx1 ?_ so30
              refine WL.stB ?_ sc4 (show 0 + ((j : Nat) : Int).toNat < (boolsV f 50).length by rw [boolsV_length]; omega)
              refine WL.nil ?_
              refine WQ.next ?_
              refine WC.exit (WQ.thenExit (WQ.blockExit (?_)))
              refine WQ.next ?_
              refine WC.region ?_
              refine WL.move ?_
              refine WL.add ?_
              refine WL.assign ?_
              refine WL.nil ?_
              refine WQ.to (A := buf b27 4 50 ((boolsV f 50).set (0 + ((j : Nat) : Int).toNat) (.bool true))) (A' := buf b27 4 50 (boolsV (setF f j true) 50)) (fun h hh => by rw [← boolsV_set]; rw [show 0 + ((j : Nat) : Int).toNat = j from by omega] at hh; exact hh) ?_
              exact WQ.back (i + 1, setF f j true) (by show 0 ≤ i + 1 ∧ i + 1 ≤ (m : Int); omega) (by show ((m : Int) - (i + 1)).toNat < ((m : Int) - i).toNat; omega)
          · have hl50 : ¬ (j : Int) < (p300.dc : Int) := of_decide_eq_false hg
            have hj50 : j = 50 := by omega
            subst hj50
            exact absurd hk0 (by rw [hj.2 k hk]; decide)
      · have hneg : xs[i.toNat] < 0 := by have := of_decide_eq_false hx; omega
        obtain ⟨k, hk, hk50⟩ : ∃ k : Nat, -(xs[i.toNat] + 1) % (p300.dc : Int) = (k : Int) ∧ k < 50 := ⟨(-(xs[i.toNat] + 1) % (p300.dc : Int)).toNat, by rw [hdc]; omega, by rw [hdc]; omega⟩
        refine WC.skip ?_
        refine WQ.next ?_
        refine WC.seq ?_
        refine WC.draw ([R, pt b5 (.cells p300.cells 27 (0, 0))]) [] 10 #[false, false, false, false, false, false, false, false, false, false] mixed (by kernel_rfl) NoPanic.autoJ ?_
        refine WD.take (i := 0) #[true, false, false, false, false, false, false, false, false, false] rfl (by kernel_rfl) (Qt.move ) ?_
        refine WD.take (i := 1) #[true, true, false, false, false, false, false, false, false, false] rfl (by kernel_rfl) (Qt.move ) ?_
        refine WD.take (i := 2) #[true, true, true, false, false, false, false, false, false, false] rfl (by kernel_rfl) (Qt.idx1 so22) ?_
        refine WD.take (i := 3) #[true, true, true, true, false, false, false, false, false, false] rfl (by kernel_rfl) (Qt.ldR sc3 hR (ints_get hil)) ?_
        refine WD.take (i := 4) #[true, true, true, true, true, false, false, false, false, false] rfl (by kernel_rfl) (Qt.add ) ?_
        refine WD.take (i := 5) #[true, true, true, true, true, true, false, false, false, false] rfl (by kernel_rfl) (Qt.neg ) ?_
        refine WD.take (i := 6) #[true, true, true, true, true, true, true, false, false, false] rfl (by kernel_rfl) (Qt.fa fo27_6) ?_
        refine WD.take (i := 7) #[true, true, true, true, true, true, true, true, false, false] rfl (by kernel_rfl) (Qt.ld sc3) ?_
        refine WD.take (i := 8) #[true, true, true, true, true, true, true, true, true, false] rfl (by kernel_rfl) ((Qt.rem).eq (v' := .int .i64 (k : Int)) (congrArg (Value.int .i64) hk)) ?_
        refine WD.take (i := 9) #[true, true, true, true, true, true, true, true, true, true] rfl (by kernel_rfl) (Qt.assign ) ?_
        refine WD.done (by kernel_rfl) ?_
        cases hfk : f k
        · refine WQ.next ?_
          refine WC.seq ?_
          refine WC.seq ?_
          refine WC.draw ([pt b5 (.cells p300.cells 27 (0, 0)), buf b27 4 50 (boolsV f 50)]) [] 12 #[false, false, false, false, false, false, false, false, false, false, false, false] mixed (by kernel_rfl) NoPanic.autoJ ?_
          refine WD.take (i := 0) #[true, false, false, false, false, false, false, false, false, false, false, false] rfl (by kernel_rfl) (Qt.move ) ?_
          refine WD.take (i := 1) #[true, true, false, false, false, false, false, false, false, false, false, false] rfl (by kernel_rfl) (Qt.fa fo27_5) ?_
          refine WD.take (i := 2) #[true, true, true, false, false, false, false, false, false, false, false, false] rfl (by kernel_rfl) (Qt.ld sc3) ?_
          refine WD.take (i := 3) #[true, true, true, true, false, false, false, false, false, false, false, false] rfl (by kernel_rfl) (Qt.move ) ?_
          refine WD.take (i := 4) #[true, true, true, true, true, false, false, false, false, false, false, false] rfl (by kernel_rfl) ((Qt.add).eq (v' := .int .i64 ((p300.da + k : Nat) : Int)) (congrArg (Value.int .i64) (by omega))) ?_
          refine WD.take (i := 7) #[true, true, true, true, true, false, false, true, false, false, false, false] rfl (by kernel_rfl) (Qt.move ) ?_
          refine WD.take (i := 8) #[true, true, true, true, true, false, false, true, true, false, false, false] rfl (by kernel_rfl) (Qt.move ) ?_
          refine WD.take (i := 9) #[true, true, true, true, true, false, false, true, true, true, false, false] rfl (by kernel_rfl) (Qt.idx1 so30) ?_
          refine WD.take (i := 10) #[true, true, true, true, true, false, false, true, true, true, true, false] rfl (by kernel_rfl) ((Qt.ldR (i := k) sc4 Reads.buf (boolsV_get f (n := 50) (k := k) (by omega))).eq (v' := .bool false) (congrArg Value.bool hfk)) ?_
          refine WD.one (i := 5) #[true, true, true, true, true, true, false, true, true, true, true, false] rfl (by kernel_rfl) fun hnp => ?_
          refine WL.call (hc := Try.call10) (sp := aGiveBlockNo (bk0 := noneB) (ik0 := rootB) (bk := f) (ik := rootB) (k := ((p300.da + k : Nat) : Int)) p300_is (.inr (.inr ⟨by omega, by show ((250 + k : Nat) : Int) < ((300 : Nat) : Int); omega, by rw [show (((p300.da + k : Nat) : Int) - (p300.da : Int)).toNat = k from by omega]; exact hfk⟩)) (by omega)) (h := ?_)
          rintro _ _ ⟨rfl, rfl⟩
          refine WL.nil (WQ.wd hnp (.inl Am.auto) ?_)
          refine WD.take (i := 6) #[true, true, true, true, true, true, true, true, true, true, true, false] rfl (by kernel_rfl) (Qt.eqi ) ?_
          refine WD.take (i := 11) #[true, true, true, true, true, true, true, true, true, true, true, true] rfl (by kernel_rfl) (Qt.neB bk4) ?_
          refine WD.done (by kernel_rfl) ?_
          refine WQ.next ?_
          refine WC.condF rfl rfl ?_
          refine WC.skip ?_
          refine WQ.next ?_
          refine WC.region ?_
          refine WL.move ?_
          refine WL.move ?_
          refine WL.idx1 ?_ so30
          refine WL.stB ?_ sc4 (show 0 + ((k : Nat) : Int).toNat < (boolsV f 50).length by rw [boolsV_length]; omega)
          refine WL.nil ?_
          refine WQ.blockNormal ?_
          refine WQ.next ?_
          refine WC.region ?_
          refine WL.move ?_
          refine WL.add ?_
          refine WL.assign ?_
          refine WL.nil ?_
          have hsame : setF f k false = f := setF_same hfk
          refine WQ.to (A := AL a c p300 noneB rootB f rootB true) (A' := AL a c p300 noneB rootB (setF f k false) rootB true) (fun h hh => by rw [hsame]; exact hh) ?_
          refine WQ.to (A := buf b27 4 50 ((boolsV f 50).set (0 + ((k : Nat) : Int).toNat) (.bool false))) (A' := buf b27 4 50 (boolsV (setF f k false) 50)) (fun h hh => by rw [← boolsV_set]; rw [show 0 + ((k : Nat) : Int).toNat = k from by omega] at hh; exact hh) ?_
          exact WQ.back (i + 1, setF f k false) (by show 0 ≤ i + 1 ∧ i + 1 ≤ (m : Int); omega) (by show ((m : Int) - (i + 1)).toNat < ((m : Int) - i).toNat; omega)
        · refine WQ.next ?_
          refine WC.seq ?_
          refine WC.seq ?_
          refine WC.draw ([pt b5 (.cells p300.cells 27 (0, 0)), buf b27 4 50 (boolsV f 50)]) [] 12 #[false, false, false, false, false, false, false, false, false, false, false, false] mixed (by kernel_rfl) NoPanic.autoJ ?_
          refine WD.take (i := 0) #[true, false, false, false, false, false, false, false, false, false, false, false] rfl (by kernel_rfl) (Qt.move ) ?_
          refine WD.take (i := 1) #[true, true, false, false, false, false, false, false, false, false, false, false] rfl (by kernel_rfl) (Qt.fa fo27_5) ?_
          refine WD.take (i := 2) #[true, true, true, false, false, false, false, false, false, false, false, false] rfl (by kernel_rfl) (Qt.ld sc3) ?_
          refine WD.take (i := 3) #[true, true, true, true, false, false, false, false, false, false, false, false] rfl (by kernel_rfl) (Qt.move ) ?_
          refine WD.take (i := 4) #[true, true, true, true, true, false, false, false, false, false, false, false] rfl (by kernel_rfl) ((Qt.add).eq (v' := .int .i64 ((p300.da + k : Nat) : Int)) (congrArg (Value.int .i64) (by omega))) ?_
          refine WD.take (i := 7) #[true, true, true, true, true, false, false, true, false, false, false, false] rfl (by kernel_rfl) (Qt.move ) ?_
          refine WD.take (i := 8) #[true, true, true, true, true, false, false, true, true, false, false, false] rfl (by kernel_rfl) (Qt.move ) ?_
          refine WD.take (i := 9) #[true, true, true, true, true, false, false, true, true, true, false, false] rfl (by kernel_rfl) (Qt.idx1 so30) ?_
          refine WD.take (i := 10) #[true, true, true, true, true, false, false, true, true, true, true, false] rfl (by kernel_rfl) ((Qt.ldR (i := k) sc4 Reads.buf (boolsV_get f (n := 50) (k := k) (by omega))).eq (v' := .bool true) (congrArg Value.bool hfk)) ?_
          refine WD.one (i := 5) #[true, true, true, true, true, true, false, true, true, true, true, false] rfl (by kernel_rfl) fun hnp => ?_
          refine WL.call (hc := Try.call10) (sp := aGiveBlock (k := k) p300_is hk50 hfk) (h := ?_)
          rintro _ _ ⟨rfl, rfl⟩
          refine WL.nil (WQ.wd hnp (.inl Am.auto) ?_)
          refine WD.take (i := 6) #[true, true, true, true, true, true, true, true, true, true, true, false] rfl (by kernel_rfl) (Qt.eqi ) ?_
          refine WD.take (i := 11) #[true, true, true, true, true, true, true, true, true, true, true, true] rfl (by kernel_rfl) (Qt.neB bk4) ?_
          refine WD.done (by kernel_rfl) ?_
          refine WQ.next ?_
          refine WC.condF rfl rfl ?_
          refine WC.skip ?_
          refine WQ.next ?_
          refine WC.region ?_
          refine WL.move ?_
          refine WL.move ?_
          refine WL.idx1 ?_ so30
          refine WL.stB ?_ sc4 (show 0 + ((k : Nat) : Int).toNat < (boolsV f 50).length by rw [boolsV_length]; omega)
          refine WL.nil ?_
          refine WQ.blockNormal ?_
          refine WQ.next ?_
          refine WC.region ?_
          refine WL.move ?_
          refine WL.add ?_
          refine WL.assign ?_
          refine WL.nil ?_
          refine WQ.to (A := buf b27 4 50 ((boolsV f 50).set (0 + ((k : Nat) : Int).toNat) (.bool false))) (A' := buf b27 4 50 (boolsV (setF f k false) 50)) (fun h hh => by rw [← boolsV_set]; rw [show 0 + ((k : Nat) : Int).toNat = k from by omega] at hh; exact hh) ?_
          exact WQ.back (i + 1, setF f k false) (by show 0 ≤ i + 1 ∧ i + 1 ≤ (m : Int); omega) (by show ((m : Int) - (i + 1)).toNat < ((m : Int) - i).toNat; omega)
    · refine WC.exit (WQ.thenExit (WQ.thenExit (WQ.blockExit (?_))))
      refine WQ.next ?_
      refine WC.seq ?_
      refine WC.region ?_
      refine WL.call (hc := Try.call7) (sp := lawAwake) (h := ?_)
      rintro _ _ ⟨rfl, rfl⟩
      refine WL.assign ?_
      refine WL.nil ?_
      refine WQ.next ?_
      refine WC.ret (?_)
      exact WQ.ret1 (h1 := .tmp (t := 2) rfl) ⟨_, ⟨rfl, rfl⟩, Am.auto⟩

end Go.Proofs.Ytfmkhhdohfagkaa
