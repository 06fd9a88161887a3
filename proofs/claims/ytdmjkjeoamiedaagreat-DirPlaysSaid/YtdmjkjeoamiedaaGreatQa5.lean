/- A part of the proof of lawPlays: texts of this work put together. -/
import Derived.Test.YtdmjkjeoamiedaaGreatQa4
import Derived.KernelRfl
set_option linter.unusedVariables false
set_option linter.unusedSimpArgs false
set_option linter.unusedSectionVars false
section
namespace Go.Proofs.YtdmjkjeoamiedaaGreat
open Go
theorem sl47 : Tryz.prog.underlying 47 = some (.slice 119) := by kernel_rfl
theorem so47 : sliceOk Tryz.prog 47 119 2 24 = true := by kernel_rfl
theorem fo119_0 : fieldOk Tryz.prog 119 0 0 = true := by kernel_rfl
theorem z119 : zeroOf Tryz.prog 119 = some (#[.string ⟨#[]⟩, .int .i64 0]) := by kernel_rfl
theorem agg119 : aggOk Tryz.prog 119 2 = true := by kernel_rfl
theorem sc9 : scalarOk Tryz.prog 9 = true := by kernel_rfl
abbrev SortE (l : List Ent) : Prop := l.Pairwise fun x y => ¬ y.1 < x.1
theorem sorted_uniq {l m : List Ent} (hp : l.Perm m) (h1 : SortE l) (h2 : SortE m) (hn : (l.map (·.1)).Nodup) : l = m := by
  refine List.Perm.eq_of_pairwise (le := fun x y : Ent => ¬ y.1 < x.1) ?_ h1 h2 hp
  intro a b ha hb e1 e2
  have he : a.1 = b.1 := bytes_total e2 e1
  have hb' : b ∈ l := hp.mem_iff.2 hb
  obtain ⟨i, hi, hia⟩ := List.mem_iff_getElem.1 ha
  obtain ⟨j, hj, hjb⟩ := List.mem_iff_getElem.1 hb'
  have hij : i = j := by
    have h3 := List.pairwise_iff_getElem.1 (show List.Pairwise (· ≠ ·) (l.map (·.1)) from hn)
    rcases Nat.lt_trichotomy i j with h | h | h
    · exact absurd (by rw [List.getElem_map, List.getElem_map, hia, hjb]; exact he) (h3 i j (by rw [List.length_map]; exact hi) (by rw [List.length_map]; exact hj) h)
    · exact h
    · exact absurd (by rw [List.getElem_map, List.getElem_map, hia, hjb]; exact he.symm) (h3 j i (by rw [List.length_map]; exact hj) (by rw [List.length_map]; exact hi) h)
  subst hij
  rw [← hia, ← hjb]
def insE (l : List Ent) (j : Nat) (x : Ent) : List Ent := l.take j ++ x :: l.drop j
theorem insE_length (l : List Ent) {j : Nat} (h : j ≤ l.length) (x : Ent) : (insE l j x).length = l.length + 1 := by
  unfold insE
  rw [List.length_append, List.length_cons, List.length_take, List.length_drop]; omega
theorem insE_end (l : List Ent) (x : Ent) : insE l l.length x = l ++ [x] := by unfold insE; rw [List.take_length, List.drop_length]
theorem insE_perm (l : List Ent) (j : Nat) (x : Ent) : (insE l j x).Perm (l ++ [x]) := by
  unfold insE
  have h := (List.take_append_drop j l)
  refine (List.perm_middle).trans ?_
  rw [List.take_append_drop]
  exact (List.perm_append_singleton x l).symm
theorem insE_at {l : List Ent} {j : Nat} (h : j ≤ l.length) (x : Ent) : (insE l j x)[j]? = some x := by
  unfold insE
  rw [List.getElem?_append_right (by rw [List.length_take]; omega), List.length_take, Nat.min_eq_left h, Nat.sub_self]; rfl
theorem insE_lo {l : List Ent} {j i : Nat} (h : j ≤ l.length) (hi : i < j) (x : Ent) : (insE l j x)[i]? = l[i]? := by
  unfold insE
  rw [List.getElem?_append_left (by rw [List.length_take]; omega), List.getElem?_take, if_pos hi]
theorem insE_hi {l : List Ent} {j i : Nat} (h : j ≤ l.length) (hi : j ≤ i) (x : Ent) : (insE l j x)[i + 1]? = l[i]? := by
  unfold insE
  rw [List.getElem?_append_right (by rw [List.length_take]; omega), List.length_take, Nat.min_eq_left h, show i + 1 - j = (i - j) + 1 from by omega, List.getElem?_cons_succ, List.getElem?_drop, show j + (i - j) = i from by omega]
theorem insE_swap {l : List Ent} {j : Nat} (h : j + 1 ≤ l.length) (x : Ent) {y : Ent} (hy : l[j]? = some y) : ((insE l (j + 1) x).set (j + 1) y).set j x = insE l j x := by
  refine List.ext_getElem? fun i => ?_
  have hl := insE_length l h x
  rw [List.getElem?_set]
  by_cases h1 : j = i
  · subst h1
    rw [if_pos rfl, if_pos (by rw [List.length_set]; omega), insE_at (by omega)]
  · rw [if_neg h1, List.getElem?_set]
    by_cases h2 : j + 1 = i
    · subst h2
      rw [if_pos rfl, if_pos (by omega), insE_hi (by omega) (Nat.le_refl _), hy]
    · rw [if_neg h2]
      by_cases h3 : i < j
      · rw [insE_lo h (by omega), insE_lo (by omega) h3]
      · obtain ⟨k, rfl⟩ : ∃ k, i = k + 1 := ⟨i - 1, by omega⟩
        rw [insE_hi h (by omega), insE_hi (by omega) (by omega)]
theorem SortE.ins {l : List Ent} (hs : SortE l) {j : Nat} {x : Ent} (hj : j ≤ l.length) (hhi : ∀ y ∈ l.drop j, x.1 < y.1) (hlo : j = 0 ∨ ∃ y, l[j - 1]? = some y ∧ ¬ x.1 < y.1) : SortE (insE l j x) := by
  unfold insE
  refine List.pairwise_append.2 ⟨List.Pairwise.sublist (List.take_sublist j l) hs, List.pairwise_cons.2 ⟨fun y hy h => ?_, List.Pairwise.sublist (List.drop_sublist j l) hs⟩, fun a ha b hb => ?_⟩
  · exact List.lt_irrefl _ (List.lt_trans h (hhi y hy))
  · obtain ⟨i, hi, hia⟩ := List.mem_iff_getElem.1 ha
    rw [List.length_take] at hi
    rw [List.getElem_take] at hia
    have hij : i < j := by omega
    rcases List.mem_cons.1 hb with rfl | hb
    · rcases hlo with h0 | ⟨y, hy, hxy⟩
      · omega
      · obtain ⟨hjl, hyl⟩ := List.getElem?_eq_some_iff.1 hy
        rcases Nat.lt_or_ge i (j - 1) with h | h
        · have h3 := List.pairwise_iff_getElem.1 hs i (j - 1) (by omega) hjl h
          rw [hia, hyl] at h3
          intro h4
          have b1 : y.1 ≤ b.1 := hxy
          have b2 : a.1 ≤ y.1 := h3
          exact (List.le_trans b2 b1) h4
        · have : i = j - 1 := by omega
          subst this
          rw [hia] at hyl; subst hyl; exact hxy
    · obtain ⟨k, hk, hkb⟩ := List.mem_iff_getElem.1 hb
      rw [List.length_drop] at hk
      rw [List.getElem_drop] at hkb
      have h3 := List.pairwise_iff_getElem.1 hs i (j + k) (by omega) (by omega) (by omega)
      rw [hia, hkb] at h3
      exact h3
theorem entF_length (l : List Ent) : (l.flatMap entL).length = l.length * 2 := flat_length (enc := entL) (m := 2) entL_length l
theorem entF_get {l : List Ent} {i : Nat} {x : Ent} (h : l[i]? = some x) : (l.flatMap entL)[i * 2]? = some (sv x.1) ∧ (l.flatMap entL)[i * 2 + 1]? = some (nI x.2) := by
  induction l generalizing i with
  | nil => cases h
  | cons a l ih =>
    rw [List.flatMap_cons]
    cases i with
    | zero =>
      injection h with h; subst h
      exact ⟨rfl, rfl⟩
    | succ i =>
      have := ih (i := i) h
      rw [show (i + 1) * 2 = i * 2 + 2 from by omega]
      constructor
      · rw [List.getElem?_append_right (by show 2 ≤ _; omega)]
        show (l.flatMap entL)[i * 2 + 2 - 2]? = _
        rw [Nat.add_sub_cancel]; exact this.1
      · rw [List.getElem?_append_right (by show 2 ≤ _; omega)]
        show (l.flatMap entL)[i * 2 + 2 + 1 - 2]? = _
        rw [show i * 2 + 2 + 1 - 2 = i * 2 + 1 from by omega]; exact this.2
theorem entF_part {l : List Ent} {i : Nat} {x : Ent} (h : l[i]? = some x) : ((l.flatMap entL).drop (i * 2)).take 2 = entL x := by
  have h1 := entF_get h
  refine List.ext_getElem? fun j => ?_
  rw [List.getElem?_take]
  split
  · rename_i hj
    rw [List.getElem?_drop]
    rcases j with _ | _ | j
    · exact h1.1
    · exact h1.2
    · omega
  · rename_i hj
    rw [List.getElem?_eq_none (by show 2 ≤ j; omega)]
theorem entF_set {l : List Ent} {i : Nat} (h : i < l.length) (x : Ent) : (l.flatMap entL).take (i * 2) ++ entL x ++ (l.flatMap entL).drop (i * 2 + 2) = (l.set i x).flatMap entL := by
  induction l generalizing i with
  | nil => cases h
  | cons a l ih =>
    cases i with
    | zero => rfl
    | succ i =>
      have := ih (i := i) (by simpa using h)
      rw [List.set_cons_succ, List.flatMap_cons, List.flatMap_cons, ← this]
      have e1 : (entL a ++ l.flatMap entL).take ((i + 1) * 2) = entL a ++ (l.flatMap entL).take (i * 2) := by
        rw [show (i + 1) * 2 = (entL a).length + i * 2 from by show _ = 2 + i * 2; omega, List.take_length_add_append]
      have e2 : (entL a ++ l.flatMap entL).drop ((i + 1) * 2 + 2) = (l.flatMap entL).drop (i * 2 + 2) := by
        rw [show (i + 1) * 2 + 2 = (entL a).length + (i * 2 + 2) from by show _ = 2 + (i * 2 + 2); omega, List.drop_length_add_append]
      rw [e1, e2]
      simp only [List.append_assoc]
theorem take_succ' {α : Type} {l : List α} {k : Nat} (h : k < l.length) : l.take (k + 1) = l.take k ++ [l[k]] := List.take_succ_eq_append_getElem h
theorem bdE6 (s : ByteArray) (i : Int) : BuildOk Tryz.prog 119 [(0, .string s), (1, .int .i64 i)] #[.string s, .int .i64 i] := fun w => by kernel_rfl
theorem bsE6 (s : ByteArray) (i : Int) : BuildSOk Tryz.prog 47 1 [(0, .agg #[.string s, .int .i64 i])] 119 #[.string s, .int .i64 i] := fun w => by kernel_rfl
theorem rowR_reads {el size g k c : Nat} {xs : List Value} : Reads (rowR el size (.slice (some ⟨g, 0, none⟩) k c) k xs) (some ⟨g, 0, none⟩) xs := by
  refine ⟨rfl, fun h' hh' => ?_⟩
  unfold rowR at hh'
  obtain ⟨q1, q2⟩ := hh'
  rcases q2 with ⟨q2, _⟩ | ⟨g', cap', cur', q2, q3, q4, q5, q6, q7⟩
  · simp at q2
  · injection q2 with q21 q22 q23
    injection q21 with q21
    injection q21 with q21
    subst q21
    refine ⟨true, cur', el, (0, 0), q3, fun i hi => ?_⟩
    rw [← q1] at q7
    have := take_get q7 i hi
    simpa using this
theorem Qt.ltS {P : Program} {B : Base} {n : Fr} {e : Env} {L : List HP} {d : Nat} {ty : TypeId} {pos : String} {af : Array Edge} {x y : Operand} {gd : Option (Nat × Bool)} {t u : TypeId} (xs ys : Bytes) (hx : evo e x = some (sv xs) := by rfl) (hy : evo e y = some (sv ys) := by rfl) :
    Qt P B n e L ⟨some d, .binOp .lss t x y u, ty, pos, af, gd⟩ (.bool (decide (xs < ys))) :=
  Qt.strs (xs := bstr xs) (ys := bstr ys) (fun w => by
    have h1 : Op.bytesLess (bstr xs).toList (bstr ys).toList = decide (xs < ys) := by rw [Go.Proofs.bytesLess_eq, ByteArray.toList_eq, ByteArray.toList_eq]; rfl
    rw [binOp_string_lss, h1]; rfl) hx hy
theorem entsS_none {sl : List Slot} {k : Nat} (h : k < sl.length) (hs : sl[k] = none) : entsS (sl.take (k + 1)) = entsS (sl.take k) := by
  unfold entsS
  rw [take_succ' h, List.filterMap_append, hs]
  exact List.append_nil _
theorem entsS_some {sl : List Slot} {k : Nat} {x : Ent} (h : k < sl.length) (hs : sl[k] = some x) : entsS (sl.take (k + 1)) = entsS (sl.take k) ++ [x] := by
  unfold entsS
  rw [take_succ' h, List.filterMap_append, hs]
  rfl
theorem rsList {s : Nat} {p : Pl} {T : FT} {os : List (Nat × Obj)} {N : Nat} (hi0 : 1 ≤ p.ino) (hi1 : p.ino ≤ 4096) {d : Nat} {sl : List Slot} (hT : RT p T) (hTd : T d = some (.dir sl)) : Spec Tryz.prog 20 #[.pointer (some ⟨s, 0, none⟩), nI d] [RS s p T os N, frz os] fun F v M => ∃ u l, v = .tuple #[u, .int .i64 0] ∧ ((l : List Ent).Perm (entsS sl) ∧ SortE l) ∧ M = rowR 119 2 u l.length (l.flatMap entL) :: RS s p T os N :: frz os :: F := by
  refine Spec.intro Tryz.func20 rfl rfl fun B F => ?_
  simp only [Tryz.ntmps20, List.cons_append, List.nil_append, env0, Nat.reduceAdd]
  have hi : d < p.ino := in_ino hT hTd
  have hsl := (hT.ok d sl hTd).2
  refine .sr (.assign (.assign (.z (.seq (.sr (.move (.move ?_)))))))
  refine .call (hc := Tryz.call60) (sp := rsThere (s := s) (p := p) (T := T) (os := os) (N := N) hi0 hi1 (i := d) hT) (h := ?_)
  rintro _ _ ⟨rfl, rfl⟩
  rw [hTd]
  refine .not ?_
  refine .z ?_
  refine .condF rfl rfl ?_
  refine .skip (.next (.seq (.sr ?_)))
  refine .openR (RS.opens s p T os N) fun y hy => ?_
  obtain ⟨u, L, wk, mv, ms⟩ := y
  simp only [rsLs, List.cons_append, List.nil_append]
  refine .fact (rowR_some (el := 93) (size := 2) (v := u) (k := p.ino) (xs := L.flatMap rowV) (by omega)) (fun ⟨ab, cc, hu, hR, hc1, hc2⟩ => ?_)
  subst hu
  have hlen : L.length = p.ino := hy.len
  have hil : d < L.length := by omega
  have hrow := hy.row d hil
  obtain ⟨A1, c1, hs1, hr1, hl1, hm1⟩ := hrow.sl
  obtain ⟨e1, hek⟩ : ∃ e, L[d] = e := ⟨_, rfl⟩
  have hkd : e1.1 = refK (T d) := hek ▸ hrow.kd
  have hg0 : (L.flatMap rowV)[((d : Nat) : Int).toNat * 2 + 0]? = some (nI e1.1) := by rw [Int.toNat_natCast, ← hek]; exact (rowV_get hil).1
  have hg1 : (L.flatMap rowV)[((d : Nat) : Int).toNat * 2 + 1]? = some (.slice A1 (refBy (T d)).length c1) := by rw [Int.toNat_natCast, ← hs1]; exact (rowV_get hil).2
  rw [hkd] at hg0
  rw [hTd] at hg0
  rw [refBy_dir hTd] at hg1 hr1 hl1
  have hrl := rdirB_length sl
  refine .move ?_
  refine .nilCheck ?_
  refine .fa ?_ fo80_1
  refine .ld ?_ sc77
  refine .move ?_
  refine .idx ?_ so77
  refine .fa ?_ fo93_0
  refine .ldR (R := rowR 93 2 (.slice (some ⟨ab, 0, none⟩) p.ino cc) p.ino (L.flatMap rowV)) ?_ sc3 hR hg0
  refine .cast (d := 24) (u := nI 2) rfl rfl ?_
  refine .nei ?_
  refine .z ?_
  refine .condF rfl (congrArg Value.bool (by first | (simp; done) | (simp; omega) | omega)) ?_
  refine .skip (.next (.sr (.assign ?_)))
  refine .emp (rowR.nil (e := 119) (size := 2) _) ?_
  refine .x (.move ?_)
  refine .nilCheck ?_
  refine .fa ?_ fo80_1
  refine .ld ?_ sc77
  refine .move ?_
  refine .idx ?_ so77
  refine .fa ?_ fo93_1
  refine .ldR (R := rowR 93 2 (.slice (some ⟨ab, 0, none⟩) p.ino cc) p.ino (L.flatMap rowV)) ?_ sc91 hR hg1
  refine .assign (.z (.seq (.sr (.assign (.z (.block ?_))))))
  refine .loopA (σ := Nat × Value × List Ent) (fun y => [(6, y.2.1), (7, .slice A1 (rdirB sl).length c1), (8, .int .i64 ((y.1 : Nat) : Int))]) (fun y => [rowR 119 2 y.2.1 y.2.2.length (y.2.2.flatMap entL), pt s (sO p (.slice (some ⟨ab, 0, none⟩) p.ino cc) wk mv), rowR 93 2 (.slice (some ⟨ab, 0, none⟩) p.ino cc) p.ino (L.flatMap rowV), rowR 3 1 mv ms.length (ints ms), frz os] ++ F) (fun y => y.1 ≤ sl.length ∧ y.2.2.Perm (entsS (sl.take y.1)) ∧ SortE y.2.2) (fun y => sl.length - y.1) (0, .slice none 0 0, []) ⟨Nat.zero_le _, List.Perm.refl _, List.Pairwise.nil⟩ ?_
  rintro y hi3
  obtain ⟨k, u, acc⟩ := y
  obtain ⟨hk, hpm, hso⟩ := hi3
  simp only at hk hpm hso ⊢
  refine .seq (.sr (.move ?_))
  refine .mul ?_
  refine .move ?_
  refine .lenS ?_ sl91
  refine .lss ?_
  refine .z ?_
  refine .cond rfl (fun hb => ?_) (fun hb => ?_)
  · have hlt : k < sl.length := by have h : 64 * (k : Int) < ((rdirB sl).length : Int) := of_decide_eq_true hb; omega
    have hrR := hr1.resolve_left (fun h => by rw [h] at hrl; simp only [List.length_nil] at hrl; omega)
    obtain ⟨hs50, hs65⟩ := slot_small hT hTd hlt
    have hacc : acc.length ≤ k := by
      have h1 := hpm.length_eq
      have h2 := entsS_length (sl := sl.take k)
      rw [List.length_take] at h2; omega
    cases hs : sl[k] with
    | none =>
      have he : slotNm sl[k] = [] := by rw [hs]; rfl
      refine .skip (.next (.seq (.block (.sr (.move (.move ?_))))))
      refine .call (hc := Tryz.call48) (sp := rfAt (k := k) (bs := rdirB sl) (s := sl[k]) hrR rfl (by omega) hl1 (by omega) (rdirB_at hlt) hs50 hs65) (h := ?_)
      rintro _ _ ⟨rfl, rfl⟩
      refine .move ?_
      refine .extract ?_
      refine .extract ?_
      refine .assign (.assign (.z (.seq (.sr (.move ?_)))))
      refine .eqS (slotNm sl[k]) [] ?_
      refine .cast (d := 48) (u := .bool true) rfl (congrArg Value.bool (decide_eq_true he)) ?_
      refine .z ?_
      refine .condT rfl rfl ?_
      refine .exit (.thenExit (.blockExit (?_)))
      refine .next (.region (.move ?_))
      refine .add ?_
      refine .assign (.nil ?_)
      refine .cast (d := 8) (u := .int .i64 ((k + 1 : Nat) : Int)) rfl (congrArg (Value.int .i64) (by omega)) ?_
      exact .back (k + 1, u, acc) ⟨by show k + 1 ≤ sl.length; omega, by show acc.Perm (entsS (sl.take (k + 1))); rw [entsS_none hlt hs]; exact hpm, hso⟩ (by show sl.length - (k + 1) < sl.length - k; omega)
    | some x =>
      obtain ⟨nm, i⟩ := x
      have hnm := ((hT.ok d sl hTd).1.nm k nm i (by rw [List.getElem?_eq_getElem hlt, hs])).1
      have he : slotNm sl[k] ≠ [] := by rw [hs]; intro h; have h : nm = [] := h; rw [h] at hnm; exact absurd hnm.1 (by decide)
      have hen : slotNm sl[k] = nm := by rw [hs]; rfl
      have hei : slotNo sl[k] = i := by rw [hs]; rfl
      refine .skip (.next (.seq (.block (.sr (.move (.move ?_))))))
      refine .call (hc := Tryz.call48) (sp := rfAt (k := k) (bs := rdirB sl) (s := sl[k]) hrR rfl (by omega) hl1 (by omega) (rdirB_at hlt) hs50 hs65) (h := ?_)
      rintro _ _ ⟨rfl, rfl⟩
      refine .move ?_
      refine .extract ?_
      refine .extract ?_
      refine .assign (.assign (.z (.seq (.sr (.move ?_)))))
      refine .eqS (slotNm sl[k]) [] ?_
      refine .cast (d := 48) (u := .bool false) rfl (congrArg Value.bool (decide_eq_false he)) ?_
      refine .z ?_
      refine .condF rfl rfl ?_
      refine .skip (.next (.sr (.move (.move ?_))))
      refine .cast (d := 50) (u := sv nm) rfl (congrArg sv hen) ?_
      refine .move ?_
      refine .cast (d := 51) (u := nI i) rfl (congrArg nI hei) ?_
      refine .build ?_ (bdE6 _ _)
      refine .buildS (fun b53 => ?_) (bsE6 _ _)
      refine .append (m := 1) (news := [sv nm, nI i]) so47 (by decide) (by repeat (first | exact .here | apply Rem.there | apply Repl.there | apply Mem.there)) Reads.pt (by repeat (first | exact .here | apply Rem.there | apply Repl.there | apply Mem.there)) rfl (by intro x hx; simp only [List.mem_cons, List.not_mem_nil, or_false] at hx; rcases hx with rfl | rfl <;> rfl) (by show acc.length + 1 ≤ maxLen; unfold maxLen; omega) (by show (acc.length + 1) * _ ≤ _; omega) ⟨_, z119, rfl⟩ (fun u2 hu2 => ?_)
      refine .to (A := rowR 119 2 u2 (acc.length + 1) (acc.flatMap entL ++ [sv nm, nI i])) (A' := rowR 119 2 u2 (acc.length + 1) ((insE acc acc.length (nm, i)).flatMap entL)) (fun h hh => by rw [insE_end, List.flatMap_append]; exact hh) ?_
      refine .fact (rowR_some (el := 119) (size := 2) (v := u2) (k := acc.length + 1) (xs := (insE acc acc.length (nm, i)).flatMap entL) (by omega)) (fun ⟨g2, c2, hu2', hR2, hc3, hc4⟩ => ?_)
      subst hu2'
      refine .assign (.x (.move ?_))
      refine .lenS ?_ sl47
      refine .sub ?_
      refine .cast (d := 57) (u := nI acc.length) rfl (congrArg (Value.int .i64) (by omega)) ?_
      refine .assign (.z (.block ?_))
      refine .loopA (σ := Nat) (fun j => [(6, .slice (some ⟨g2, 0, none⟩) (acc.length + 1) c2), (7, .slice A1 (rdirB sl).length c1), (8, .int .i64 ((k : Nat) : Int)), (11, nI j)]) (fun j => [rowR 119 2 (.slice (some ⟨g2, 0, none⟩) (acc.length + 1) c2) (acc.length + 1) ((insE acc j (nm, i)).flatMap entL), pt s (sO p (.slice (some ⟨ab, 0, none⟩) p.ino cc) wk mv), rowR 93 2 (.slice (some ⟨ab, 0, none⟩) p.ino cc) p.ino (L.flatMap rowV), rowR 3 1 mv ms.length (ints ms), frz os] ++ F) (fun j => j ≤ acc.length ∧ ∀ y ∈ acc.drop j, nm < y.1) (fun j => j) acc.length ⟨Nat.le_refl _, fun y hy => by rw [List.drop_length] at hy; cases hy⟩ ?_
      rintro j hj2
      obtain ⟨hj, hhi⟩ := hj2
      refine .seq (.seq ?_)
      have hil2 := insE_length acc hj (nm, i)
      by_cases hj0 : 0 < j
      · obtain ⟨q, rfl⟩ : ∃ q, j = q + 1 := ⟨j - 1, by omega⟩
        have hqa : q < acc.length := by omega
        obtain ⟨z, hz⟩ : ∃ z, acc[q]? = some z := ⟨_, List.getElem?_eq_getElem hqa⟩
        have hat1 := insE_at hj (nm, i)
        have hat0 : (insE acc (q + 1) (nm, i))[q]? = some z := by rw [insE_lo hj (by omega)]; exact hz
        have hR2 := rowR_reads (el := 119) (size := 2) (g := g2) (k := acc.length + 1) (c := c2) (xs := (insE acc (q + 1) (nm, i)).flatMap entL)
        have hgx := (entF_get hat1).1
        have hgz := (entF_get hat0).1
        refine .dr ([rowR 119 2 (.slice (some ⟨g2, 0, none⟩) (acc.length + 1) c2) (acc.length + 1) ((insE acc (q + 1) (nm, i)).flatMap entL)]) [] 16 mixed .autoJ ?_
        refine .tk 0 rfl .move ?_
        refine .tk 1 rfl .gtr ?_
        refine .tk 2 rfl (Qt.eq .move (congrArg Value.bool (show decide (((q + 1 : Nat) : Int) > 0) = true from decide_eq_true (by omega)))) ?_
        refine .tn 3 rfl .move ?_
        refine .tn 4 rfl .move ?_
        refine .tn 5 rfl (.idx so47) ?_
        refine .tn 6 rfl (.fa fo119_0) ?_
        refine .tn 7 rfl (Qt.ldR (i := (((q + 1 : Nat) : Int)).toNat * 2 + 0) sc9 hR2 (by rw [Int.toNat_natCast]; exact hgx)) ?_
        refine .tn 8 rfl .move ?_
        refine .tn 9 rfl .move ?_
        refine .tn 10 rfl (Qt.eq .sub (congrArg (Value.int .i64) (show ((q + 1 : Nat) : Int) - 1 = ((q : Nat) : Int) by omega))) ?_
        refine .tn 11 rfl (.idx so47) ?_
        refine .tn 12 rfl (.fa fo119_0) ?_
        refine .tn 13 rfl (Qt.ldR (i := (((q : Nat) : Int)).toNat * 2 + 0) sc9 hR2 (by rw [Int.toNat_natCast]; exact hgz)) ?_
        refine .tn 14 rfl (Qt.ltS nm z.1) ?_
        refine .tk 15 rfl .pickT ?_
        refine .fin ?_
        by_cases hlz : nm < z.1
        · have hhi2 : ∀ y ∈ acc.drop q, nm < y.1 := by
            intro y hy
            rw [List.drop_eq_getElem_cons hqa] at hy
            rcases List.mem_cons.1 hy with hy | hy
            · have : acc[q] = z := by rw [List.getElem?_eq_getElem hqa] at hz; exact Option.some.inj hz
              rw [hy, this]; exact hlz
            · exact hhi y hy
          have hsw := insE_swap (l := acc) (j := q) (by omega) (nm, i) hz
          have hsl1 : q + 1 < (insE acc (q + 1) (nm, i)).length := by omega
          obtain ⟨l1, hl1e⟩ : ∃ l1, (insE acc (q + 1) (nm, i)).set (q + 1) z = l1 := ⟨_, rfl⟩
          have hl1l : l1.length = acc.length + 1 := by rw [← hl1e, List.length_set, hil2]
          refine .next ?_
          refine .condT rfl (congrArg Value.bool (by first | exact decide_eq_true hlz | (simp; done) | (simp; omega) | omega)) ?_
          refine .skip (.next (.seq (.block (.sr (.move (.move ?_))))))
          refine .idx ?_ so47
          refine .ldAR (i := ((q + 1 : Nat) : Int).toNat * 2) (us := entL (nm, i)) ?_ agg119 hR2 (by rw [Int.toNat_natCast]; exact entF_part hat1) (by rw [entF_length, Int.toNat_natCast]; omega)
          refine .alloc z119 fun b12 => ?_
          refine .stV ?_ agg119
          refine .x (.move (.move (.move (.move ?_))))
          refine .sub ?_
          refine .cast (d := 84) (u := nI q) rfl (congrArg (Value.int .i64) (by omega)) ?_
          refine .idx ?_ so47
          refine .ldAR (i := ((q : Nat) : Int).toNat * 2) (us := entL z) ?_ agg119 hR2 (by rw [Int.toNat_natCast]; exact entF_part hat0) (by rw [entF_length, Int.toNat_natCast]; omega)
          refine .idx ?_ so47
          refine .stRowA (g := g2) (size := 2) (num := acc.length + 1) (c := c2) (off := 0 + ((q + 1 : Nat) : Int).toNat * 2) (xs := (insE acc (q + 1) (nm, i)).flatMap entL) (us := (entL z).toArray) rfl ?_ agg119 rfl (show [_, _] ≠ [] from List.cons_ne_nil _ _) (by intro x hx; unfold entL at hx; simp only [List.mem_cons, List.not_mem_nil, or_false] at hx; rcases hx with rfl | rfl <;> rfl) (by rw [entF_length, Int.toNat_natCast]; show 0 + (q + 1) * 2 + 2 ≤ _; omega) (by repeat (first | exact .here | apply Rem.there | apply Repl.there | apply Mem.there))
          refine .to (A := rowR 119 2 (.slice (some ⟨g2, 0, none⟩) (acc.length + 1) c2) (acc.length + 1) (((insE acc (q + 1) (nm, i)).flatMap entL).take (0 + ((q + 1 : Nat) : Int).toNat * 2) ++ (entL z).toArray.toList ++ ((insE acc (q + 1) (nm, i)).flatMap entL).drop (0 + ((q + 1 : Nat) : Int).toNat * 2 + (entL z).toArray.toList.length))) (A' := rowR 119 2 (.slice (some ⟨g2, 0, none⟩) (acc.length + 1) c2) (acc.length + 1) (l1.flatMap entL)) (fun h hh => by rw [← hl1e, ← entF_set (by omega)]; rw [Int.toNat_natCast, Nat.zero_add] at hh; exact hh) ?_
          refine .y (.move (.move ?_))
          refine .sub ?_
          refine .cast (d := 90) (u := nI q) rfl (congrArg (Value.int .i64) (by omega)) ?_
          refine .ldA ?_ agg119
          refine .idx ?_ so47
          refine .stRowA (g := g2) (size := 2) (num := acc.length + 1) (c := c2) (off := 0 + ((q : Nat) : Int).toNat * 2) (xs := l1.flatMap entL) (us := (entL (nm, i)).toArray) rfl ?_ agg119 rfl (show [_, _] ≠ [] from List.cons_ne_nil _ _) (by intro x hx; unfold entL at hx; simp only [List.mem_cons, List.not_mem_nil, or_false] at hx; rcases hx with rfl | rfl <;> rfl) (by rw [entF_length, Int.toNat_natCast]; show 0 + (q) * 2 + 2 ≤ _; omega) (by repeat (first | exact .here | apply Rem.there | apply Repl.there | apply Mem.there))
          refine .to (A := rowR 119 2 (.slice (some ⟨g2, 0, none⟩) (acc.length + 1) c2) (acc.length + 1) ((l1.flatMap entL).take (0 + ((q : Nat) : Int).toNat * 2) ++ (entL (nm, i)).toArray.toList ++ (l1.flatMap entL).drop (0 + ((q : Nat) : Int).toNat * 2 + (entL (nm, i)).toArray.toList.length))) (A' := rowR 119 2 (.slice (some ⟨g2, 0, none⟩) (acc.length + 1) c2) (acc.length + 1) ((insE acc q (nm, i)).flatMap entL)) (fun h hh => by rw [← hsw, hl1e, ← entF_set (by omega)]; rw [Int.toNat_natCast, Nat.zero_add] at hh; exact hh) ?_
          refine .nil (.blockNormal (.next (.region (.move ?_))))
          refine .sub ?_
          refine .cast (d := 75) (u := nI q) rfl (congrArg (Value.int .i64) (by omega)) ?_
          refine .assign (.nil ?_)
          exact .back q ⟨by show q ≤ acc.length; omega, hhi2⟩ (by show q < q + 1; omega)
        · refine .next ?_
          refine .condF rfl (congrArg Value.bool (by first | exact decide_eq_false hlz | (simp; done) | (simp; omega) | omega)) ?_
          refine .exit (.thenExit (.thenExit (.blockExit (?_))))
          refine .blockNormal (.next (.region (.move ?_)))
          refine .add ?_
          refine .assign (.nil ?_)
          refine .cast (d := 8) (u := .int .i64 ((k + 1 : Nat) : Int)) rfl (congrArg (Value.int .i64) (by omega)) ?_
          refine .to (A := rowR 119 2 (.slice (some ⟨g2, 0, none⟩) (acc.length + 1) c2) (acc.length + 1) ((insE acc (q + 1) (nm, i)).flatMap entL)) (A' := rowR 119 2 (.slice (some ⟨g2, 0, none⟩) (acc.length + 1) c2) (insE acc (q + 1) (nm, i)).length ((insE acc (q + 1) (nm, i)).flatMap entL)) (fun h hh => by rw [hil2]; exact hh) ?_
          exact .back (k + 1, .slice (some ⟨g2, 0, none⟩) (acc.length + 1) c2, insE acc (q + 1) (nm, i)) ⟨by show k + 1 ≤ sl.length; omega, by show (insE acc (q + 1) (nm, i)).Perm (entsS (sl.take (k + 1))); rw [entsS_some hlt hs]; exact (insE_perm acc (q + 1) (nm, i)).trans (hpm.append_right _), hso.ins hj hhi (.inr ⟨z, by rw [Nat.add_sub_cancel]; exact hz, hlz⟩)⟩ (by show sl.length - (k + 1) < sl.length - k; omega)
      · obtain rfl : j = 0 := by omega
        refine .dr ([rowR 119 2 (.slice (some ⟨g2, 0, none⟩) (acc.length + 1) c2) (acc.length + 1) ((insE acc 0 (nm, i)).flatMap entL)]) [] 16 mixed .autoJ ?_
        refine .tk 0 rfl .move ?_
        refine .tk 1 rfl .gtr ?_
        refine .tk 2 rfl (Qt.eq .move (congrArg Value.bool (show decide (((0 : Nat) : Int) > 0) = false from rfl))) ?_
        refine .tf 3 rfl ?_
        refine .tf 4 rfl ?_
        refine .tf 5 rfl ?_
        refine .tf 6 rfl ?_
        refine .tf 7 rfl ?_
        refine .tf 8 rfl ?_
        refine .tf 9 rfl ?_
        refine .tf 10 rfl ?_
        refine .tf 11 rfl ?_
        refine .tf 12 rfl ?_
        refine .tf 13 rfl ?_
        refine .tf 14 rfl ?_
        refine .tk 15 rfl .pickF ?_
        refine .fin ?_
        refine .next ?_
        refine .condF rfl rfl ?_
        refine .exit (.thenExit (.thenExit (.blockExit (?_))))
        refine .blockNormal (.next (.region (.move ?_)))
        refine .add ?_
        refine .assign (.nil ?_)
        refine .cast (d := 8) (u := .int .i64 ((k + 1 : Nat) : Int)) rfl (congrArg (Value.int .i64) (by omega)) ?_
        refine .to (A := rowR 119 2 (.slice (some ⟨g2, 0, none⟩) (acc.length + 1) c2) (acc.length + 1) ((insE acc 0 (nm, i)).flatMap entL)) (A' := rowR 119 2 (.slice (some ⟨g2, 0, none⟩) (acc.length + 1) c2) (insE acc 0 (nm, i)).length ((insE acc 0 (nm, i)).flatMap entL)) (fun h hh => by rw [hil2]; exact hh) ?_
        exact .back (k + 1, .slice (some ⟨g2, 0, none⟩) (acc.length + 1) c2, insE acc 0 (nm, i)) ⟨by show k + 1 ≤ sl.length; omega, by show (insE acc 0 (nm, i)).Perm (entsS (sl.take (k + 1))); rw [entsS_some hlt hs]; exact (insE_perm acc 0 (nm, i)).trans (hpm.append_right _), hso.ins hj hhi (.inl rfl)⟩ (by show sl.length - (k + 1) < sl.length - k; omega)
  · have hge : k = sl.length := by have h : ¬ 64 * (k : Int) < ((rdirB sl).length : Int) := of_decide_eq_false hb; omega
    rw [hge, List.take_length] at hpm
    refine .exit (.thenExit (.thenExit (.blockExit (?_))))
    refine .next (.sr (.move (.assign (.assign (.z ?_)))))
    refine .ret (?_)
    refine .shutR (RS.opens s p T os N) ⟨.slice (some ⟨ab, 0, none⟩) p.ino cc, L, wk, mv, ms⟩ hy ?_
    exact .ret2 (h1 := .tmp (t := 4) rfl) (h2 := .tmp (t := 5) rfl) ⟨_, ⟨u, acc, rfl, ⟨hpm, hso⟩, rfl⟩, Am.auto⟩
theorem dLayFull {s a c : Nat} {p : Pl} {F0 Fm : FM} {W d q i : Nat} {nm : Bytes} {sl : List Slot} (ho : PlOk p) (hF : Fm d = some (2, dirB sl)) (hq : q ≤ sl.length) (hq2 : q < 1104) (hn : nm.length ≤ 50) (hi : i < 4294967296) (hw : Rw p W 13) (hfit : p.dc + has (64 * sl.length) < tot Fm p.ino + has (max (64 * sl.length) (64 * q + 64))) :
    Spec Tryz.prog 42 #[.pointer (some ⟨s, 0, none⟩), nI d, nI (64 * q), sv nm, nI i] [IN s a c p F0 Fm W true] fun G v M => v = nI 3 ∧ M = IN s a c p F0 Fm W true :: G := by
  refine Spec.intro Tryz.func42 rfl rfl fun B F => ?_
  simp only [Tryz.ntmps42, List.cons_append, List.nil_append, env0, Nat.reduceAdd]
  have hdl := dirB_length sl
  have hsl := slotB_length (some (nm, i))
  have hhs := has_slot sl.length q (by omega)
  refine .sr (.assign (.x ?_))
  refine .mkSN 64 z5 so91 (by decide) (by decide) fun b15 => ?_
  refine .to (A' := buf b15 5 64 (bvs (List.replicate 64 0))) (fun h hh => by rw [bvs_replicate]; exact hh) ?_
  refine .move ?_
  refine .cvt ?_ un3 un138
  refine .cast (d := 17) (u := .int .u64 (i : Int)) rfl (congrArg (Value.int .u64) (IntWalk.u64_in _ (by omega))) ?_
  refine .call (hc := Tryz.call90) (sp := bitsPut (n := 64) (xs := List.replicate 64 0) (p := 0) (size := 4) (big := false) (v := i) Reads.buf List.length_replicate (by decide) (by decide) (by decide) (by decide) (by omega)) (h := ?_)
  rintro _ _ ⟨gb, qq, ⟨rfl, h1, h2⟩, rfl⟩
  refine .move ?_
  refine .extract ?_
  refine .extract ?_
  refine .assign (.assign (.x (.move ?_)))
  refine .call (hc := Tryz.call41) (sp := dOf hn) (h := ?_)
  rintro _ _ ⟨rfl, rfl⟩
  refine .allocL (us := bvs (List.replicate 51 0)) key0 rfl fun b13 => ?_
  refine .stLA (xs := bvs (List.replicate 51 0)) (us := bvs (keyB nm)) ?_ agg88 (bvsK_length nm) rfl (keyB_single nm)
  refine .to (A := row b13 88 (bvs (keyB nm))) (A' := buf b13 88 51 (bvs (keyB nm))) (fun h hh => buf_of_row (bvsK_length nm) h hh) ?_
  refine .z (.seq ?_)
  refine .dr ([]) [] 4 mixed .autoJ ?_
  refine .tk 0 rfl .move ?_
  refine .tk 1 rfl ((Qt.slcL so91).eq (v' := .slice (some ⟨gb, 4, none⟩) 60 (qq - 4)) (by rw [if_neg (by show ¬ qq = 4; omega)]; rfl)) ?_
  refine .tk 2 rfl (Qt.slcArr un88 (by kernel_rfl)) ?_
  refine .on 3 rfl fun hnp => ?_
  refine .copy (R := buf b13 88 51 (bvs (keyB nm))) (m := 51) (g := gb) (off := 4) (dl := 60) (k := qq) (xs := bvs (put4 (List.replicate 64 0) 0 i)) (ys := bvs (keyB nm)) so91 Reads.buf (bvsK_length nm) (bvs_single _) ?_ (hdl := by rw [bvs_length, put4_length, List.length_replicate]; decide)
  refine .to (A' := buf gb 5 qq (bvs (slotB (some (nm, i))))) (fun h hh => by rw [← slotP]; exact hh) ?_
  refine .nil (.wa hnp ?_)
  refine .fin ?_
  refine .next (.sr (.move (.move (.move (.move ?_)))))
  refine .call (hc := Tryz.call49) (sp := nWriteFull (s := s) (a := a) (c := c) (p := p) (F0 := F0) (F := Fm) (W := W) (i := d) (at' := 64 * q) (f := (2, dirB sl)) (bs := slotB (some (nm, i))) (m := 64) ho hF (hw.less (by show has (max (dirB sl).length (64 * q + 64)) - has (dirB sl).length + (64 + 511) / 512 + 10 ≤ 13; rw [hdl]; omega)) (.inr Reads.buf) hsl (by omega) h2 (by show 64 * q ≤ (dirB sl).length; omega) (by omega) (by show p.dc + has (dirB sl).length < tot Fm p.ino + has (max (dirB sl).length (64 * q + 64)); rw [hdl]; exact hfit)) (h := ?_)
  rintro _ _ ⟨rfl, rfl⟩
  refine .assign (.z ?_)
  refine .ret (?_)
  exact .ret1 (h1 := .tmp (t := 10) rfl) ⟨_, ⟨rfl, rfl⟩, Am.auto⟩
theorem dAddFull {s a c : Nat} {p : Pl} {F0 Fm : FM} {W : Nat} {d : Nat} {nm : Bytes} {sl : List Slot} (ho : PlOk p) (hn : nameOk nm = true) (hF : Fm d = some (2, dirB sl)) (hd : DirOk sl) (hsz : sl.length ≤ 1104) (hno : ∀ (q i : Nat), sl[q]? ≠ some (some (nm, i))) {i : Nat} (hi : i < 4294967296) (hw : Rw p W 13) (hfs : freeS sl < 1104) (hfit : p.dc + has (64 * sl.length) < tot Fm p.ino + has (max (64 * sl.length) (64 * freeS sl + 64))) : Spec Tryz.prog 8 #[.pointer (some ⟨s, 0, none⟩), nI d, sv nm, nI i] [IN s a c p F0 Fm W true] fun G v M => v = nI 3 ∧ M = IN s a c p F0 Fm W true :: G := by
  refine Spec.intro Tryz.func8 rfl rfl fun B F => ?_
  simp only [Tryz.ntmps8, List.cons_append, List.nil_append, env0, Nat.reduceAdd]
  refine .sr (.assign (.x (.move (.move (.move ?_)))))
  refine .call (hc := Tryz.call40) (sp := dChg (s := s) (a := a) (c := c) (p := p) (F0 := F0) (Fm := Fm) (W := W) (d := d) (nm := nm) ho hn hF hd hsz) (h := ?_)
  rintro _ _ ⟨mp, es, cl, rfl, hm, rfl⟩
  refine .move ?_
  refine .extract ?_
  refine .extract ?_
  refine .extract ?_
  refine .assign (.assign (.assign (.z (.seq (.sr (.move ?_))))))
  refine .nei ?_
  refine .z ?_
  refine .condF rfl rfl ?_
  refine .skip (.next (.seq (.sr (.move (.move ?_)))))
  refine .call (hc := Tryz.call41) (sp := dOf (nameOk_len hn).2) (h := ?_)
  rintro _ _ ⟨rfl, rfl⟩
  refine .lookOk (k := keyK nm) klN hm mp81 zv85 ?_
  refine .cast (d := 29) (u := .tuple #[.agg #[.int .i64 0, .int .i64 0], .bool false]) rfl (by rw [kvF_no hd (nameOk_len hn).2 hno]; rfl) ?_
  refine .move ?_
  refine .extract ?_
  refine .extract ?_
  refine .alloc z85 fun b12 => ?_
  refine .stV ?_ agg85
  refine .assign (.x (.move (.z ?_)))
  refine .condF rfl rfl ?_
  refine .skip (.next (.sr (.move (.move (.move (.move (.move ?_)))))))
  refine .call (hc := Tryz.call42) (sp := dLayFull (s := s) (a := a) (c := c) (p := p) (F0 := F0) (Fm := Fm) (W := W) (d := d) (q := freeS sl) (i := i) (nm := nm) (sl := sl) ho hF (freeS_le sl) hfs (nameOk_len hn).2 hi hw hfit) (h := ?_)
  rintro _ _ ⟨rfl, rfl⟩
  refine .assign (.z ?_)
  refine .ret (?_)
  exact .ret1 (h1 := .tmp (t := 8) rfl) ⟨_, ⟨rfl, rfl⟩, Am.auto⟩
theorem RS.grow {s : Nat} {p : Pl} {T : FT} {os os2 : List (Nat × Obj)} {N N2 : Nat} (hs : ∀ e ∈ os, e ∈ os2) (hN : N ≤ N2) : ∀ h, RS s p T os N h → RS s p T os2 N2 h := by
  intro h hh
  obtain ⟨y, hy, hst⟩ := (RS.opens s p T os N).1 h hh
  exact (RS.opens s p T os2 N2).2 y ⟨hy.len, fun i hi => (hy.row i hi).mono hs, Nat.le_trans hy.wk hN, Nat.le_trans hy.ml hN⟩ h hst
theorem rsRemove {s : Nat} {p : Pl} {T : FT} {os : List (Nat × Obj)} {N : Nat} (hi0 : 1 ≤ p.ino) (hi1 : p.ino ≤ 4096) {d : Nat} {nm : Bytes} {sl : List Slot} (hT : RT p T) (hn : nameOk nm = true) (hTd : T d = some (.dir sl)) {q j : Nat} (hl : lookS nm sl = some (q, j)) (hdc : p.dc ≤ 1000000) (htot : tot (fmT T) p.ino ≤ p.dc) (hN : N ≤ 1000) : Spec Tryz.prog 13 #[.pointer (some ⟨s, 0, none⟩), nI d, sv nm] [RS s p T os N, frz os] fun F v M => v = .int .i64 0 ∧ ∃ os2, (∀ e ∈ os, e ∈ os2) ∧ M = RS s p (updT T d (some (.dir (setS sl q none)))) os2 (N + (has 64 + 2) + 1) :: frz os2 :: F := by
  refine Spec.intro Tryz.func13 rfl rfl fun B F => ?_
  simp only [Tryz.ntmps13, List.cons_append, List.nil_append, env0, Nat.reduceAdd]
  have hnl := (nameOk_len hn).2
  have hne : nm ≠ [] := fun h0 => by subst h0; exact absurd hn (by decide)
  have hb0 : beginT T d nm = 0 := by unfold beginT; rw [if_pos hn]; simp only [hTd]
  have hid : d < p.ino := in_ino hT hTd
  have hln := (hT.ok d sl hTd).2
  have hrl := rdirB_length sl
  have hf1 : findSlV nm sl = (q : Int) := by unfold findSlV; rw [findSl_look hne, hl]; rfl
  have hq : q < sl.length := by
    have := lookS_some hl
    by_cases h : q < sl.length
    · exact h
    · rw [List.getElem?_eq_none (by omega)] at this; cases this
  have hmx : max (64 * sl.length) (64 * q + 64) = 64 * sl.length := by omega
  refine .sr (.assign (.x (.move (.move (.move ?_)))))
  refine .call (hc := Tryz.call43) (sp := rsBeginN (s := s) (p := p) (T := T) (os := os) (N := N) hi0 hi1 (d := d) (nm := nm) hT (by omega)) (h := ?_)
  rintro _ _ ⟨rfl, rfl⟩
  rw [hb0]
  refine .assign (.z (.seq (.sr (.move ?_))))
  refine .nei ?_
  refine .z ?_
  refine .condF rfl (congrArg Value.bool (by first | (simp; done) | (simp; omega) | omega)) ?_
  refine .skip (.next (.sr (.move (.move (.move ?_)))))
  refine .call (hc := Tryz.call44) (sp := rsFindSl (s := s) (p := p) (T := T) (os := os) (N := N) hi0 hi1 (d := d) (nm := nm) (sl := sl) hT hTd) (h := ?_)
  rintro _ _ ⟨rfl, rfl⟩
  rw [hf1]
  refine .assign (.z (.seq (.sr (.move ?_))))
  refine .lss ?_
  refine .z ?_
  refine .condF rfl (congrArg Value.bool (by first | (simp; done) | (simp; omega) | omega)) ?_
  refine .skip (.next (.sr (.move (.move (.move ?_)))))
  refine .mul ?_
  refine .cast (d := 25) (u := nI (64 * q)) rfl (congrArg (Value.int .i64) (by omega)) ?_
  refine .mkSN 64 z5 so91 (by decide) (by decide) fun b26 => ?_
  refine .to (A' := buf b26 5 64 (bvs (rslotB none))) (fun h hh => by show buf _ _ _ (bvs (List.replicate 64 0)) _; rw [bvs_replicate]; exact hh) ?_
  refine .call (hc := Tryz.call45) (sp := rsWrite (s := s) (p := p) (T := T) (os := os) (N := N) hi0 hi1 (i := d) (at' := 64 * q) (m := 64) (c := 64) (R := buf b26 5 64 (bvs (rslotB none))) (A := some ⟨b26, 0, none⟩) (bs := rslotB none) (x := .dir sl) (x2 := .dir (setS sl q none)) hdc hT htot hTd (by show 64 * sl.length ≤ _; omega) (.inr Reads.buf) (rslotB_length _) (Nat.le_refl _) (by decide) (by show 64 * q ≤ 64 * sl.length; omega) (by decide) (by show max (64 * sl.length) (64 * q + 64) ≤ _; omega) hN (by show tot (fmT T) p.ino + has (max (64 * sl.length) (64 * q + 64)) ≤ p.dc + has (64 * sl.length); rw [hmx]; omega) (rsetS_wr (by omega) _).symm rfl) (h := ?_)
  rintro _ _ ⟨rfl, os2, hsub, rfl⟩
  refine .assign (.z ?_)
  refine .ret (?_)
  exact .ret1 (h1 := .tmp (t := 6) rfl) ⟨_, ⟨rfl, os2, hsub, rfl⟩, Am.auto⟩
theorem rsRemoveNo {s : Nat} {p : Pl} {T : FT} {os : List (Nat × Obj)} {N : Nat} (hi0 : 1 ≤ p.ino) (hi1 : p.ino ≤ 4096) {d : Nat} {nm : Bytes} {sl : List Slot} (hT : RT p T) (hn : nameOk nm = true) (hTd : T d = some (.dir sl)) (hl : lookS nm sl = none) : Spec Tryz.prog 13 #[.pointer (some ⟨s, 0, none⟩), nI d, sv nm] [RS s p T os N, frz os] fun F v M => v = nI 4 ∧ M = RS s p T os N :: frz os :: F := by
  refine Spec.intro Tryz.func13 rfl rfl fun B F => ?_
  simp only [Tryz.ntmps13, List.cons_append, List.nil_append, env0, Nat.reduceAdd]
  have hnl := (nameOk_len hn).2
  have hne : nm ≠ [] := fun h0 => by subst h0; exact absurd hn (by decide)
  have hb0 : beginT T d nm = 0 := by unfold beginT; rw [if_pos hn]; simp only [hTd]
  have hid : d < p.ino := in_ino hT hTd
  have hln := (hT.ok d sl hTd).2
  have hrl := rdirB_length sl
  have hf1 : findSlV nm sl = -1 := by unfold findSlV; rw [findSl_look hne, hl]; rfl
  refine .sr (.assign (.x (.move (.move (.move ?_)))))
  refine .call (hc := Tryz.call43) (sp := rsBeginN (s := s) (p := p) (T := T) (os := os) (N := N) hi0 hi1 (d := d) (nm := nm) hT (by omega)) (h := ?_)
  rintro _ _ ⟨rfl, rfl⟩
  rw [hb0]
  refine .assign (.z (.seq (.sr (.move ?_))))
  refine .nei ?_
  refine .z ?_
  refine .condF rfl (congrArg Value.bool (by first | (simp; done) | (simp; omega) | omega)) ?_
  refine .skip (.next (.sr (.move (.move (.move ?_)))))
  refine .call (hc := Tryz.call44) (sp := rsFindSl (s := s) (p := p) (T := T) (os := os) (N := N) hi0 hi1 (d := d) (nm := nm) (sl := sl) hT hTd) (h := ?_)
  rintro _ _ ⟨rfl, rfl⟩
  rw [hf1]
  refine .assign (.z (.seq (.sr (.move ?_))))
  refine .lss ?_
  refine .z ?_
  refine .condT rfl (congrArg Value.bool (by first | (simp; done) | (simp; omega) | omega)) ?_
  refine .sr (.assign (.z ?_))
  refine .ret (.thenRet (?_))
  exact .ret1 (h1 := .tmp (t := 6) rfl) ⟨_, ⟨rfl, rfl⟩, Am.auto⟩
theorem rsRemoveE {s : Nat} {p : Pl} {T : FT} {os : List (Nat × Obj)} {N : Nat} (hi0 : 1 ≤ p.ino) (hi1 : p.ino ≤ 4096) {d : Nat} {nm : Bytes} (hT : RT p T) (hnl : nm.length ≤ 1000000) (hb : beginT T d nm ≠ 0) : Spec Tryz.prog 13 #[.pointer (some ⟨s, 0, none⟩), nI d, sv nm] [RS s p T os N] fun F v M => v = nI (beginT T d nm) ∧ M = RS s p T os N :: F := by
  refine Spec.intro Tryz.func13 rfl rfl fun B F => ?_
  simp only [Tryz.ntmps13, List.cons_append, List.nil_append, env0, Nat.reduceAdd]
  refine .sr (.assign (.x (.move (.move (.move ?_)))))
  refine .call (hc := Tryz.call43) (sp := rsBeginN (s := s) (p := p) (T := T) (os := os) (N := N) hi0 hi1 (d := d) (nm := nm) hT hnl) (h := ?_)
  rintro _ _ ⟨rfl, rfl⟩
  obtain ⟨e, he⟩ : ∃ e, beginT T d nm = e := ⟨_, rfl⟩
  rw [he] at hb ⊢
  refine .assign (.z (.seq (.sr (.move ?_))))
  refine .nei ?_
  refine .z ?_
  refine .condT rfl (congrArg Value.bool (by first | (simp; done) | (simp; omega) | omega)) ?_
  refine .sr (.move (.assign (.z ?_)))
  refine .ret (.thenRet (?_))
  exact .ret1 (h1 := .tmp (t := 6) rfl) ⟨_, ⟨rfl, rfl⟩, Am.auto⟩
theorem rsRemoveNeg {x : Value} {nm : Bytes} {d : Int} (hd : d < 0) (hnl : nm.length ≤ 1000000) : Spec Tryz.prog 13 #[x, .int .i64 d, sv nm] [] fun F v M => v = nI (if nameOk nm then 4 else 1) ∧ M = F := by
  refine Spec.intro Tryz.func13 rfl rfl fun B F => ?_
  simp only [Tryz.ntmps13, List.cons_append, List.nil_append, env0, Nat.reduceAdd]
  refine .sr (.assign (.x (.move (.move (.move ?_)))))
  refine .call (hc := Tryz.call43) (sp := rsBeginNeg (x := x) (nm := nm) hd hnl) (h := ?_)
  rintro _ _ ⟨rfl, hM⟩
  obtain rfl := hM.symm
  obtain ⟨e, he⟩ : ∃ e, (if nameOk nm then 4 else 1) = e := ⟨_, rfl⟩
  rw [he]
  have he0 : e ≠ 0 := by rw [← he]; split <;> decide
  refine .assign (.z (.seq (.sr (.move ?_))))
  refine .nei ?_
  refine .z ?_
  refine .condT rfl (congrArg Value.bool (by first | (simp; done) | (simp; omega) | omega)) ?_
  refine .sr (.move (.assign (.z ?_)))
  refine .ret (.thenRet (?_))
  exact .ret1 (h1 := .tmp (t := 6) rfl) ⟨_, ⟨rfl, rfl⟩, Am.auto⟩
theorem rsMove {s : Nat} {p : Pl} {T : FT} {os : List (Nat × Obj)} {N : Nat} (hi0 : 1 ≤ p.ino) (hi1 : p.ino ≤ 4096) {d : Nat} {nm : Bytes} {sl : List Slot} (hT : RT p T) (hn : nameOk nm = true) (hTd : T d = some (.dir sl)) {q j : Nat} (hl : lookS nm sl = some (q, j)) (hdc : p.dc ≤ 1000000) (htot : tot (fmT T) p.ino ≤ p.dc) (hN : N ≤ 1000) {i : Nat} (hi : i < 65536) : Spec Tryz.prog 15 #[.pointer (some ⟨s, 0, none⟩), nI d, sv nm, nI i] [RS s p T os N, frz os] fun F v M => v = .int .i64 0 ∧ ∃ os2, (∀ e ∈ os, e ∈ os2) ∧ M = RS s p (updT T d (some (.dir (setS sl q (some (nm, i)))))) os2 (N + (has 64 + 2) + 1) :: frz os2 :: F := by
  refine Spec.intro Tryz.func15 rfl rfl fun B F => ?_
  simp only [Tryz.ntmps15, List.cons_append, List.nil_append, env0, Nat.reduceAdd]
  have hnl := (nameOk_len hn).2
  have hne : nm ≠ [] := fun h0 => by subst h0; exact absurd hn (by decide)
  have hb0 : beginT T d nm = 0 := by unfold beginT; rw [if_pos hn]; simp only [hTd]
  have hid : d < p.ino := in_ino hT hTd
  have hln := (hT.ok d sl hTd).2
  have hrl := rdirB_length sl
  have hf1 : findSlV nm sl = (q : Int) := by unfold findSlV; rw [findSl_look hne, hl]; rfl
  have hq : q < sl.length := by
    have := lookS_some hl
    by_cases h : q < sl.length
    · exact h
    · rw [List.getElem?_eq_none (by omega)] at this; cases this
  have hmx : max (64 * sl.length) (64 * q + 64) = 64 * sl.length := by omega
  refine .sr (.assign (.x (.move (.move (.move ?_)))))
  refine .call (hc := Tryz.call43) (sp := rsBeginN (s := s) (p := p) (T := T) (os := os) (N := N) hi0 hi1 (d := d) (nm := nm) hT (by omega)) (h := ?_)
  rintro _ _ ⟨rfl, rfl⟩
  rw [hb0]
  refine .assign (.z (.seq (.sr (.move ?_))))
  refine .nei ?_
  refine .z ?_
  refine .condF rfl (congrArg Value.bool (by first | (simp; done) | (simp; omega) | omega)) ?_
  refine .skip (.next (.sr (.move (.move (.move ?_)))))
  refine .call (hc := Tryz.call44) (sp := rsFindSl (s := s) (p := p) (T := T) (os := os) (N := N) hi0 hi1 (d := d) (nm := nm) (sl := sl) hT hTd) (h := ?_)
  rintro _ _ ⟨rfl, rfl⟩
  rw [hf1]
  refine .assign (.z (.seq (.sr (.move ?_))))
  refine .lss ?_
  refine .z ?_
  refine .condF rfl (congrArg Value.bool (by first | (simp; done) | (simp; omega) | omega)) ?_
  refine .skip (.next (.sr (.move (.move (.move ?_)))))
  refine .mul ?_
  refine .cast (d := 27) (u := nI (64 * q)) rfl (congrArg (Value.int .i64) (by omega)) ?_
  refine .move (.move ?_)
  refine .call (hc := Tryz.call46) (sp := rfSlot (nm := nm) (i := i) hnl hi) (h := ?_)
  rintro _ _ ⟨bb, rfl, rfl⟩
  refine .call (hc := Tryz.call45) (sp := rsWrite (s := s) (p := p) (T := T) (os := os) (N := N) hi0 hi1 (i := d) (at' := 64 * q) (m := 64) (c := 64) (R := buf bb 5 64 (bvs (rslotB (some (nm, i))))) (A := some ⟨bb, 0, none⟩) (bs := rslotB (some (nm, i))) (x := .dir sl) (x2 := .dir (setS sl q (some (nm, i)))) hdc hT htot hTd (by show 64 * sl.length ≤ _; omega) (.inr Reads.buf) (rslotB_length _) (Nat.le_refl _) (by decide) (by show 64 * q ≤ 64 * sl.length; omega) (by decide) (by show max (64 * sl.length) (64 * q + 64) ≤ _; omega) hN (by show tot (fmT T) p.ino + has (max (64 * sl.length) (64 * q + 64)) ≤ p.dc + has (64 * sl.length); rw [hmx]; omega) (rsetS_wr (by omega) _).symm rfl) (h := ?_)
  rintro _ _ ⟨rfl, os2, hsub, rfl⟩
  refine .assign (.z ?_)
  refine .ret (?_)
  exact .ret1 (h1 := .tmp (t := 8) rfl) ⟨_, ⟨rfl, os2, hsub, rfl⟩, Am.auto⟩
theorem rsMoveNo {s : Nat} {p : Pl} {T : FT} {os : List (Nat × Obj)} {N : Nat} (hi0 : 1 ≤ p.ino) (hi1 : p.ino ≤ 4096) {d : Nat} {nm : Bytes} {sl : List Slot} (hT : RT p T) (hn : nameOk nm = true) (hTd : T d = some (.dir sl)) {y : Value} (hl : lookS nm sl = none) : Spec Tryz.prog 15 #[.pointer (some ⟨s, 0, none⟩), nI d, sv nm, y] [RS s p T os N, frz os] fun F v M => v = nI 4 ∧ M = RS s p T os N :: frz os :: F := by
  refine Spec.intro Tryz.func15 rfl rfl fun B F => ?_
  simp only [Tryz.ntmps15, List.cons_append, List.nil_append, env0, Nat.reduceAdd]
  have hnl := (nameOk_len hn).2
  have hne : nm ≠ [] := fun h0 => by subst h0; exact absurd hn (by decide)
  have hb0 : beginT T d nm = 0 := by unfold beginT; rw [if_pos hn]; simp only [hTd]
  have hid : d < p.ino := in_ino hT hTd
  have hln := (hT.ok d sl hTd).2
  have hrl := rdirB_length sl
  have hf1 : findSlV nm sl = -1 := by unfold findSlV; rw [findSl_look hne, hl]; rfl
  refine .sr (.assign (.x (.move (.move (.move ?_)))))
  refine .call (hc := Tryz.call43) (sp := rsBeginN (s := s) (p := p) (T := T) (os := os) (N := N) hi0 hi1 (d := d) (nm := nm) hT (by omega)) (h := ?_)
  rintro _ _ ⟨rfl, rfl⟩
  rw [hb0]
  refine .assign (.z (.seq (.sr (.move ?_))))
  refine .nei ?_
  refine .z ?_
  refine .condF rfl (congrArg Value.bool (by first | (simp; done) | (simp; omega) | omega)) ?_
  refine .skip (.next (.sr (.move (.move (.move ?_)))))
  refine .call (hc := Tryz.call44) (sp := rsFindSl (s := s) (p := p) (T := T) (os := os) (N := N) hi0 hi1 (d := d) (nm := nm) (sl := sl) hT hTd) (h := ?_)
  rintro _ _ ⟨rfl, rfl⟩
  rw [hf1]
  refine .assign (.z (.seq (.sr (.move ?_))))
  refine .lss ?_
  refine .z ?_
  refine .condT rfl (congrArg Value.bool (by first | (simp; done) | (simp; omega) | omega)) ?_
  refine .sr (.assign (.z ?_))
  refine .ret (.thenRet (?_))
  exact .ret1 (h1 := .tmp (t := 8) rfl) ⟨_, ⟨rfl, rfl⟩, Am.auto⟩
theorem rsMoveE {s : Nat} {p : Pl} {T : FT} {os : List (Nat × Obj)} {N : Nat} (hi0 : 1 ≤ p.ino) (hi1 : p.ino ≤ 4096) {d : Nat} {nm : Bytes} {y : Value} (hT : RT p T) (hnl : nm.length ≤ 1000000) (hb : beginT T d nm ≠ 0) : Spec Tryz.prog 15 #[.pointer (some ⟨s, 0, none⟩), nI d, sv nm, y] [RS s p T os N] fun F v M => v = nI (beginT T d nm) ∧ M = RS s p T os N :: F := by
  refine Spec.intro Tryz.func15 rfl rfl fun B F => ?_
  simp only [Tryz.ntmps15, List.cons_append, List.nil_append, env0, Nat.reduceAdd]
  refine .sr (.assign (.x (.move (.move (.move ?_)))))
  refine .call (hc := Tryz.call43) (sp := rsBeginN (s := s) (p := p) (T := T) (os := os) (N := N) hi0 hi1 (d := d) (nm := nm) hT hnl) (h := ?_)
  rintro _ _ ⟨rfl, rfl⟩
  obtain ⟨e, he⟩ : ∃ e, beginT T d nm = e := ⟨_, rfl⟩
  rw [he] at hb ⊢
  refine .assign (.z (.seq (.sr (.move ?_))))
  refine .nei ?_
  refine .z ?_
  refine .condT rfl (congrArg Value.bool (by first | (simp; done) | (simp; omega) | omega)) ?_
  refine .sr (.move (.assign (.z ?_)))
  refine .ret (.thenRet (?_))
  exact .ret1 (h1 := .tmp (t := 8) rfl) ⟨_, ⟨rfl, rfl⟩, Am.auto⟩
theorem rsMoveNeg {x y : Value} {nm : Bytes} {d : Int} (hd : d < 0) (hnl : nm.length ≤ 1000000) : Spec Tryz.prog 15 #[x, .int .i64 d, sv nm, y] [] fun F v M => v = nI (if nameOk nm then 4 else 1) ∧ M = F := by
  refine Spec.intro Tryz.func15 rfl rfl fun B F => ?_
  simp only [Tryz.ntmps15, List.cons_append, List.nil_append, env0, Nat.reduceAdd]
  refine .sr (.assign (.x (.move (.move (.move ?_)))))
  refine .call (hc := Tryz.call43) (sp := rsBeginNeg (x := x) (nm := nm) hd hnl) (h := ?_)
  rintro _ _ ⟨rfl, hM⟩
  obtain rfl := hM.symm
  obtain ⟨e, he⟩ : ∃ e, (if nameOk nm then 4 else 1) = e := ⟨_, rfl⟩
  rw [he]
  have he0 : e ≠ 0 := by rw [← he]; split <;> decide
  refine .assign (.z (.seq (.sr (.move ?_))))
  refine .nei ?_
  refine .z ?_
  refine .condT rfl (congrArg Value.bool (by first | (simp; done) | (simp; omega) | omega)) ?_
  refine .sr (.move (.assign (.z ?_)))
  refine .ret (.thenRet (?_))
  exact .ret1 (h1 := .tmp (t := 8) rfl) ⟨_, ⟨rfl, rfl⟩, Am.auto⟩
theorem rsListNeg {x : Value} {d : Int} (hd : d < 0) : Spec Tryz.prog 20 #[x, .int .i64 d] [] fun F v M => v = .tuple #[.slice none 0 0, nI 4] ∧ M = F := by
  refine Spec.intro Tryz.func20 rfl rfl fun B F => ?_
  simp only [Tryz.ntmps20, List.cons_append, List.nil_append, env0, Nat.reduceAdd]
  refine .sr (.assign (.assign (.z (.seq (.sr (.move (.move ?_)))))))
  refine .call (hc := Tryz.call60) (sp := rsThereNeg (x := x) hd) (h := ?_)
  rintro _ _ ⟨rfl, hM⟩
  obtain rfl := hM.symm
  refine .not ?_
  refine .z ?_
  refine .condT rfl rfl ?_
  refine .sr (.assign (.assign (.z ?_)))
  refine .ret (.thenRet (?_))
  exact .ret2 (h1 := .tmp (t := 4) rfl) (h2 := .tmp (t := 5) rfl) ⟨_, ⟨rfl, rfl⟩, Am.auto⟩
theorem rsListNo {s : Nat} {p : Pl} {T : FT} {os : List (Nat × Obj)} {N : Nat} (hi0 : 1 ≤ p.ino) (hi1 : p.ino ≤ 4096) {d : Nat} (hT : RT p T) (hTd : T d = none) : Spec Tryz.prog 20 #[.pointer (some ⟨s, 0, none⟩), nI d] [RS s p T os N] fun F v M => v = .tuple #[.slice none 0 0, nI 4] ∧ M = RS s p T os N :: F := by
  refine Spec.intro Tryz.func20 rfl rfl fun B F => ?_
  simp only [Tryz.ntmps20, List.cons_append, List.nil_append, env0, Nat.reduceAdd]
  refine .sr (.assign (.assign (.z (.seq (.sr (.move (.move ?_)))))))
  refine .call (hc := Tryz.call60) (sp := rsThere (s := s) (p := p) (T := T) (os := os) (N := N) hi0 hi1 (i := d) hT) (h := ?_)
  rintro _ _ ⟨rfl, rfl⟩
  rw [hTd]
  refine .not ?_
  refine .z ?_
  refine .condT rfl rfl ?_
  refine .sr (.assign (.assign (.z ?_)))
  refine .ret (.thenRet (?_))
  exact .ret2 (h1 := .tmp (t := 4) rfl) (h2 := .tmp (t := 5) rfl) ⟨_, ⟨rfl, rfl⟩, Am.auto⟩
theorem rsListKind {s : Nat} {p : Pl} {T : FT} {os : List (Nat × Obj)} {N : Nat} (hi0 : 1 ≤ p.ino) (hi1 : p.ino ≤ 4096) {d : Nat} {b : Bytes} (hT : RT p T) (hTd : T d = some (.file b)) : Spec Tryz.prog 20 #[.pointer (some ⟨s, 0, none⟩), nI d] [RS s p T os N] fun F v M => v = .tuple #[.slice none 0 0, nI 6] ∧ M = RS s p T os N :: F := by
  refine Spec.intro Tryz.func20 rfl rfl fun B F => ?_
  simp only [Tryz.ntmps20, List.cons_append, List.nil_append, env0, Nat.reduceAdd]
  have hi : d < p.ino := in_ino hT hTd
  refine .sr (.assign (.assign (.z (.seq (.sr (.move (.move ?_)))))))
  refine .call (hc := Tryz.call60) (sp := rsThere (s := s) (p := p) (T := T) (os := os) (N := N) hi0 hi1 (i := d) hT) (h := ?_)
  rintro _ _ ⟨rfl, rfl⟩
  rw [hTd]
  refine .not ?_
  refine .z ?_
  refine .condF rfl rfl ?_
  refine .skip (.next (.seq (.sr ?_)))
  refine .openR (RS.opens s p T os N) fun y hy => ?_
  obtain ⟨u, L, wk, mv, ms⟩ := y
  simp only [rsLs, List.cons_append, List.nil_append]
  refine .fact (rowR_some (el := 93) (size := 2) (v := u) (k := p.ino) (xs := L.flatMap rowV) (by omega)) (fun ⟨ab, cc, hu, hR, hc1, hc2⟩ => ?_)
  subst hu
  have hlen : L.length = p.ino := hy.len
  have hil : d < L.length := by omega
  have hrow := hy.row d hil
  obtain ⟨A1, c1, hs1, hr1, hl1, hm1⟩ := hrow.sl
  obtain ⟨e1, hek⟩ : ∃ e, L[d] = e := ⟨_, rfl⟩
  have hkd : e1.1 = refK (T d) := hek ▸ hrow.kd
  have hg0 : (L.flatMap rowV)[((d : Nat) : Int).toNat * 2 + 0]? = some (nI e1.1) := by rw [Int.toNat_natCast, ← hek]; exact (rowV_get hil).1
  have hg1 : (L.flatMap rowV)[((d : Nat) : Int).toNat * 2 + 1]? = some (.slice A1 (refBy (T d)).length c1) := by rw [Int.toNat_natCast, ← hs1]; exact (rowV_get hil).2
  rw [hkd] at hg0
  rw [hTd] at hg0
  refine .move ?_
  refine .nilCheck ?_
  refine .fa ?_ fo80_1
  refine .ld ?_ sc77
  refine .move ?_
  refine .idx ?_ so77
  refine .fa ?_ fo93_0
  refine .ldR (R := rowR 93 2 (.slice (some ⟨ab, 0, none⟩) p.ino cc) p.ino (L.flatMap rowV)) ?_ sc3 hR hg0
  refine .cast (d := 24) (u := nI 1) rfl rfl ?_
  refine .nei ?_
  refine .z ?_
  refine .condT rfl (congrArg Value.bool (by first | (simp; done) | (simp; omega) | omega)) ?_
  refine .sr (.assign (.assign (.z ?_)))
  refine .ret (.thenRet (?_))
  refine .shutR (RS.opens s p T os N) ⟨.slice (some ⟨ab, 0, none⟩) p.ino cc, L, wk, mv, ms⟩ hy ?_
  exact .ret2 (h1 := .tmp (t := 4) rfl) (h2 := .tmp (t := 5) rfl) ⟨_, ⟨rfl, rfl⟩, Am.auto⟩
end Go.Proofs.YtdmjkjeoamiedaaGreat
end
section
namespace Go.Proofs.YtdmjkjeoamiedaaGreat
open Go
theorem sl44 : Tryz.prog.underlying 44 = some (.slice 114) := by kernel_rfl
theorem fo114_0 : fieldOk Tryz.prog 114 0 0 = true := by kernel_rfl
theorem fo114_1 : fieldOk Tryz.prog 114 1 1 = true := by kernel_rfl
theorem fo119_1 : fieldOk Tryz.prog 119 1 1 = true := by kernel_rfl
theorem Wk.front {A A' : HP} {M : List HP} (h : ∀ k, A k → A' k) : Wk (A :: M) (A' :: M) := fun B w hs => Sat.imp (L := []) hs h
abbrev SS := List Slot × List Slot
def dT (S : SS) : FT := fun j => if j = 0 then some (.dir S.1) else if j = 1 then some (.dir S.2) else if j = 2 then some (.file []) else none
theorem fmT_dT (S : SS) : fmT (dT S) = DM S.1 S.2 := by
  funext j
  unfold fmT dT DM
  by_cases h0 : j = 0
  · subst h0; rfl
  · by_cases h1 : j = 1
    · subst h1; rfl
    · by_cases h2 : j = 2
      · subst h2; rfl
      · simp only [if_neg h0, if_neg h1, if_neg h2]; rfl
theorem dT_out {S : SS} {j : Nat} (h : 3 ≤ j) : dT S j = none := by unfold dT; rw [if_neg (by omega), if_neg (by omega), if_neg (by omega)]
def sD (S : SS) (D : Int) : List Slot := if D = 0 then S.1 else S.2
def upD (S : SS) (D : Int) (t : List Slot) : SS := if D = 0 then (t, S.2) else (S.1, t)
def dirE (nm : Bytes) (D : Int) : Nat := if nameOk nm then (if D = 0 ∨ D = 1 then 0 else if D = 2 then 6 else 4) else 1
structure SlOk (sl : List Slot) (i : Nat) : Prop where
  ok : DirOk sl
  len : sl.length ≤ i
  no : ∀ (q : Nat) (nm : Bytes) (j : Nat), sl[q]? = some (some (nm, j)) → j ≤ 15
structure PSt (p : Pl) (S : SS) (i : Nat) : Prop where
  a : SlOk S.1 i
  b : SlOk S.2 i
  fit : has (64 * S.1.length) + has (64 * S.2.length) ≤ p.dc
theorem SlOk.more {sl : List Slot} {i j : Nat} (h : SlOk sl i) (hij : i ≤ j) : SlOk sl j := ⟨h.ok, Nat.le_trans h.len hij, h.no⟩
theorem PSt.more {p : Pl} {S : SS} {i j : Nat} (h : PSt p S i) (hij : i ≤ j) : PSt p S j := ⟨h.a.more hij, h.b.more hij, h.fit⟩
theorem PSt.rt {p : Pl} {S : SS} {i : Nat} (h : PSt p S i) (hi : i ≤ 1000) (h3 : 3 ≤ p.ino) : RT p (dT S) := by
  have key : ∀ d sl, dT S d = some (.dir sl) → SlOk sl i := by
    intro d sl hd
    unfold dT at hd
    split at hd
    · injection hd with hd; injection hd with hd; subst hd; exact h.a
    · split at hd
      · injection hd with hd; injection hd with hd; subst hd; exact h.b
      · split at hd
        · injection hd with hd; cases hd
        · cases hd
  refine ⟨fun d sl hd => ⟨(key d sl hd).ok, Nat.le_trans (key d sl hd).len hi⟩, fun d sl hd q nm j hq => ?_, fun j hj => dT_out (by omega)⟩
  have := (key d sl hd).no q nm j hq
  omega
theorem PSt.tot {p : Pl} {S : SS} {i : Nat} (h : PSt p S i) (h3 : 3 ≤ p.ino) : tot (fmT (dT S)) p.ino ≤ p.dc := by
  rw [fmT_dT, tot_DM _ _ h3]; exact h.fit
structure DirAt (S : SS) (D : Int) (d : Nat) : Prop where
  eq : D = (d : Int)
  m : DM S.1 S.2 d = some (2, dirB (sD S D))
  t : dT S d = some (.dir (sD S D))
  um : ∀ t, updM (DM S.1 S.2) d (some (2, dirB t)) = DM (upD S D t).1 (upD S D t).2
  ut : ∀ t, updT (dT S) d (some (.dir t)) = dT (upD S D t)
theorem dT_upd0 (S : SS) (t : List Slot) : updT (dT S) 0 (some (.dir t)) = dT (t, S.2) := by
  funext j
  unfold updT dT
  by_cases h : j = 0
  · subst h; rfl
  · simp only [if_neg h]
theorem dT_upd1 (S : SS) (t : List Slot) : updT (dT S) 1 (some (.dir t)) = dT (S.1, t) := by
  funext j
  unfold updT dT
  by_cases h : j = 1
  · subst h; rfl
  · simp only [if_neg h]
theorem dirAt {S : SS} {D : Int} (h : D = 0 ∨ D = 1) : ∃ d, DirAt S D d := by
  rcases h with rfl | rfl
  · exact ⟨0, rfl, rfl, rfl, fun t => DM_upd0 .., fun t => dT_upd0 ..⟩
  · exact ⟨1, rfl, rfl, rfl, fun t => DM_upd1 .., fun t => dT_upd1 ..⟩
theorem PSt.at {p : Pl} {S : SS} {i : Nat} (h : PSt p S i) {D : Int} (hD : D = 0 ∨ D = 1) : SlOk (sD S D) i := by
  rcases hD with rfl | rfl
  · exact h.a
  · exact h.b
theorem PSt.up {p : Pl} {S : SS} {i : Nat} (h : PSt p S i) {D : Int} (hD : D = 0 ∨ D = 1) {t : List Slot} (ht : SlOk t i) (hf : has (64 * S.1.length) + has (64 * S.2.length) + has (64 * t.length) ≤ p.dc + has (64 * (sD S D).length)) : PSt p (upD S D t) i := by
  rcases hD with rfl | rfl
  · refine ⟨ht, h.b, ?_⟩
    have : sD S 0 = S.1 := rfl
    rw [this] at hf
    show has (64 * t.length) + has (64 * S.2.length) ≤ p.dc
    omega
  · refine ⟨h.a, ht, ?_⟩
    have : sD S 1 = S.2 := rfl
    rw [this] at hf
    show has (64 * S.1.length) + has (64 * t.length) ≤ p.dc
    omega
theorem dirE_0 {nm : Bytes} {D : Int} (h : dirE nm D = 0) : nameOk nm = true ∧ (D = 0 ∨ D = 1) := by
  unfold dirE at h
  split at h
  · rename_i hn
    refine ⟨hn, ?_⟩
    split at h
    · assumption
    · split at h <;> cases h
  · cases h
theorem findErr_dirE {S : SS} {nm : Bytes} {D : Int} (h : dirE nm D ≠ 0) : FindErr nm (DM S.1 S.2) D (dirE nm D) := by
  unfold dirE at h ⊢
  unfold FindErr
  cases hn : nameOk nm with
  | false => exact .inl ⟨rfl, rfl⟩
  | true =>
    rw [hn] at h
    simp only [if_true] at h ⊢
    by_cases h01 : D = 0 ∨ D = 1
    · rw [if_pos h01] at h; exact absurd rfl h
    · rw [if_neg h01] at h ⊢
      by_cases h2 : D = 2
      · rw [if_pos h2]
        subst h2
        exact .inr (.inr ⟨trivial, ⟨1, [], by decide, rfl, by decide⟩, rfl⟩)
      · rw [if_neg h2]
        refine .inr (.inl ⟨trivial, ?_, rfl⟩)
        unfold fileAt
        by_cases h0 : 0 ≤ D
        · rw [if_pos h0]
          unfold DM
          rw [if_neg (by omega), if_neg (by omega), if_neg (by omega)]
        · rw [if_neg h0]
theorem begin_dirE {S : SS} {nm : Bytes} {d : Nat} : beginT (dT S) d nm = dirE nm (d : Int) := by
  unfold beginT dirE
  cases hn : nameOk nm with
  | false => rfl
  | true =>
    simp only [if_true]
    rcases d with _ | _ | _ | d
    · rfl
    · rfl
    · rfl
    · rw [dT_out (by omega), if_neg (by omega), if_neg (by omega)]
theorem neg_dirE {nm : Bytes} {D : Int} (h : D < 0) : (if nameOk nm then 4 else 1) = dirE nm D := by
  unfold dirE
  rw [if_neg (show ¬ (D = 0 ∨ D = 1) by omega), if_neg (show ¬ D = 2 by omega)]
theorem small_room {p : Pl} {W c : Nat} (h : p.n ≤ 304) : Rw p W c := .inl h
inductive AddR (p : Pl) (S : SS) (D : Int) (nm : Bytes) (I : Nat) : Nat → SS → Prop
  | bad (h : dirE nm D ≠ 0) : AddR p S D nm I (dirE nm D) S
  | exist (h : dirE nm D = 0) {q j : Nat} (hl : lookS nm (sD S D) = some (q, j)) : AddR p S D nm I 5 S
  | full (h : dirE nm D = 0) (hl : lookS nm (sD S D) = none) (hf : p.dc + has (64 * (sD S D).length) < has (64 * S.1.length) + has (64 * S.2.length) + has (max (64 * (sD S D).length) (64 * freeS (sD S D) + 64))) : AddR p S D nm I 3 S
  | ok (h : dirE nm D = 0) (hl : lookS nm (sD S D) = none) (hf : has (64 * S.1.length) + has (64 * S.2.length) + has (max (64 * (sD S D).length) (64 * freeS (sD S D) + 64)) ≤ p.dc + has (64 * (sD S D).length)) : AddR p S D nm I 0 (upD S D (setS (sD S D) (freeS (sD S D)) (some (nm, I))))
theorem addR_ex (p : Pl) (S : SS) (D : Int) (nm : Bytes) (I : Nat) : ∃ e S', AddR p S D nm I e S' := by
  by_cases h : dirE nm D = 0
  · cases hl : lookS nm (sD S D) with
    | some x => exact ⟨_, _, .exist h (q := x.1) (j := x.2) hl⟩
    | none =>
      by_cases hf : has (64 * S.1.length) + has (64 * S.2.length) + has (max (64 * (sD S D).length) (64 * freeS (sD S D) + 64)) ≤ p.dc + has (64 * (sD S D).length)
      · exact ⟨_, _, .ok h hl hf⟩
      · exact ⟨_, _, .full h hl (by omega)⟩
  · exact ⟨_, _, .bad h⟩
theorem freeS_len (sl : List Slot) (x : Slot) : 64 * (setS sl (freeS sl) x).length = max (64 * sl.length) (64 * freeS sl + 64) := by
  rw [setS_length (freeS_le sl)]; omega
theorem AddR.st {p : Pl} {S S' : SS} {D : Int} {nm : Bytes} {I e i : Nat} (h : AddR p S D nm I e S') (hS : PSt p S i) (hi : i < 1000) (hI : I ≤ 15) : PSt p S' (i + 1) := by
  cases h with
  | bad h => exact hS.more (by omega)
  | exist h hl => exact hS.more (by omega)
  | full h hl hf => exact hS.more (by omega)
  | ok h hl hf =>
    obtain ⟨hn, hD⟩ := dirE_0 h
    have hs := hS.at hD
    have hfl := freeS_le (sD S D)
    have hsl := hs.len
    refine (hS.more (Nat.le_succ i)).up hD ⟨hs.ok.set hfl (nameOk_len hn) (by omega) fun r j _ => lookS_none hl r j, by rw [setS_length hfl]; omega, fun q nm' j hq => ?_⟩ (by rw [freeS_len]; exact hf)
    by_cases hqf : q = freeS (sD S D)
    · subst hqf
      rw [setS_same hfl] at hq
      injection hq with hq; injection hq with hq; injection hq with _ hq
      omega
    · rw [setS_other hfl hqf] at hq
      exact hs.no q nm' j hq
inductive ChR (p : Pl) (S : SS) (D : Int) (nm : Bytes) (x : Slot) : Nat → SS → Prop
  | bad (h : dirE nm D ≠ 0) : ChR p S D nm x (dirE nm D) S
  | none (h : dirE nm D = 0) (hl : lookS nm (sD S D) = none) : ChR p S D nm x 4 S
  | ok (h : dirE nm D = 0) {q j : Nat} (hl : lookS nm (sD S D) = some (q, j)) : ChR p S D nm x 0 (upD S D (setS (sD S D) q x))
theorem chR_ex (p : Pl) (S : SS) (D : Int) (nm : Bytes) (x : Slot) : ∃ e S', ChR p S D nm x e S' := by
  by_cases h : dirE nm D = 0
  · cases hl : lookS nm (sD S D) with
    | some y => exact ⟨_, _, .ok h (q := y.1) (j := y.2) hl⟩
    | none => exact ⟨_, _, .none h hl⟩
  · exact ⟨_, _, .bad h⟩
theorem look_lt {nm : Bytes} {sl : List Slot} {q j : Nat} (h : lookS nm sl = some (q, j)) : q < sl.length := by
  have := lookS_some h
  by_cases hq : q < sl.length
  · exact hq
  · rw [List.getElem?_eq_none (by omega)] at this; cases this
theorem ChR.st {p : Pl} {S S' : SS} {D : Int} {nm : Bytes} {x : Slot} {e i : Nat} (h : ChR p S D nm x e S') (hS : PSt p S i) (hi : i < 1000) (hx : x = .none ∨ ∃ I, x = some (nm, I) ∧ I ≤ 15) : PSt p S' (i + 1) := by
  cases h with
  | bad h => exact hS.more (by omega)
  | none h hl => exact hS.more (by omega)
  | ok h hl =>
    rename_i q j
    obtain ⟨hn, hD⟩ := dirE_0 h
    have hs := hS.at hD
    have hq := look_lt hl
    have hll : (setS (sD S D) q x).length = (sD S D).length := by rw [setS_length (by omega)]; omega
    have hfit := hS.fit
    refine (hS.up hD (t := setS (sD S D) q x) ⟨?_, by rw [hll]; exact hs.len, fun r nm' k hr => ?_⟩ (by rw [hll]; omega)).more (Nat.le_succ i)
    · rcases hx with rfl | ⟨I, rfl, hI⟩
      · exact hs.ok.gone (by omega)
      · exact hs.ok.set (by omega) (nameOk_len hn) (by omega) fun r k hrq hr => hrq (hs.ok.one r q nm k j hr (lookS_some hl))
    · by_cases hrq : r = q
      · subst hrq
        rw [setS_same (by omega)] at hr
        injection hr with hr
        rcases hx with rfl | ⟨I, rfl, hI⟩
        · cases hr
        · injection hr with hr; injection hr with _ hr; omega
      · rw [setS_other (by omega) hrq] at hr
        exact hs.no r nm' k hr
section
variable {s a c W i : Nat} {p : Pl} {F0 : FM} {S S' : SS} {D : Int} {nm : Bytes} {e : Nat}
theorem iAdd {I : Nat} (ho : PlOk p) (h304 : p.n ≤ 304) (h3 : 3 ≤ p.ino) (hS : PSt p S i) (hi : i ≤ 1000) (hI : I ≤ 15) (hr : AddR p S D nm I e S') : Spec Tryz.prog 8 #[.pointer (some ⟨s, 0, none⟩), .int .i64 D, sv nm, nI I] [IN s a c p F0 (DM S.1 S.2) W true] fun G v M => v = nI e ∧ M = IN s a c p F0 (DM S'.1 S'.2) (W + 8) true :: G := by
  have same : ∀ {e : Nat}, Spec Tryz.prog 8 #[.pointer (some ⟨s, 0, none⟩), .int .i64 D, sv nm, nI I] [IN s a c p F0 (DM S.1 S.2) W true] (fun G v M => v = nI e ∧ M = IN s a c p F0 (DM S.1 S.2) W true :: G) → Spec Tryz.prog 8 #[.pointer (some ⟨s, 0, none⟩), .int .i64 D, sv nm, nI I] [IN s a c p F0 (DM S.1 S.2) W true] fun G v M => v = nI e ∧ M = IN s a c p F0 (DM S.1 S.2) (W + 8) true :: G := fun h => h.post (by rintro G v M ⟨rfl, rfl⟩; exact ⟨_, ⟨rfl, rfl⟩, Wk.front (IN.more (by omega))⟩)
  cases hr with
  | bad h => exact same (dAddE ho (.inr ⟨rfl, findErr_dirE h⟩) (by omega))
  | exist h hl =>
    obtain ⟨hn, hD⟩ := dirE_0 h
    obtain ⟨d, hd⟩ := dirAt (S := S) hD
    have hs := hS.at hD
    have := hs.len
    have hd1 := hd.eq
    subst hd1
    exact same (dAddExist ho hn hd.m hs.ok (by omega) (lookS_some hl))
  | full h hl hf =>
    obtain ⟨hn, hD⟩ := dirE_0 h
    obtain ⟨d, hd⟩ := dirAt (S := S) hD
    have hs := hS.at hD
    have := hs.len
    have hfl := freeS_le (sD S D)
    have hd1 := hd.eq
    subst hd1
    exact same (dAddFull ho hn hd.m hs.ok (by omega) (lookS_none hl) (by omega) (small_room h304) (by omega) (by rw [tot_DM _ _ h3]; exact hf))
  | ok h hl hf =>
    obtain ⟨hn, hD⟩ := dirE_0 h
    obtain ⟨d, hd⟩ := dirAt (S := S) hD
    have hs := hS.at hD
    have := hs.len
    have hfl := freeS_le (sD S D)
    have hu := hd.um (setS (sD S D) (freeS (sD S D)) (some (nm, I)))
    have hd1 := hd.eq
    subst hd1
    have := dAdd (s := s) (a := a) (c := c) (F0 := F0) (W := W) ho hn hd.m hs.ok (by omega) (lookS_none hl) (i := I) (by omega) (small_room h304) (by omega) (by rw [tot_DM _ _ h3]; exact hf)
    rwa [hu] at this
end
section
variable {s a c W i : Nat} {p : Pl} {F0 : FM} {S S' : SS} {D : Int} {nm : Bytes} {e : Nat}
theorem iRemove  (ho : PlOk p) (h304 : p.n ≤ 304) (h3 : 3 ≤ p.ino) (hS : PSt p S i) (hi : i ≤ 1000) (hr : ChR p S D nm none e S') : Spec Tryz.prog 12 #[.pointer (some ⟨s, 0, none⟩), .int .i64 D, sv nm] [IN s a c p F0 (DM S.1 S.2) W true] fun G v M => v = nI e ∧ M = IN s a c p F0 (DM S'.1 S'.2) (W + 8) true :: G := by
  have same : ∀ {e : Nat}, Spec Tryz.prog 12 #[.pointer (some ⟨s, 0, none⟩), .int .i64 D, sv nm] [IN s a c p F0 (DM S.1 S.2) W true] (fun G v M => v = nI e ∧ M = IN s a c p F0 (DM S.1 S.2) W true :: G) → Spec Tryz.prog 12 #[.pointer (some ⟨s, 0, none⟩), .int .i64 D, sv nm] [IN s a c p F0 (DM S.1 S.2) W true] fun G v M => v = nI e ∧ M = IN s a c p F0 (DM S.1 S.2) (W + 8) true :: G := fun h => h.post (by rintro G v M ⟨rfl, rfl⟩; exact ⟨_, ⟨rfl, rfl⟩, Wk.front (IN.more (by omega))⟩)
  cases hr with
  | bad h => exact same (dRemoveE (i := nI 0) ho (.inr ⟨rfl, findErr_dirE h⟩) (by omega))
  | none h hl =>
    obtain ⟨hn, hD⟩ := dirE_0 h
    obtain ⟨d, hd⟩ := dirAt (S := S) hD
    have hs := hS.at hD
    have := hs.len
    have hd1 := hd.eq
    subst hd1
    exact same (dRemoveNo ho hn hd.m hs.ok (by omega) (lookS_none hl))
  | ok h hl =>
    obtain ⟨hn, hD⟩ := dirE_0 h
    obtain ⟨d, hd⟩ := dirAt (S := S) hD
    have hs := hS.at hD
    have := hs.len
    have hf := hS.fit
    rename_i q j
    have hu := hd.um (setS (sD S D) q none)
    have hd1 := hd.eq
    subst hd1
    have := dRemove (s := s) (a := a) (c := c) (F0 := F0) (W := W) ho hn hd.m hs.ok (by omega) (lookS_some hl) (small_room h304) (by rw [tot_DM _ _ h3]; exact hf)
    rwa [hu] at this
end
section
variable {s a c W i : Nat} {p : Pl} {F0 : FM} {S S' : SS} {D : Int} {nm : Bytes} {e : Nat}
theorem iMove {I : Nat} (hI : I ≤ 15) (ho : PlOk p) (h304 : p.n ≤ 304) (h3 : 3 ≤ p.ino) (hS : PSt p S i) (hi : i ≤ 1000) (hr : ChR p S D nm (some (nm, I)) e S') : Spec Tryz.prog 14 #[.pointer (some ⟨s, 0, none⟩), .int .i64 D, sv nm, nI I] [IN s a c p F0 (DM S.1 S.2) W true] fun G v M => v = nI e ∧ M = IN s a c p F0 (DM S'.1 S'.2) (W + 8) true :: G := by
  have same : ∀ {e : Nat}, Spec Tryz.prog 14 #[.pointer (some ⟨s, 0, none⟩), .int .i64 D, sv nm, nI I] [IN s a c p F0 (DM S.1 S.2) W true] (fun G v M => v = nI e ∧ M = IN s a c p F0 (DM S.1 S.2) W true :: G) → Spec Tryz.prog 14 #[.pointer (some ⟨s, 0, none⟩), .int .i64 D, sv nm, nI I] [IN s a c p F0 (DM S.1 S.2) W true] fun G v M => v = nI e ∧ M = IN s a c p F0 (DM S.1 S.2) (W + 8) true :: G := fun h => h.post (by rintro G v M ⟨rfl, rfl⟩; exact ⟨_, ⟨rfl, rfl⟩, Wk.front (IN.more (by omega))⟩)
  cases hr with
  | bad h => exact same (dMoveE ho (.inr ⟨rfl, findErr_dirE h⟩) (by omega))
  | none h hl =>
    obtain ⟨hn, hD⟩ := dirE_0 h
    obtain ⟨d, hd⟩ := dirAt (S := S) hD
    have hs := hS.at hD
    have := hs.len
    have hd1 := hd.eq
    subst hd1
    exact same (dMoveNo ho hn hd.m hs.ok (by omega) (lookS_none hl))
  | ok h hl =>
    obtain ⟨hn, hD⟩ := dirE_0 h
    obtain ⟨d, hd⟩ := dirAt (S := S) hD
    have hs := hS.at hD
    have := hs.len
    have hf := hS.fit
    rename_i q j
    have hu := hd.um (setS (sD S D) q (some (nm, I)))
    have hd1 := hd.eq
    subst hd1
    have := dMove (s := s) (a := a) (c := c) (F0 := F0) (W := W) ho hn hd.m hs.ok (by omega) (lookS_some hl) (i := I) (by omega) (small_room h304) (by rw [tot_DM _ _ h3]; exact hf)
    rwa [hu] at this
end
section
variable {m i N : Nat} {p : Pl} {os : List (Nat × Obj)} {S S' : SS} {D : Int} {nm : Bytes} {e : Nat}
theorem rAdd {I : Nat} (hI : I ≤ 15) (hi0 : 1 ≤ p.ino) (hi1 : p.ino ≤ 4096) (h3 : 3 ≤ p.ino) (hdc : p.dc ≤ 1000000) (hS : PSt p S i) (hi : i ≤ 1000) (hN : N ≤ 1000) (hnl : nm.length ≤ 1000000) (hr : AddR p S D nm I e S') : Spec Tryz.prog 9 #[.pointer (some ⟨m, 0, none⟩), .int .i64 D, sv nm, nI I] [RS m p (dT S) os N, frz os] fun F v M => v = nI e ∧ ∃ os2, (∀ x ∈ os, x ∈ os2) ∧ M = RS m p (dT S') os2 (N + 4) :: frz os2 :: F := by
  have hT := hS.rt hi h3
  have htot := hS.tot h3
  have keep : ∀ {e : Nat}, Spec Tryz.prog 9 #[.pointer (some ⟨m, 0, none⟩), .int .i64 D, sv nm, nI I] [RS m p (dT S) os N, frz os] (fun F v M => v = nI e ∧ M = RS m p (dT S) os N :: frz os :: F) → Spec Tryz.prog 9 #[.pointer (some ⟨m, 0, none⟩), .int .i64 D, sv nm, nI I] [RS m p (dT S) os N, frz os] fun F v M => v = nI e ∧ ∃ os2, (∀ x ∈ os, x ∈ os2) ∧ M = RS m p (dT S) os2 (N + 4) :: frz os2 :: F := fun h => h.post (by rintro F v M ⟨rfl, rfl⟩; exact ⟨_, ⟨rfl, os, fun x hx => hx, rfl⟩, Wk.front (RS.grow (fun x hx => hx) (by omega))⟩)
  have neg : ∀ (h : D < 0), Spec Tryz.prog 9 #[.pointer (some ⟨m, 0, none⟩), .int .i64 D, sv nm, nI I] [RS m p (dT S) os N, frz os] (fun F v M => v = nI (dirE nm D) ∧ M = RS m p (dT S) os N :: frz os :: F) := fun h => by
    have := rsAddNeg (x := .pointer (some ⟨m, 0, none⟩)) (y := nI I) (nm := nm) h hnl
    rw [neg_dirE h] at this
    exact fun B F w hs => this B (RS m p (dT S) os N :: frz os :: F) w hs
  have bad : dirE nm D ≠ 0 → Spec Tryz.prog 9 #[.pointer (some ⟨m, 0, none⟩), .int .i64 D, sv nm, nI I] [RS m p (dT S) os N, frz os] (fun F v M => v = nI (dirE nm D) ∧ M = RS m p (dT S) os N :: frz os :: F) := fun h => by
    by_cases h0 : D < 0
    · exact neg h0
    · obtain ⟨d, rfl⟩ : ∃ d : Nat, D = d := ⟨D.toNat, by omega⟩
      have := rsAddE (s := m) (p := p) (T := dT S) (os := os) (N := N) hi0 hi1 (d := d) (nm := nm) (y := nI I) hT hnl (by rw [begin_dirE]; exact h)
      rw [begin_dirE] at this
      exact fun B F w hs => this B (frz os :: F) w hs
  cases hr with
  | bad h => exact keep (bad h)
  | exist h hl =>
    obtain ⟨hn, hD⟩ := dirE_0 h
    obtain ⟨d, hd⟩ := dirAt (S := S) hD
    have hd1 := hd.eq
    subst hd1
    exact keep (rsAddExist (s := m) (p := p) (T := dT S) (os := os) (N := N) hi0 hi1 hT hn hd.t hl)
  | full h hl hf =>
    obtain ⟨hn, hD⟩ := dirE_0 h
    obtain ⟨d, hd⟩ := dirAt (S := S) hD
    have hd1 := hd.eq
    subst hd1
    exact keep (rsAddFull (s := m) (p := p) (T := dT S) (os := os) (N := N) hi0 hi1 hdc hT htot hn hd.t hl (by omega) (by rw [fmT_dT, tot_DM _ _ h3]; exact hf))
  | ok h hl hf =>
    obtain ⟨hn, hD⟩ := dirE_0 h
    obtain ⟨d, hd⟩ := dirAt (S := S) hD
    have hd1 := hd.eq
    subst hd1
    have hu := hd.ut (setS (sD S d) (freeS (sD S d)) (some (nm, I)))
    have := rsAdd (s := m) (p := p) (T := dT S) (os := os) (N := N) hi0 hi1 hdc hT htot hn hd.t hl (i := I) (by omega) hN (by rw [fmT_dT, tot_DM _ _ h3]; exact hf)
    rw [hu] at this
    exact this
end
section
variable {m i N : Nat} {p : Pl} {os : List (Nat × Obj)} {S S' : SS} {D : Int} {nm : Bytes} {e : Nat}
theorem rRemove  (hi0 : 1 ≤ p.ino) (hi1 : p.ino ≤ 4096) (h3 : 3 ≤ p.ino) (hdc : p.dc ≤ 1000000) (hS : PSt p S i) (hi : i ≤ 1000) (hN : N ≤ 1000) (hnl : nm.length ≤ 1000000) (hr : ChR p S D nm none e S') : Spec Tryz.prog 13 #[.pointer (some ⟨m, 0, none⟩), .int .i64 D, sv nm] [RS m p (dT S) os N, frz os] fun F v M => v = nI e ∧ ∃ os2, (∀ x ∈ os, x ∈ os2) ∧ M = RS m p (dT S') os2 (N + 4) :: frz os2 :: F := by
  have hT := hS.rt hi h3
  have htot := hS.tot h3
  have keep : ∀ {e : Nat}, Spec Tryz.prog 13 #[.pointer (some ⟨m, 0, none⟩), .int .i64 D, sv nm] [RS m p (dT S) os N, frz os] (fun F v M => v = nI e ∧ M = RS m p (dT S) os N :: frz os :: F) → Spec Tryz.prog 13 #[.pointer (some ⟨m, 0, none⟩), .int .i64 D, sv nm] [RS m p (dT S) os N, frz os] fun F v M => v = nI e ∧ ∃ os2, (∀ x ∈ os, x ∈ os2) ∧ M = RS m p (dT S) os2 (N + 4) :: frz os2 :: F := fun h => h.post (by rintro F v M ⟨rfl, rfl⟩; exact ⟨_, ⟨rfl, os, fun x hx => hx, rfl⟩, Wk.front (RS.grow (fun x hx => hx) (by omega))⟩)
  have neg : ∀ (h : D < 0), Spec Tryz.prog 13 #[.pointer (some ⟨m, 0, none⟩), .int .i64 D, sv nm] [RS m p (dT S) os N, frz os] (fun F v M => v = nI (dirE nm D) ∧ M = RS m p (dT S) os N :: frz os :: F) := fun h => by
    have := rsRemoveNeg (x := .pointer (some ⟨m, 0, none⟩)) (nm := nm) h hnl
    rw [neg_dirE h] at this
    exact fun B F w hs => this B (RS m p (dT S) os N :: frz os :: F) w hs
  have bad : dirE nm D ≠ 0 → Spec Tryz.prog 13 #[.pointer (some ⟨m, 0, none⟩), .int .i64 D, sv nm] [RS m p (dT S) os N, frz os] (fun F v M => v = nI (dirE nm D) ∧ M = RS m p (dT S) os N :: frz os :: F) := fun h => by
    by_cases h0 : D < 0
    · exact neg h0
    · obtain ⟨d, rfl⟩ : ∃ d : Nat, D = d := ⟨D.toNat, by omega⟩
      have := rsRemoveE (s := m) (p := p) (T := dT S) (os := os) (N := N) hi0 hi1 (d := d) (nm := nm) hT hnl (by rw [begin_dirE]; exact h)
      rw [begin_dirE] at this
      exact fun B F w hs => this B (frz os :: F) w hs
  cases hr with
  | bad h => exact keep (bad h)
  | none h hl =>
    obtain ⟨hn, hD⟩ := dirE_0 h
    obtain ⟨d, hd⟩ := dirAt (S := S) hD
    have hd1 := hd.eq
    subst hd1
    exact keep (rsRemoveNo (s := m) (p := p) (T := dT S) (os := os) (N := N) hi0 hi1 hT hn hd.t hl)
  | ok h hl =>
    rename_i q j
    obtain ⟨hn, hD⟩ := dirE_0 h
    obtain ⟨d, hd⟩ := dirAt (S := S) hD
    have hd1 := hd.eq
    subst hd1
    have hu := hd.ut (setS (sD S d) q none)
    have := rsRemove (s := m) (p := p) (T := dT S) (os := os) (N := N) hi0 hi1 hT hn hd.t hl hdc htot hN
    rw [hu] at this
    exact this
end
section
variable {m i N : Nat} {p : Pl} {os : List (Nat × Obj)} {S S' : SS} {D : Int} {nm : Bytes} {e : Nat}
theorem rMove {I : Nat} (hI : I ≤ 15) (hi0 : 1 ≤ p.ino) (hi1 : p.ino ≤ 4096) (h3 : 3 ≤ p.ino) (hdc : p.dc ≤ 1000000) (hS : PSt p S i) (hi : i ≤ 1000) (hN : N ≤ 1000) (hnl : nm.length ≤ 1000000) (hr : ChR p S D nm (some (nm, I)) e S') : Spec Tryz.prog 15 #[.pointer (some ⟨m, 0, none⟩), .int .i64 D, sv nm, nI I] [RS m p (dT S) os N, frz os] fun F v M => v = nI e ∧ ∃ os2, (∀ x ∈ os, x ∈ os2) ∧ M = RS m p (dT S') os2 (N + 4) :: frz os2 :: F := by
  have hT := hS.rt hi h3
  have htot := hS.tot h3
  have keep : ∀ {e : Nat}, Spec Tryz.prog 15 #[.pointer (some ⟨m, 0, none⟩), .int .i64 D, sv nm, nI I] [RS m p (dT S) os N, frz os] (fun F v M => v = nI e ∧ M = RS m p (dT S) os N :: frz os :: F) → Spec Tryz.prog 15 #[.pointer (some ⟨m, 0, none⟩), .int .i64 D, sv nm, nI I] [RS m p (dT S) os N, frz os] fun F v M => v = nI e ∧ ∃ os2, (∀ x ∈ os, x ∈ os2) ∧ M = RS m p (dT S) os2 (N + 4) :: frz os2 :: F := fun h => h.post (by rintro F v M ⟨rfl, rfl⟩; exact ⟨_, ⟨rfl, os, fun x hx => hx, rfl⟩, Wk.front (RS.grow (fun x hx => hx) (by omega))⟩)
  have neg : ∀ (h : D < 0), Spec Tryz.prog 15 #[.pointer (some ⟨m, 0, none⟩), .int .i64 D, sv nm, nI I] [RS m p (dT S) os N, frz os] (fun F v M => v = nI (dirE nm D) ∧ M = RS m p (dT S) os N :: frz os :: F) := fun h => by
    have := rsMoveNeg (x := .pointer (some ⟨m, 0, none⟩)) (y := nI I) (nm := nm) h hnl
    rw [neg_dirE h] at this
    exact fun B F w hs => this B (RS m p (dT S) os N :: frz os :: F) w hs
  have bad : dirE nm D ≠ 0 → Spec Tryz.prog 15 #[.pointer (some ⟨m, 0, none⟩), .int .i64 D, sv nm, nI I] [RS m p (dT S) os N, frz os] (fun F v M => v = nI (dirE nm D) ∧ M = RS m p (dT S) os N :: frz os :: F) := fun h => by
    by_cases h0 : D < 0
    · exact neg h0
    · obtain ⟨d, rfl⟩ : ∃ d : Nat, D = d := ⟨D.toNat, by omega⟩
      have := rsMoveE (s := m) (p := p) (T := dT S) (os := os) (N := N) hi0 hi1 (d := d) (nm := nm) (y := nI I) hT hnl (by rw [begin_dirE]; exact h)
      rw [begin_dirE] at this
      exact fun B F w hs => this B (frz os :: F) w hs
  cases hr with
  | bad h => exact keep (bad h)
  | none h hl =>
    obtain ⟨hn, hD⟩ := dirE_0 h
    obtain ⟨d, hd⟩ := dirAt (S := S) hD
    have hd1 := hd.eq
    subst hd1
    exact keep (rsMoveNo (s := m) (p := p) (T := dT S) (os := os) (N := N) hi0 hi1 hT hn hd.t hl)
  | ok h hl =>
    rename_i q j
    obtain ⟨hn, hD⟩ := dirE_0 h
    obtain ⟨d, hd⟩ := dirAt (S := S) hD
    have hd1 := hd.eq
    subst hd1
    have hu := hd.ut (setS (sD S d) q (some (nm, I)))
    have := rsMove (s := m) (p := p) (T := dT S) (os := os) (N := N) hi0 hi1 hT hn hd.t hl hdc htot hN (i := I) (by omega)
    rw [hu] at this
    exact this
end
def findR (S : SS) (D : Int) (nm : Bytes) : Nat × Nat := if dirE nm D = 0 then (match lookS nm (sD S D) with
  | some (_, j) => (j, 0)
  | none => (0, 4)) else (0, dirE nm D)
theorem iFind {s a c W i : Nat} {p : Pl} {F0 : FM} {S : SS} {D : Int} {nm : Bytes} (ho : PlOk p) (hS : PSt p S i) (hi : i ≤ 1000) : Spec Tryz.prog 10 #[.pointer (some ⟨s, 0, none⟩), .int .i64 D, sv nm] [IN s a c p F0 (DM S.1 S.2) W true] fun G v M => v = .tuple #[nI (findR S D nm).1, nI (findR S D nm).2] ∧ M = IN s a c p F0 (DM S.1 S.2) W true :: G := by
  unfold findR
  by_cases h : dirE nm D = 0
  · rw [if_pos h]
    obtain ⟨hn, hD⟩ := dirE_0 h
    obtain ⟨d, hd⟩ := dirAt (S := S) hD
    have hs := hS.at hD
    have := hs.len
    have hd1 := hd.eq
    subst hd1
    cases hl : lookS nm (sD S d) with
    | none => exact dFindNo ho hn hd.m hs.ok (by omega) (lookS_none hl)
    | some x => exact dFind ho hn hd.m hs.ok (by omega) (lookS_some hl)
  · rw [if_neg h]
    exact dFindE ho (findErr_dirE h) (by omega)
theorem rFind {m i N : Nat} {p : Pl} {os : List (Nat × Obj)} {S : SS} {D : Int} {nm : Bytes} (hi0 : 1 ≤ p.ino) (hi1 : p.ino ≤ 4096) (h3 : 3 ≤ p.ino) (hS : PSt p S i) (hi : i ≤ 1000) (hnl : nm.length ≤ 1000000) : Spec Tryz.prog 11 #[.pointer (some ⟨m, 0, none⟩), .int .i64 D, sv nm] [RS m p (dT S) os N, frz os] fun F v M => v = .tuple #[nI (findR S D nm).1, nI (findR S D nm).2] ∧ M = RS m p (dT S) os N :: frz os :: F := by
  by_cases h0 : D < 0
  · have := rsFindNeg (x := .pointer (some ⟨m, 0, none⟩)) (nm := nm) h0 hnl
    have h : dirE nm D ≠ 0 := by
      intro h
      obtain ⟨_, hD⟩ := dirE_0 h
      omega
    rw [neg_dirE h0] at this
    unfold findR
    rw [if_neg h]
    exact fun B F w hs => this B (RS m p (dT S) os N :: frz os :: F) w hs
  · obtain ⟨d, rfl⟩ : ∃ d : Nat, D = d := ⟨D.toNat, by omega⟩
    have := rsFind (s := m) (p := p) (T := dT S) (os := os) (N := N) hi0 hi1 (d := d) (nm := nm) (hS.rt hi h3) hnl
    have he : findT (dT S) d nm = findR S d nm := by
      unfold findR
      by_cases h : dirE nm (d : Int) = 0
      · rw [if_pos h]
        obtain ⟨hn, hD⟩ := dirE_0 h
        obtain ⟨d', hd⟩ := dirAt (S := S) hD
        have hd1 := hd.eq
        have hdd : d' = d := by omega
        subst hdd
        unfold findT
        rw [if_pos hn, hd.t]
        simp only
        cases lookS nm (sD S d') with
        | none => rfl
        | some x => rfl
      · rw [if_neg h, findT_bad (by rw [begin_dirE]; exact h), begin_dirE]
    rw [he] at this
    exact this
theorem ents_nodupE {sl : List Slot} (h : DirOk sl) : ((entsS sl).map (·.1)).Nodup := by
  show List.Pairwise _ _
  unfold entsS
  rw [List.pairwise_map, List.pairwise_filterMap, List.pairwise_iff_getElem]
  intro i j hi hj hij a ha b hb hab
  have ha : sl[i] = some a := ha
  have hb : sl[j] = some b := hb
  obtain ⟨n1, k1⟩ := a
  obtain ⟨n2, k2⟩ := b
  obtain rfl : n1 = n2 := hab
  have := h.one i j n1 k1 k2 (by rw [List.getElem?_eq_getElem hi, ha]) (by rw [List.getElem?_eq_getElem hj, hb])
  omega
theorem dT_made : updT (updT rootT 1 (some (.dir []))) 2 (some (.file [])) = dT ([], []) := by
  funext j
  unfold updT dT rootT
  by_cases h2 : j = 2
  · subst h2; rfl
  · by_cases h1 : j = 1
    · subst h1; rfl
    · simp only [if_neg h1, if_neg h2]
theorem refMakeOk' {p : Pl} (h : PlIs p) : Spec Tryz.prog 36 #[nI p.n, nI p.ino] [] fun F v M => v = .tuple #[.agg p.cells, .int .i64 0] ∧ M = F := by
  have h2 := h.bm; have h3 := h.m1; have h4 := h.da; have h5 := h.dc; have h8 := h.n2; have h9 := h.i1; have h10 := h.i2; have h11 := h.d1
  refine Spec.post (refMakeS (n := p.n) (ino := p.ino) (by omega) h8 h9 h10) ?_
  rintro F v M ⟨⟨q, hq, hn, hi, rfl⟩ | ⟨rfl, hno⟩, rfl⟩
  · rw [hq.one h hn hi]; exact ⟨_, ⟨rfl, rfl⟩, Wk.refl⟩
  · exact absurd (hno p h rfl rfl) id
theorem refMake16 {p : Pl} (h : PlIs p) (h16 : p.ino = 16) : Spec Tryz.prog 36 #[nI p.n, .int .i64 16] [] fun F v M => v = .tuple #[.agg p.cells, .int .i64 0] ∧ M = F := by
  have := refMakeOk' h
  rw [h16] at this
  exact this
theorem l9Model {p : Pl} (h : PlIs p) (h16 : p.ino = 16) : Spec Tryz.prog 6 #[nI p.n] [] fun F v M => ∃ m, v = .pointer (some ⟨m, 0, none⟩) ∧ M = RS m p (dT ([], [])) [] 0 :: F := by
  refine Spec.intro Tryz.func6 rfl rfl fun B F => ?_
  simp only [Tryz.ntmps6, List.cons_append, List.nil_append, env0, Nat.reduceAdd]
  refine .sr (.assign (.x (.move ?_)))
  refine .call (hc := Tryz.call36) (sp := refMake16 h h16) (h := ?_)
  rintro _ _ ⟨rfl, hM⟩
  obtain rfl := hM.symm
  refine .move ?_
  refine .extract ?_
  refine .extract ?_
  refine .alloc z59 fun b3 => ?_
  refine .stV ?_ agg59
  refine .to (A := pt b3 (.cells p.cells 59 (0, 0))) (A' := pt b3 (.cells p.cells 59 (0, 0))) (fun h hh => hh) ?_
  refine .assign (.x ?_)
  refine .ldA ?_ agg59
  refine .call (hc := Tryz.call37) (sp := rsNew (p := p) h.i1 h.i2) (h := ?_)
  rintro _ _ ⟨m, rfl, rfl⟩
  refine .assign (.x (.move ?_))
  refine .call (hc := Tryz.call38) (sp := rsMake (s := m) (p := p) (T := rootT) (os := []) (N := 0) h.i1 h.i2 (i := 1) (kind := 2) (x := .dir []) (.inr rfl) (by omega) rfl (fun j hj => by obtain rfl : j = 0 := (by omega); intro hh; cases hh) rfl rfl (by decide)) (h := ?_)
  rintro _ _ ⟨rfl, rfl⟩
  refine .x (.move ?_)
  refine .call (hc := Tryz.call38) (sp := rsMake (s := m) (p := p) (T := updT rootT 1 (some (.dir []))) (os := []) (N := 0 + 0 + 1) h.i1 h.i2 (i := 2) (kind := 1) (x := .file []) (.inl rfl) (by omega) rfl (fun j hj => by rcases j with _ | _ | j; (intro hh; cases hh); (intro hh; cases hh); omega) rfl rfl (by decide)) (h := ?_)
  rintro _ _ ⟨rfl, rfl⟩
  rw [dT_made]
  refine .x (.move ?_)
  refine .call (hc := Tryz.call39) (sp := rsBegin0 (s := m) (p := p) (T := dT ([], [])) (os := []) (N := 0 + 0 + 1 + 0 + 1) h.i1 h.i2) (h := ?_)
  rintro _ _ ⟨rfl, rfl⟩
  refine .x (.move (.assign (.z ?_)))
  refine .ret (?_)
  exact .ret1 (h1 := .tmp (t := 2) rfl) ⟨_, ⟨m, rfl, rfl⟩, Am.auto⟩
theorem l9Same {R R' : HP} {A A' : Option Addr} {n c c' : Nat} {l : List Ent} (hR : l = [] ∨ Reads R A (l.flatMap entL)) (hR' : l = [] ∨ Reads R' A' (l.flatMap entL)) (hn : l.length = n) (hb1 : n ≤ 9223372036854775807) : Spec Tryz.prog 23 #[.slice A n c, .slice A' n c'] [R, R'] fun F v M => v = .bool true ∧ M = R :: R' :: F := by
  refine Spec.intro Tryz.func23 rfl rfl fun B F => ?_
  simp only [Tryz.ntmps23, List.cons_append, List.nil_append, env0, Nat.reduceAdd]
  refine .sr (.assign (.z (.seq (.sr (.move ?_)))))
  refine .lenS ?_ sl44
  refine .move ?_
  refine .lenS ?_ sl47
  refine .nei ?_
  refine .z ?_
  refine .condF rfl (congrArg Value.bool (by first | (simp; done) | (simp; omega) | omega)) ?_
  refine .skip (.next (.seq (.sr (.assign (.z (.block ?_))))))
  refine .loopA (σ := Nat) (fun i => [(0, .slice A n c), (1, .slice A' n c'), (5, .int .i64 (i : Int))]) (fun i => R :: R' :: F) (fun i => i ≤ n) (fun i => n - i) 0 (Nat.zero_le _) ?_
  rintro i hi
  refine .seq (.sr (.move (.move ?_)))
  refine .lenS ?_ sl44
  refine .lss ?_
  refine .z ?_
  refine .cond rfl (fun hb => ?_) (fun hb => ?_)
  · have hlt : i < l.length := by have h : (i : Int) < (n : Int) := of_decide_eq_true hb; omega
    have hRx := hR.resolve_left (by intro h0; rw [h0] at hlt; simp at hlt)
    have hRy := hR'.resolve_left (by intro h0; rw [h0] at hlt; simp at hlt)
    rcases A with _ | ⟨ab, ao, asp⟩
    · exact absurd (congrArg List.length (show l.flatMap entL = [] from hRx)) (by rw [entF_length, List.length_nil]; omega)
    rcases A' with _ | ⟨ab', ao', asp'⟩
    · exact absurd (congrArg List.length (show l.flatMap entL = [] from hRy)) (by rw [entF_length, List.length_nil]; omega)
    have hsp : asp = none := hRx.1
    subst hsp
    have hsp' : asp' = none := hRy.1
    subst hsp'
    have hg := entF_get (List.getElem?_eq_getElem hlt)
    refine .skip (.next (.seq (.block (.seq ?_))))
    refine .dr ([R, R']) [] 24 mixed .autoJ ?_
    refine .tk 0 rfl .move ?_
    refine .tk 1 rfl .move ?_
    refine .tk 2 rfl (.idx so44) ?_
    refine .tk 3 rfl (.fa fo114_0) ?_
    refine .tk 4 rfl (Qt.ldR (i := ((i : Nat) : Int).toNat * 2 + 0) sc9 hRx (by rw [Int.toNat_natCast]; exact hg.1)) ?_
    refine .tk 5 rfl .move ?_
    refine .tk 6 rfl .move ?_
    refine .tk 7 rfl (.idx so47) ?_
    refine .tk 8 rfl (.fa fo119_0) ?_
    refine .tk 9 rfl (Qt.ldR (i := ((i : Nat) : Int).toNat * 2 + 0) sc9 hRy (by rw [Int.toNat_natCast]; exact hg.1)) ?_
    refine .tk 10 rfl (Qt.neS l[i].1 l[i].1) ?_
    refine .tk 11 rfl (Qt.eq .move (congrArg Value.bool (show (!decide (l[i].1 = l[i].1)) = false by simp))) ?_
    refine .tn 12 rfl .move ?_
    refine .tn 13 rfl .move ?_
    refine .tn 14 rfl (.idx so44) ?_
    refine .tn 15 rfl (.fa fo114_1) ?_
    refine .tn 16 rfl (Qt.ldR (i := ((i : Nat) : Int).toNat * 2 + 1) sc3 hRx (by rw [Int.toNat_natCast]; exact hg.2)) ?_
    refine .tn 17 rfl .move ?_
    refine .tn 18 rfl .move ?_
    refine .tn 19 rfl (.idx so47) ?_
    refine .tn 20 rfl (.fa fo119_1) ?_
    refine .tn 21 rfl (Qt.ldR (i := ((i : Nat) : Int).toNat * 2 + 1) sc3 hRy (by rw [Int.toNat_natCast]; exact hg.2)) ?_
    refine .tn 22 rfl .nei ?_
    refine .tk 23 rfl .pickF ?_
    refine .fin ?_
    refine .next ?_
    refine .condF rfl (congrArg Value.bool (by simp)) ?_
    refine .skip (.blockNormal (.next (.region (.move ?_))))
    refine .add ?_
    refine .assign (.nil ?_)
    refine .cast (d := 5) (u := .int .i64 ((i + 1 : Nat) : Int)) rfl (congrArg (Value.int .i64) (by omega)) ?_
    exact .back (i + 1) (by show i + 1 ≤ n; omega) (by omega)
  · refine .exit (.thenExit (.thenExit (.blockExit (?_))))
    refine .next (.sr (.assign (.z ?_)))
    refine .ret (?_)
    exact .ret1 (h1 := .tmp (t := 4) rfl) ⟨_, ⟨rfl, rfl⟩, Am.auto⟩
end Go.Proofs.YtdmjkjeoamiedaaGreat
end
section
namespace Go.Proofs.YtdmjkjeoamiedaaGreat
open Go
theorem sl22 : Tryz.prog.underlying 22 = some (.slice 33) := by kernel_rfl
theorem so22 : sliceOk Tryz.prog 22 33 4 40 = true := by kernel_rfl
theorem z33 : zeroOf Tryz.prog 33 = some (#[.int .i64 0, .int .i64 0, .string ⟨#[]⟩, .int .i64 0]) := by kernel_rfl
theorem agg33 : aggOk Tryz.prog 33 4 = true := by kernel_rfl
theorem fo33_2 : fieldOk Tryz.prog 33 2 2 = true := by kernel_rfl
theorem fo33_3 : fieldOk Tryz.prog 33 3 3 = true := by kernel_rfl
theorem fo33_0 : fieldOk Tryz.prog 33 0 0 = true := by kernel_rfl
theorem fo33_1 : fieldOk Tryz.prog 33 1 1 = true := by kernel_rfl
def StepAt (xs : List Value) (q : Nat) : Prop := ∃ (kd D : Int) (nm : Bytes) (I : Int), (xs.drop (q * 4)).take 4 = [.int .i64 kd, .int .i64 D, sv nm, .int .i64 I] ∧ (-9223372036854775808 ≤ D ∧ D ≤ 9223372036854775807) ∧ (-9223372036854775808 ≤ I ∧ I ≤ 9223372036854775807) ∧ nm.length ≤ 9223372036854775807
theorem PSt.nil (p : Pl) : PSt p ([], []) 0 := by
  have h : SlOk [] 0 := ⟨DirOk.nil, Nat.le_refl _, fun q nm j h => by cases h⟩
  refine ⟨h, h, ?_⟩
  show has 0 + has 0 ≤ p.dc
  have : has 0 = 0 := rfl
  omega
theorem nm97 : nameOk [97] = true := by decide
theorem l9SameNil : Spec Tryz.prog 23 #[.slice none 0 0, .slice none 0 0] [] fun F v M => v = .bool true ∧ M = F := by
  refine Spec.intro Tryz.func23 rfl rfl fun B F => ?_
  simp only [Tryz.ntmps23, List.cons_append, List.nil_append, env0, Nat.reduceAdd]
  refine .sr (.assign (.z (.seq (.sr (.move ?_)))))
  refine .lenS ?_ sl44
  refine .move ?_
  refine .lenS ?_ sl47
  refine .nei ?_
  refine .z ?_
  refine .condF rfl (congrArg Value.bool (by first | rfl | (simp; done))) ?_
  refine .skip (.next (.seq (.sr (.assign (.z (.block ?_))))))
  refine .loopN 1 (RC.succ ?_)
  refine .seq (.sr (.move (.move ?_)))
  refine .lenS ?_ sl44
  refine .lss ?_
  refine .z ?_
  refine .condF rfl (congrArg Value.bool (by first | rfl | (simp; done))) ?_
  refine .exit (.thenExit (.thenExit (.blockExit (?_))))
  refine .next (.sr (.assign (.z ?_)))
  refine .ret (?_)
  exact .ret1 (h1 := .tmp (t := 4) rfl) ⟨_, ⟨rfl, rfl⟩, Am.auto⟩
set_option maxHeartbeats 4000000 in
theorem lawPlays {n : Int} (hn : -9223372036854775808 ≤ n ∧ n ≤ 9223372036854775807) {R : HP} {A : Option Addr} {m c0 : Nat} {xs : List Value} (hR0 : m = 0 ∨ Reads R A xs) (hm : xs.length = m * 4) (hxs : ∀ q, q < m → StepAt xs q) (hbig : m ≤ 9223372036854775807) : Spec Tryz.prog 3 #[.int .i64 n, .slice A m c0] [R] fun F v M => v = .bool true ∧ M = R :: F := by
  refine Spec.intro Tryz.func3 rfl rfl fun B F => ?_
  simp only [Tryz.ntmps3, List.cons_append, List.nil_append, env0, Nat.reduceAdd]
  by_cases h1 : n < 252
  · refine .sr (.assign (.z (.seq (.sr (.move ?_)))))
    refine .lss ?_
    refine .move ?_
    refine .cast (d := 29) (u := .bool true) rfl (congrArg Value.bool (by first | (simp; done) | (simp; omega) | omega)) ?_
    refine .gF ?_
    refine .gF ?_
    refine .pickT ?_
    refine .move ?_
    refine .gF ?_
    refine .gF ?_
    refine .gF ?_
    refine .pickT ?_
    refine .z ?_
    refine .condT rfl rfl ?_
    refine .sr ?_
    refine .call (hc := Tryz.call4) (sp := l9Awake) (h := ?_)
    rintro _ _ ⟨rfl, hM⟩
    obtain rfl := hM.symm
    refine .assign (.z ?_)
    refine .ret (.thenRet (?_))
    exact .ret1 (h1 := .tmp (t := 4) rfl) ⟨_, ⟨rfl, rfl⟩, Am.auto⟩
  · by_cases h2 : 300 < n
    · refine .sr (.assign (.z (.seq (.sr (.move ?_)))))
      refine .lss ?_
      refine .move ?_
      refine .cast (d := 29) (u := .bool false) rfl (congrArg Value.bool (by first | (simp; done) | (simp; omega) | omega)) ?_
      refine .gT ?_
      refine .move ?_
      refine .gT ?_
      refine .gtr ?_
      refine .pickF ?_
      refine .move ?_
      refine .cast (d := 33) (u := .bool true) rfl (congrArg Value.bool (by first | (simp; done) | (simp; omega) | omega)) ?_
      refine .gF ?_
      refine .gF ?_
      refine .gF ?_
      refine .pickT ?_
      refine .z ?_
      refine .condT rfl rfl ?_
      refine .sr ?_
      refine .call (hc := Tryz.call4) (sp := l9Awake) (h := ?_)
      rintro _ _ ⟨rfl, hM⟩
      obtain rfl := hM.symm
      refine .assign (.z ?_)
      refine .ret (.thenRet (?_))
      exact .ret1 (h1 := .tmp (t := 4) rfl) ⟨_, ⟨rfl, rfl⟩, Am.auto⟩
    · by_cases h3 : 80 < m
      · refine .sr (.assign (.z (.seq (.sr (.move ?_)))))
        refine .lss ?_
        refine .move ?_
        refine .cast (d := 29) (u := .bool false) rfl (congrArg Value.bool (by first | (simp; done) | (simp; omega) | omega)) ?_
        refine .gT ?_
        refine .move ?_
        refine .gT ?_
        refine .gtr ?_
        refine .pickF ?_
        refine .move ?_
        refine .cast (d := 33) (u := .bool false) rfl (congrArg Value.bool (by first | (simp; done) | (simp; omega) | omega)) ?_
        refine .gT ?_
        refine .move ?_
        refine .gT ?_
        refine .lenS ?_ sl22
        refine .gT ?_
        refine .gtr ?_
        refine .pickF ?_
        refine .z ?_
        refine .condT rfl (congrArg Value.bool (by first | (simp; done) | (simp; omega) | omega)) ?_
        refine .sr ?_
        refine .call (hc := Tryz.call4) (sp := l9Awake) (h := ?_)
        rintro _ _ ⟨rfl, hM⟩
        obtain rfl := hM.symm
        refine .assign (.z ?_)
        refine .ret (.thenRet (?_))
        exact .ret1 (h1 := .tmp (t := 4) rfl) ⟨_, ⟨rfl, rfl⟩, Am.auto⟩
      · obtain ⟨N0, rfl⟩ : ∃ N : Nat, n = N := ⟨n.toNat, by omega⟩
        have hpn : PlIs (pN N0) := pN_is (by omega) (by omega)
        have ho : PlOk (pN N0) := hpn.ok
        have h304 : (pN N0).n ≤ 304 := by show N0 ≤ 304; omega
        have h3 : 3 ≤ (pN N0).ino := by show 3 ≤ 16; decide
        have hi0 : 1 ≤ (pN N0).ino := by show 1 ≤ 16; decide
        have hi1 : (pN N0).ino ≤ 4096 := by show 16 ≤ 4096; decide
        have hdc : (pN N0).dc ≤ 1000000 := by show N0 - 250 ≤ 1000000; omega
        have hm80 : m ≤ 80 := by omega
        refine .sr (.assign (.z (.seq (.sr (.move ?_)))))
        refine .lss ?_
        refine .move ?_
        refine .cast (d := 29) (u := .bool false) rfl (congrArg Value.bool (by first | (simp; done) | (simp; omega) | omega)) ?_
        refine .gT ?_
        refine .move ?_
        refine .gT ?_
        refine .gtr ?_
        refine .pickF ?_
        refine .move ?_
        refine .cast (d := 33) (u := .bool false) rfl (congrArg Value.bool (by first | (simp; done) | (simp; omega) | omega)) ?_
        refine .gT ?_
        refine .move ?_
        refine .gT ?_
        refine .lenS ?_ sl22
        refine .gT ?_
        refine .gtr ?_
        refine .pickF ?_
        refine .z ?_
        refine .condF rfl (congrArg Value.bool (by first | (simp; done) | (simp; omega) | omega)) ?_
        refine .skip (.next (.sr (.move ?_)))
        refine .call (hc := Tryz.call5) (sp := l9Fresh (p := pN N0) hpn rfl h304) (h := ?_)
        rintro _ _ ⟨c, a, s, rfl, rfl⟩
        refine .move ?_
        refine .extract ?_
        refine .extract ?_
        refine .extract ?_
        refine .extract ?_
        refine .assign (.assign (.assign (.assign (.z (.seq (.sr (.move ?_)))))))
        refine .not ?_
        refine .z ?_
        refine .condF rfl rfl ?_
        refine .skip (.next (.sr (.move ?_)))
        refine .call (hc := Tryz.call6) (sp := l9Model (p := pN N0) hpn rfl) (h := ?_)
        rintro _ _ ⟨m1, rfl, rfl⟩
        refine .assign (.x (.move ?_))
        refine .call (hc := Tryz.call7) (sp := rsCopy (s := m1) (p := pN N0) (T := dT ([], [])) (os := []) (N := 0) hi0 hi1 (by decide)) (h := ?_)
        rintro _ _ ⟨m2, rfl, rfl⟩
        refine .assign (.z (.seq (.sr (.assign (.z (.block ?_))))))
        refine .emp frz_nil ?_
        refine .loopA (σ := Nat × SS × SS × Nat × Nat × List (Nat × Obj) × Nat × Nat × Nat) (fun y => [(0, nI N0), (1, .slice A m c0), (5, .pointer (some ⟨c, 0, none⟩)), (6, .pointer (some ⟨a, 0, none⟩)), (7, .pointer (some ⟨s, 0, none⟩)), (9, .pointer (some ⟨y.2.2.2.1, 0, none⟩)), (10, .pointer (some ⟨y.2.2.2.2.1, 0, none⟩)), (11, .int .i64 ((y.1 : Nat) : Int))]) (fun y => [IN s a c (pN N0) (DM y.2.2.1.1 y.2.2.1.2) (DM y.2.1.1 y.2.1.2) (y.2.2.2.2.2.2.2.2) true, RS y.2.2.2.1 (pN N0) (dT y.2.1) y.2.2.2.2.2.1 y.2.2.2.2.2.2.1, RS y.2.2.2.2.1 (pN N0) (dT y.2.2.1) y.2.2.2.2.2.1 y.2.2.2.2.2.2.2.1, frz y.2.2.2.2.2.1, R] ++ F) (fun y => y.1 ≤ m ∧ PSt (pN N0) y.2.1 y.1 ∧ PSt (pN N0) y.2.2.1 y.1 ∧ y.2.2.2.2.2.2.1 ≤ 4 * y.1 ∧ y.2.2.2.2.2.2.2.1 ≤ 4 * y.1) (fun y => m - y.1) (0, ([], []), ([], []), m1, m2, [], 0, 0, 0) ⟨Nat.zero_le _, PSt.nil _, PSt.nil _, Nat.le_refl _, Nat.le_refl _⟩ ?_
        rintro y hy
        obtain ⟨i, S, So, m3, mo, os, N, No, W⟩ := y
        obtain ⟨him, hS, hSo, hN, hNo⟩ := hy
        simp only at him hS hSo hN hNo ⊢
        refine .seq (.sr (.move (.move ?_)))
        refine .lenS ?_ sl22
        refine .lss ?_
        refine .z ?_
        refine .cond rfl (fun hb => ?_) (fun hb => ?_)
        · have hlt : i < m := by have h : (i : Int) < (m : Int) := of_decide_eq_true hb; omega
          have hR := hR0.resolve_left (by omega)
          rcases A with _ | ⟨ab, ao, asp⟩
          · exact absurd (congrArg List.length (show xs = [] from hR)) (by rw [hm, List.length_nil]; omega)
          have hsp : asp = none := hR.1
          subst hsp
          obtain ⟨kd, D, nm, I, hus, hD, hI, hnl⟩ := hxs i hlt
          by_cases hc1 : 300 < nm.length
          · refine .skip (.next (.seq (.block (.sr (.move (.move ?_))))))
            refine .idx ?_ so22
            refine .ldAR (i := ((i : Nat) : Int).toNat * 4) (us := [.int .i64 kd, .int .i64 D, sv nm, .int .i64 I]) ?_ agg33 hR (by rw [Int.toNat_natCast]; exact hus) (by rw [hm, Int.toNat_natCast]; omega)
            refine .alloc z33 fun b12 => ?_
            refine .stV ?_ agg33
            refine .z (.seq (.sr ?_))
            refine .fa ?_ fo33_2
            refine .ld ?_ sc9
            refine .lenT nm ?_ st9
            refine .gtr ?_
            refine .move ?_
            refine .cast (d := 66) (u := .bool true) rfl (congrArg Value.bool (by first | (simp; done) | (simp; omega) | omega)) ?_
            refine .gF ?_
            refine .gF ?_
            refine .gF ?_
            refine .pickT ?_
            refine .move ?_
            refine .gF ?_
            refine .gF ?_
            refine .gF ?_
            refine .pickT ?_
            refine .z ?_
            refine .condT rfl rfl ?_
            refine .exit (.thenExit (.blockExit (?_)))
            refine .next (.region (.move ?_))
            refine .add ?_
            refine .assign (.nil ?_)
            refine .cast (d := 11) (u := .int .i64 ((i + 1 : Nat) : Int)) rfl (congrArg (Value.int .i64) (by omega)) ?_
            exact .back (i + 1, S, So, m3, mo, os, N, No, W) ⟨by show i + 1 ≤ m; omega, hS.more (Nat.le_succ i), hSo.more (Nat.le_succ i), by show N ≤ 4 * (i + 1); omega, by show No ≤ 4 * (i + 1); omega⟩ (by show m - (i + 1) < m - i; omega)
          · by_cases hc2 : I < 0
            · refine .skip (.next (.seq (.block (.sr (.move (.move ?_))))))
              refine .idx ?_ so22
              refine .ldAR (i := ((i : Nat) : Int).toNat * 4) (us := [.int .i64 kd, .int .i64 D, sv nm, .int .i64 I]) ?_ agg33 hR (by rw [Int.toNat_natCast]; exact hus) (by rw [hm, Int.toNat_natCast]; omega)
              refine .alloc z33 fun b12 => ?_
              refine .stV ?_ agg33
              refine .z (.seq (.sr ?_))
              refine .fa ?_ fo33_2
              refine .ld ?_ sc9
              refine .lenT nm ?_ st9
              refine .gtr ?_
              refine .move ?_
              refine .cast (d := 66) (u := .bool false) rfl (congrArg Value.bool (by first | (simp; done) | (simp; omega) | omega)) ?_
              refine .gT ?_
              refine .fa ?_ fo33_3
              refine .gT ?_
              refine .ld ?_ sc3
              refine .gT ?_
              refine .lss ?_
              refine .pickF ?_
              refine .move ?_
              refine .cast (d := 71) (u := .bool true) rfl (congrArg Value.bool (by first | (simp; done) | (simp; omega) | omega)) ?_
              refine .gF ?_
              refine .gF ?_
              refine .gF ?_
              refine .pickT ?_
              refine .z ?_
              refine .condT rfl rfl ?_
              refine .exit (.thenExit (.blockExit (?_)))
              refine .next (.region (.move ?_))
              refine .add ?_
              refine .assign (.nil ?_)
              refine .cast (d := 11) (u := .int .i64 ((i + 1 : Nat) : Int)) rfl (congrArg (Value.int .i64) (by omega)) ?_
              exact .back (i + 1, S, So, m3, mo, os, N, No, W) ⟨by show i + 1 ≤ m; omega, hS.more (Nat.le_succ i), hSo.more (Nat.le_succ i), by show N ≤ 4 * (i + 1); omega, by show No ≤ 4 * (i + 1); omega⟩ (by show m - (i + 1) < m - i; omega)
            · by_cases hc3 : 15 < I
              · refine .skip (.next (.seq (.block (.sr (.move (.move ?_))))))
                refine .idx ?_ so22
                refine .ldAR (i := ((i : Nat) : Int).toNat * 4) (us := [.int .i64 kd, .int .i64 D, sv nm, .int .i64 I]) ?_ agg33 hR (by rw [Int.toNat_natCast]; exact hus) (by rw [hm, Int.toNat_natCast]; omega)
                refine .alloc z33 fun b12 => ?_
                refine .stV ?_ agg33
                refine .z (.seq (.sr ?_))
                refine .fa ?_ fo33_2
                refine .ld ?_ sc9
                refine .lenT nm ?_ st9
                refine .gtr ?_
                refine .move ?_
                refine .cast (d := 66) (u := .bool false) rfl (congrArg Value.bool (by first | (simp; done) | (simp; omega) | omega)) ?_
                refine .gT ?_
                refine .fa ?_ fo33_3
                refine .gT ?_
                refine .ld ?_ sc3
                refine .gT ?_
                refine .lss ?_
                refine .pickF ?_
                refine .move ?_
                refine .cast (d := 71) (u := .bool false) rfl (congrArg Value.bool (by first | (simp; done) | (simp; omega) | omega)) ?_
                refine .gT ?_
                refine .fa ?_ fo33_3
                refine .gT ?_
                refine .ld ?_ sc3
                refine .gT ?_
                refine .gtr ?_
                refine .pickF ?_
                refine .z ?_
                refine .condT rfl (congrArg Value.bool (by first | (simp; done) | (simp; omega) | omega)) ?_
                refine .exit (.thenExit (.blockExit (?_)))
                refine .next (.region (.move ?_))
                refine .add ?_
                refine .assign (.nil ?_)
                refine .cast (d := 11) (u := .int .i64 ((i + 1 : Nat) : Int)) rfl (congrArg (Value.int .i64) (by omega)) ?_
                exact .back (i + 1, S, So, m3, mo, os, N, No, W) ⟨by show i + 1 ≤ m; omega, hS.more (Nat.le_succ i), hSo.more (Nat.le_succ i), by show N ≤ 4 * (i + 1); omega, by show No ≤ 4 * (i + 1); omega⟩ (by show m - (i + 1) < m - i; omega)
              · obtain ⟨J, rfl⟩ : ∃ J : Nat, I = J := ⟨I.toNat, by omega⟩
                have hJ : J ≤ 15 := by omega
                have hnl3 : nm.length ≤ 1000000 := by omega
                refine .skip (.next (.seq (.block (.sr (.move (.move ?_))))))
                refine .idx ?_ so22
                refine .ldAR (i := ((i : Nat) : Int).toNat * 4) (us := [.int .i64 kd, .int .i64 D, sv nm, .int .i64 (J : Int)]) ?_ agg33 hR (by rw [Int.toNat_natCast]; exact hus) (by rw [hm, Int.toNat_natCast]; omega)
                refine .alloc z33 fun b12 => ?_
                refine .stV ?_ agg33
                refine .z (.seq (.sr ?_))
                refine .fa ?_ fo33_2
                refine .ld ?_ sc9
                refine .lenT nm ?_ st9
                refine .gtr ?_
                refine .move ?_
                refine .cast (d := 66) (u := .bool false) rfl (congrArg Value.bool (by first | (simp; done) | (simp; omega) | omega)) ?_
                refine .gT ?_
                refine .fa ?_ fo33_3
                refine .gT ?_
                refine .ld ?_ sc3
                refine .gT ?_
                refine .lss ?_
                refine .pickF ?_
                refine .move ?_
                refine .cast (d := 71) (u := .bool false) rfl (congrArg Value.bool (by first | (simp; done) | (simp; omega) | omega)) ?_
                refine .gT ?_
                refine .fa ?_ fo33_3
                refine .gT ?_
                refine .ld ?_ sc3
                refine .gT ?_
                refine .gtr ?_
                refine .pickF ?_
                refine .z ?_
                refine .condF rfl (congrArg Value.bool (by first | (simp; done) | (simp; omega) | omega)) ?_
                refine .skip (.next (.sr (.assign (.x (.assign (.z (.seq (.sr ?_))))))))
                refine .fa ?_ fo33_0
                refine .ld ?_ sc3
                refine .z ?_
                refine .join (σ := Nat × SS × SS × Nat × Nat × List (Nat × Obj) × Nat × Nat × Nat) (fun y => [(11, .int .i64 ((i : Nat) : Int)), (12, .pointer (some ⟨b12, 0, none⟩)), (13, nI y.1), (14, nI y.1), (0, nI N0), (1, .slice (some ⟨ab, ao, none⟩) m c0), (5, .pointer (some ⟨c, 0, none⟩)), (6, .pointer (some ⟨a, 0, none⟩)), (7, .pointer (some ⟨s, 0, none⟩)), (9, .pointer (some ⟨y.2.2.2.1, 0, none⟩)), (10, .pointer (some ⟨y.2.2.2.2.1, 0, none⟩))]) (fun y => [pt b12 (.cells #[.int .i64 kd, .int .i64 D, sv nm, .int .i64 (J : Int)] 33 (0, 0)), IN s a c (pN N0) (DM y.2.2.1.1 y.2.2.1.2) (DM y.2.1.1 y.2.1.2) (y.2.2.2.2.2.2.2.2) true, RS y.2.2.2.1 (pN N0) (dT y.2.1) y.2.2.2.2.2.1 y.2.2.2.2.2.2.1, RS y.2.2.2.2.1 (pN N0) (dT y.2.2.1) y.2.2.2.2.2.1 y.2.2.2.2.2.2.2.1, frz y.2.2.2.2.2.1, R] ++ F) (fun y => PSt (pN N0) y.2.1 (i + 1) ∧ PSt (pN N0) y.2.2.1 (i + 1) ∧ y.2.2.2.2.2.2.1 ≤ 4 * (i + 1) ∧ y.2.2.2.2.2.2.2.1 ≤ 4 * (i + 1)) ?_ ?_
                · by_cases hk1 : kd = 1
                  · obtain ⟨e, S', hr⟩ := addR_ex (pN N0) S D nm J
                    refine .block (.sr ?_)
                    refine .eqi ?_
                    refine .assign (.z ?_)
                    refine .condT rfl (congrArg Value.bool (by first | (simp; done) | (simp; omega) | omega)) ?_
                    refine .sr (.move ?_)
                    refine .fa ?_ fo33_1
                    refine .ld ?_ sc3
                    refine .fa ?_ fo33_2
                    refine .ld ?_ sc9
                    refine .fa ?_ fo33_3
                    refine .ld ?_ sc3
                    refine .call (hc := Tryz.call8) (sp := iAdd (s := s) (a := a) (c := c) (W := W) (F0 := DM So.1 So.2) ho h304 h3 hS (by omega) hJ hr) (h := ?_)
                    rintro _ _ ⟨rfl, rfl⟩
                    refine .assign (.y (.move ?_))
                    refine .fa ?_ fo33_1
                    refine .ld ?_ sc3
                    refine .fa ?_ fo33_2
                    refine .ld ?_ sc9
                    refine .fa ?_ fo33_3
                    refine .ld ?_ sc3
                    refine .call (hc := Tryz.call9) (sp := rAdd (m := m3) (N := N) (os := os) hJ hi0 hi1 h3 hdc hS (by omega) (by omega) hnl3 hr) (h := ?_)
                    rintro _ _ ⟨rfl, os2, hsub, rfl⟩
                    refine .assign (.nil (.blockNormal ?_))
                    refine .to (A := RS mo (pN N0) (dT So) os No) (A' := RS mo (pN N0) (dT So) os2 No) (RS.grow hsub (Nat.le_refl _)) ?_
                    exact .joined (e, S', So, m3, mo, os2, N + 4, No, W + 8) ⟨hr.st hS (by omega) hJ, hSo.more (Nat.le_succ i), by show N + 4 ≤ 4 * (i + 1); omega, by show No ≤ 4 * (i + 1); omega⟩
                  · by_cases hk2 : kd = 2
                    · refine .block (.sr ?_)
                      refine .eqi ?_
                      refine .assign (.z ?_)
                      refine .condF rfl (congrArg Value.bool (by first | (simp; done) | (simp; omega) | omega)) ?_
                      refine .sr ?_
                      refine .eqi ?_
                      refine .assign (.z ?_)
                      refine .condT rfl (congrArg Value.bool (by first | (simp; done) | (simp; omega) | omega)) ?_
                      refine .sr (.move ?_)
                      refine .fa ?_ fo33_1
                      refine .ld ?_ sc3
                      refine .fa ?_ fo33_2
                      refine .ld ?_ sc9
                      refine .call (hc := Tryz.call10) (sp := iFind (s := s) (a := a) (c := c) (W := W) (F0 := DM So.1 So.2) (S := S) (D := D) (nm := nm) ho hS (by omega)) (h := ?_)
                      rintro _ _ ⟨rfl, rfl⟩
                      refine .move ?_
                      refine .extract ?_
                      refine .extract ?_
                      refine .assign (.assign (.x (.move ?_)))
                      refine .fa ?_ fo33_1
                      refine .ld ?_ sc3
                      refine .fa ?_ fo33_2
                      refine .ld ?_ sc9
                      refine .call (hc := Tryz.call11) (sp := rFind (m := m3) (N := N) (os := os) (S := S) (D := D) (nm := nm) hi0 hi1 h3 hS (by omega) hnl3) (h := ?_)
                      rintro _ _ ⟨rfl, rfl⟩
                      refine .move ?_
                      refine .extract ?_
                      refine .extract ?_
                      refine .assign (.assign (.z (.seq (.sr (.move (.move ?_))))))
                      refine .nei ?_
                      refine .z ?_
                      refine .condF rfl (congrArg Value.bool (by first | (simp; done) | (simp; omega) | omega)) ?_
                      refine .skip (.next (.sr (.move (.assign (.y (.move (.assign (.nil (.blockNormal ?_)))))))))
                      exact .joined ((findR S D nm).2, S, So, m3, mo, os, N, No, W) ⟨hS.more (Nat.le_succ i), hSo.more (Nat.le_succ i), by show N ≤ 4 * (i + 1); omega, by show No ≤ 4 * (i + 1); omega⟩
                    · by_cases hk3 : kd = 3
                      · obtain ⟨e, S', hr⟩ := chR_ex (pN N0) S D nm .none
                        refine .block (.sr ?_)
                        refine .eqi ?_
                        refine .assign (.z ?_)
                        refine .condF rfl (congrArg Value.bool (by first | (simp; done) | (simp; omega) | omega)) ?_
                        refine .sr ?_
                        refine .eqi ?_
                        refine .assign (.z ?_)
                        refine .condF rfl (congrArg Value.bool (by first | (simp; done) | (simp; omega) | omega)) ?_
                        refine .sr ?_
                        refine .eqi ?_
                        refine .assign (.z ?_)
                        refine .condT rfl (congrArg Value.bool (by first | (simp; done) | (simp; omega) | omega)) ?_
                        refine .sr (.move ?_)
                        refine .fa ?_ fo33_1
                        refine .ld ?_ sc3
                        refine .fa ?_ fo33_2
                        refine .ld ?_ sc9
                        refine .call (hc := Tryz.call12) (sp := iRemove (s := s) (a := a) (c := c) (W := W) (F0 := DM So.1 So.2) ho h304 h3 hS (by omega) hr) (h := ?_)
                        rintro _ _ ⟨rfl, rfl⟩
                        refine .assign (.y (.move ?_))
                        refine .fa ?_ fo33_1
                        refine .ld ?_ sc3
                        refine .fa ?_ fo33_2
                        refine .ld ?_ sc9
                        refine .call (hc := Tryz.call13) (sp := rRemove (m := m3) (N := N) (os := os) hi0 hi1 h3 hdc hS (by omega) (by omega) hnl3 hr) (h := ?_)
                        rintro _ _ ⟨rfl, os2, hsub, rfl⟩
                        refine .assign (.nil (.blockNormal ?_))
                        refine .to (A := RS mo (pN N0) (dT So) os No) (A' := RS mo (pN N0) (dT So) os2 No) (RS.grow hsub (Nat.le_refl _)) ?_
                        exact .joined (e, S', So, m3, mo, os2, N + 4, No, W + 8) ⟨hr.st hS (by omega) (.inl rfl), hSo.more (Nat.le_succ i), by show N + 4 ≤ 4 * (i + 1); omega, by show No ≤ 4 * (i + 1); omega⟩
                      · by_cases hk4 : kd = 4
                        · obtain ⟨e, S', hr⟩ := chR_ex (pN N0) S D nm (some (nm, J))
                          refine .block (.sr ?_)
                          refine .eqi ?_
                          refine .assign (.z ?_)
                          refine .condF rfl (congrArg Value.bool (by first | (simp; done) | (simp; omega) | omega)) ?_
                          refine .sr ?_
                          refine .eqi ?_
                          refine .assign (.z ?_)
                          refine .condF rfl (congrArg Value.bool (by first | (simp; done) | (simp; omega) | omega)) ?_
                          refine .sr ?_
                          refine .eqi ?_
                          refine .assign (.z ?_)
                          refine .condF rfl (congrArg Value.bool (by first | (simp; done) | (simp; omega) | omega)) ?_
                          refine .sr ?_
                          refine .eqi ?_
                          refine .assign (.z ?_)
                          refine .condT rfl (congrArg Value.bool (by first | (simp; done) | (simp; omega) | omega)) ?_
                          refine .sr (.move ?_)
                          refine .fa ?_ fo33_1
                          refine .ld ?_ sc3
                          refine .fa ?_ fo33_2
                          refine .ld ?_ sc9
                          refine .fa ?_ fo33_3
                          refine .ld ?_ sc3
                          refine .call (hc := Tryz.call14) (sp := iMove (s := s) (a := a) (c := c) (W := W) (F0 := DM So.1 So.2) hJ ho h304 h3 hS (by omega) hr) (h := ?_)
                          rintro _ _ ⟨rfl, rfl⟩
                          refine .assign (.y (.move ?_))
                          refine .fa ?_ fo33_1
                          refine .ld ?_ sc3
                          refine .fa ?_ fo33_2
                          refine .ld ?_ sc9
                          refine .fa ?_ fo33_3
                          refine .ld ?_ sc3
                          refine .call (hc := Tryz.call15) (sp := rMove (m := m3) (N := N) (os := os) hJ hi0 hi1 h3 hdc hS (by omega) (by omega) hnl3 hr) (h := ?_)
                          rintro _ _ ⟨rfl, os2, hsub, rfl⟩
                          refine .assign (.nil (.blockNormal ?_))
                          refine .to (A := RS mo (pN N0) (dT So) os No) (A' := RS mo (pN N0) (dT So) os2 No) (RS.grow hsub (Nat.le_refl _)) ?_
                          exact .joined (e, S', So, m3, mo, os2, N + 4, No, W + 8) ⟨hr.st hS (by omega) (.inr ⟨J, rfl, hJ⟩), hSo.more (Nat.le_succ i), by show N + 4 ≤ 4 * (i + 1); omega, by show No ≤ 4 * (i + 1); omega⟩
                        · by_cases hk6 : kd = 6
                          · refine .block (.sr ?_)
                            refine .eqi ?_
                            refine .assign (.z ?_)
                            refine .condF rfl (congrArg Value.bool (by first | (simp; done) | (simp; omega) | omega)) ?_
                            refine .sr ?_
                            refine .eqi ?_
                            refine .assign (.z ?_)
                            refine .condF rfl (congrArg Value.bool (by first | (simp; done) | (simp; omega) | omega)) ?_
                            refine .sr ?_
                            refine .eqi ?_
                            refine .assign (.z ?_)
                            refine .condF rfl (congrArg Value.bool (by first | (simp; done) | (simp; omega) | omega)) ?_
                            refine .sr ?_
                            refine .eqi ?_
                            refine .assign (.z ?_)
                            refine .condF rfl (congrArg Value.bool (by first | (simp; done) | (simp; omega) | omega)) ?_
                            refine .sr ?_
                            refine .eqi ?_
                            refine .assign (.z ?_)
                            refine .condT rfl (congrArg Value.bool (by first | (simp; done) | (simp; omega) | omega)) ?_
                            refine .seq (.sr (.move ?_))
                            refine .call (hc := Tryz.call16) (sp := nCommit (s := s) (a := a) (p := pN N0) (F0 := DM So.1 So.2) (F := DM S.1 S.2)) (h := ?_)
                            rintro _ _ ⟨rfl, rfl⟩
                            refine .nei ?_
                            refine .move ?_
                            refine .cast (d := 158) (u := .bool false) rfl (congrArg Value.bool (by first | (simp; done) | (simp; omega) | omega)) ?_
                            refine .gT ?_
                            refine .move ?_
                            refine .gT ?_
                            refine .call (hc := Tryz.call17) (sp := nBegin (s := s) (a := a) (p := pN N0) (F0 := DM S.1 S.2) (F := DM S.1 S.2)) (h := ?_)
                            rintro _ _ ⟨rfl, rfl⟩
                            refine .gT ?_
                            refine .nei ?_
                            refine .pickF ?_
                            refine .z ?_
                            refine .condF rfl (congrArg Value.bool (by first | (simp; done) | (simp; omega) | omega)) ?_
                            refine .skip (.next (.region (.move ?_)))
                            refine .call (hc := Tryz.call7) (sp := rsCopy (s := m3) (p := pN N0) (T := dT S) (os := os) (N := N) hi0 hi1 (by omega)) (h := ?_)
                            rintro _ _ ⟨m4, rfl, rfl⟩
                            refine .assign (.nil (.blockNormal ?_))
                            exact .joined (0, S, S, m3, m4, os, N, N, 0) ⟨hS.more (Nat.le_succ i), hS.more (Nat.le_succ i), by show N ≤ 4 * (i + 1); omega, by show N ≤ 4 * (i + 1); omega⟩
                          · by_cases hk7 : kd = 7
                            · refine .block (.sr ?_)
                              refine .eqi ?_
                              refine .assign (.z ?_)
                              refine .condF rfl (congrArg Value.bool (by first | (simp; done) | (simp; omega) | omega)) ?_
                              refine .sr ?_
                              refine .eqi ?_
                              refine .assign (.z ?_)
                              refine .condF rfl (congrArg Value.bool (by first | (simp; done) | (simp; omega) | omega)) ?_
                              refine .sr ?_
                              refine .eqi ?_
                              refine .assign (.z ?_)
                              refine .condF rfl (congrArg Value.bool (by first | (simp; done) | (simp; omega) | omega)) ?_
                              refine .sr ?_
                              refine .eqi ?_
                              refine .assign (.z ?_)
                              refine .condF rfl (congrArg Value.bool (by first | (simp; done) | (simp; omega) | omega)) ?_
                              refine .sr ?_
                              refine .eqi ?_
                              refine .assign (.z ?_)
                              refine .condF rfl (congrArg Value.bool (by first | (simp; done) | (simp; omega) | omega)) ?_
                              refine .sr ?_
                              refine .eqi ?_
                              refine .assign (.z ?_)
                              refine .condT rfl (congrArg Value.bool (by first | (simp; done) | (simp; omega) | omega)) ?_
                              refine .seq (.sr (.move ?_))
                              refine .call (hc := Tryz.call18) (sp := nAbort (s := s) (a := a) (p := pN N0) (F0 := DM So.1 So.2) (F := DM S.1 S.2)) (h := ?_)
                              rintro _ _ ⟨rfl, rfl⟩
                              refine .nei ?_
                              refine .move ?_
                              refine .cast (d := 170) (u := .bool false) rfl (congrArg Value.bool (by first | (simp; done) | (simp; omega) | omega)) ?_
                              refine .gT ?_
                              refine .move ?_
                              refine .gT ?_
                              refine .call (hc := Tryz.call17) (sp := nBegin (s := s) (a := a) (p := pN N0) (F0 := DM So.1 So.2) (F := DM So.1 So.2)) (h := ?_)
                              rintro _ _ ⟨rfl, rfl⟩
                              refine .gT ?_
                              refine .nei ?_
                              refine .pickF ?_
                              refine .z ?_
                              refine .condF rfl (congrArg Value.bool (by first | (simp; done) | (simp; omega) | omega)) ?_
                              refine .skip (.next (.region (.move ?_)))
                              refine .call (hc := Tryz.call7) (sp := rsCopy (s := mo) (p := pN N0) (T := dT So) (os := os) (N := No) hi0 hi1 (by omega)) (h := ?_)
                              rintro _ _ ⟨m4, rfl, rfl⟩
                              refine .assign (.nil (.blockNormal ?_))
                              exact .joined (0, So, So, m4, mo, os, No, No, 0) ⟨hSo.more (Nat.le_succ i), hSo.more (Nat.le_succ i), by show No ≤ 4 * (i + 1); omega, by show No ≤ 4 * (i + 1); omega⟩
                            · refine .block (.sr ?_)
                              refine .eqi ?_
                              refine .assign (.z ?_)
                              refine .condF rfl (congrArg Value.bool (by first | (simp; done) | (simp; omega) | omega)) ?_
                              refine .sr ?_
                              refine .eqi ?_
                              refine .assign (.z ?_)
                              refine .condF rfl (congrArg Value.bool (by first | (simp; done) | (simp; omega) | omega)) ?_
                              refine .sr ?_
                              refine .eqi ?_
                              refine .assign (.z ?_)
                              refine .condF rfl (congrArg Value.bool (by first | (simp; done) | (simp; omega) | omega)) ?_
                              refine .sr ?_
                              refine .eqi ?_
                              refine .assign (.z ?_)
                              refine .condF rfl (congrArg Value.bool (by first | (simp; done) | (simp; omega) | omega)) ?_
                              refine .sr ?_
                              refine .eqi ?_
                              refine .assign (.z ?_)
                              refine .condF rfl (congrArg Value.bool (by first | (simp; done) | (simp; omega) | omega)) ?_
                              refine .sr ?_
                              refine .eqi ?_
                              refine .assign (.z ?_)
                              refine .condF rfl (congrArg Value.bool (by first | (simp; done) | (simp; omega) | omega)) ?_
                              refine .skip (.blockNormal ?_)
                              exact .joined (0, S, So, m3, mo, os, N, No, W) ⟨hS.more (Nat.le_succ i), hSo.more (Nat.le_succ i), by show N ≤ 4 * (i + 1); omega, by show No ≤ 4 * (i + 1); omega⟩
                · rintro ⟨e, S, So, m3, mo, os, N, No, W⟩ ⟨hS, hSo, hN, hNo⟩
                  simp only at hS hSo hN hNo ⊢
                  have hT := hS.rt (by omega) h3
                  have htot := hS.tot h3
                  by_cases hE : dirE [97] D = 0
                  · obtain ⟨hn97, hD01⟩ := dirE_0 hE
                    obtain ⟨d, hd⟩ := dirAt (S := S) hD01
                    have hs := hS.at hD01
                    have hsl := hs.len
                    have hd1 := hd.eq
                    subst hd1
                    refine .next (.sr (.move ?_))
                    refine .fa ?_ fo33_1
                    refine .ld ?_ sc3
                    refine .call (hc := Tryz.call19) (sp := dList (s := s) (a := a) (c := c) (p := pN N0) (F0 := DM So.1 So.2) (Fm := DM S.1 S.2) (W := W) (d := d) (op := true) (sl := sD S d) ho hd.m hs.ok (by omega)) (h := ?_)
                    rintro _ _ ⟨u, l, rfl, ⟨hlp, hls⟩, rfl⟩
                    refine .fact (rowR_shape (el := 114) (size := 2) (v := u) (k := l.length) (xs := l.flatMap entL)) (fun ⟨A3, c3, hu3, hR3, hc5, hc6, hlen3⟩ => ?_)
                    subst hu3
                    refine .move ?_
                    refine .extract ?_
                    refine .extract ?_
                    refine .assign (.assign (.x (.move ?_)))
                    refine .fa ?_ fo33_1
                    refine .ld ?_ sc3
                    refine .call (hc := Tryz.call20) (sp := rsList (s := m3) (p := pN N0) (T := dT S) (os := os) (N := N) hi0 hi1 (d := d) (sl := sD S d) hT hd.t) (h := ?_)
                    rintro _ _ ⟨u2, l2, rfl, ⟨hlp2, hls2⟩, rfl⟩
                    obtain rfl := sorted_uniq (hlp2.trans hlp.symm) hls2 hls ((hlp2.map (·.1)).nodup_iff.2 (ents_nodupE hs.ok))
                    refine .fact (rowR_shape (el := 119) (size := 2) (v := u2) (k := l2.length) (xs := l2.flatMap entL)) (fun ⟨A4, c4, hu4, hR4, hc7, hc8, hlen4⟩ => ?_)
                    subst hu4
                    have hll := hlp2.length_eq
                    have hle := entsS_length (sl := sD S d)
                    refine .move ?_
                    refine .extract ?_
                    refine .extract ?_
                    refine .assign (.assign (.x (.move ?_)))
                    refine .call (hc := Tryz.call21) (sp := nFree (s := s) (a := a) (c := c) (p := pN N0) (F0 := DM So.1 So.2) (F := DM S.1 S.2) (W := W) (op := true) ho) (h := ?_)
                    rintro _ _ ⟨rfl, rfl⟩
                    refine .move ?_
                    refine .extract ?_
                    refine .extract ?_
                    refine .assign (.assign (.x (.move ?_)))
                    refine .call (hc := Tryz.call22) (sp := rsFree (s := m3) (p := pN N0) (T := dT S) (os := os) (N := N) hi0 hi1 hdc hT htot) (h := ?_)
                    rintro _ _ ⟨rfl, rfl⟩
                    rw [fmT_dT]
                    refine .move ?_
                    refine .extract ?_
                    refine .extract ?_
                    refine .assign (.assign (.x (.move (.move ?_))))
                    refine .nei ?_
                    refine .move ?_
                    refine .cast (d := 204) (u := .bool false) rfl (congrArg Value.bool (by first | (simp; done) | (simp; omega) | omega)) ?_
                    refine .gT ?_
                    refine .move ?_
                    refine .gT ?_
                    refine .move ?_
                    refine .gT ?_
                    refine .call (hc := Tryz.call23) (sp := l9Same (R := rowR 114 2 (.slice A3 l2.length c3) l2.length (l2.flatMap entL)) (R' := rowR 119 2 (.slice A4 l2.length c4) l2.length (l2.flatMap entL)) (l := l2) (.inr hR3) (.inr hR4) rfl (by omega)) (h := ?_)
                    rintro _ _ ⟨rfl, rfl⟩
                    refine .gT ?_
                    refine .not ?_
                    refine .pickF ?_
                    refine .move ?_
                    refine .cast (d := 210) (u := .bool false) rfl (congrArg Value.bool (by first | (simp; done) | (simp; omega) | omega)) ?_
                    refine .gT ?_
                    refine .move ?_
                    refine .gT ?_
                    refine .move ?_
                    refine .gT ?_
                    refine .nei ?_
                    refine .pickF ?_
                    refine .move ?_
                    refine .cast (d := 215) (u := .bool false) rfl (congrArg Value.bool (by first | (simp; done) | (simp; omega) | omega)) ?_
                    refine .gT ?_
                    refine .move ?_
                    refine .gT ?_
                    refine .move ?_
                    refine .gT ?_
                    refine .nei ?_
                    refine .pickF ?_
                    refine .z ?_
                    refine .condF rfl (congrArg Value.bool (by first | (simp; done) | (simp; omega) | omega)) ?_
                    refine .skip (.blockNormal (.next (.region (.move ?_))))
                    refine .add ?_
                    refine .assign (.nil ?_)
                    refine .cast (d := 11) (u := .int .i64 ((i + 1 : Nat) : Int)) rfl (congrArg (Value.int .i64) (by omega)) ?_
                    exact .back (i + 1, S, So, m3, mo, os, N, No, W) ⟨by show i + 1 ≤ m; omega, hS, hSo, hN, hNo⟩ (by show m - (i + 1) < m - i; omega)
                  · by_cases hneg : D < 0
                    · have hE4 : dirE [97] D = 4 := by unfold dirE; rw [if_pos nm97, if_neg (by omega), if_neg (by omega)]
                      refine .next (.sr (.move ?_))
                      refine .fa ?_ fo33_1
                      refine .ld ?_ sc3
                      refine .call (hc := Tryz.call19) (sp := dListE (s := s) (a := a) (c := c) (p := pN N0) (F0 := DM So.1 So.2) (Fm := DM S.1 S.2) (W := W) (op := true) (d := D) (e := dirE [97] D) ho (findErr_dirE hE) (by omega)) (h := ?_)
                      rintro _ _ ⟨rfl, rfl⟩
                      refine .move ?_
                      refine .extract ?_
                      refine .extract ?_
                      refine .assign (.assign (.x (.move ?_)))
                      refine .fa ?_ fo33_1
                      refine .ld ?_ sc3
                      refine .call (hc := Tryz.call20) (sp := rsListNeg (x := .pointer (some ⟨m3, 0, none⟩)) hneg) (h := ?_)
                      rintro _ _ ⟨rfl, hM⟩
                      obtain rfl := hM.symm
                      rw [hE4]
                      refine .move ?_
                      refine .extract ?_
                      refine .extract ?_
                      refine .assign (.assign (.x (.move ?_)))
                      refine .call (hc := Tryz.call21) (sp := nFree (s := s) (a := a) (c := c) (p := pN N0) (F0 := DM So.1 So.2) (F := DM S.1 S.2) (W := W) (op := true) ho) (h := ?_)
                      rintro _ _ ⟨rfl, rfl⟩
                      refine .move ?_
                      refine .extract ?_
                      refine .extract ?_
                      refine .assign (.assign (.x (.move ?_)))
                      refine .call (hc := Tryz.call22) (sp := rsFree (s := m3) (p := pN N0) (T := dT S) (os := os) (N := N) hi0 hi1 hdc hT htot) (h := ?_)
                      rintro _ _ ⟨rfl, rfl⟩
                      rw [fmT_dT]
                      refine .move ?_
                      refine .extract ?_
                      refine .extract ?_
                      refine .assign (.assign (.x (.move (.move ?_))))
                      refine .nei ?_
                      refine .move ?_
                      refine .cast (d := 204) (u := .bool false) rfl (congrArg Value.bool (by first | (simp; done) | (simp; omega) | omega)) ?_
                      refine .gT ?_
                      refine .move ?_
                      refine .gT ?_
                      refine .move ?_
                      refine .gT ?_
                      refine .call (hc := Tryz.call23) (sp := l9SameNil) (h := ?_)
                      rintro _ _ ⟨rfl, hM⟩
                      obtain rfl := hM.symm
                      refine .gT ?_
                      refine .not ?_
                      refine .pickF ?_
                      refine .move ?_
                      refine .cast (d := 210) (u := .bool false) rfl (congrArg Value.bool (by first | (simp; done) | (simp; omega) | omega)) ?_
                      refine .gT ?_
                      refine .move ?_
                      refine .gT ?_
                      refine .move ?_
                      refine .gT ?_
                      refine .nei ?_
                      refine .pickF ?_
                      refine .move ?_
                      refine .cast (d := 215) (u := .bool false) rfl (congrArg Value.bool (by first | (simp; done) | (simp; omega) | omega)) ?_
                      refine .gT ?_
                      refine .move ?_
                      refine .gT ?_
                      refine .move ?_
                      refine .gT ?_
                      refine .nei ?_
                      refine .pickF ?_
                      refine .z ?_
                      refine .condF rfl (congrArg Value.bool (by first | (simp; done) | (simp; omega) | omega)) ?_
                      refine .skip (.blockNormal (.next (.region (.move ?_))))
                      refine .add ?_
                      refine .assign (.nil ?_)
                      refine .cast (d := 11) (u := .int .i64 ((i + 1 : Nat) : Int)) rfl (congrArg (Value.int .i64) (by omega)) ?_
                      exact .back (i + 1, S, So, m3, mo, os, N, No, W) ⟨by show i + 1 ≤ m; omega, hS, hSo, hN, hNo⟩ (by show m - (i + 1) < m - i; omega)
                    · obtain ⟨d, rfl⟩ : ∃ d : Nat, D = d := ⟨D.toNat, by omega⟩
                      by_cases hd2 : d = 2
                      · subst hd2
                        have hE6 : dirE [97] ((2 : Nat) : Int) = 6 := rfl
                        refine .next (.sr (.move ?_))
                        refine .fa ?_ fo33_1
                        refine .ld ?_ sc3
                        refine .call (hc := Tryz.call19) (sp := dListE (s := s) (a := a) (c := c) (p := pN N0) (F0 := DM So.1 So.2) (Fm := DM S.1 S.2) (W := W) (op := true) (d := ((2 : Nat) : Int)) (e := dirE [97] ((2 : Nat) : Int)) ho (findErr_dirE hE) (by omega)) (h := ?_)
                        rintro _ _ ⟨rfl, rfl⟩
                        refine .move ?_
                        refine .extract ?_
                        refine .extract ?_
                        refine .assign (.assign (.x (.move ?_)))
                        refine .fa ?_ fo33_1
                        refine .ld ?_ sc3
                        refine .call (hc := Tryz.call20) (sp := rsListKind (s := m3) (p := pN N0) (T := dT S) (os := os) (N := N) hi0 hi1 (d := 2) (b := []) hT rfl) (h := ?_)
                        rintro _ _ ⟨rfl, rfl⟩
                        rw [hE6]
                        refine .move ?_
                        refine .extract ?_
                        refine .extract ?_
                        refine .assign (.assign (.x (.move ?_)))
                        refine .call (hc := Tryz.call21) (sp := nFree (s := s) (a := a) (c := c) (p := pN N0) (F0 := DM So.1 So.2) (F := DM S.1 S.2) (W := W) (op := true) ho) (h := ?_)
                        rintro _ _ ⟨rfl, rfl⟩
                        refine .move ?_
                        refine .extract ?_
                        refine .extract ?_
                        refine .assign (.assign (.x (.move ?_)))
                        refine .call (hc := Tryz.call22) (sp := rsFree (s := m3) (p := pN N0) (T := dT S) (os := os) (N := N) hi0 hi1 hdc hT htot) (h := ?_)
                        rintro _ _ ⟨rfl, rfl⟩
                        rw [fmT_dT]
                        refine .move ?_
                        refine .extract ?_
                        refine .extract ?_
                        refine .assign (.assign (.x (.move (.move ?_))))
                        refine .nei ?_
                        refine .move ?_
                        refine .cast (d := 204) (u := .bool false) rfl (congrArg Value.bool (by first | (simp; done) | (simp; omega) | omega)) ?_
                        refine .gT ?_
                        refine .move ?_
                        refine .gT ?_
                        refine .move ?_
                        refine .gT ?_
                        refine .call (hc := Tryz.call23) (sp := l9SameNil) (h := ?_)
                        rintro _ _ ⟨rfl, hM⟩
                        obtain rfl := hM.symm
                        refine .gT ?_
                        refine .not ?_
                        refine .pickF ?_
                        refine .move ?_
                        refine .cast (d := 210) (u := .bool false) rfl (congrArg Value.bool (by first | (simp; done) | (simp; omega) | omega)) ?_
                        refine .gT ?_
                        refine .move ?_
                        refine .gT ?_
                        refine .move ?_
                        refine .gT ?_
                        refine .nei ?_
                        refine .pickF ?_
                        refine .move ?_
                        refine .cast (d := 215) (u := .bool false) rfl (congrArg Value.bool (by first | (simp; done) | (simp; omega) | omega)) ?_
                        refine .gT ?_
                        refine .move ?_
                        refine .gT ?_
                        refine .move ?_
                        refine .gT ?_
                        refine .nei ?_
                        refine .pickF ?_
                        refine .z ?_
                        refine .condF rfl (congrArg Value.bool (by first | (simp; done) | (simp; omega) | omega)) ?_
                        refine .skip (.blockNormal (.next (.region (.move ?_))))
                        refine .add ?_
                        refine .assign (.nil ?_)
                        refine .cast (d := 11) (u := .int .i64 ((i + 1 : Nat) : Int)) rfl (congrArg (Value.int .i64) (by omega)) ?_
                        exact .back (i + 1, S, So, m3, mo, os, N, No, W) ⟨by show i + 1 ≤ m; omega, hS, hSo, hN, hNo⟩ (by show m - (i + 1) < m - i; omega)
                      · have hd3 : 3 ≤ d := by
                          by_cases h : 3 ≤ d
                          · exact h
                          · exfalso
                            obtain rfl | rfl : d = 0 ∨ d = 1 := by omega
                            · exact hE rfl
                            · exact hE rfl
                        have hE4 : dirE [97] (d : Int) = 4 := by unfold dirE; rw [if_pos nm97, if_neg (by omega), if_neg (by omega)]
                        refine .next (.sr (.move ?_))
                        refine .fa ?_ fo33_1
                        refine .ld ?_ sc3
                        refine .call (hc := Tryz.call19) (sp := dListE (s := s) (a := a) (c := c) (p := pN N0) (F0 := DM So.1 So.2) (Fm := DM S.1 S.2) (W := W) (op := true) (d := (d : Int)) (e := dirE [97] (d : Int)) ho (findErr_dirE hE) (by omega)) (h := ?_)
                        rintro _ _ ⟨rfl, rfl⟩
                        refine .move ?_
                        refine .extract ?_
                        refine .extract ?_
                        refine .assign (.assign (.x (.move ?_)))
                        refine .fa ?_ fo33_1
                        refine .ld ?_ sc3
                        refine .call (hc := Tryz.call20) (sp := rsListNo (s := m3) (p := pN N0) (T := dT S) (os := os) (N := N) hi0 hi1 (d := d) hT (dT_out hd3)) (h := ?_)
                        rintro _ _ ⟨rfl, rfl⟩
                        rw [hE4]
                        refine .move ?_
                        refine .extract ?_
                        refine .extract ?_
                        refine .assign (.assign (.x (.move ?_)))
                        refine .call (hc := Tryz.call21) (sp := nFree (s := s) (a := a) (c := c) (p := pN N0) (F0 := DM So.1 So.2) (F := DM S.1 S.2) (W := W) (op := true) ho) (h := ?_)
                        rintro _ _ ⟨rfl, rfl⟩
                        refine .move ?_
                        refine .extract ?_
                        refine .extract ?_
                        refine .assign (.assign (.x (.move ?_)))
                        refine .call (hc := Tryz.call22) (sp := rsFree (s := m3) (p := pN N0) (T := dT S) (os := os) (N := N) hi0 hi1 hdc hT htot) (h := ?_)
                        rintro _ _ ⟨rfl, rfl⟩
                        rw [fmT_dT]
                        refine .move ?_
                        refine .extract ?_
                        refine .extract ?_
                        refine .assign (.assign (.x (.move (.move ?_))))
                        refine .nei ?_
                        refine .move ?_
                        refine .cast (d := 204) (u := .bool false) rfl (congrArg Value.bool (by first | (simp; done) | (simp; omega) | omega)) ?_
                        refine .gT ?_
                        refine .move ?_
                        refine .gT ?_
                        refine .move ?_
                        refine .gT ?_
                        refine .call (hc := Tryz.call23) (sp := l9SameNil) (h := ?_)
                        rintro _ _ ⟨rfl, hM⟩
                        obtain rfl := hM.symm
                        refine .gT ?_
                        refine .not ?_
                        refine .pickF ?_
                        refine .move ?_
                        refine .cast (d := 210) (u := .bool false) rfl (congrArg Value.bool (by first | (simp; done) | (simp; omega) | omega)) ?_
                        refine .gT ?_
                        refine .move ?_
                        refine .gT ?_
                        refine .move ?_
                        refine .gT ?_
                        refine .nei ?_
                        refine .pickF ?_
                        refine .move ?_
                        refine .cast (d := 215) (u := .bool false) rfl (congrArg Value.bool (by first | (simp; done) | (simp; omega) | omega)) ?_
                        refine .gT ?_
                        refine .move ?_
                        refine .gT ?_
                        refine .move ?_
                        refine .gT ?_
                        refine .nei ?_
                        refine .pickF ?_
                        refine .z ?_
                        refine .condF rfl (congrArg Value.bool (by first | (simp; done) | (simp; omega) | omega)) ?_
                        refine .skip (.blockNormal (.next (.region (.move ?_))))
                        refine .add ?_
                        refine .assign (.nil ?_)
                        refine .cast (d := 11) (u := .int .i64 ((i + 1 : Nat) : Int)) rfl (congrArg (Value.int .i64) (by omega)) ?_
                        exact .back (i + 1, S, So, m3, mo, os, N, No, W) ⟨by show i + 1 ≤ m; omega, hS, hSo, hN, hNo⟩ (by show m - (i + 1) < m - i; omega)
        · refine .exit (.thenExit (.thenExit (.blockExit (?_))))
          refine .next (.sr ?_)
          refine .call (hc := Tryz.call4) (sp := l9Awake) (h := ?_)
          rintro _ _ ⟨rfl, hM⟩
          obtain rfl := hM.symm
          refine .assign (.z ?_)
          refine .ret (?_)
          exact .ret1 (h1 := .tmp (t := 4) rfl) ⟨_, ⟨rfl, rfl⟩, Am.auto⟩
end Go.Proofs.YtdmjkjeoamiedaaGreat
end
