/- A part of the proof of lawFShare: texts of this work put together. -/
import Derived.Test.YtmmlbepfonndaaaGreatDoorQf4
import Derived.KernelRfl
set_option linter.unusedVariables false
set_option linter.unusedSimpArgs false
set_option linter.unusedSectionVars false
section
namespace Go.Proofs.YtmmlbepfonndaaaGreatDoor
open Go
theorem wrB_last (old bs : Bytes) : wrB old old.length bs = old ++ bs := by
  unfold wrB splice
  have h1 : ext old (old.length + bs.length) = old ++ List.replicate bs.length 0 := by
    unfold ext
    rw [Nat.add_sub_cancel_left]
  rw [h1, List.take_append_of_le_length (Nat.le_refl _), List.take_length, List.drop_eq_nil_of_le (by simp), List.append_nil]
abbrev kv2 (a b : Nat) : List (Int × Value) := [((0 : Int), opV [47, 97] a), ((1 : Int), opV [47, 97] b)]
theorem kv2_put0 (a b k : Nat) : kput (kv2 a b) (0 : Int) (opV [47, 97] k) = kv2 k b := rfl
theorem kv2_put1 (a b k : Nat) : kput (kv2 a b) (1 : Int) (opV [47, 97] k) = kv2 a k := rfl
abbrev kv1 (a : Nat) : List (Int × Value) := [((0 : Int), opV [47, 97] a)]
theorem openShare {t f : Nat} {b : Bytes} : Spec Tryz.prog 30 #[.pointer (some ⟨t, 0, none⟩), sv [47, 97], .bool false] [TB t f (kv1 0), AFs f b] fun F v M => v = .tuple #[.int .i64 1, .int .i64 0] ∧ M = TB t f (kv2 0 0) :: AFs f b :: F :=
  tbOpenA (fd := 1) (kv := kv1 0) (mk := false) (by decide) rfl (fun j hj => by
    obtain rfl : j = 0 := by omega
    exact ⟨_, rfl, _, _, rfl⟩) (by decide)
theorem rd_all {W : Bytes} {n : Nat} (h : W.length ≤ n) : (W.drop 0).take n = W := by rw [List.drop_zero, List.take_of_length_le h]
theorem lawFShare {R : HP} {A : Option Addr} {m c0 : Nat} {xs : List Int} (hR0 : xs = [] ∨ Reads R A (ints xs)) (hm : xs.length = m) (hxs : ∀ x ∈ xs, -9223372036854775808 ≤ x ∧ x ≤ 9223372036854775807) (hbig : m ≤ 9223372036854775807) : Spec Tryz.prog 11 #[.slice A m c0] [R] fun F v M => v = .bool true ∧ M = R :: F := by
  refine Spec.intro Tryz.func11 rfl rfl fun B F => ?_
  simp only [Tryz.ntmps11, List.cons_append, List.nil_append, env0, Nat.reduceAdd]
  refine .sr (.assign (.z (.seq (.sr (.move ?_)))))
  refine .lenS ?_ sl22
  refine .gtr ?_
  refine .z ?_
  refine .cond rfl (fun hb => ?_) (fun hb => ?_)
  · refine .sr ?_
    refine .call (hc := Tryz.call28) (sp := l11Awake) (h := ?_)
    rintro _ _ ⟨rfl, rfl⟩
    refine .assign (.z ?_)
    refine .ret (.thenRet (?_))
    exact .ret1 (h1 := .tmp (t := 2) rfl) ⟨_, ⟨rfl, rfl⟩, Am.auto⟩
  · have hm30 : m ≤ 30 := by have := of_decide_eq_false hb; omega
    refine .skip (.next (.sr ?_))
    refine .call (hc := Tryz.call29) (sp := l11Fresh) (h := ?_)
    rintro _ _ ⟨f, t, m0, u0, rfl, rfl⟩
    refine .move ?_
    refine .extract ?_
    refine .extract ?_
    refine .extract ?_
    refine .extract ?_
    refine .extract ?_
    refine .assign (.assign (.assign (.assign (.assign (.z (.seq (.sr (.move ?_))))))))
    refine .not ?_
    refine .z ?_
    refine .condF rfl rfl ?_
    refine .skip (.next (.sr (.move ?_)))
    refine .call (hc := Tryz.call30) (sp := tbOpenMk (t := t) (f := f)) (h := ?_)
    rintro _ _ ⟨rfl, rfl⟩
    refine .move ?_
    refine .extract ?_
    refine .extract ?_
    refine .assign (.assign (.x (.move ?_)))
    refine .call (hc := Tryz.call30) (sp := openShare (t := t) (f := f) (b := [])) (h := ?_)
    rintro _ _ ⟨rfl, rfl⟩
    refine .move ?_
    refine .extract ?_
    refine .extract ?_
    refine .assign (.assign (.z (.seq (.sr (.move ?_)))))
    refine .nei ?_
    refine .move ?_
    refine .cast (d := 47) (u := .bool false) rfl (congrArg Value.bool (by first | (simp; done) | (simp; omega) | omega)) ?_
    refine .gT ?_
    refine .move ?_
    refine .gT ?_
    refine .nei ?_
    refine .pickF ?_
    refine .move ?_
    refine .cast (d := 51) (u := .bool false) rfl (congrArg Value.bool (by first | (simp; done) | (simp; omega) | omega)) ?_
    refine .gT ?_
    refine .move ?_
    refine .gT ?_
    refine .move ?_
    refine .gT ?_
    refine .eqi ?_
    refine .pickF ?_
    refine .z ?_
    refine .condF rfl (congrArg Value.bool (by first | (simp; done) | (simp; omega) | omega)) ?_
    refine .skip (.next (.sr (.assign ?_)))
    refine .emp (rowR.nil (e := 5) (size := 1) _) ?_
    refine .z (.seq (.sr (.assign (.z (.block ?_)))))
    refine .loopA (σ := Nat × Bytes × Nat × Option Addr × Nat) (fun y => [(0, .slice A m c0), (4, .pointer (some ⟨t, 0, none⟩)), (8, .int .i64 0), (10, .int .i64 1), (12, .slice y.2.2.2.1 y.2.1.length y.2.2.2.2), (13, .int .i64 ((y.1 : Nat) : Int))]) (fun y => [rowR 5 1 (.slice y.2.2.2.1 y.2.1.length y.2.2.2.2) y.2.1.length (bvs y.2.1), TB t f (kv2 y.2.1.length y.2.2.1), AFs f y.2.1, R] ++ F) (fun y => y.1 ≤ m ∧ y.2.1.length ≤ 300 * y.1 ∧ y.2.2.1 ≤ 100 * y.1 ∧ True) (fun y => m - y.1) (0, [], 0, none, 0) ⟨Nat.zero_le _, Nat.le_refl _, Nat.le_refl _, trivial⟩ ?_
    rintro y hy
    obtain ⟨k, W, pb, U, cu⟩ := y
    obtain ⟨hkm, hW, hpb, hub⟩ := hy
    simp only at hkm hW hpb hub ⊢
    refine .seq (.sr (.move (.move ?_)))
    refine .lenS ?_ sl22
    refine .lss ?_
    refine .z ?_
    refine .cond rfl (fun hb2 => ?_) (fun hb2 => ?_)
    · have hlt : k < m := by have h : (k : Int) < (m : Int) := of_decide_eq_true hb2; omega
      have hil : ((k : Nat) : Int).toNat < xs.length := by omega
      have hR := hR0.resolve_left (by intro h; subst h; simp at hil)
      rcases A with _ | ⟨ab, ao, asp⟩
      · exact absurd hR (fun h => by have h2 : ints xs = [] := h; simp [ints] at h2; subst h2; simp at hil)
      have hsp : asp = none := hR.1
      subst hsp
      have hxr := hxs _ (List.getElem_mem hil)
      obtain ⟨x, hx⟩ : ∃ x, xs[((k : Nat) : Int).toNat] = x := ⟨_, rfl⟩
      rw [hx] at hxr
      have hp := Int.emod_nonneg x (show ((300 : Nat) : Int) ≠ 0 by decide)
      have hl := Int.emod_lt_of_pos x (show (0 : Int) < ((300 : Nat) : Int) by decide)
      obtain ⟨r, hrr⟩ : ∃ r : Nat, x % ((300 : Nat) : Int) = (r : Int) := ⟨(x % ((300 : Nat) : Int)).toNat, by omega⟩
      have hr : r < 300 := by omega
      have hgx : (ints xs)[((k : Nat) : Int).toNat]? = some (.int .i64 x) := by unfold ints; rw [List.getElem?_map, List.getElem?_eq_getElem hil, hx]; rfl
      by_cases hodd : k % 2 = 1
      · skip
        refine .skip (.next (.seq (.block (.sr (.move (.move ?_))))))
        refine .idx1 ?_ so22
        refine .ldR ?_ sc3 hR hgx
        refine .call (hc := Tryz.call17) (sp := alRound (k := x) (n := 300) (by decide) (by decide) hxr) (h := ?_)
        rintro _ _ ⟨rfl, rfl⟩
        rw [hrr]
        refine .move ?_
        refine .call (hc := Tryz.call24) (sp := alikeSome (n := r) (c := k) (by omega) (by omega)) (h := ?_)
        rintro _ _ ⟨bs, rfl, rfl⟩
        have hsl := someB_length r k
        obtain ⟨C, hC⟩ : ∃ C, someB r k = C := ⟨_, rfl⟩
        rw [hC] at hsl ⊢
        have hWC : (W ++ C).length = W.length + r := by rw [List.length_append, hsl]
        refine .assign (.z (.seq (.sr (.move (.move (.move ?_))))))
        refine .call (hc := Tryz.call33) (sp := tWriteF (t := t) (f := f) (kv := kv2 W.length pb) (fd := 0) (path := [47, 97]) (at' := W.length) (m := r) (cc := r) (R := buf bs 5 r (bvs C)) (A := some ⟨bs, 0, none⟩) rfl (fsWriteA (b := W) (bs := C) (.inr Reads.buf) hsl (Nat.le_refl _) (by show r ≤ maxLen; unfold maxLen; omega) (Nat.le_refl _) (by omega) (by omega) (by omega)) (by omega)) (h := ?_)
        rintro _ _ ⟨rfl, rfl⟩
        rw [wrB_last, kv2_put0, ← hWC]
        refine .nei ?_
        refine .z ?_
        refine .condF rfl (congrArg Value.bool (by first | (simp; done) | (simp; omega) | (rw [hWC]; simp; omega) | (rw [hWC]; omega) | omega)) ?_
        refine .skip (.next (.sr (.move (.move ?_))))
        refine .append (m := r) (news := bvs C) so42 (by decide) (by repeat (first | exact .here | apply Rem.there | apply Repl.there | apply Mem.there)) (Reads.buf (xs := bvs C)) (by repeat (first | exact .here | apply Rem.there | apply Repl.there | apply Mem.there)) (by rw [bvs_length, hsl, Nat.mul_one]) (bvs_single _) (by show W.length + r ≤ maxLen; unfold maxLen; omega) (by show (W.length + r) * 1 ≤ 140737488355328; omega) ⟨_, z5, rfl⟩ (fun vB hvB => ?_)
        refine .to (A := rowR 5 1 vB (W.length + r) (bvs W ++ bvs C)) (A' := rowR 5 1 vB (W ++ C).length (bvs (W ++ C))) (fun h hh => by rw [hWC, bvs_append]; exact hh) ?_
        refine .fact (rowR_shape (el := 5) (size := 1) (v := vB) (k := (W ++ C).length) (xs := bvs (W ++ C))) (fun ⟨A2, c2, hv2, hR2, hk2, hc2, hl2⟩ => ?_)
        subst hv2
        refine .assign (.x (.move ?_))
        refine .rem ?_
        refine .eqi ?_
        refine .z ?_
        refine .condT rfl (congrArg Value.bool (by first | (simp; done) | (simp; omega) | (rw [hWC]; simp; omega) | (rw [hWC]; omega) | omega)) ?_
        refine .sr (.move (.move ?_))
        refine .call (hc := Tryz.call32) (sp := tbRead (t := t) (f := f) (kv := kv2 (W ++ C).length pb) (fd := 1) (path := [47, 97]) (at' := pb) (n := 100) rfl (fsReadA (b := W ++ C) (by omega) (by decide)) (by rw [List.length_take, List.length_drop]; omega)) (h := ?_)
        rintro _ _ ⟨u2, rfl, rfl⟩
        rw [kv2_put1]
        obtain ⟨G, hG⟩ : ∃ G, ((W ++ C).drop pb).take 100 = G := ⟨_, rfl⟩
        have hgl : G.length ≤ 100 ∧ G.length ≤ W.length + r := by rw [← hG, List.length_take, List.length_drop, hWC]; omega
        rw [hG]
        refine .fact (rowR_shape (el := 5) (size := 1) (v := u2) (k := (G).length) (xs := bvs (G))) (fun ⟨A3, c3, hv3, hR3, hk3, hc3, hl3⟩ => ?_)
        subst hv3
        refine .move ?_
        refine .extract ?_
        refine .extract ?_
        refine .assign (.assign (.x (.move ?_)))
        refine .lenS ?_ sl42
        refine .minI ?_
        refine .cast (d := 88) (u := .int .i64 ((min 100 (W ++ C).length : Nat) : Int)) rfl (congrArg (Value.int .i64) (by rw [hWC]; split <;> omega)) ?_
        refine .assign (.x (.move ?_))
        refine .nei ?_
        refine .move ?_
        refine .cast (d := 91) (u := .bool false) rfl (congrArg Value.bool (by first | (simp; done) | (simp; omega) | (rw [hWC]; simp; omega) | (rw [hWC]; omega) | omega)) ?_
        refine .gT ?_
        refine .move ?_
        refine .gT ?_
        refine .lenS ?_ sl42
        refine .gT ?_
        refine .move ?_
        refine .gT ?_
        refine .gtr ?_
        refine .pickF ?_
        refine .z ?_
        refine .condF rfl (congrArg Value.bool (by first | (simp; done) | (simp; omega) | (rw [hWC]; simp; omega) | (rw [hWC]; omega) | omega)) ?_
        refine .skip (.blockNormal (.next (.region (.move ?_))))
        refine .add ?_
        refine .assign (.nil ?_)
        refine .cast (d := 13) (u := .int .i64 ((k + 1 : Nat) : Int)) rfl (congrArg (Value.int .i64) (by omega)) ?_
        exact .back (k + 1, W ++ C, pb + G.length, A2, c2) ⟨by show k + 1 ≤ m; omega, by show (W ++ C).length ≤ 300 * (k + 1); rw [hWC]; omega, by show pb + G.length ≤ 100 * (k + 1); omega, trivial⟩ (by show m - (k + 1) < m - k; omega)
      · refine .skip (.next (.seq (.block (.sr (.move (.move ?_))))))
        refine .idx1 ?_ so22
        refine .ldR ?_ sc3 hR hgx
        refine .call (hc := Tryz.call17) (sp := alRound (k := x) (n := 300) (by decide) (by decide) hxr) (h := ?_)
        rintro _ _ ⟨rfl, rfl⟩
        rw [hrr]
        refine .move ?_
        refine .call (hc := Tryz.call24) (sp := alikeSome (n := r) (c := k) (by omega) (by omega)) (h := ?_)
        rintro _ _ ⟨bs, rfl, rfl⟩
        have hsl := someB_length r k
        obtain ⟨C, hC⟩ : ∃ C, someB r k = C := ⟨_, rfl⟩
        rw [hC] at hsl ⊢
        have hWC : (W ++ C).length = W.length + r := by rw [List.length_append, hsl]
        refine .assign (.z (.seq (.sr (.move (.move (.move ?_))))))
        refine .call (hc := Tryz.call33) (sp := tWriteF (t := t) (f := f) (kv := kv2 W.length pb) (fd := 0) (path := [47, 97]) (at' := W.length) (m := r) (cc := r) (R := buf bs 5 r (bvs C)) (A := some ⟨bs, 0, none⟩) rfl (fsWriteA (b := W) (bs := C) (.inr Reads.buf) hsl (Nat.le_refl _) (by show r ≤ maxLen; unfold maxLen; omega) (Nat.le_refl _) (by omega) (by omega) (by omega)) (by omega)) (h := ?_)
        rintro _ _ ⟨rfl, rfl⟩
        rw [wrB_last, kv2_put0, ← hWC]
        refine .nei ?_
        refine .z ?_
        refine .condF rfl (congrArg Value.bool (by first | (simp; done) | (simp; omega) | omega)) ?_
        refine .skip (.next (.sr (.move (.move ?_))))
        refine .append (m := r) (news := bvs C) so42 (by decide) (by repeat (first | exact .here | apply Rem.there | apply Repl.there | apply Mem.there)) (Reads.buf (xs := bvs C)) (by repeat (first | exact .here | apply Rem.there | apply Repl.there | apply Mem.there)) (by rw [bvs_length, hsl, Nat.mul_one]) (bvs_single _) (by show W.length + r ≤ maxLen; unfold maxLen; omega) (by show (W.length + r) * 1 ≤ 140737488355328; omega) ⟨_, z5, rfl⟩ (fun vB hvB => ?_)
        refine .to (A := rowR 5 1 vB (W.length + r) (bvs W ++ bvs C)) (A' := rowR 5 1 vB (W ++ C).length (bvs (W ++ C))) (fun h hh => by rw [hWC, bvs_append]; exact hh) ?_
        refine .fact (rowR_shape (el := 5) (size := 1) (v := vB) (k := (W ++ C).length) (xs := bvs (W ++ C))) (fun ⟨A2, c2, hv2, hR2, hk2, hc2, hl2⟩ => ?_)
        subst hv2
        refine .assign (.x (.move ?_))
        refine .rem ?_
        refine .eqi ?_
        refine .z ?_
        refine .condF rfl (congrArg Value.bool (by first | (simp; done) | (simp; omega) | omega)) ?_
        refine .skip (.blockNormal (.next (.region (.move ?_))))
        refine .add ?_
        refine .assign (.nil ?_)
        refine .cast (d := 13) (u := .int .i64 ((k + 1 : Nat) : Int)) rfl (congrArg (Value.int .i64) (by omega)) ?_
        exact .back (k + 1, W ++ C, pb, A2, c2) ⟨by show k + 1 ≤ m; omega, by show (W ++ C).length ≤ 300 * (k + 1); rw [hWC]; omega, by show pb ≤ 100 * (k + 1); omega, trivial⟩ (by show m - (k + 1) < m - k; omega)
    · have hge : k = m := by have h : ¬ (k : Int) < (m : Int) := of_decide_eq_false hb2; omega
      subst hge
      have hrd := rd_all (W := W) (n := 100000) (by omega)
      refine .fact (rowR_shape (el := 5) (size := 1) (v := .slice U W.length cu) (k := (W).length) (xs := bvs (W))) (fun ⟨A4, c4, hv4, hR4, hk4, hc4, hl4⟩ => ?_)
      injection hv4 with e1 e2 e3
      subst e1
      subst e3
      refine .exit (.thenExit (.thenExit (.blockExit (?_))))
      refine .next (.sr (.move (.move ?_)))
      refine .call (hc := Tryz.call40) (sp := tPread (t := t) (f := f) (kv := kv2 W.length pb) (fd := 1) (path := [47, 97]) (at' := pb) (k := 0) (n := 100000) (e := 0) rfl (fsReadA (b := W) (by decide) (by decide))) (h := ?_)
      rintro _ _ ⟨u2, rfl, rfl⟩
      rw [hrd]
      refine .fact (rowR_shape (el := 5) (size := 1) (v := u2) (k := (W).length) (xs := bvs (W))) (fun ⟨A5, c5, hv5, hR5, hk5, hc5, hl5⟩ => ?_)
      subst hv5
      refine .move ?_
      refine .extract ?_
      refine .extract ?_
      refine .assign (.assign (.x (.move (.move ?_))))
      refine .call (hc := Tryz.call41) (sp := tTell (t := t) (f := f) (kv := kv2 W.length pb) (fd := 0) (path := [47, 97]) (at' := W.length) rfl) (h := ?_)
      rintro _ _ ⟨rfl, rfl⟩
      refine .move ?_
      refine .extract ?_
      refine .extract ?_
      refine .assign (.assign (.x (.move ?_)))
      refine .eqi ?_
      refine .move ?_
      refine .cast (d := 111) (u := .bool true) rfl (congrArg Value.bool (by first | (simp; done) | (simp; omega) | omega)) ?_
      refine .gT ?_
      refine .move ?_
      refine .gT ?_
      refine .move ?_
      refine .gT ?_
      refine .call (hc := Tryz.call42) (sp := alikeBytes (R := rowR 5 1 (.slice A5 W.length c5) W.length (bvs W)) (R' := rowR 5 1 (.slice U W.length cu) W.length (bvs W)) (xs := W) (ys := W) (.inr hR5) (.inr hR4) rfl rfl (by omega)) (h := ?_)
      rintro _ _ ⟨rfl, rfl⟩
      refine .cast (d := 114) (u := .bool true) rfl (congrArg Value.bool (decide_eq_true rfl)) ?_
      refine .pickT ?_
      refine .move ?_
      refine .gT ?_
      refine .move ?_
      refine .gT ?_
      refine .eqi ?_
      refine .pickT ?_
      refine .move ?_
      refine .cast (d := 120) (u := .bool true) rfl (congrArg Value.bool (by first | (simp; done) | (simp; omega) | omega)) ?_
      refine .gT ?_
      refine .move ?_
      refine .gT ?_
      refine .move ?_
      refine .gT ?_
      refine .lenS ?_ sl42
      refine .gT ?_
      refine .eqi ?_
      refine .pickT ?_
      refine .move ?_
      refine .cast (d := 126) (u := .bool true) rfl (congrArg Value.bool (by first | (simp; done) | (simp; omega) | omega)) ?_
      refine .gT ?_
      refine .call (hc := Tryz.call28) (sp := l11Awake) (h := ?_)
      rintro _ _ ⟨rfl, rfl⟩
      refine .pickT ?_
      refine .assign (.z ?_)
      refine .ret (?_)
      exact .ret1 (h1 := .tmp (t := 2) rfl) ⟨_, ⟨rfl, rfl⟩, Am.auto⟩
end Go.Proofs.YtmmlbepfonndaaaGreatDoor
end
