/- A part of the proof of lawFPlaces: texts of this work put together. -/
import Derived.Test.YtmmlbepfonndaaaGreatDoorQg4
import Derived.KernelRfl
set_option linter.unusedVariables false
set_option linter.unusedSimpArgs false
set_option linter.unusedSectionVars false
section
namespace Go.Proofs.YtmmlbepfonndaaaGreatDoor
open Go
theorem wrB_last (old bs : Bytes) : wrB old old.length bs = old ++ bs := by
  unfold wrB splice
  have h1 : ext old (old.length + bs.length) = old ++ List.replicate bs.length 0 := by
    unfold ext
    rw [Nat.add_sub_cancel_left]
  rw [h1, List.take_append_of_le_length (Nat.le_refl _), List.take_length, List.drop_eq_nil_of_le (by simp), List.append_nil]
theorem wrB_first (bs : Bytes) : wrB [] 0 bs = bs := wrB_last [] bs
abbrev kv1 (a : Nat) : List (Int × Value) := [((0 : Int), opV [47, 97] a)]
theorem kv1_put0 (a k : Nat) : kput (kv1 a) (0 : Int) (opV [47, 97] k) = kv1 k := rfl
theorem lawFPlaces {R : HP} {A : Option Addr} {m c0 : Nat} {xs : List Int} (hR0 : xs = [] ∨ Reads R A (ints xs)) (hm : xs.length = m) (hxs : ∀ x ∈ xs, -9223372036854775808 ≤ x ∧ x ≤ 9223372036854775807) (hbig : m ≤ 9223372036854775807) {size : Int} (hsz : -9223372036854775808 ≤ size ∧ size ≤ 9223372036854775807) : Spec Tryz.prog 12 #[.slice A m c0, .int .i64 size] [R] fun F v M => v = .bool true ∧ M = R :: F := by
  refine Spec.intro Tryz.func12 rfl rfl fun B F => ?_
  simp only [Tryz.ntmps12, List.cons_append, List.nil_append, env0, Nat.reduceAdd]
  by_cases h1 : 30 < m
  · refine .sr (.assign (.z (.seq (.sr (.move ?_)))))
    refine .lenS ?_ sl22
    refine .gtr ?_
    refine .move ?_
    refine .cast (d := 24) (u := .bool true) rfl (congrArg Value.bool (by first | (simp; done) | (simp; omega) | omega)) ?_
    refine .gF ?_
    refine .gF ?_
    refine .pickT ?_
    refine .move ?_
    refine .gF ?_
    refine .gF ?_
    refine .pickT ?_
    refine .z ?_
    refine .condT rfl rfl ?_
    refine .sr ?_
    refine .call (hc := Tryz.call28) (sp := l11Awake) (h := ?_)
    rintro _ _ ⟨rfl, rfl⟩
    refine .assign (.z ?_)
    refine .ret (.thenRet (?_))
    exact .ret1 (h1 := .tmp (t := 4) rfl) ⟨_, ⟨rfl, rfl⟩, Am.auto⟩
  · by_cases h2 : size < 0
    · refine .sr (.assign (.z (.seq (.sr (.move ?_)))))
      refine .lenS ?_ sl22
      refine .gtr ?_
      refine .move ?_
      refine .cast (d := 24) (u := .bool false) rfl (congrArg Value.bool (by first | (simp; done) | (simp; omega) | omega)) ?_
      refine .gT ?_
      refine .move ?_
      refine .gT ?_
      refine .lss ?_
      refine .pickF ?_
      refine .move ?_
      refine .cast (d := 28) (u := .bool true) rfl (congrArg Value.bool (by first | (simp; done) | (simp; omega) | omega)) ?_
      refine .gF ?_
      refine .gF ?_
      refine .pickT ?_
      refine .z ?_
      refine .condT rfl rfl ?_
      refine .sr ?_
      refine .call (hc := Tryz.call28) (sp := l11Awake) (h := ?_)
      rintro _ _ ⟨rfl, rfl⟩
      refine .assign (.z ?_)
      refine .ret (.thenRet (?_))
      exact .ret1 (h1 := .tmp (t := 4) rfl) ⟨_, ⟨rfl, rfl⟩, Am.auto⟩
    · by_cases h3 : 3000 < size
      · refine .sr (.assign (.z (.seq (.sr (.move ?_)))))
        refine .lenS ?_ sl22
        refine .gtr ?_
        refine .move ?_
        refine .cast (d := 24) (u := .bool false) rfl (congrArg Value.bool (by first | (simp; done) | (simp; omega) | omega)) ?_
        refine .gT ?_
        refine .move ?_
        refine .gT ?_
        refine .lss ?_
        refine .pickF ?_
        refine .move ?_
        refine .cast (d := 28) (u := .bool false) rfl (congrArg Value.bool (by first | (simp; done) | (simp; omega) | omega)) ?_
        refine .gT ?_
        refine .move ?_
        refine .gT ?_
        refine .gtr ?_
        refine .pickF ?_
        refine .z ?_
        refine .condT rfl (congrArg Value.bool (by first | (simp; done) | (simp; omega) | omega)) ?_
        refine .sr ?_
        refine .call (hc := Tryz.call28) (sp := l11Awake) (h := ?_)
        rintro _ _ ⟨rfl, rfl⟩
        refine .assign (.z ?_)
        refine .ret (.thenRet (?_))
        exact .ret1 (h1 := .tmp (t := 4) rfl) ⟨_, ⟨rfl, rfl⟩, Am.auto⟩
      · obtain ⟨S, rfl⟩ : ∃ S : Nat, size = S := ⟨size.toNat, by omega⟩
        obtain ⟨Wn, hWn⟩ : ∃ Wn, someB S 9 = Wn := ⟨_, rfl⟩
        have hWl : Wn.length = S := by rw [← hWn]; exact someB_length _ _
        refine .sr (.assign (.z (.seq (.sr (.move ?_)))))
        refine .lenS ?_ sl22
        refine .gtr ?_
        refine .move ?_
        refine .cast (d := 24) (u := .bool false) rfl (congrArg Value.bool (by first | (simp; done) | (simp; omega) | omega)) ?_
        refine .gT ?_
        refine .move ?_
        refine .gT ?_
        refine .lss ?_
        refine .pickF ?_
        refine .move ?_
        refine .cast (d := 28) (u := .bool false) rfl (congrArg Value.bool (by first | (simp; done) | (simp; omega) | omega)) ?_
        refine .gT ?_
        refine .move ?_
        refine .gT ?_
        refine .gtr ?_
        refine .pickF ?_
        refine .z ?_
        refine .condF rfl (congrArg Value.bool (by first | (simp; done) | (simp; omega) | omega)) ?_
        refine .skip (.next (.sr ?_))
        refine .call (hc := Tryz.call29) (sp := l11Fresh) (h := ?_)
        rintro _ _ ⟨f, t, m0, u0, rfl, rfl⟩
        refine .move ?_
        refine .extract ?_
        refine .extract ?_
        refine .extract ?_
        refine .extract ?_
        refine .extract ?_
        refine .assign (.assign (.assign (.assign (.assign (.z (.seq (.sr (.move ?_))))))))
        refine .not ?_
        refine .z ?_
        refine .condF rfl rfl ?_
        refine .skip (.next (.sr (.move ?_)))
        refine .call (hc := Tryz.call30) (sp := tbOpenMk (t := t) (f := f)) (h := ?_)
        rintro _ _ ⟨rfl, rfl⟩
        refine .move ?_
        refine .extract ?_
        refine .extract ?_
        refine .assign (.assign (.x (.move ?_)))
        refine .call (hc := Tryz.call24) (sp := alikeSome (n := S) (c := 9) (by omega) (by decide)) (h := ?_)
        rintro _ _ ⟨bs, rfl, rfl⟩
        rw [hWn]
        refine .assign (.z (.seq (.sr (.move ?_))))
        refine .nei ?_
        refine .move ?_
        refine .cast (d := 51) (u := .bool false) rfl (congrArg Value.bool (by first | (simp; done) | (simp; omega) | omega)) ?_
        refine .gT ?_
        refine .move ?_
        refine .gT ?_
        refine .move ?_
        refine .gT ?_
        refine .move ?_
        refine .gT ?_
        refine .call (hc := Tryz.call43) (sp := tPwrite (t := t) (f := f) (kv := kv1 0) (fd := 0) (path := [47, 97]) (at' := 0) (k := 0) (m := S) (cc := S) (e := 0) (R := buf bs 5 S (bvs Wn)) (A := some ⟨bs, 0, none⟩) rfl (fsWriteA (b := []) (bs := Wn) (.inr Reads.buf) hWl (Nat.le_refl _) (by show S ≤ maxLen; unfold maxLen; omega) (Nat.le_refl _) (by omega) (by omega) (by decide))) (h := ?_)
        rintro _ _ ⟨rfl, rfl⟩
        rw [wrB_first]
        refine .gT ?_
        refine .nei ?_
        refine .pickF ?_
        refine .z ?_
        refine .condF rfl (congrArg Value.bool (by first | (simp; done) | (simp; omega) | omega)) ?_
        refine .skip (.next (.sr (.assign (.z (.seq (.sr (.assign (.z (.block ?_)))))))))
        refine .loopA (σ := Nat × Nat) (fun y => [(0, .slice A m c0), (1, .int .i64 (S : Int)), (6, .pointer (some ⟨t, 0, none⟩)), (10, .int .i64 0), (12, .slice (some ⟨bs, 0, none⟩) S S), (13, .int .i64 ((y.2 : Nat) : Int)), (14, .int .i64 ((y.1 : Nat) : Int))]) (fun y => [buf bs 5 S (bvs Wn), TB t f (kv1 y.2), AFs f Wn, R] ++ F) (fun y => y.1 ≤ m ∧ y.2 ≤ S ∧ (y.2 = S → S = 0)) (fun y => m - y.1) (0, 0) ⟨Nat.zero_le _, Nat.zero_le _, fun h => h.symm⟩ ?_
        rintro y hy
        obtain ⟨k, a⟩ := y
        obtain ⟨hkm, ha, hae⟩ := hy
        simp only at hkm ha hae ⊢
        refine .seq (.sr (.move (.move ?_)))
        refine .lenS ?_ sl22
        refine .lss ?_
        refine .z ?_
        refine .cond rfl (fun hb2 => ?_) (fun hb2 => ?_)
        · have hlt : k < m := by have h : (k : Int) < (m : Int) := of_decide_eq_true hb2; omega
          have hil : ((k : Nat) : Int).toNat < xs.length := by omega
          have hR := hR0.resolve_left (by intro h; subst h; simp at hil)
          rcases A with _ | ⟨ab, ao, asp⟩
          · exact absurd hR (fun h => by have h2 : ints xs = [] := h; simp [ints] at h2; subst h2; simp at hil)
          have hsp : asp = none := hR.1
          subst hsp
          have hxr := hxs _ (List.getElem_mem hil)
          obtain ⟨x, hx⟩ : ∃ x, xs[((k : Nat) : Int).toNat] = x := ⟨_, rfl⟩
          rw [hx] at hxr
          have hp := Int.emod_nonneg x (show ((500 : Nat) : Int) ≠ 0 by decide)
          have hl := Int.emod_lt_of_pos x (show (0 : Int) < ((500 : Nat) : Int) by decide)
          obtain ⟨r, hrr⟩ : ∃ r : Nat, x % ((500 : Nat) : Int) = (r : Int) := ⟨(x % ((500 : Nat) : Int)).toNat, by omega⟩
          have hr : r < 500 := by omega
          have hgx : (ints xs)[((k : Nat) : Int).toNat]? = some (.int .i64 x) := by unfold ints; rw [List.getElem?_map, List.getElem?_eq_getElem hil, hx]; rfl
          obtain ⟨G, hG⟩ : ∃ G, (Wn.drop a).take r = G := ⟨_, rfl⟩
          have hgl : G.length = min r (S - a) := by rw [← hG, List.length_take, List.length_drop, hWl]
          have hrb : Reads (buf bs 5 S (bvs Wn)) (some ⟨bs, a, none⟩) (bvs G) := by
            have := (Reads.buf (g := bs) (e := 5) (k := S) (xs := bvs Wn)).drop a
            rw [Nat.zero_add] at this
            rw [← hG, bvs_take, bvs_drop]
            exact this.take r
          by_cases hend : a + G.length = S
          · refine .skip (.next (.seq (.block (.sr (.move (.move ?_))))))
            refine .idx1 ?_ so22
            refine .ldR ?_ sc3 hR hgx
            refine .call (hc := Tryz.call17) (sp := alRound (k := x) (n := 500) (by decide) (by decide) hxr) (h := ?_)
            rintro _ _ ⟨rfl, rfl⟩
            rw [hrr]
            refine .assign (.x (.move (.move (.move ?_))))
            refine .call (hc := Tryz.call32) (sp := tbRead (t := t) (f := f) (kv := kv1 a) (fd := 0) (path := [47, 97]) (at' := a) (n := r) rfl (fsReadA (b := Wn) (by omega) (by omega)) (by rw [hG]; omega)) (h := ?_)
            rintro _ _ ⟨u2, rfl, rfl⟩
            rw [kv1_put0, hG]
            refine .fact (rowR_shape (el := 5) (size := 1) (v := u2) (k := (G).length) (xs := bvs (G))) (fun ⟨A3, c3, hv3, hR3, hk3, hc3, hl3⟩ => ?_)
            subst hv3
            refine .move ?_
            refine .extract ?_
            refine .extract ?_
            refine .assign (.assign (.x (.move (.move (.move ?_)))))
            refine .sub ?_
            refine .minI ?_
            refine .cast (d := 80) (u := nI G.length) rfl (congrArg (Value.int .i64) (by rw [hgl]; split <;> omega)) ?_
            refine .assign (.z (.seq (.sr (.move ?_))))
            refine .nei ?_
            refine .move ?_
            refine .cast (d := 83) (u := .bool false) rfl (congrArg Value.bool (by first | (simp; done) | (simp; omega) | omega)) ?_
            refine .gT ?_
            refine .move ?_
            refine .gT ?_
            refine .move ?_
            refine .gT ?_
            refine .move ?_
            refine .gT ?_
            refine .move ?_
            refine .gT ?_
            refine .move ?_
            refine .gT ?_
            refine .add ?_
            refine .cast (d := 89) (u := nI (a + G.length)) rfl (congrArg (Value.int .i64) (by omega)) ?_
            refine .gT ?_
            refine .slcLH ?_ so42
            refine .cast (d := 90) (u := .slice (some ⟨bs, a, none⟩) G.length (S - a)) rfl (by
              rw [Int.toNat_natCast, Int.toNat_natCast, Nat.add_sub_cancel_left]
              by_cases hSa : S = a
              · rw [if_pos hSa]; have := hae hSa.symm; rw [show a = 0 from by omega]
              · rw [if_neg hSa, Nat.zero_add, Nat.mul_one]) ?_
            refine .gT ?_
            refine .call (hc := Tryz.call42) (sp := alikeBytes (R := rowR 5 1 (.slice A3 G.length c3) G.length (bvs G)) (R' := buf bs 5 S (bvs Wn)) (xs := G) (ys := G) (.inr hR3) (.inr hrb) rfl rfl (by omega)) (h := ?_)
            rintro _ _ ⟨rfl, rfl⟩
            refine .cast (d := 91) (u := .bool true) rfl (congrArg Value.bool (decide_eq_true rfl)) ?_
            refine .gT ?_
            refine .not ?_
            refine .pickF ?_
            refine .z ?_
            refine .condF rfl rfl ?_
            refine .skip (.next (.sr (.move (.move ?_))))
            refine .add ?_
            refine .cast (d := 96) (u := nI (a + G.length)) rfl (congrArg (Value.int .i64) (by omega)) ?_
            refine .assign (.x (.move (.move ?_)))
            refine .call (hc := Tryz.call41) (sp := tTell (t := t) (f := f) (kv := kv1 (a + G.length)) (fd := 0) (path := [47, 97]) (at' := a + G.length) rfl) (h := ?_)
            rintro _ _ ⟨rfl, rfl⟩
            refine .move ?_
            refine .extract ?_
            refine .extract ?_
            refine .assign (.assign (.z (.seq (.sr (.move ?_)))))
            refine .nei ?_
            refine .move ?_
            refine .cast (d := 105) (u := .bool false) rfl (congrArg Value.bool (by first | (simp; done) | (simp; omega) | omega)) ?_
            refine .gT ?_
            refine .move ?_
            refine .gT ?_
            refine .move ?_
            refine .gT ?_
            refine .nei ?_
            refine .pickF ?_
            refine .z ?_
            refine .condF rfl (congrArg Value.bool (by first | (simp; done) | (simp; omega) | omega)) ?_
            refine .skip (.next (.sr (.move (.move ?_))))
            refine .eqi ?_
            refine .z ?_
            refine .condT rfl (congrArg Value.bool (by first | (simp; done) | (simp; omega) | omega)) ?_
            refine .seq (.sr (.move (.move ?_)))
            refine .call (hc := Tryz.call34) (sp := tSeek (t := t) (f := f) (kv := kv1 (a + G.length)) (fd := 0) (path := [47, 97]) (at' := a + G.length) (k := 0) rfl) (h := ?_)
            rintro _ _ ⟨rfl, rfl⟩
            rw [kv1_put0]
            refine .nei ?_
            refine .z ?_
            refine .condF rfl (congrArg Value.bool (by first | (simp; done) | (simp; omega) | omega)) ?_
            refine .skip (.next (.region (.assign (.nil (.blockNormal (.next (.region (.move ?_))))))))
            refine .add ?_
            refine .assign (.nil ?_)
            refine .cast (d := 14) (u := .int .i64 ((k + 1 : Nat) : Int)) rfl (congrArg (Value.int .i64) (by omega)) ?_
            exact .back (k + 1, 0) ⟨by show k + 1 ≤ m; omega, Nat.zero_le _, fun h => h.symm⟩ (by show m - (k + 1) < m - k; omega)
          · refine .skip (.next (.seq (.block (.sr (.move (.move ?_))))))
            refine .idx1 ?_ so22
            refine .ldR ?_ sc3 hR hgx
            refine .call (hc := Tryz.call17) (sp := alRound (k := x) (n := 500) (by decide) (by decide) hxr) (h := ?_)
            rintro _ _ ⟨rfl, rfl⟩
            rw [hrr]
            refine .assign (.x (.move (.move (.move ?_))))
            refine .call (hc := Tryz.call32) (sp := tbRead (t := t) (f := f) (kv := kv1 a) (fd := 0) (path := [47, 97]) (at' := a) (n := r) rfl (fsReadA (b := Wn) (by omega) (by omega)) (by rw [hG]; omega)) (h := ?_)
            rintro _ _ ⟨u2, rfl, rfl⟩
            rw [kv1_put0, hG]
            refine .fact (rowR_shape (el := 5) (size := 1) (v := u2) (k := (G).length) (xs := bvs (G))) (fun ⟨A3, c3, hv3, hR3, hk3, hc3, hl3⟩ => ?_)
            subst hv3
            refine .move ?_
            refine .extract ?_
            refine .extract ?_
            refine .assign (.assign (.x (.move (.move (.move ?_)))))
            refine .sub ?_
            refine .minI ?_
            refine .cast (d := 80) (u := nI G.length) rfl (congrArg (Value.int .i64) (by rw [hgl]; split <;> omega)) ?_
            refine .assign (.z (.seq (.sr (.move ?_))))
            refine .nei ?_
            refine .move ?_
            refine .cast (d := 83) (u := .bool false) rfl (congrArg Value.bool (by first | (simp; done) | (simp; omega) | omega)) ?_
            refine .gT ?_
            refine .move ?_
            refine .gT ?_
            refine .move ?_
            refine .gT ?_
            refine .move ?_
            refine .gT ?_
            refine .move ?_
            refine .gT ?_
            refine .move ?_
            refine .gT ?_
            refine .add ?_
            refine .cast (d := 89) (u := nI (a + G.length)) rfl (congrArg (Value.int .i64) (by omega)) ?_
            refine .gT ?_
            refine .slcLH ?_ so42
            refine .cast (d := 90) (u := .slice (some ⟨bs, a, none⟩) G.length (S - a)) rfl (by
              rw [Int.toNat_natCast, Int.toNat_natCast, Nat.add_sub_cancel_left]
              by_cases hSa : S = a
              · rw [if_pos hSa]; have := hae hSa.symm; rw [show a = 0 from by omega]
              · rw [if_neg hSa, Nat.zero_add, Nat.mul_one]) ?_
            refine .gT ?_
            refine .call (hc := Tryz.call42) (sp := alikeBytes (R := rowR 5 1 (.slice A3 G.length c3) G.length (bvs G)) (R' := buf bs 5 S (bvs Wn)) (xs := G) (ys := G) (.inr hR3) (.inr hrb) rfl rfl (by omega)) (h := ?_)
            rintro _ _ ⟨rfl, rfl⟩
            refine .cast (d := 91) (u := .bool true) rfl (congrArg Value.bool (decide_eq_true rfl)) ?_
            refine .gT ?_
            refine .not ?_
            refine .pickF ?_
            refine .z ?_
            refine .condF rfl rfl ?_
            refine .skip (.next (.sr (.move (.move ?_))))
            refine .add ?_
            refine .cast (d := 96) (u := nI (a + G.length)) rfl (congrArg (Value.int .i64) (by omega)) ?_
            refine .assign (.x (.move (.move ?_)))
            refine .call (hc := Tryz.call41) (sp := tTell (t := t) (f := f) (kv := kv1 (a + G.length)) (fd := 0) (path := [47, 97]) (at' := a + G.length) rfl) (h := ?_)
            rintro _ _ ⟨rfl, rfl⟩
            refine .move ?_
            refine .extract ?_
            refine .extract ?_
            refine .assign (.assign (.z (.seq (.sr (.move ?_)))))
            refine .nei ?_
            refine .move ?_
            refine .cast (d := 105) (u := .bool false) rfl (congrArg Value.bool (by first | (simp; done) | (simp; omega) | omega)) ?_
            refine .gT ?_
            refine .move ?_
            refine .gT ?_
            refine .move ?_
            refine .gT ?_
            refine .nei ?_
            refine .pickF ?_
            refine .z ?_
            refine .condF rfl (congrArg Value.bool (by first | (simp; done) | (simp; omega) | omega)) ?_
            refine .skip (.next (.sr (.move (.move ?_))))
            refine .eqi ?_
            refine .z ?_
            refine .condF rfl (congrArg Value.bool (by first | (simp; done) | (simp; omega) | omega)) ?_
            refine .skip (.blockNormal (.next (.region (.move ?_))))
            refine .add ?_
            refine .assign (.nil ?_)
            refine .cast (d := 14) (u := .int .i64 ((k + 1 : Nat) : Int)) rfl (congrArg (Value.int .i64) (by omega)) ?_
            exact .back (k + 1, a + G.length) ⟨by show k + 1 ≤ m; omega, by show a + G.length ≤ S; omega, fun h => absurd h hend⟩ (by show m - (k + 1) < m - k; omega)
        · refine .exit (.thenExit (.thenExit (.blockExit (?_))))
          refine .next (.sr ?_)
          refine .call (hc := Tryz.call28) (sp := l11Awake) (h := ?_)
          rintro _ _ ⟨rfl, rfl⟩
          refine .assign (.z ?_)
          refine .ret (?_)
          exact .ret1 (h1 := .tmp (t := 4) rfl) ⟨_, ⟨rfl, rfl⟩, Am.auto⟩
end Go.Proofs.YtmmlbepfonndaaaGreatDoor
end
