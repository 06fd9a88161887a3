/- Walk of InodeApart. -/
import Derived.Test.YtedmihapieleaaaGreatFa
import Derived.Test.YtedmihapieleaaaGreatWad
import Derived.KernelRfl
set_option linter.unusedVariables false
set_option linter.unusedSimpArgs false
namespace Go.Proofs.YtedmihapieleaaaGreat
open Go
theorem ar34 : arrOk Tryz.prog 34 33 3 1 = true := by kernel_rfl
theorem fo30_0 : fieldOk Tryz.prog 30 0 0 = true := by kernel_rfl

structure S3 where
  w : Bytes
  a : Option Addr
  c : Nat
def S3.v (x : S3) : Value := .slice x.a x.w.length x.c
/-- Three files. -/
def triM (w0 w1 w2 : Bytes) : FM := updM (updM (updM rootM 1 (some (1, w0))) 2 (some (1, w1))) 3 (some (1, w2))
theorem tri1 (w0 w1 w2 : Bytes) : triM w0 w1 w2 1 = some (1, w0) := rfl
theorem tri2 (w0 w1 w2 : Bytes) : triM w0 w1 w2 2 = some (1, w1) := rfl
theorem tri3 (w0 w1 w2 : Bytes) : triM w0 w1 w2 3 = some (1, w2) := rfl
theorem updM_comm (F : FM) {i j : Nat} (h : i ≠ j) (y z : Option (Nat × Bytes)) : updM (updM F i y) j z = updM (updM F j z) i y := by
  funext k
  unfold updM
  by_cases h1 : k = j
  · rw [if_pos h1, if_neg (by omega), if_pos h1]
  · by_cases h2 : k = i
    · rw [if_neg h1, if_pos h2, if_pos h2]
    · rw [if_neg h1, if_neg h2, if_neg h2, if_neg h1]
theorem tri_upd1 (w0 w1 w2 w : Bytes) : updM (triM w0 w1 w2) 1 (some (1, w)) = triM w w1 w2 := by
  unfold triM
  rw [updM_comm _ (show (3 : Nat) ≠ 1 by decide), updM_comm _ (show (2 : Nat) ≠ 1 by decide), FM_twice]
theorem tri_upd2 (w0 w1 w2 w : Bytes) : updM (triM w0 w1 w2) 2 (some (1, w)) = triM w0 w w2 := by
  unfold triM
  rw [updM_comm _ (show (3 : Nat) ≠ 2 by decide), FM_twice]
theorem tri_upd3 (w0 w1 w2 w : Bytes) : updM (triM w0 w1 w2) 3 (some (1, w)) = triM w0 w1 w := by
  unfold triM
  rw [FM_twice]
theorem tot_tri (w0 w1 w2 : Bytes) {n : Nat} (h : 4 ≤ n) : tot (triM w0 w1 w2) n = has w0.length + has w1.length + has w2.length := by
  have h1 := tot_upd' rootM (show 1 < n by omega) (some (1, w0))
  have h2 := tot_upd' (updM rootM 1 (some (1, w0))) (show 2 < n by omega) (some (1, w1))
  have h3 := tot_upd' (updM (updM rootM 1 (some (1, w0))) 2 (some (1, w1))) (show 3 < n by omega) (some (1, w2))
  rw [tot_root] at h1
  have e1 : hasO (rootM 1) = 0 := rfl
  have e2 : hasO (updM rootM 1 (some (1, w0)) 2) = 0 := rfl
  have e3 : hasO (updM (updM rootM 1 (some (1, w0))) 2 (some (1, w1)) 3) = 0 := rfl
  have e4 : ∀ w : Bytes, hasO (some (1, w)) = has w.length := fun _ => rfl
  rw [e1, e4] at h1
  rw [e2, e4] at h2
  rw [e3, e4] at h3
  unfold triM
  omega
theorem has_small {n : Nat} (h : n ≤ 18900) : has n ≤ 38 := by
  rw [has_hs]
  have h1 := dat_mono h
  have h2 : dat 18900 = 37 := rfl
  unfold hs
  split <;> omega
theorem wrB_end (old bs : Bytes) : wrB old old.length bs = old ++ bs := by
  unfold wrB splice ext
  rw [List.take_left' rfl, List.drop_eq_nil_of_le (by rw [List.length_append, List.length_replicate]; omega), List.append_nil]
theorem made2 (j : Nat) (h : j < 2) : updM rootM 1 (some (1, [])) j ≠ none := by
  rcases (show j = 0 ∨ j = 1 by omega) with rfl | rfl <;> intro hh <;> cases hh
theorem made3 (j : Nat) (h : j < 3) : updM (updM rootM 1 (some (1, []))) 2 (some (1, [])) j ≠ none := by
  rcases (show j = 0 ∨ j = 1 ∨ j = 2 by omega) with rfl | rfl | rfl <;> intro hh <;> cases hh
theorem v3_get (x0 x1 x2 : S3) : ∀ k, k < 3 → ([x0.v, x1.v, x2.v])[k]? = some (if k = 0 then x0.v else if k = 1 then x1.v else x2.v) := by
  intro k hk
  rcases (show k = 0 ∨ k = 1 ∨ k = 2 by omega) with rfl | rfl | rfl <;> rfl


theorem zW3 : zeroOf Tryz.prog 34 = some #[.slice none 0 0, .slice none 0 0, .slice none 0 0] := by kernel_rfl

set_option maxHeartbeats 2000000 in
theorem lawApart {R : HP} {A : Option Addr} {m c0 : Nat} {xs : List Int} (hR0 : xs = [] ∨ Reads R A (ints xs)) (hm : xs.length = m) (hxs : ∀ x ∈ xs, -9223372036854775808 ≤ x ∧ x ≤ 9223372036854775807) (hbig : m ≤ 9223372036854775807) : Spec Tryz.prog 3 #[.slice A m c0] [R] fun F v M => v = .bool true ∧ M = R :: F := by
  refine Spec.intro Tryz.func3 rfl rfl fun B F => ?_
  simp only [Tryz.ntmps3, List.cons_append, List.nil_append, env0, Nat.reduceAdd]
  by_cases hlong : 20 < m
  · refine WC.seq ?_
    refine WC.region ?_
    refine WL.assign ?_
    refine WL.nil ?_
    refine WQ.next ?_
    refine WC.seq ?_
    refine WC.seq ?_
    refine WC.region ?_
    refine WL.move ?_
    refine WL.lenS ?_ sl22
    refine WL.gtr ?_
    refine WL.nil ?_
    refine WQ.next ?_
    refine WC.condT rfl (congrArg Value.bool (by first | (simp; done) | (simp; omega) | omega)) ?_
    refine WC.seq ?_
    refine WC.region ?_
    refine WL.call (hc := Tryz.call15) (sp := l8Awake) (h := ?_)
    rintro _ _ ⟨rfl, rfl⟩
    refine WL.assign ?_
    refine WL.nil ?_
    refine WQ.next ?_
    refine WC.ret (WQ.thenRet (?_))
    exact WQ.ret1 (h1 := .tmp (t := 2) rfl) ⟨_, ⟨rfl, rfl⟩, Am.auto⟩
  · have hpn : PlIs (pN 500) := pN_is (by decide) (by decide)
    have ho : PlOk (pN 500) := hpn.ok
    have hdc : (pN 500).dc = 250 := rfl
    have hin : (pN 500).ino = 16 := rfl
    have hrw : ∀ W k, W + k ≤ 57 → Rw (pN 500) W k := fun W k h => .inr (by have : (pN 500).tb = 248 := rfl; omega)
    refine WC.seq ?_
    refine WC.region ?_
    refine WL.assign ?_
    refine WL.nil ?_
    refine WQ.next ?_
    refine WC.seq ?_
    refine WC.seq ?_
    refine WC.region ?_
    refine WL.move ?_
    refine WL.lenS ?_ sl22
    refine WL.gtr ?_
    refine WL.nil ?_
    refine WQ.next ?_
    refine WC.condF rfl (congrArg Value.bool (by first | (simp; done) | (simp; omega) | omega)) ?_
    refine WC.skip ?_
    refine WQ.next ?_
    refine WC.seq ?_
    refine WC.region ?_
    refine WL.call (hc := Tryz.call16) (sp := l8Fresh (pN_is (n := 500) (by decide) (by decide))) (h := ?_)
    rintro _ _ ⟨c, a, s, rfl, rfl⟩
    refine WL.move ?_
    refine WL.extract ?_
    refine WL.extract ?_
    refine WL.alloc z30 fun b3 => ?_
    refine WL.stV ?_ agg30
    refine WL.assign ?_
    refine WL.nil ?_
    refine WQ.next ?_
    refine WC.seq ?_
    refine WC.seq ?_
    refine WC.region ?_
    refine WL.move ?_
    refine WL.not ?_
    refine WL.nil ?_
    refine WQ.next ?_
    refine WC.condF rfl rfl ?_
    refine WC.skip ?_
    refine WQ.next ?_
    refine WC.seq ?_
    refine WC.region ?_
    refine WL.allocL (us := [S3.v ⟨[], none, 0⟩, S3.v ⟨[], none, 0⟩, S3.v ⟨[], none, 0⟩]) zW3 rfl fun b5 => ?_
    refine WL.emp (A := rowR 5 1 (S3.v ⟨[], none, 0⟩) 0 (bvs [])) (rowR.nil _) ?_
    refine WL.emp (A := rowR 5 1 (S3.v ⟨[], none, 0⟩) 0 (bvs [])) (rowR.nil _) ?_
    refine WL.emp (A := rowR 5 1 (S3.v ⟨[], none, 0⟩) 0 (bvs [])) (rowR.nil _) ?_
    refine WL.nil ?_
    refine WQ.next ?_
    refine WC.seq ?_
    refine WC.seq ?_
    refine WC.region ?_
    refine WL.assign ?_
    refine WL.nil ?_
    refine WQ.next ?_
    refine WC.block ?_
    refine WC.loopN 4 (RC.succ ?_)
    refine WC.seq ?_
    refine WC.seq ?_
    refine WC.region ?_
    refine WL.move ?_
    refine WL.lss ?_
    refine WL.nil ?_
    refine WQ.next ?_
    refine WC.condT rfl rfl ?_
    refine WC.skip ?_
    refine WQ.next ?_
    refine WC.seq ?_
    refine WC.block ?_
    refine WC.seq ?_
    refine WC.region ?_
    refine WL.fa ?_ fo30_2
    refine WL.ld ?_ sc26
    refine WL.call (hc := Tryz.call17) (sp := nMake (F0 := rootM) (F := rootM) (W := 0) (i := 1) (k := 1) ho (.inl rfl) (hrw _ _ (by omega)) (by decide) rfl root_one) (h := ?_)
    rintro _ _ ⟨rfl, rfl⟩
    refine WL.move ?_
    refine WL.extract ?_
    refine WL.extract ?_
    refine WL.assign ?_
    refine WL.assign ?_
    refine WL.nil ?_
    refine WQ.next ?_
    refine WC.seq ?_
    refine WC.region ?_
    refine WL.move ?_
    refine WL.nei ?_
    refine WL.move ?_
    refine WL.gT ?_
    refine WL.move ?_
    refine WL.gT ?_
    refine WL.move ?_
    refine WL.gT ?_
    refine WL.add ?_
    refine WL.gT ?_
    refine WL.nei ?_
    refine WL.pickF ?_
    refine WL.nil ?_
    refine WQ.next ?_
    refine WC.condF rfl rfl ?_
    refine WC.skip ?_
    refine WQ.blockNormal ?_
    refine WQ.next ?_
    refine WC.region ?_
    refine WL.move ?_
    refine WL.add ?_
    refine WL.assign ?_
    refine WL.nil ?_
    refine WQ.again (RC.succ ?_)
    refine WC.seq ?_
    refine WC.seq ?_
    refine WC.region ?_
    refine WL.move ?_
    refine WL.lss ?_
    refine WL.nil ?_
    refine WQ.next ?_
    refine WC.condT rfl rfl ?_
    refine WC.skip ?_
    refine WQ.next ?_
    refine WC.seq ?_
    refine WC.block ?_
    refine WC.seq ?_
    refine WC.region ?_
    refine WL.fa ?_ fo30_2
    refine WL.ld ?_ sc26
    refine WL.call (hc := Tryz.call17) (sp := nMake (F0 := rootM) (F := updM rootM 1 (some (1, []))) (W := 1) (i := 2) (k := 1) ho (.inl rfl) (hrw _ _ (by omega)) (by decide) rfl made2) (h := ?_)
    rintro _ _ ⟨rfl, rfl⟩
    refine WL.move ?_
    refine WL.extract ?_
    refine WL.extract ?_
    refine WL.assign ?_
    refine WL.assign ?_
    refine WL.nil ?_
    refine WQ.next ?_
    refine WC.seq ?_
    refine WC.region ?_
    refine WL.move ?_
    refine WL.nei ?_
    refine WL.move ?_
    refine WL.gT ?_
    refine WL.move ?_
    refine WL.gT ?_
    refine WL.move ?_
    refine WL.gT ?_
    refine WL.add ?_
    refine WL.gT ?_
    refine WL.nei ?_
    refine WL.pickF ?_
    refine WL.nil ?_
    refine WQ.next ?_
    refine WC.condF rfl rfl ?_
    refine WC.skip ?_
    refine WQ.blockNormal ?_
    refine WQ.next ?_
    refine WC.region ?_
    refine WL.move ?_
    refine WL.add ?_
    refine WL.assign ?_
    refine WL.nil ?_
    refine WQ.again (RC.succ ?_)
    refine WC.seq ?_
    refine WC.seq ?_
    refine WC.region ?_
    refine WL.move ?_
    refine WL.lss ?_
    refine WL.nil ?_
    refine WQ.next ?_
    refine WC.condT rfl rfl ?_
    refine WC.skip ?_
    refine WQ.next ?_
    refine WC.seq ?_
    refine WC.block ?_
    refine WC.seq ?_
    refine WC.region ?_
    refine WL.fa ?_ fo30_2
    refine WL.ld ?_ sc26
    refine WL.call (hc := Tryz.call17) (sp := nMake (F0 := rootM) (F := updM (updM rootM 1 (some (1, []))) 2 (some (1, []))) (W := 2) (i := 3) (k := 1) ho (.inl rfl) (hrw _ _ (by omega)) (by decide) rfl made3) (h := ?_)
    rintro _ _ ⟨rfl, rfl⟩
    refine WL.move ?_
    refine WL.extract ?_
    refine WL.extract ?_
    refine WL.assign ?_
    refine WL.assign ?_
    refine WL.nil ?_
    refine WQ.next ?_
    refine WC.seq ?_
    refine WC.region ?_
    refine WL.move ?_
    refine WL.nei ?_
    refine WL.move ?_
    refine WL.gT ?_
    refine WL.move ?_
    refine WL.gT ?_
    refine WL.move ?_
    refine WL.gT ?_
    refine WL.add ?_
    refine WL.gT ?_
    refine WL.nei ?_
    refine WL.pickF ?_
    refine WL.nil ?_
    refine WQ.next ?_
    refine WC.condF rfl rfl ?_
    refine WC.skip ?_
    refine WQ.blockNormal ?_
    refine WQ.next ?_
    refine WC.region ?_
    refine WL.move ?_
    refine WL.add ?_
    refine WL.assign ?_
    refine WL.nil ?_
    refine WQ.again (RC.succ ?_)
    refine WC.seq ?_
    refine WC.seq ?_
    refine WC.region ?_
    refine WL.move ?_
    refine WL.lss ?_
    refine WL.nil ?_
    refine WQ.next ?_
    refine WC.condF rfl rfl ?_
    refine WC.exit (WQ.thenExit (WQ.thenExit (WQ.blockExit (?_))))
    refine WQ.next ?_
    refine WC.seq ?_
    refine WC.seq ?_
    refine WC.region ?_
    refine WL.assign ?_
    refine WL.nil ?_
    refine WQ.next ?_
    refine WC.block ?_
    refine WC.loopA (σ := Nat × S3 × S3 × S3 × FM × Nat) (fun y => [(0, .slice A m c0), (3, .pointer (some ⟨b3, 0, none⟩)), (5, .pointer (some ⟨b5, 0, none⟩)), (9, .int .i64 (y.1 : Int))]) (fun y => [R, pt b3 (.cells (stkC c a s (pN 500)) 30 (0, 0)), row b5 34 [y.2.1.v, y.2.2.1.v, y.2.2.2.1.v], rowR 5 1 y.2.1.v y.2.1.w.length (bvs y.2.1.w), rowR 5 1 y.2.2.1.v y.2.2.1.w.length (bvs y.2.2.1.w), rowR 5 1 y.2.2.2.1.v y.2.2.2.1.w.length (bvs y.2.2.2.1.w), IN s a c (pN 500) y.2.2.2.2.1 (triM y.2.1.w y.2.2.1.w y.2.2.2.1.w) y.2.2.2.2.2 true] ++ F) (fun y => y.1 ≤ m ∧ y.2.1.w.length ≤ 900 * y.1 ∧ y.2.2.1.w.length ≤ 900 * y.1 ∧ y.2.2.2.1.w.length ≤ 900 * y.1 ∧ y.2.2.2.2.2 ≤ 3) (fun y => m - y.1) (0, ⟨[], none, 0⟩, ⟨[], none, 0⟩, ⟨[], none, 0⟩, rootM, 3) ⟨Nat.zero_le _, Nat.zero_le _, Nat.zero_le _, Nat.zero_le _, Nat.le_refl _⟩ ?_
    rintro ⟨i, x0, x1, x2, T00, W0⟩ hy
    obtain ⟨him, hl0, hl1, hl2, hW3⟩ := hy
    simp only at him hl0 hl1 hl2 hW3
    refine WC.seq ?_
    refine WC.seq ?_
    refine WC.region ?_
    refine WL.move ?_
    refine WL.move ?_
    refine WL.lenS ?_ sl22
    refine WL.lss ?_
    refine WL.nil ?_
    refine WQ.next ?_
    refine WC.cond rfl (fun hb => ?_) (fun hb => ?_)
    · have hlt : i < m := by have h : (i : Int) < (m : Int) := of_decide_eq_true hb; omega
      have hil : i < xs.length := by omega
      have hR := hR0.resolve_left (by intro h; subst h; simp at hil)
      rcases A with _ | ⟨ab, ao, asp⟩
      · exact absurd hR (fun h => by have h2 : ints xs = [] := h; simp [ints] at h2; subst h2; simp at hil)
      have hsp : asp = none := hR.1
      subst hsp
      have hxr := hxs _ (List.getElem_mem (show ((i : Nat) : Int).toNat < xs.length by omega))
      have hdv := tdiv_in hxr (show (1 : Int) ≤ 3 by decide)
      refine WC.skip ?_
      refine WQ.next ?_
      refine WC.seq ?_
      refine WC.block ?_
      refine WC.seq ?_
      refine WC.region ?_
      refine WL.move ?_
      refine WL.move ?_
      refine WL.idx1 ?_ so22
      refine WL.ldR (i := ((i : Nat) : Int).toNat) ?_ sc3 hR (ints_get (by omega))
      refine WL.call (hc := Tryz.call18) (sp := alikeRound (n := 3) hxr (by decide)) (h := ?_)
      rintro _ _ ⟨rfl, hk3, rfl⟩
      refine WL.assign ?_
      refine WL.nil ?_
      refine WQ.next ?_
      refine WC.seq ?_
      refine WC.region ?_
      refine WL.move ?_
      refine WL.move ?_
      refine WL.idx1 ?_ so22
      refine WL.ldR (i := ((i : Nat) : Int).toNat) ?_ sc3 hR (ints_get (by omega))
      refine WL.quoT ?_
      refine WL.call (hc := Tryz.call18) (sp := alikeRound (n := 900) hdv (by decide)) (h := ?_)
      rintro _ _ ⟨rfl, hm9, rfl⟩
      obtain ⟨mm, hmm⟩ : ∃ mm, mm = roundI ((xs[((i : Nat) : Int).toNat]'(by omega)).tdiv 3) 900 := ⟨_, rfl⟩
      rw [← hmm] at hm9
      refine WL.cast (d := 59) (u := .int .i64 (mm : Int)) rfl (by rw [hmm]) ?_
      refine WL.move ?_
      refine WL.call (hc := Tryz.call19) (sp := alikeSome (n := mm) (c := i) (by omega) (by omega)) (h := ?_)
      rintro _ _ ⟨bs, rfl, rfl⟩
      refine WL.assign ?_
      refine WL.nil ?_
      refine WQ.next ?_
      refine WC.seq ?_
      refine WC.seq ?_
      rcases (show roundI (xs[((i : Nat) : Int).toNat]'(by omega)) 3 = 0 ∨ roundI (xs[((i : Nat) : Int).toNat]'(by omega)) 3 = 1 ∨ roundI (xs[((i : Nat) : Int).toNat]'(by omega)) 3 = 2 from by omega) with hk | hk | hk
      · refine WC.cast (d := 10) (u := .int .i64 0) rfl (congrArg (Value.int .i64) (by rw [hk]; rfl)) ?_
        have hS := has_small (n := max x0.w.length (x0.w.length + mm)) (by omega)
        have hs0 := has_small (n := x0.w.length) (by omega)
        have hs1 := has_small (n := x1.w.length) (by omega)
        have hs2 := has_small (n := x2.w.length) (by omega)
        refine WC.draw ([pt b3 (.cells (stkC c a s (pN 500)) 30 (0, 0)), row b5 34 [x0.v, x1.v, x2.v]]) [] 23 #[false, false, false, false, false, false, false, false, false, false, false, false, false, false, false, false, false, false, false, false, false, false, false] mixed (by kernel_rfl) NoPanic.autoJ ?_
        refine WD.take (i := 0) #[true, false, false, false, false, false, false, false, false, false, false, false, false, false, false, false, false, false, false, false, false, false, false] rfl (by kernel_rfl) (Qt.fa fo30_2) ?_
        refine WD.take (i := 1) #[true, true, false, false, false, false, false, false, false, false, false, false, false, false, false, false, false, false, false, false, false, false, false] rfl (by kernel_rfl) (Qt.ld sc26) ?_
        refine WD.take (i := 2) #[true, true, true, false, false, false, false, false, false, false, false, false, false, false, false, false, false, false, false, false, false, false, false] rfl (by kernel_rfl) (Qt.move ) ?_
        refine WD.take (i := 3) #[true, true, true, true, false, false, false, false, false, false, false, false, false, false, false, false, false, false, false, false, false, false, false] rfl (by kernel_rfl) ((Qt.add).eq (v' := nI 1) (congrArg (Value.int .i64) (by decide))) ?_
        refine WD.take (i := 4) #[true, true, true, true, true, false, false, false, false, false, false, false, false, false, false, false, false, false, false, false, false, false, false] rfl (by kernel_rfl) (Qt.move ) ?_
        refine WD.take (i := 5) #[true, true, true, true, true, true, false, false, false, false, false, false, false, false, false, false, false, false, false, false, false, false, false] rfl (by kernel_rfl) (Qt.idxA ar34) ?_
        refine WD.take (i := 6) #[true, true, true, true, true, true, true, false, false, false, false, false, false, false, false, false, false, false, false, false, false, false, false] rfl (by kernel_rfl) (Qt.ldL (xs := [x0.v, x1.v, x2.v]) (i := 0) (v := x0.v) sc33 rfl) ?_
        refine WD.take (i := 7) #[true, true, true, true, true, true, true, true, false, false, false, false, false, false, false, false, false, false, false, false, false, false, false] rfl (by kernel_rfl) (Qt.lenS (A := x0.a) (k := x0.w.length) (c := x0.c) sl33) ?_
        refine WD.take (i := 8) #[true, true, true, true, true, true, true, true, true, false, false, false, false, false, false, false, false, false, false, false, false, false, false] rfl (by kernel_rfl) (Qt.move ) ?_
        refine WD.one (i := 9) #[true, true, true, true, true, true, true, true, true, true, false, false, false, false, false, false, false, false, false, false, false, false, false] rfl (by kernel_rfl) fun hnp => ?_
        refine WL.call (hc := Tryz.call20) (sp := nWrite (F0 := T00) (F := triM x0.w x1.w x2.w) (W := W0) (i := 1) (at' := x0.w.length) (f := (1, x0.w)) (bs := someB mm i) ho (tri1 _ _ _) (hrw _ _ (by show W0 + (has (max x0.w.length (x0.w.length + mm)) - has x0.w.length + (mm + 511) / 512 + 10) ≤ 57; omega)) (.inr Reads.buf) (someB_length _ _) (Nat.le_refl _) (by unfold maxLen; omega) (Nat.le_refl _) (by omega) (by rw [tot_tri _ _ _ (by decide)]; show has x0.w.length + has x1.w.length + has x2.w.length + has (max x0.w.length (x0.w.length + mm)) ≤ 250 + has x0.w.length; omega)) (h := ?_)
        rintro _ _ ⟨rfl, rfl⟩
        rw [wrB_end, tri_upd1]
        refine WL.nil (WQ.wd hnp (.inl Am.auto) ?_)
        refine WD.take (i := 10) #[true, true, true, true, true, true, true, true, true, true, true, false, false, false, false, false, false, false, false, false, false, false, false] rfl (by kernel_rfl) (Qt.nei ) ?_
        refine WD.take (i := 11) #[true, true, true, true, true, true, true, true, true, true, true, true, false, false, false, false, false, false, false, false, false, false, false] rfl (by kernel_rfl) (Qt.move ) ?_
        refine WD.takeOn (i := 12) #[true, true, true, true, true, true, true, true, true, true, true, true, true, false, false, false, false, false, false, false, false, false, false] rfl (by kernel_rfl) (Qt.fa fo30_0) ?_
        refine WD.takeOn (i := 13) #[true, true, true, true, true, true, true, true, true, true, true, true, true, true, false, false, false, false, false, false, false, false, false] rfl (by kernel_rfl) (Qt.ld sc24) ?_
        refine WD.one (i := 14) #[true, true, true, true, true, true, true, true, true, true, true, true, true, true, true, false, false, false, false, false, false, false, false] rfl (by kernel_rfl) fun hnp => ?_
        refine WL.gT ?_
        refine WL.call (hc := Tryz.call21) (sp := nCommit (s := s) (a := a) (p := pN 500) (F0 := T00) (F := triM (x0.w ++ someB mm i) x1.w x2.w)) (h := ?_)
        rintro _ _ ⟨rfl, rfl⟩
        refine WL.nil (WQ.wd hnp (.inl Am.auto) ?_)
        refine WD.takeOn (i := 15) #[true, true, true, true, true, true, true, true, true, true, true, true, true, true, true, true, false, false, false, false, false, false, false] rfl (by kernel_rfl) (Qt.nei ) ?_
        refine WD.take (i := 16) #[true, true, true, true, true, true, true, true, true, true, true, true, true, true, true, true, true, false, false, false, false, false, false] rfl (by kernel_rfl) (Qt.pickF ) ?_
        refine WD.take (i := 17) #[true, true, true, true, true, true, true, true, true, true, true, true, true, true, true, true, true, true, false, false, false, false, false] rfl (by kernel_rfl) (Qt.move ) ?_
        refine WD.takeOn (i := 18) #[true, true, true, true, true, true, true, true, true, true, true, true, true, true, true, true, true, true, true, false, false, false, false] rfl (by kernel_rfl) (Qt.fa fo30_0) ?_
        refine WD.takeOn (i := 19) #[true, true, true, true, true, true, true, true, true, true, true, true, true, true, true, true, true, true, true, true, false, false, false] rfl (by kernel_rfl) (Qt.ld sc24) ?_
        refine WD.one (i := 20) #[true, true, true, true, true, true, true, true, true, true, true, true, true, true, true, true, true, true, true, true, true, false, false] rfl (by kernel_rfl) fun hnp => ?_
        refine WL.gT ?_
        refine WL.call (hc := Tryz.call22) (sp := nBegin (s := s) (a := a) (p := pN 500) (F0 := triM (x0.w ++ someB mm i) x1.w x2.w) (F := triM (x0.w ++ someB mm i) x1.w x2.w) (W := 0)) (h := ?_)
        rintro _ _ ⟨rfl, rfl⟩
        refine WL.nil (WQ.wd hnp (.inl Am.auto) ?_)
        refine WD.takeOn (i := 21) #[true, true, true, true, true, true, true, true, true, true, true, true, true, true, true, true, true, true, true, true, true, true, false] rfl (by kernel_rfl) (Qt.nei ) ?_
        refine WD.take (i := 22) #[true, true, true, true, true, true, true, true, true, true, true, true, true, true, true, true, true, true, true, true, true, true, true] rfl (by kernel_rfl) (Qt.pickF ) ?_
        refine WD.done (by kernel_rfl) ?_
        refine WQ.next ?_
        refine WC.condF rfl rfl ?_
        refine WC.skip ?_
        refine WQ.next ?_
        refine WC.region ?_
        refine WL.move ?_
        refine WL.move ?_
        refine WL.idxA ?_ ar34
        refine WL.ldL (xs := [x0.v, x1.v, x2.v]) (i := 0) (v := x0.v) ?_ sc33 rfl
        refine WL.move ?_
        refine WL.append (m := mm) (news := bvs (someB mm i)) (v := x0.v) (k := x0.w.length) (xs := bvs x0.w) so33 (by decide) (by repeat (first | exact .here | apply Rem.there | apply Repl.there | apply Mem.there)) (Reads.buf (g := bs) (e := 5) (k := mm) (xs := bvs (someB mm i))) (by repeat (first | exact .here | apply Rem.there | apply Repl.there | apply Mem.there)) (by rw [bvs_length, someB_length]; omega) (bvs_single _) (by unfold maxLen; omega) (by omega) ⟨_, z5, rfl⟩ (fun vB hvB => ?_)
        refine WL.to (A := rowR 5 1 vB (x0.w.length + mm) (bvs x0.w ++ bvs (someB mm i))) (A' := rowR 5 1 vB ((x0.w ++ someB mm i)).length (bvs ((x0.w ++ someB mm i)))) (fun h hh => by rw [List.length_append, someB_length, bvs_append]; exact hh) ?_
        refine WL.fact (rowR_shape (el := 5) (size := 1) (v := vB) (k := ((x0.w ++ someB mm i)).length) (xs := bvs ((x0.w ++ someB mm i)))) (fun ⟨A2, c2, hv2, hR2, hk2, hc2, hl2⟩ => ?_)
        subst hv2
        refine WL.idxA ?_ ar34
        refine WL.stL (xs := [x0.v, x1.v, x2.v]) (i := 0) ?_ sc33 (Nat.le_of_ble_eq_true rfl)
        refine WL.nil ?_
        refine WQ.blockNormal ?_
        refine WQ.next ?_
        refine WC.region ?_
        refine WL.move ?_
        refine WL.add ?_
        refine WL.assign ?_
        refine WL.nil ?_
        refine WQ.cast (d := 9) (u := .int .i64 ((i + 1 : Nat) : Int)) rfl (congrArg (Value.int .i64) (by omega)) ?_
        exact WQ.back (i + 1, ⟨(x0.w ++ someB mm i), A2, c2⟩, x1, x2, triM (x0.w ++ someB mm i) x1.w x2.w, 0) ⟨by show i + 1 ≤ m; omega, by show ((x0.w ++ someB mm i)).length ≤ 900 * (i + 1); rw [List.length_append, someB_length]; omega, by show x1.w.length ≤ 900 * (i + 1); omega, by show x2.w.length ≤ 900 * (i + 1); omega, Nat.zero_le _⟩ (by show m - (i + 1) < m - i; omega)
      · refine WC.cast (d := 10) (u := .int .i64 1) rfl (congrArg (Value.int .i64) (by rw [hk]; rfl)) ?_
        have hS := has_small (n := max x1.w.length (x1.w.length + mm)) (by omega)
        have hs0 := has_small (n := x0.w.length) (by omega)
        have hs1 := has_small (n := x1.w.length) (by omega)
        have hs2 := has_small (n := x2.w.length) (by omega)
        refine WC.draw ([pt b3 (.cells (stkC c a s (pN 500)) 30 (0, 0)), row b5 34 [x0.v, x1.v, x2.v]]) [] 23 #[false, false, false, false, false, false, false, false, false, false, false, false, false, false, false, false, false, false, false, false, false, false, false] mixed (by kernel_rfl) NoPanic.autoJ ?_
        refine WD.take (i := 0) #[true, false, false, false, false, false, false, false, false, false, false, false, false, false, false, false, false, false, false, false, false, false, false] rfl (by kernel_rfl) (Qt.fa fo30_2) ?_
        refine WD.take (i := 1) #[true, true, false, false, false, false, false, false, false, false, false, false, false, false, false, false, false, false, false, false, false, false, false] rfl (by kernel_rfl) (Qt.ld sc26) ?_
        refine WD.take (i := 2) #[true, true, true, false, false, false, false, false, false, false, false, false, false, false, false, false, false, false, false, false, false, false, false] rfl (by kernel_rfl) (Qt.move ) ?_
        refine WD.take (i := 3) #[true, true, true, true, false, false, false, false, false, false, false, false, false, false, false, false, false, false, false, false, false, false, false] rfl (by kernel_rfl) ((Qt.add).eq (v' := nI 2) (congrArg (Value.int .i64) (by decide))) ?_
        refine WD.take (i := 4) #[true, true, true, true, true, false, false, false, false, false, false, false, false, false, false, false, false, false, false, false, false, false, false] rfl (by kernel_rfl) (Qt.move ) ?_
        refine WD.take (i := 5) #[true, true, true, true, true, true, false, false, false, false, false, false, false, false, false, false, false, false, false, false, false, false, false] rfl (by kernel_rfl) (Qt.idxA ar34) ?_
        refine WD.take (i := 6) #[true, true, true, true, true, true, true, false, false, false, false, false, false, false, false, false, false, false, false, false, false, false, false] rfl (by kernel_rfl) (Qt.ldL (xs := [x0.v, x1.v, x2.v]) (i := 1) (v := x1.v) sc33 rfl) ?_
        refine WD.take (i := 7) #[true, true, true, true, true, true, true, true, false, false, false, false, false, false, false, false, false, false, false, false, false, false, false] rfl (by kernel_rfl) (Qt.lenS (A := x1.a) (k := x1.w.length) (c := x1.c) sl33) ?_
        refine WD.take (i := 8) #[true, true, true, true, true, true, true, true, true, false, false, false, false, false, false, false, false, false, false, false, false, false, false] rfl (by kernel_rfl) (Qt.move ) ?_
        refine WD.one (i := 9) #[true, true, true, true, true, true, true, true, true, true, false, false, false, false, false, false, false, false, false, false, false, false, false] rfl (by kernel_rfl) fun hnp => ?_
        refine WL.call (hc := Tryz.call20) (sp := nWrite (F0 := T00) (F := triM x0.w x1.w x2.w) (W := W0) (i := 2) (at' := x1.w.length) (f := (1, x1.w)) (bs := someB mm i) ho (tri2 _ _ _) (hrw _ _ (by show W0 + (has (max x1.w.length (x1.w.length + mm)) - has x1.w.length + (mm + 511) / 512 + 10) ≤ 57; omega)) (.inr Reads.buf) (someB_length _ _) (Nat.le_refl _) (by unfold maxLen; omega) (Nat.le_refl _) (by omega) (by rw [tot_tri _ _ _ (by decide)]; show has x0.w.length + has x1.w.length + has x2.w.length + has (max x1.w.length (x1.w.length + mm)) ≤ 250 + has x1.w.length; omega)) (h := ?_)
        rintro _ _ ⟨rfl, rfl⟩
        rw [wrB_end, tri_upd2]
        refine WL.nil (WQ.wd hnp (.inl Am.auto) ?_)
        refine WD.take (i := 10) #[true, true, true, true, true, true, true, true, true, true, true, false, false, false, false, false, false, false, false, false, false, false, false] rfl (by kernel_rfl) (Qt.nei ) ?_
        refine WD.take (i := 11) #[true, true, true, true, true, true, true, true, true, true, true, true, false, false, false, false, false, false, false, false, false, false, false] rfl (by kernel_rfl) (Qt.move ) ?_
        refine WD.takeOn (i := 12) #[true, true, true, true, true, true, true, true, true, true, true, true, true, false, false, false, false, false, false, false, false, false, false] rfl (by kernel_rfl) (Qt.fa fo30_0) ?_
        refine WD.takeOn (i := 13) #[true, true, true, true, true, true, true, true, true, true, true, true, true, true, false, false, false, false, false, false, false, false, false] rfl (by kernel_rfl) (Qt.ld sc24) ?_
        refine WD.one (i := 14) #[true, true, true, true, true, true, true, true, true, true, true, true, true, true, true, false, false, false, false, false, false, false, false] rfl (by kernel_rfl) fun hnp => ?_
        refine WL.gT ?_
        refine WL.call (hc := Tryz.call21) (sp := nCommit (s := s) (a := a) (p := pN 500) (F0 := T00) (F := triM x0.w (x1.w ++ someB mm i) x2.w)) (h := ?_)
        rintro _ _ ⟨rfl, rfl⟩
        refine WL.nil (WQ.wd hnp (.inl Am.auto) ?_)
        refine WD.takeOn (i := 15) #[true, true, true, true, true, true, true, true, true, true, true, true, true, true, true, true, false, false, false, false, false, false, false] rfl (by kernel_rfl) (Qt.nei ) ?_
        refine WD.take (i := 16) #[true, true, true, true, true, true, true, true, true, true, true, true, true, true, true, true, true, false, false, false, false, false, false] rfl (by kernel_rfl) (Qt.pickF ) ?_
        refine WD.take (i := 17) #[true, true, true, true, true, true, true, true, true, true, true, true, true, true, true, true, true, true, false, false, false, false, false] rfl (by kernel_rfl) (Qt.move ) ?_
        refine WD.takeOn (i := 18) #[true, true, true, true, true, true, true, true, true, true, true, true, true, true, true, true, true, true, true, false, false, false, false] rfl (by kernel_rfl) (Qt.fa fo30_0) ?_
        refine WD.takeOn (i := 19) #[true, true, true, true, true, true, true, true, true, true, true, true, true, true, true, true, true, true, true, true, false, false, false] rfl (by kernel_rfl) (Qt.ld sc24) ?_
        refine WD.one (i := 20) #[true, true, true, true, true, true, true, true, true, true, true, true, true, true, true, true, true, true, true, true, true, false, false] rfl (by kernel_rfl) fun hnp => ?_
        refine WL.gT ?_
        refine WL.call (hc := Tryz.call22) (sp := nBegin (s := s) (a := a) (p := pN 500) (F0 := triM x0.w (x1.w ++ someB mm i) x2.w) (F := triM x0.w (x1.w ++ someB mm i) x2.w) (W := 0)) (h := ?_)
        rintro _ _ ⟨rfl, rfl⟩
        refine WL.nil (WQ.wd hnp (.inl Am.auto) ?_)
        refine WD.takeOn (i := 21) #[true, true, true, true, true, true, true, true, true, true, true, true, true, true, true, true, true, true, true, true, true, true, false] rfl (by kernel_rfl) (Qt.nei ) ?_
        refine WD.take (i := 22) #[true, true, true, true, true, true, true, true, true, true, true, true, true, true, true, true, true, true, true, true, true, true, true] rfl (by kernel_rfl) (Qt.pickF ) ?_
        refine WD.done (by kernel_rfl) ?_
        refine WQ.next ?_
        refine WC.condF rfl rfl ?_
        refine WC.skip ?_
        refine WQ.next ?_
        refine WC.region ?_
        refine WL.move ?_
        refine WL.move ?_
        refine WL.idxA ?_ ar34
        refine WL.ldL (xs := [x0.v, x1.v, x2.v]) (i := 1) (v := x1.v) ?_ sc33 rfl
        refine WL.move ?_
        refine WL.append (m := mm) (news := bvs (someB mm i)) (v := x1.v) (k := x1.w.length) (xs := bvs x1.w) so33 (by decide) (by repeat (first | exact .here | apply Rem.there | apply Repl.there | apply Mem.there)) (Reads.buf (g := bs) (e := 5) (k := mm) (xs := bvs (someB mm i))) (by repeat (first | exact .here | apply Rem.there | apply Repl.there | apply Mem.there)) (by rw [bvs_length, someB_length]; omega) (bvs_single _) (by unfold maxLen; omega) (by omega) ⟨_, z5, rfl⟩ (fun vB hvB => ?_)
        refine WL.to (A := rowR 5 1 vB (x1.w.length + mm) (bvs x1.w ++ bvs (someB mm i))) (A' := rowR 5 1 vB ((x1.w ++ someB mm i)).length (bvs ((x1.w ++ someB mm i)))) (fun h hh => by rw [List.length_append, someB_length, bvs_append]; exact hh) ?_
        refine WL.fact (rowR_shape (el := 5) (size := 1) (v := vB) (k := ((x1.w ++ someB mm i)).length) (xs := bvs ((x1.w ++ someB mm i)))) (fun ⟨A2, c2, hv2, hR2, hk2, hc2, hl2⟩ => ?_)
        subst hv2
        refine WL.idxA ?_ ar34
        refine WL.stL (xs := [x0.v, x1.v, x2.v]) (i := 1) ?_ sc33 (Nat.le_of_ble_eq_true rfl)
        refine WL.nil ?_
        refine WQ.blockNormal ?_
        refine WQ.next ?_
        refine WC.region ?_
        refine WL.move ?_
        refine WL.add ?_
        refine WL.assign ?_
        refine WL.nil ?_
        refine WQ.cast (d := 9) (u := .int .i64 ((i + 1 : Nat) : Int)) rfl (congrArg (Value.int .i64) (by omega)) ?_
        exact WQ.back (i + 1, x0, ⟨(x1.w ++ someB mm i), A2, c2⟩, x2, triM x0.w (x1.w ++ someB mm i) x2.w, 0) ⟨by show i + 1 ≤ m; omega, by show x0.w.length ≤ 900 * (i + 1); omega, by show ((x1.w ++ someB mm i)).length ≤ 900 * (i + 1); rw [List.length_append, someB_length]; omega, by show x2.w.length ≤ 900 * (i + 1); omega, Nat.zero_le _⟩ (by show m - (i + 1) < m - i; omega)
      · refine WC.cast (d := 10) (u := .int .i64 2) rfl (congrArg (Value.int .i64) (by rw [hk]; rfl)) ?_
        have hS := has_small (n := max x2.w.length (x2.w.length + mm)) (by omega)
        have hs0 := has_small (n := x0.w.length) (by omega)
        have hs1 := has_small (n := x1.w.length) (by omega)
        have hs2 := has_small (n := x2.w.length) (by omega)
        refine WC.draw ([pt b3 (.cells (stkC c a s (pN 500)) 30 (0, 0)), row b5 34 [x0.v, x1.v, x2.v]]) [] 23 #[false, false, false, false, false, false, false, false, false, false, false, false, false, false, false, false, false, false, false, false, false, false, false] mixed (by kernel_rfl) NoPanic.autoJ ?_
        refine WD.take (i := 0) #[true, false, false, false, false, false, false, false, false, false, false, false, false, false, false, false, false, false, false, false, false, false, false] rfl (by kernel_rfl) (Qt.fa fo30_2) ?_
        refine WD.take (i := 1) #[true, true, false, false, false, false, false, false, false, false, false, false, false, false, false, false, false, false, false, false, false, false, false] rfl (by kernel_rfl) (Qt.ld sc26) ?_
        refine WD.take (i := 2) #[true, true, true, false, false, false, false, false, false, false, false, false, false, false, false, false, false, false, false, false, false, false, false] rfl (by kernel_rfl) (Qt.move ) ?_
        refine WD.take (i := 3) #[true, true, true, true, false, false, false, false, false, false, false, false, false, false, false, false, false, false, false, false, false, false, false] rfl (by kernel_rfl) ((Qt.add).eq (v' := nI 3) (congrArg (Value.int .i64) (by decide))) ?_
        refine WD.take (i := 4) #[true, true, true, true, true, false, false, false, false, false, false, false, false, false, false, false, false, false, false, false, false, false, false] rfl (by kernel_rfl) (Qt.move ) ?_
        refine WD.take (i := 5) #[true, true, true, true, true, true, false, false, false, false, false, false, false, false, false, false, false, false, false, false, false, false, false] rfl (by kernel_rfl) (Qt.idxA ar34) ?_
        refine WD.take (i := 6) #[true, true, true, true, true, true, true, false, false, false, false, false, false, false, false, false, false, false, false, false, false, false, false] rfl (by kernel_rfl) (Qt.ldL (xs := [x0.v, x1.v, x2.v]) (i := 2) (v := x2.v) sc33 rfl) ?_
        refine WD.take (i := 7) #[true, true, true, true, true, true, true, true, false, false, false, false, false, false, false, false, false, false, false, false, false, false, false] rfl (by kernel_rfl) (Qt.lenS (A := x2.a) (k := x2.w.length) (c := x2.c) sl33) ?_
        refine WD.take (i := 8) #[true, true, true, true, true, true, true, true, true, false, false, false, false, false, false, false, false, false, false, false, false, false, false] rfl (by kernel_rfl) (Qt.move ) ?_
        refine WD.one (i := 9) #[true, true, true, true, true, true, true, true, true, true, false, false, false, false, false, false, false, false, false, false, false, false, false] rfl (by kernel_rfl) fun hnp => ?_
        refine WL.call (hc := Tryz.call20) (sp := nWrite (F0 := T00) (F := triM x0.w x1.w x2.w) (W := W0) (i := 3) (at' := x2.w.length) (f := (1, x2.w)) (bs := someB mm i) ho (tri3 _ _ _) (hrw _ _ (by show W0 + (has (max x2.w.length (x2.w.length + mm)) - has x2.w.length + (mm + 511) / 512 + 10) ≤ 57; omega)) (.inr Reads.buf) (someB_length _ _) (Nat.le_refl _) (by unfold maxLen; omega) (Nat.le_refl _) (by omega) (by rw [tot_tri _ _ _ (by decide)]; show has x0.w.length + has x1.w.length + has x2.w.length + has (max x2.w.length (x2.w.length + mm)) ≤ 250 + has x2.w.length; omega)) (h := ?_)
        rintro _ _ ⟨rfl, rfl⟩
        rw [wrB_end, tri_upd3]
        refine WL.nil (WQ.wd hnp (.inl Am.auto) ?_)
        refine WD.take (i := 10) #[true, true, true, true, true, true, true, true, true, true, true, false, false, false, false, false, false, false, false, false, false, false, false] rfl (by kernel_rfl) (Qt.nei ) ?_
        refine WD.take (i := 11) #[true, true, true, true, true, true, true, true, true, true, true, true, false, false, false, false, false, false, false, false, false, false, false] rfl (by kernel_rfl) (Qt.move ) ?_
        refine WD.takeOn (i := 12) #[true, true, true, true, true, true, true, true, true, true, true, true, true, false, false, false, false, false, false, false, false, false, false] rfl (by kernel_rfl) (Qt.fa fo30_0) ?_
        refine WD.takeOn (i := 13) #[true, true, true, true, true, true, true, true, true, true, true, true, true, true, false, false, false, false, false, false, false, false, false] rfl (by kernel_rfl) (Qt.ld sc24) ?_
        refine WD.one (i := 14) #[true, true, true, true, true, true, true, true, true, true, true, true, true, true, true, false, false, false, false, false, false, false, false] rfl (by kernel_rfl) fun hnp => ?_
        refine WL.gT ?_
        refine WL.call (hc := Tryz.call21) (sp := nCommit (s := s) (a := a) (p := pN 500) (F0 := T00) (F := triM x0.w x1.w (x2.w ++ someB mm i))) (h := ?_)
        rintro _ _ ⟨rfl, rfl⟩
        refine WL.nil (WQ.wd hnp (.inl Am.auto) ?_)
        refine WD.takeOn (i := 15) #[true, true, true, true, true, true, true, true, true, true, true, true, true, true, true, true, false, false, false, false, false, false, false] rfl (by kernel_rfl) (Qt.nei ) ?_
        refine WD.take (i := 16) #[true, true, true, true, true, true, true, true, true, true, true, true, true, true, true, true, true, false, false, false, false, false, false] rfl (by kernel_rfl) (Qt.pickF ) ?_
        refine WD.take (i := 17) #[true, true, true, true, true, true, true, true, true, true, true, true, true, true, true, true, true, true, false, false, false, false, false] rfl (by kernel_rfl) (Qt.move ) ?_
        refine WD.takeOn (i := 18) #[true, true, true, true, true, true, true, true, true, true, true, true, true, true, true, true, true, true, true, false, false, false, false] rfl (by kernel_rfl) (Qt.fa fo30_0) ?_
        refine WD.takeOn (i := 19) #[true, true, true, true, true, true, true, true, true, true, true, true, true, true, true, true, true, true, true, true, false, false, false] rfl (by kernel_rfl) (Qt.ld sc24) ?_
        refine WD.one (i := 20) #[true, true, true, true, true, true, true, true, true, true, true, true, true, true, true, true, true, true, true, true, true, false, false] rfl (by kernel_rfl) fun hnp => ?_
        refine WL.gT ?_
        refine WL.call (hc := Tryz.call22) (sp := nBegin (s := s) (a := a) (p := pN 500) (F0 := triM x0.w x1.w (x2.w ++ someB mm i)) (F := triM x0.w x1.w (x2.w ++ someB mm i)) (W := 0)) (h := ?_)
        rintro _ _ ⟨rfl, rfl⟩
        refine WL.nil (WQ.wd hnp (.inl Am.auto) ?_)
        refine WD.takeOn (i := 21) #[true, true, true, true, true, true, true, true, true, true, true, true, true, true, true, true, true, true, true, true, true, true, false] rfl (by kernel_rfl) (Qt.nei ) ?_
        refine WD.take (i := 22) #[true, true, true, true, true, true, true, true, true, true, true, true, true, true, true, true, true, true, true, true, true, true, true] rfl (by kernel_rfl) (Qt.pickF ) ?_
        refine WD.done (by kernel_rfl) ?_
        refine WQ.next ?_
        refine WC.condF rfl rfl ?_
        refine WC.skip ?_
        refine WQ.next ?_
        refine WC.region ?_
        refine WL.move ?_
        refine WL.move ?_
        refine WL.idxA ?_ ar34
        refine WL.ldL (xs := [x0.v, x1.v, x2.v]) (i := 2) (v := x2.v) ?_ sc33 rfl
        refine WL.move ?_
        refine WL.append (m := mm) (news := bvs (someB mm i)) (v := x2.v) (k := x2.w.length) (xs := bvs x2.w) so33 (by decide) (by repeat (first | exact .here | apply Rem.there | apply Repl.there | apply Mem.there)) (Reads.buf (g := bs) (e := 5) (k := mm) (xs := bvs (someB mm i))) (by repeat (first | exact .here | apply Rem.there | apply Repl.there | apply Mem.there)) (by rw [bvs_length, someB_length]; omega) (bvs_single _) (by unfold maxLen; omega) (by omega) ⟨_, z5, rfl⟩ (fun vB hvB => ?_)
        refine WL.to (A := rowR 5 1 vB (x2.w.length + mm) (bvs x2.w ++ bvs (someB mm i))) (A' := rowR 5 1 vB ((x2.w ++ someB mm i)).length (bvs ((x2.w ++ someB mm i)))) (fun h hh => by rw [List.length_append, someB_length, bvs_append]; exact hh) ?_
        refine WL.fact (rowR_shape (el := 5) (size := 1) (v := vB) (k := ((x2.w ++ someB mm i)).length) (xs := bvs ((x2.w ++ someB mm i)))) (fun ⟨A2, c2, hv2, hR2, hk2, hc2, hl2⟩ => ?_)
        subst hv2
        refine WL.idxA ?_ ar34
        refine WL.stL (xs := [x0.v, x1.v, x2.v]) (i := 2) ?_ sc33 (Nat.le_of_ble_eq_true rfl)
        refine WL.nil ?_
        refine WQ.blockNormal ?_
        refine WQ.next ?_
        refine WC.region ?_
        refine WL.move ?_
        refine WL.add ?_
        refine WL.assign ?_
        refine WL.nil ?_
        refine WQ.cast (d := 9) (u := .int .i64 ((i + 1 : Nat) : Int)) rfl (congrArg (Value.int .i64) (by omega)) ?_
        exact WQ.back (i + 1, x0, x1, ⟨(x2.w ++ someB mm i), A2, c2⟩, triM x0.w x1.w (x2.w ++ someB mm i), 0) ⟨by show i + 1 ≤ m; omega, by show x0.w.length ≤ 900 * (i + 1); omega, by show x1.w.length ≤ 900 * (i + 1); omega, by show ((x2.w ++ someB mm i)).length ≤ 900 * (i + 1); rw [List.length_append, someB_length]; omega, Nat.zero_le _⟩ (by show m - (i + 1) < m - i; omega)
    · have hge : ¬ i < m := by have h : ¬ (i : Int) < (m : Int) := of_decide_eq_false hb; omega
      refine WC.exit (WQ.thenExit (WQ.thenExit (WQ.blockExit (?_))))
      refine WQ.next ?_
      refine WC.seq ?_
      refine WC.seq ?_
      refine WC.region ?_
      refine WL.assign ?_
      refine WL.nil ?_
      refine WQ.next ?_
      refine WC.block ?_
      refine WC.loopN 4 (RC.succ ?_)
      refine WC.seq ?_
      refine WC.seq ?_
      refine WC.region ?_
      refine WL.move ?_
      refine WL.lss ?_
      refine WL.nil ?_
      refine WQ.next ?_
      refine WC.condT rfl rfl ?_
      refine WC.skip ?_
      refine WQ.next ?_
      refine WC.seq ?_
      refine WC.block ?_
      refine WC.seq ?_
      refine WC.region ?_
      refine WL.fa ?_ fo30_2
      refine WL.ld ?_ sc26
      refine WL.move ?_
      refine WL.add ?_
      refine WL.call (hc := Tryz.call23) (sp := nRead (F0 := T00) (F := triM x0.w x1.w x2.w) (i := 1) (at' := 0) (k := 70656) (f := (1, x0.w)) ho (tri1 _ _ _) (by decide) (by decide)) (h := ?_)
      rintro _ _ ⟨u0, rfl, rfl⟩
      have hgot0 : (x0.w.drop 0).take 70656 = x0.w := by rw [List.drop_zero, List.take_of_length_le (by omega)]
      simp only [hgot0]
      refine WL.fact (rowR_shape (el := 5) (size := 1) (v := u0) (k := x0.w.length) (xs := bvs x0.w)) (fun ⟨B0, d0, hv0, hR0, _, _, _⟩ => ?_)
      subst hv0
      refine WL.fact (rowR_shape (el := 5) (size := 1) (v := x0.v) (k := x0.w.length) (xs := bvs x0.w)) (fun ⟨E0, f0, hw0, hS0, _, _, _⟩ => ?_)
      injection hw0 with he0 _ hf0
      subst he0
      subst hf0
      refine WL.move ?_
      refine WL.extract ?_
      refine WL.extract ?_
      refine WL.assign ?_
      refine WL.assign ?_
      refine WL.nil ?_
      refine WQ.next ?_
      refine WC.seq ?_
      refine WC.region ?_
      refine WL.move ?_
      refine WL.nei ?_
      refine WL.move ?_
      refine WL.gT ?_
      refine WL.move ?_
      refine WL.gT ?_
      refine WL.move ?_
      refine WL.gT ?_
      refine WL.idxA ?_ ar34
      refine WL.gT ?_
      refine WL.ldL (xs := [x0.v, x1.v, x2.v]) (i := 0) (v := x0.v) ?_ sc33 rfl
      refine WL.gT ?_
      refine WL.call (hc := Tryz.call24) (sp := alikeBytes (R := rowR 5 1 (.slice B0 x0.w.length d0) x0.w.length (bvs x0.w)) (R' := rowR 5 1 x0.v x0.w.length (bvs x0.w)) (xs := x0.w) (ys := x0.w) (.inr hR0) (.inr hS0) rfl rfl (by omega)) (h := ?_)
      rintro _ _ ⟨rfl, rfl⟩
      refine WL.cast (d := 111) (u := .bool true) rfl (congrArg Value.bool (decide_eq_true rfl)) ?_
      refine WL.gT ?_
      refine WL.not ?_
      refine WL.pickF ?_
      refine WL.nil ?_
      refine WQ.next ?_
      refine WC.condF rfl rfl ?_
      refine WC.skip ?_
      refine WQ.blockNormal ?_
      refine WQ.next ?_
      refine WC.region ?_
      refine WL.move ?_
      refine WL.add ?_
      refine WL.assign ?_
      refine WL.nil ?_
      refine WQ.again (RC.succ ?_)
      refine WC.seq ?_
      refine WC.seq ?_
      refine WC.region ?_
      refine WL.move ?_
      refine WL.lss ?_
      refine WL.nil ?_
      refine WQ.next ?_
      refine WC.condT rfl rfl ?_
      refine WC.skip ?_
      refine WQ.next ?_
      refine WC.seq ?_
      refine WC.block ?_
      refine WC.seq ?_
      refine WC.region ?_
      refine WL.fa ?_ fo30_2
      refine WL.ld ?_ sc26
      refine WL.move ?_
      refine WL.add ?_
      refine WL.call (hc := Tryz.call23) (sp := nRead (F0 := T00) (F := triM x0.w x1.w x2.w) (i := 2) (at' := 0) (k := 70656) (f := (1, x1.w)) ho (tri2 _ _ _) (by decide) (by decide)) (h := ?_)
      rintro _ _ ⟨u1, rfl, rfl⟩
      have hgot1 : (x1.w.drop 0).take 70656 = x1.w := by rw [List.drop_zero, List.take_of_length_le (by omega)]
      simp only [hgot1]
      refine WL.fact (rowR_shape (el := 5) (size := 1) (v := u1) (k := x1.w.length) (xs := bvs x1.w)) (fun ⟨B1, d1, hv1, hR1, _, _, _⟩ => ?_)
      subst hv1
      refine WL.fact (rowR_shape (el := 5) (size := 1) (v := x1.v) (k := x1.w.length) (xs := bvs x1.w)) (fun ⟨E1, f1, hw1, hS1, _, _, _⟩ => ?_)
      injection hw1 with he1 _ hf1
      subst he1
      subst hf1
      refine WL.move ?_
      refine WL.extract ?_
      refine WL.extract ?_
      refine WL.assign ?_
      refine WL.assign ?_
      refine WL.nil ?_
      refine WQ.next ?_
      refine WC.seq ?_
      refine WC.region ?_
      refine WL.move ?_
      refine WL.nei ?_
      refine WL.move ?_
      refine WL.gT ?_
      refine WL.move ?_
      refine WL.gT ?_
      refine WL.move ?_
      refine WL.gT ?_
      refine WL.idxA ?_ ar34
      refine WL.gT ?_
      refine WL.ldL (xs := [x0.v, x1.v, x2.v]) (i := 1) (v := x1.v) ?_ sc33 rfl
      refine WL.gT ?_
      refine WL.call (hc := Tryz.call24) (sp := alikeBytes (R := rowR 5 1 (.slice B1 x1.w.length d1) x1.w.length (bvs x1.w)) (R' := rowR 5 1 x1.v x1.w.length (bvs x1.w)) (xs := x1.w) (ys := x1.w) (.inr hR1) (.inr hS1) rfl rfl (by omega)) (h := ?_)
      rintro _ _ ⟨rfl, rfl⟩
      refine WL.cast (d := 111) (u := .bool true) rfl (congrArg Value.bool (decide_eq_true rfl)) ?_
      refine WL.gT ?_
      refine WL.not ?_
      refine WL.pickF ?_
      refine WL.nil ?_
      refine WQ.next ?_
      refine WC.condF rfl rfl ?_
      refine WC.skip ?_
      refine WQ.blockNormal ?_
      refine WQ.next ?_
      refine WC.region ?_
      refine WL.move ?_
      refine WL.add ?_
      refine WL.assign ?_
      refine WL.nil ?_
      refine WQ.again (RC.succ ?_)
      refine WC.seq ?_
      refine WC.seq ?_
      refine WC.region ?_
      refine WL.move ?_
      refine WL.lss ?_
      refine WL.nil ?_
      refine WQ.next ?_
      refine WC.condT rfl rfl ?_
      refine WC.skip ?_
      refine WQ.next ?_
      refine WC.seq ?_
      refine WC.block ?_
      refine WC.seq ?_
      refine WC.region ?_
      refine WL.fa ?_ fo30_2
      refine WL.ld ?_ sc26
      refine WL.move ?_
      refine WL.add ?_
      refine WL.call (hc := Tryz.call23) (sp := nRead (F0 := T00) (F := triM x0.w x1.w x2.w) (i := 3) (at' := 0) (k := 70656) (f := (1, x2.w)) ho (tri3 _ _ _) (by decide) (by decide)) (h := ?_)
      rintro _ _ ⟨u2, rfl, rfl⟩
      have hgot2 : (x2.w.drop 0).take 70656 = x2.w := by rw [List.drop_zero, List.take_of_length_le (by omega)]
      simp only [hgot2]
      refine WL.fact (rowR_shape (el := 5) (size := 1) (v := u2) (k := x2.w.length) (xs := bvs x2.w)) (fun ⟨B2, d2, hv2, hR2, _, _, _⟩ => ?_)
      subst hv2
      refine WL.fact (rowR_shape (el := 5) (size := 1) (v := x2.v) (k := x2.w.length) (xs := bvs x2.w)) (fun ⟨E2, f2, hw2, hS2, _, _, _⟩ => ?_)
      injection hw2 with he2 _ hf2
      subst he2
      subst hf2
      refine WL.move ?_
      refine WL.extract ?_
      refine WL.extract ?_
      refine WL.assign ?_
      refine WL.assign ?_
      refine WL.nil ?_
      refine WQ.next ?_
      refine WC.seq ?_
      refine WC.region ?_
      refine WL.move ?_
      refine WL.nei ?_
      refine WL.move ?_
      refine WL.gT ?_
      refine WL.move ?_
      refine WL.gT ?_
      refine WL.move ?_
      refine WL.gT ?_
      refine WL.idxA ?_ ar34
      refine WL.gT ?_
      refine WL.ldL (xs := [x0.v, x1.v, x2.v]) (i := 2) (v := x2.v) ?_ sc33 rfl
      refine WL.gT ?_
      refine WL.call (hc := Tryz.call24) (sp := alikeBytes (R := rowR 5 1 (.slice B2 x2.w.length d2) x2.w.length (bvs x2.w)) (R' := rowR 5 1 x2.v x2.w.length (bvs x2.w)) (xs := x2.w) (ys := x2.w) (.inr hR2) (.inr hS2) rfl rfl (by omega)) (h := ?_)
      rintro _ _ ⟨rfl, rfl⟩
      refine WL.cast (d := 111) (u := .bool true) rfl (congrArg Value.bool (decide_eq_true rfl)) ?_
      refine WL.gT ?_
      refine WL.not ?_
      refine WL.pickF ?_
      refine WL.nil ?_
      refine WQ.next ?_
      refine WC.condF rfl rfl ?_
      refine WC.skip ?_
      refine WQ.blockNormal ?_
      refine WQ.next ?_
      refine WC.region ?_
      refine WL.move ?_
      refine WL.add ?_
      refine WL.assign ?_
      refine WL.nil ?_
      refine WQ.again (RC.succ ?_)
      refine WC.seq ?_
      refine WC.seq ?_
      refine WC.region ?_
      refine WL.move ?_
      refine WL.lss ?_
      refine WL.nil ?_
      refine WQ.next ?_
      refine WC.condF rfl rfl ?_
      refine WC.exit (WQ.thenExit (WQ.thenExit (WQ.blockExit (?_))))
      refine WQ.next ?_
      refine WC.seq ?_
      refine WC.region ?_
      refine WL.call (hc := Tryz.call15) (sp := l8Awake) (h := ?_)
      rintro _ _ ⟨rfl, rfl⟩
      refine WL.assign ?_
      refine WL.nil ?_
      refine WQ.next ?_
      refine WC.ret (?_)
      exact WQ.ret1 (h1 := .tmp (t := 2) rfl) ⟨_, ⟨rfl, rfl⟩, Am.auto⟩

end Go.Proofs.YtedmihapieleaaaGreat
