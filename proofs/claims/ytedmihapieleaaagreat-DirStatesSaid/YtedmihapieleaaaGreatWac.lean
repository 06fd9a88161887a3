/- Walks of bollardalike: Some, Bytes, Round. -/
import Derived.Test.YtedmihapieleaaaGreatFa
import Derived.Test.YtedmihapieleaaaGreatSo
import Derived.Test.YtedmihapieleaaaGreatWaa
import Derived.KernelRfl
set_option linter.unusedVariables false
set_option linter.unusedSimpArgs false
namespace Go.Proofs.YtedmihapieleaaaGreat
open Go

def someB (n c : Nat) : Bytes := (List.range n).map fun i => UInt8.ofNat (c + i / 7)
theorem someB_length (n c : Nat) : (someB n c).length = n := by simp [someB]
def partB (f : Nat → UInt8) (n k : Nat) : Bytes := (List.range n).map fun j => if j < k then f j else 0
theorem partB_length (f : Nat → UInt8) (n k : Nat) : (partB f n k).length = n := by simp [partB]
theorem partB_zero (f : Nat → UInt8) (n : Nat) : partB f n 0 = List.replicate n 0 := by
  unfold partB
  simp only [Nat.not_lt_zero, if_false]
  rw [List.map_const', List.length_range]
theorem partB_all (f : Nat → UInt8) (n : Nat) : partB f n n = (List.range n).map f := by
  unfold partB
  apply List.map_congr_left
  intro j hj
  rw [if_pos (List.mem_range.1 hj)]
theorem partB_set (f : Nat → UInt8) {n k : Nat} (h : k < n) : (partB f n k).set k (f k) = partB f n (k + 1) := by
  apply List.ext_getElem
  · simp [partB]
  · intro j h1 h2
    simp only [partB, List.getElem_set, List.getElem_map, List.getElem_range]
    by_cases hj : k = j
    · subst hj; rw [if_pos rfl, if_pos (by omega)]
    · rw [if_neg hj]
      by_cases h3 : j < k
      · rw [if_pos h3, if_pos (by omega)]
      · rw [if_neg h3, if_neg (by omega)]
theorem wrap_ofNat (v : Nat) : Value.int .u8 (IntKind.u8.wrap (v : Int)) = bv (UInt8.ofNat v) := by
  unfold bv
  rw [IntKind.wrap_u8, UInt8.toNat_ofNat']
  congr 1
/-- A number from 0 to ahead of n. -/
def roundI (k : Int) (n : Int) : Nat := (k % n).toNat

theorem alikeSome {n c : Nat} (hn : n ≤ 100000) (hc : c ≤ 100000) : Spec Tryz.prog 19 #[.int .i64 (n : Int), .int .i64 (c : Int)] [] fun F v M => ∃ b, v = .slice (some ⟨b, 0, none⟩) n n ∧ M = buf b 5 n (bvs (someB n c)) :: F := by
  refine Spec.intro Tryz.func19 rfl rfl fun B F => ?_
  simp only [Tryz.ntmps19, List.cons_append, List.nil_append, env0, Nat.reduceAdd]
  refine WC.seq ?_
  refine WC.region ?_
  refine WL.assign ?_
  refine WL.nil ?_
  refine WQ.next ?_
  refine WC.seq ?_
  refine WC.region ?_
  refine WL.move ?_
  refine WL.mkS (k := (n : Int)) z5 (fun b8 => ?_) so33 (by omega) (by omega) (by omega)
  refine WL.cast (d := 8) (u := .slice (some ⟨b8, 0, none⟩) n n) rfl (by rw [Int.toNat_natCast]) ?_
  refine WL.to (A := buf b8 5 (n : Int).toNat (List.replicate (n : Int).toNat (.int .u8 0))) (A' := buf b8 5 n (bvs (partB (fun i => UInt8.ofNat (c + i / 7)) n 0))) (fun h hh => by rw [partB_zero, bvs_replicate]; rw [Int.toNat_natCast] at hh; exact hh) ?_
  refine WL.assign ?_
  refine WL.nil ?_
  refine WQ.next ?_
  refine WC.seq ?_
  refine WC.seq ?_
  refine WC.region ?_
  refine WL.assign ?_
  refine WL.nil ?_
  refine WQ.next ?_
  refine WC.block ?_
  refine WC.loopA (σ := Nat) (fun i => [(0, .int .i64 (n : Int)), (1, .int .i64 (c : Int)), (5, .slice (some ⟨b8, 0, none⟩) n n), (6, .int .i64 (i : Int))]) (fun i => buf b8 5 n (bvs (partB (fun i => UInt8.ofNat (c + i / 7)) n i)) :: F) (fun i => i ≤ n) (fun i => n - i) 0 (Nat.zero_le _) ?_
  rintro i hi
  refine WC.seq ?_
  refine WC.seq ?_
  refine WC.region ?_
  refine WL.move ?_
  refine WL.move ?_
  refine WL.lss ?_
  refine WL.nil ?_
  refine WQ.next ?_
  refine WC.cond rfl (fun hb => ?_) (fun hb => ?_)
  · have hlt : i < n := by have := of_decide_eq_true hb; omega
    refine WC.skip ?_
    refine WQ.next ?_
    refine WC.seq ?_
    refine WC.block ?_
    refine WC.region ?_
    refine WL.move ?_
    refine WL.move ?_
    refine WL.move ?_
    refine WL.move ?_
    refine WL.quo ?_
    refine WL.add ?_
    refine WL.cast (d := 19) (u := .int .i64 ((c + i / 7 : Nat) : Int)) rfl (congrArg (Value.int .i64) (by omega)) ?_
    refine WL.cvt ?_ un3 un5
    refine WL.cast (d := 20) (u := bv (UInt8.ofNat (c + i / 7))) rfl (wrap_ofNat _) ?_
    refine WL.idx1 ?_ so33
    refine WL.stB ?_ sc5 (show 0 + ((i : Nat) : Int).toNat < (bvs (partB (fun i => UInt8.ofNat (c + i / 7)) n i)).length by rw [bvs_length, partB_length]; omega)
    refine WL.nil ?_
    refine WQ.blockNormal ?_
    refine WQ.next ?_
    refine WC.region ?_
    refine WL.move ?_
    refine WL.add ?_
    refine WL.assign ?_
    refine WL.nil ?_
    refine WQ.to (A := buf b8 5 n ((bvs (partB (fun i => UInt8.ofNat (c + i / 7)) n i)).set (0 + ((i : Nat) : Int).toNat) (bv (UInt8.ofNat (c + i / 7))))) (A' := buf b8 5 n (bvs (partB (fun i => UInt8.ofNat (c + i / 7)) n (i + 1)))) (fun h hh => by rw [← partB_set (fun i => UInt8.ofNat (c + i / 7)) hlt, bvs_set]; rw [show 0 + ((i : Nat) : Int).toNat = i from by omega] at hh; exact hh) ?_
    refine WQ.cast (d := 6) (u := .int .i64 ((i + 1 : Nat) : Int)) rfl (congrArg (Value.int .i64) (by omega)) ?_
    exact WQ.back (i + 1) (by omega) (by omega)
  · have hge : ¬ i < n := by have := of_decide_eq_false hb; omega
    have hin : i = n := by omega
    subst hin
    refine WC.exit (WQ.thenExit (WQ.thenExit (WQ.blockExit (?_))))
    refine WQ.next ?_
    refine WC.seq ?_
    refine WC.region ?_
    refine WL.move ?_
    refine WL.assign ?_
    refine WL.nil ?_
    refine WQ.next ?_
    refine WC.ret (?_)
    refine WQ.to (A := buf b8 5 i (bvs (partB (fun i => UInt8.ofNat (c + i / 7)) i i))) (A' := buf b8 5 i (bvs (someB i c))) (fun h hh => by rw [partB_all] at hh; exact hh) ?_
    exact WQ.ret1 (h1 := .tmp (t := 4) rfl) ⟨_, ⟨b8, rfl, rfl⟩, Am.auto⟩

theorem alikeBytes {R R' : HP} {A A' : Option Addr} {n c n' c' : Nat} {xs ys : Bytes} (hR : xs = [] ∨ Reads R A (bvs xs)) (hR' : ys = [] ∨ Reads R' A' (bvs ys)) (hn : xs.length = n) (hn' : ys.length = n') (hb1 : n ≤ 9223372036854775807) : Spec Tryz.prog 24 #[.slice A n c, .slice A' n' c'] [R, R'] fun F v M => v = .bool (decide (xs = ys)) ∧ M = R :: R' :: F := by
  refine Spec.intro Tryz.func24 rfl rfl fun B F => ?_
  simp only [Tryz.ntmps24, List.cons_append, List.nil_append, env0, Nat.reduceAdd]
  by_cases hne : n = n'
  · refine WC.seq ?_
    refine WC.region ?_
    refine WL.assign ?_
    refine WL.nil ?_
    refine WQ.next ?_
    refine WC.seq ?_
    refine WC.seq ?_
    refine WC.region ?_
    refine WL.move ?_
    refine WL.lenS ?_ sl33
    refine WL.move ?_
    refine WL.lenS ?_ sl33
    refine WL.nei ?_
    refine WL.nil ?_
    refine WQ.next ?_
    refine WC.condF rfl (congrArg Value.bool (by first | (simp; done) | (simp; omega) | omega)) ?_
    refine WC.skip ?_
    refine WQ.next ?_
    refine WC.seq ?_
    refine WC.seq ?_
    refine WC.region ?_
    refine WL.assign ?_
    refine WL.nil ?_
    refine WQ.next ?_
    refine WC.block ?_
    refine WC.loopA (σ := Nat) (fun i => [(0, .slice A n c), (1, .slice A' n' c'), (5, .int .i64 (i : Int))]) (fun i => R :: R' :: F) (fun i => i ≤ n ∧ ∀ j < i, xs.getD j 0 = ys.getD j 0) (fun i => n - i) 0 ⟨Nat.zero_le _, fun j hj => by omega⟩ ?_
    rintro i hi
    refine WC.seq ?_
    refine WC.seq ?_
    refine WC.region ?_
    refine WL.move ?_
    refine WL.move ?_
    refine WL.lenS ?_ sl33
    refine WL.lss ?_
    refine WL.nil ?_
    refine WQ.next ?_
    refine WC.cond rfl (fun hb => ?_) (fun hb => ?_)
    · have hlt : i < n := by have := of_decide_eq_true hb; omega
      have hRx := hR.resolve_left (by intro h0; rw [h0] at hn; simp at hn; omega)
      have hRy := hR'.resolve_left (by intro h0; rw [h0] at hn'; simp at hn'; omega)
      rcases A with _ | ⟨ab, ao, asp⟩
      · exact absurd hRx (fun h0 => by have h2 : bvs xs = [] := h0; have := congrArg List.length h2; rw [bvs_length, List.length_nil] at this; omega)
      rcases A' with _ | ⟨ab', ao', asp'⟩
      · exact absurd hRy (fun h0 => by have h2 : bvs ys = [] := h0; have := congrArg List.length h2; rw [bvs_length, List.length_nil] at this; omega)
      have hsp : asp = none := hRx.1
      subst hsp
      have hsp' : asp' = none := hRy.1
      subst hsp'
      refine WC.skip ?_
      refine WQ.next ?_
      refine WC.seq ?_
      refine WC.block ?_
      refine WC.seq ?_
      refine WC.draw ([R, R']) [] 9 #[false, false, false, false, false, false, false, false, false] mixed (by kernel_rfl) NoPanic.autoJ ?_
      refine WD.take (i := 0) #[true, false, false, false, false, false, false, false, false] rfl (by kernel_rfl) (Qt.move ) ?_
      refine WD.take (i := 1) #[true, true, false, false, false, false, false, false, false] rfl (by kernel_rfl) (Qt.move ) ?_
      refine WD.take (i := 2) #[true, true, true, false, false, false, false, false, false] rfl (by kernel_rfl) (Qt.idx1 so33) ?_
      refine WD.take (i := 3) #[true, true, true, true, false, false, false, false, false] rfl (by kernel_rfl) (Qt.ldR (i := ((i : Nat) : Int).toNat) sc5 hRx (bvs_get (by omega))) ?_
      refine WD.take (i := 4) #[true, true, true, true, true, false, false, false, false] rfl (by kernel_rfl) (Qt.move ) ?_
      refine WD.take (i := 5) #[true, true, true, true, true, true, false, false, false] rfl (by kernel_rfl) (Qt.move ) ?_
      refine WD.take (i := 6) #[true, true, true, true, true, true, true, false, false] rfl (by kernel_rfl) (Qt.idx1 so33) ?_
      refine WD.take (i := 7) #[true, true, true, true, true, true, true, true, false] rfl (by kernel_rfl) (Qt.ldR (i := ((i : Nat) : Int).toNat) sc5 hRy (bvs_get (by omega))) ?_
      refine WD.take (i := 8) #[true, true, true, true, true, true, true, true, true] rfl (by kernel_rfl) (Qt.nei ) ?_
      refine WD.done (by kernel_rfl) ?_
      by_cases hxy : xs.getD i 0 = ys.getD i 0
      · refine WQ.next ?_
        refine WC.condF rfl (congrArg Value.bool ((by rw [Int.toNat_natCast, hxy]; simp))) ?_
        refine WC.skip ?_
        refine WQ.blockNormal ?_
        refine WQ.next ?_
        refine WC.region ?_
        refine WL.move ?_
        refine WL.add ?_
        refine WL.assign ?_
        refine WL.nil ?_
        refine WQ.cast (d := 5) (u := .int .i64 ((i + 1 : Nat) : Int)) rfl (congrArg (Value.int .i64) (by omega)) ?_
        exact WQ.back (i + 1) ⟨by show i + 1 ≤ n; omega, fun j hj => by by_cases hji : j = i; (rw [hji]; exact hxy); exact hi.2 j (by omega)⟩ (by omega)
      · refine WQ.next ?_
        refine WC.condT rfl (congrArg Value.bool ((by rw [Int.toNat_natCast]; simp only [Bool.not_eq_true', decide_eq_false_iff_not]; intro hh; exact hxy (UInt8.toNat_inj.1 (by omega))))) ?_
        refine WC.seq ?_
        refine WC.region ?_
        refine WL.assign ?_
        refine WL.nil ?_
        refine WQ.next ?_
        refine WC.ret (WQ.blockRet (WQ.thenRet (WQ.thenRet (WQ.blockRet (WQ.thenRet (?_))))))
        exact WQ.ret1 (h1 := .tmp (t := 4) rfl) ⟨_, ⟨congrArg Value.bool (by symm; exact decide_eq_false (fun hh => hxy (by rw [hh]))), rfl⟩, Am.auto⟩
    · have hge : ¬ i < n := by have := of_decide_eq_false hb; omega
      have hall : xs = ys := by
        apply List.ext_getElem (by omega)
        intro j h1 h2
        have := hi.2 j (by omega)
        rw [List.getD_eq_getElem?_getD, List.getD_eq_getElem?_getD, List.getElem?_eq_getElem h1, List.getElem?_eq_getElem h2] at this
        exact this
      refine WC.exit (WQ.thenExit (WQ.thenExit (WQ.blockExit (?_))))
      refine WQ.next ?_
      refine WC.seq ?_
      refine WC.region ?_
      refine WL.assign ?_
      refine WL.nil ?_
      refine WQ.next ?_
      refine WC.ret (?_)
      exact WQ.ret1 (h1 := .tmp (t := 4) rfl) ⟨_, ⟨congrArg Value.bool (decide_eq_true hall).symm, rfl⟩, Am.auto⟩
  · refine WC.seq ?_
    refine WC.region ?_
    refine WL.assign ?_
    refine WL.nil ?_
    refine WQ.next ?_
    refine WC.seq ?_
    refine WC.seq ?_
    refine WC.region ?_
    refine WL.move ?_
    refine WL.lenS ?_ sl33
    refine WL.move ?_
    refine WL.lenS ?_ sl33
    refine WL.nei ?_
    refine WL.nil ?_
    refine WQ.next ?_
    refine WC.condT rfl (congrArg Value.bool (by first | (simp; done) | (simp; omega) | omega)) ?_
    refine WC.seq ?_
    refine WC.region ?_
    refine WL.assign ?_
    refine WL.nil ?_
    refine WQ.next ?_
    refine WC.ret (WQ.thenRet (?_))
    exact WQ.ret1 (h1 := .tmp (t := 4) rfl) ⟨_, ⟨congrArg Value.bool (by symm; exact decide_eq_false (fun hh => hne (by rw [← hn, ← hn', hh]))), rfl⟩, Am.auto⟩

theorem alikeRound {k n : Int} (hk : -9223372036854775808 ≤ k ∧ k ≤ 9223372036854775807) (hn : 1 ≤ n ∧ n ≤ 1000000) : Spec Tryz.prog 18 #[.int .i64 k, .int .i64 n] [] fun F v M => v = .int .i64 (roundI k n : Int) ∧ roundI k n < n ∧ M = F := by
  refine Spec.intro Tryz.func18 rfl rfl fun B F => ?_
  simp only [Tryz.ntmps18, List.cons_append, List.nil_append, env0, Nat.reduceAdd]
  have hm1 := Int.emod_nonneg k (show n ≠ 0 by omega)
  have hm2 := Int.emod_lt_of_pos k (show 0 < n by omega)
  have hr : (roundI k n : Int) = k % n := by unfold roundI; omega
  have ht : k.tmod n = k % n ∨ k.tmod n = k % n - n := by
    rcases Int.le_total 0 k with h | h
    · exact .inl (Int.tmod_eq_emod_of_nonneg h)
    · rw [Int.tmod_eq_emod]
      split
      · exact .inl (by omega)
      · exact .inr (by rw [Int.natAbs_of_nonneg (by omega)])
  have ht2 : 0 ≤ k.tmod n → k.tmod n = k % n := fun h0 => by omega
  by_cases hneg : k.tmod n < 0
  · refine WC.seq ?_
    refine WC.region ?_
    refine WL.assign ?_
    refine WL.nil ?_
    refine WQ.next ?_
    refine WC.seq ?_
    refine WC.region ?_
    refine WL.move ?_
    refine WL.move ?_
    refine WL.remT ?_
    refine WL.assign ?_
    refine WL.nil ?_
    refine WQ.next ?_
    refine WC.seq ?_
    refine WC.seq ?_
    refine WC.region ?_
    refine WL.move ?_
    refine WL.lss ?_
    refine WL.nil ?_
    refine WQ.next ?_
    refine WC.condT rfl (congrArg Value.bool (by first | (simp; done) | (simp; omega) | omega)) ?_
    refine WC.region ?_
    refine WL.move ?_
    refine WL.move ?_
    refine WL.add ?_
    refine WL.assign ?_
    refine WL.nil ?_
    refine WQ.next ?_
    refine WC.seq ?_
    refine WC.region ?_
    refine WL.move ?_
    refine WL.assign ?_
    refine WL.nil ?_
    refine WQ.next ?_
    refine WC.ret (?_)
    exact WQ.ret1 (h1 := .tmp (t := 4) rfl) ⟨_, ⟨congrArg (Value.int .i64) (by omega), by omega, rfl⟩, Am.auto⟩
  · refine WC.seq ?_
    refine WC.region ?_
    refine WL.assign ?_
    refine WL.nil ?_
    refine WQ.next ?_
    refine WC.seq ?_
    refine WC.region ?_
    refine WL.move ?_
    refine WL.move ?_
    refine WL.remT ?_
    refine WL.assign ?_
    refine WL.nil ?_
    refine WQ.next ?_
    refine WC.seq ?_
    refine WC.seq ?_
    refine WC.region ?_
    refine WL.move ?_
    refine WL.lss ?_
    refine WL.nil ?_
    refine WQ.next ?_
    refine WC.condF rfl (congrArg Value.bool (by first | (simp; done) | (simp; omega) | omega)) ?_
    refine WC.skip ?_
    refine WQ.next ?_
    refine WC.seq ?_
    refine WC.region ?_
    refine WL.move ?_
    refine WL.assign ?_
    refine WL.nil ?_
    refine WQ.next ?_
    refine WC.ret (?_)
    exact WQ.ret1 (h1 := .tmp (t := 4) rfl) ⟨_, ⟨congrArg (Value.int .i64) (by omega), by omega, rfl⟩, Am.auto⟩

end Go.Proofs.YtedmihapieleaaaGreat
