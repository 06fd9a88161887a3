/- Walks: which names may be. -/
import Derived.Test.YtedmihapieleaaaGreatFa
import Derived.Test.YtedmihapieleaaaGreatWba
import Derived.KernelRfl
set_option linter.unusedVariables false
set_option linter.unusedSimpArgs false
namespace Go.Proofs.YtedmihapieleaaaGreat
open Go
theorem agg189 : aggOk Tryz.prog 189 256 = true := by kernel_rfl
theorem z189 : zeroOf Tryz.prog 189 = some (Array.replicate 256 (.bool false)) := by kernel_rfl
theorem ar189 : arrOk Tryz.prog 189 4 256 1 = true := by kernel_rfl

def sepA : List Value := ((List.replicate 256 (Value.bool false)).set 47 (.bool true)).set 0 (.bool true)
theorem sepA_length : sepA.length = 256 := by unfold sepA; rw [List.length_set, List.length_set, List.length_replicate]
theorem sepA_single : ∀ v ∈ sepA, Value.single v = true := by
  intro v hv
  unfold sepA at hv
  rcases List.mem_or_eq_of_mem_set hv with hv | rfl
  · rcases List.mem_or_eq_of_mem_set hv with hv | rfl
    · rw [List.eq_of_mem_replicate hv]; rfl
    · rfl
  · rfl
theorem bool_arr : Array.replicate 256 (Value.bool false) = (List.replicate 256 (Value.bool false)).toArray := (List.toArray_replicate ..).symm
theorem sepA_get (x : UInt8) : sepA[x.toNat]? = some (.bool (x == 47 || x == 0)) := by
  have hx : x.toNat < 256 := x.toNat_lt
  unfold sepA
  by_cases h0 : x = 0
  · subst h0
    exact List.getElem?_set_self (by rw [List.length_set, List.length_replicate]; decide)
  · have h0' : 0 ≠ x.toNat := fun h => h0 (UInt8.toNat_inj.1 h.symm)
    rw [List.getElem?_set_ne h0']
    by_cases h47 : x = 47
    · subst h47
      exact List.getElem?_set_self (by rw [List.length_replicate]; decide)
    · have h47' : 47 ≠ x.toNat := fun h => h47 (UInt8.toNat_inj.1 h.symm)
      rw [List.getElem?_set_ne h47', List.getElem?_replicate, if_pos hx]
      simp [h0, h47]
/-- What may be a name. -/
def nameOk (xs : Bytes) : Bool := !decide (xs = []) && (decide (xs.length ≤ 50) && (!sepIn xs && (!decide (xs = [46]) && !decide (xs = [46, 46]))))

theorem mkSet : Spec Tryz.prog 137 #[sv [47, 0]] [] fun F v M => v = .tuple #[.agg sepA.toArray, .bool true] ∧ M = F := by
  refine Spec.intro Tryz.func137 rfl rfl fun B F => ?_
  simp only [Tryz.ntmps137, List.cons_append, List.nil_append, env0, Nat.reduceAdd]
  refine WC.seq ?_
  refine WC.region ?_
  refine WL.allocL (us := List.replicate 256 (Value.bool false)) z189 bool_arr fun b2 => ?_
  refine WL.assign ?_
  refine WL.nil ?_
  refine WQ.next ?_
  refine WC.seq ?_
  refine WC.seq ?_
  refine WC.region ?_
  refine WL.assign ?_
  refine WL.nil ?_
  refine WQ.next ?_
  refine WC.block ?_
  refine WC.loopN 3 (RC.succ ?_)
  refine WC.seq ?_
  refine WC.seq ?_
  refine WC.region ?_
  refine WL.move ?_
  refine WL.move ?_
  refine WL.lenT _ ?_ st9
  refine WL.lss ?_
  refine WL.nil ?_
  refine WQ.next ?_
  refine WC.condT rfl rfl ?_
  refine WC.skip ?_
  refine WQ.next ?_
  refine WC.seq ?_
  refine WC.block ?_
  refine WC.seq ?_
  refine WC.region ?_
  refine WL.move ?_
  refine WL.move ?_
  refine WL.ixT (p := 0) (v := 47) [47, 0] ?_ st9 rfl
  refine WL.cast (d := 14) (u := .int .u8 47) rfl rfl ?_
  refine WL.assign ?_
  refine WL.nil ?_
  refine WQ.next ?_
  refine WC.seq ?_
  refine WC.seq ?_
  refine WC.region ?_
  refine WL.move ?_
  refine WL.geq ?_
  refine WL.nil ?_
  refine WQ.next ?_
  refine WC.condF rfl rfl ?_
  refine WC.skip ?_
  refine WQ.next ?_
  refine WC.region ?_
  refine WL.move ?_
  refine WL.idxA ?_ ar189
  refine WL.stL (xs := (List.replicate 256 (Value.bool false))) (i := 47) ?_ sc4 (by first | (rw [List.length_set, List.length_replicate]; decide) | (rw [List.length_replicate]; decide))
  refine WL.nil ?_
  refine WQ.blockNormal ?_
  refine WQ.next ?_
  refine WC.region ?_
  refine WL.move ?_
  refine WL.add ?_
  refine WL.assign ?_
  refine WL.nil ?_
  refine WQ.again (RC.succ ?_)
  refine WC.seq ?_
  refine WC.seq ?_
  refine WC.region ?_
  refine WL.move ?_
  refine WL.move ?_
  refine WL.lenT _ ?_ st9
  refine WL.lss ?_
  refine WL.nil ?_
  refine WQ.next ?_
  refine WC.condT rfl rfl ?_
  refine WC.skip ?_
  refine WQ.next ?_
  refine WC.seq ?_
  refine WC.block ?_
  refine WC.seq ?_
  refine WC.region ?_
  refine WL.move ?_
  refine WL.move ?_
  refine WL.ixT (p := 1) (v := 0) [47, 0] ?_ st9 rfl
  refine WL.cast (d := 14) (u := .int .u8 0) rfl rfl ?_
  refine WL.assign ?_
  refine WL.nil ?_
  refine WQ.next ?_
  refine WC.seq ?_
  refine WC.seq ?_
  refine WC.region ?_
  refine WL.move ?_
  refine WL.geq ?_
  refine WL.nil ?_
  refine WQ.next ?_
  refine WC.condF rfl rfl ?_
  refine WC.skip ?_
  refine WQ.next ?_
  refine WC.region ?_
  refine WL.move ?_
  refine WL.idxA ?_ ar189
  refine WL.stL (xs := ((List.replicate 256 (Value.bool false)).set 47 (.bool true))) (i := 0) ?_ sc4 (by first | (rw [List.length_set, List.length_replicate]; decide) | (rw [List.length_replicate]; decide))
  refine WL.nil ?_
  refine WQ.blockNormal ?_
  refine WQ.next ?_
  refine WC.region ?_
  refine WL.move ?_
  refine WL.add ?_
  refine WL.assign ?_
  refine WL.nil ?_
  refine WQ.again (RC.succ ?_)
  refine WC.seq ?_
  refine WC.seq ?_
  refine WC.region ?_
  refine WL.move ?_
  refine WL.move ?_
  refine WL.lenT _ ?_ st9
  refine WL.lss ?_
  refine WL.nil ?_
  refine WQ.next ?_
  refine WC.condF rfl rfl ?_
  refine WC.exit (WQ.thenExit (WQ.thenExit (WQ.blockExit (?_))))
  refine WQ.next ?_
  refine WC.seq ?_
  refine WC.region ?_
  refine WL.ldW (xs := sepA) ?_ agg189 sepA_length
  refine WL.stLA (xs := sepA) (us := sepA) ?_ agg189 sepA_length sepA_length sepA_single
  refine WL.assign ?_
  refine WL.nil ?_
  refine WQ.next ?_
  refine WC.ret (?_)
  exact WQ.ret2 (h1 := RV.aggL rfl agg189 (by repeat (first | exact .here | apply Rem.there | apply Repl.there | apply Mem.there)) sepA_length) (h2 := .tmp rfl) ⟨_, ⟨rfl, rfl⟩, Am.auto⟩

theorem setHas {b : Nat} {x : UInt8} : Spec Tryz.prog 138 #[.pointer (some ⟨b, 0, none⟩), .int .u8 (x.toNat : Int)] [row b 189 sepA] fun F v M => v = .bool (x == 47 || x == 0) ∧ M = row b 189 sepA :: F := by
  refine Spec.intro Tryz.func138 rfl rfl fun B F => ?_
  simp only [Tryz.ntmps138, List.cons_append, List.nil_append, env0, Nat.reduceAdd]
  have hx : x.toNat < 256 := x.toNat_lt
  refine WC.seq ?_
  refine WC.region ?_
  refine WL.assign ?_
  refine WL.nil ?_
  refine WQ.next ?_
  refine WC.seq ?_
  refine WC.region ?_
  refine WL.move ?_
  refine WL.move ?_
  refine WL.nilCheck ?_
  refine WL.idxA ?_ ar189
  refine WL.ldL (xs := sepA) (i := 0 + ((x.toNat : Nat) : Int).toNat * 1) ?_ sc4 (by rw [Nat.zero_add, Nat.mul_one, Int.toNat_natCast]; exact sepA_get x)
  refine WL.assign ?_
  refine WL.nil ?_
  refine WQ.next ?_
  refine WC.ret (?_)
  exact WQ.ret1 (h1 := .tmp (t := 4) rfl) ⟨_, ⟨rfl, rfl⟩, Am.auto⟩

theorem useSet {k : Int} : Spec Tryz.prog 136 #[.int .i64 k] [] fun F v M => v = .bool (decide (8 < k)) ∧ M = F := by
  refine Spec.intro Tryz.func136 rfl rfl fun B F => ?_
  simp only [Tryz.ntmps136, List.cons_append, List.nil_append, env0, Nat.reduceAdd]
  refine WC.seq ?_
  refine WC.region ?_
  refine WL.assign ?_
  refine WL.nil ?_
  refine WQ.next ?_
  refine WC.seq ?_
  refine WC.region ?_
  refine WL.move ?_
  refine WL.gtr ?_
  refine WL.assign ?_
  refine WL.nil ?_
  refine WQ.next ?_
  refine WC.ret (?_)
  exact WQ.ret1 (h1 := .tmp (t := 2) rfl) ⟨_, ⟨rfl, rfl⟩, Am.auto⟩

theorem idxAny {xs : Bytes} (hl : xs.length ≤ 65536) : Spec Tryz.prog 115 #[sv xs, sv [47, 0]] [] fun F v M => ∃ r : Int, v = .int .i64 r ∧ decide (0 ≤ r) = sepIn xs ∧ M = F := by
  refine Spec.intro Tryz.func115 rfl rfl fun B F => ?_
  simp only [Tryz.ntmps115, List.cons_append, List.nil_append, env0, Nat.reduceAdd]
  refine WC.seq ?_
  refine WC.region ?_
  refine WL.assign ?_
  refine WL.nil ?_
  refine WQ.next ?_
  refine WC.seq ?_
  refine WC.seq ?_
  refine WC.region ?_
  refine WL.move ?_
  refine WL.eqS _ _ ?_
  refine WL.nil ?_
  refine WQ.next ?_
  refine WC.condF rfl rfl ?_
  refine WC.skip ?_
  refine WQ.next ?_
  refine WC.seq ?_
  refine WC.seq ?_
  refine WC.region ?_
  refine WL.move ?_
  refine WL.lenT _ ?_ st9
  refine WL.eqi ?_
  refine WL.nil ?_
  refine WQ.next ?_
  refine WC.condF rfl rfl ?_
  refine WC.skip ?_
  refine WQ.next ?_
  refine WC.seq ?_
  refine WC.seq ?_
  refine WC.region ?_
  refine WL.move ?_
  refine WL.lenT _ ?_ st9
  refine WL.call (hc := Tryz.call136) (sp := useSet (k := (xs.length : Int))) (h := ?_)
  rintro _ _ ⟨rfl, hM⟩
  obtain rfl := hM.symm
  refine WL.nil ?_
  refine WQ.next ?_
  refine WC.cond rfl (fun h8 => ?_) (fun h8 => ?_)
  · refine WC.seq ?_
    refine WC.region ?_
    refine WL.move ?_
    refine WL.call (hc := Tryz.call137) (sp := mkSet) (h := ?_)
    rintro _ _ ⟨rfl, hM2⟩
    obtain rfl := hM2.symm
    refine WL.move ?_
    refine WL.extract ?_
    refine WL.extract ?_
    refine WL.allocL (us := List.replicate 256 (Value.bool false)) z189 bool_arr fun b6 => ?_
    refine WL.stLA (xs := List.replicate 256 (Value.bool false)) (us := sepA) ?_ agg189 sepA_length List.length_replicate sepA_single
    refine WL.assign ?_
    refine WL.nil ?_
    refine WQ.next ?_
    refine WC.seq ?_
    refine WC.region ?_
    refine WL.move ?_
    refine WL.nil ?_
    refine WQ.next ?_
    refine WC.condT rfl rfl ?_
    refine WC.seq ?_
    refine WC.seq ?_
    refine WC.region ?_
    refine WL.assign ?_
    refine WL.nil ?_
    refine WQ.next ?_
    refine WC.block ?_
    refine WC.loopA (σ := Nat) (fun i => [(0, sv xs), (6, .pointer (some ⟨b6, 0, none⟩)), (8, .int .i64 (i : Int))]) (fun i => row b6 189 sepA :: F) (fun i => i ≤ xs.length ∧ ∀ (j : Nat), j < i → ∀ (hj : j < xs.length), xs[j] ≠ 47 ∧ xs[j] ≠ 0) (fun i => xs.length - i) 0 ⟨Nat.zero_le _, fun j hj => by omega⟩ ?_
    rintro i hi
    refine WC.seq ?_
    refine WC.seq ?_
    refine WC.region ?_
    refine WL.move ?_
    refine WL.move ?_
    refine WL.lenT _ ?_ st9
    refine WL.lss ?_
    refine WL.nil ?_
    refine WQ.next ?_
    refine WC.cond rfl (fun hb => ?_) (fun hb => ?_)
    · have hlt : i < xs.length := by have h : (i : Int) < (xs.length : Int) := of_decide_eq_true hb; omega
      have hx : xs[((i : Nat) : Int).toNat]? = some xs[i] := by rw [Int.toNat_natCast]; exact List.getElem?_eq_getElem hlt
      refine WC.skip ?_
      refine WQ.next ?_
      refine WC.seq ?_
      refine WC.block ?_
      refine WC.seq ?_
      refine WC.region ?_
      refine WL.move ?_
      refine WL.move ?_
      refine WL.ixT (p := (i : Int)) (v := xs[i]) xs ?_ st9 hx
      refine WL.call (hc := Tryz.call138) (sp := setHas (b := b6) (x := xs[i])) (h := ?_)
      rintro _ _ ⟨rfl, rfl⟩
      refine WL.nil ?_
      refine WQ.next ?_
      refine WC.cond rfl (fun hq => ?_) (fun hq => ?_)
      · refine WC.seq ?_
        refine WC.region ?_
        refine WL.move ?_
        refine WL.assign ?_
        refine WL.nil ?_
        refine WQ.next ?_
        refine WC.ret (WQ.blockRet (WQ.thenRet (WQ.thenRet (WQ.blockRet (WQ.thenRet (WQ.thenRet (?_)))))))
        exact WQ.ret1 (h1 := .tmp (t := 4) rfl) ⟨_, ⟨_, rfl, by rw [decide_eq_true (by omega), sepIn_yes hlt (by simpa using hq)], rfl⟩, Am.auto⟩
      · refine WC.skip ?_
        refine WQ.blockNormal ?_
        refine WQ.next ?_
        refine WC.region ?_
        refine WL.move ?_
        refine WL.add ?_
        refine WL.assign ?_
        refine WL.nil ?_
        refine WQ.cast (d := 8) (u := .int .i64 ((i + 1 : Nat) : Int)) rfl (congrArg (Value.int .i64) (by omega)) ?_
        exact WQ.back (i + 1) ⟨by omega, fun j hj hl => by by_cases hji : j = i; (subst hji; simpa using hq); exact hi.2 j (by omega) hl⟩ (by omega)
    · have hge : ¬ i < xs.length := by have h : ¬ (i : Int) < (xs.length : Int) := of_decide_eq_false hb; omega
      refine WC.exit (WQ.thenExit (WQ.thenExit (WQ.blockExit (?_))))
      refine WQ.next ?_
      refine WC.seq ?_
      refine WC.region ?_
      refine WL.assign ?_
      refine WL.nil ?_
      refine WQ.next ?_
      refine WC.ret (WQ.thenRet (?_))
      exact WQ.ret1 (h1 := .tmp (t := 4) rfl) ⟨_, ⟨_, rfl, by rw [decide_eq_false (by decide), sepIn_no (fun j hj => hi.2 j (by omega) hj)], rfl⟩, Am.auto⟩
  · refine WC.skip ?_
    refine WQ.next ?_
    refine WC.seq ?_
    refine WC.seq ?_
    refine WC.region ?_
    refine WL.move ?_
    refine WL.rangeT xs st9 (fun it => ?_)
    refine WL.nil ?_
    refine WQ.next ?_
    refine WC.block ?_
    refine WC.loopA (σ := Nat) (fun k => [(0, sv xs), (1, sv [47, 0]), (45, .pointer (some ⟨it, 0, none⟩))]) (fun k => strIt it xs k :: F) (fun k => ∀ (j : Nat), j < k → ∀ (hj : j < xs.length), xs[j] ≠ 47 ∧ xs[j] ≠ 0) (fun k => xs.length - k) 0 (fun j hj => by omega) ?_
    rintro k hi
    refine WC.seq ?_
    refine WC.region ?_
    refine WL.nextT (k := k) xs (fun hk => ?_) (fun hk => ?_)
    · refine WL.extract ?_
      refine WL.nil ?_
      refine WQ.next ?_
      refine WC.seq ?_
      refine WC.condF rfl rfl ?_
      refine WC.exit (WQ.thenExit (WQ.thenExit (WQ.blockExit (?_))))
      refine WQ.next ?_
      refine WC.seq ?_
      refine WC.region ?_
      refine WL.assign ?_
      refine WL.nil ?_
      refine WQ.next ?_
      refine WC.ret (?_)
      exact WQ.ret1 (h1 := .tmp (t := 4) rfl) ⟨_, ⟨_, rfl, by rw [decide_eq_false (by decide), sepIn_no (fun j hj => hi j (by omega) hj)], rfl⟩, Am.auto⟩
    · have hpos := rune_pos hk
      have hle := rune_le xs k
      obtain ⟨c, hc⟩ : ∃ c, (rune xs k).1 = c := ⟨_, rfl⟩
      obtain ⟨d, hd⟩ : ∃ d, (rune xs k).2 = d := ⟨_, rfl⟩
      rw [hc, hd]
      rw [hd] at hpos
      have hyes : c = 47 ∨ c = 0 → sepIn xs = true := by
        intro h
        by_cases hb : xs[k].toNat < 128
        · rw [rune_low hk hb] at hc
          refine sepIn_yes hk ?_
          have hc : xs[k].toNat = c := hc
          rcases h with h | h
          · exact .inl (UInt8.toNat_inj.1 (by rw [hc, h]; rfl))
          · exact .inr (UInt8.toNat_inj.1 (by rw [hc, h]; rfl))
        · have := (rune_high hk (by omega)).1
          omega
      have hno : ¬ (c = 47 ∨ c = 0) → ∀ (j : Nat), j < k + d → ∀ (hj : j < xs.length), xs[j] ≠ 47 ∧ xs[j] ≠ 0 := by
        intro h j hj hjl
        by_cases hjk : j < k
        · exact hi j hjk hjl
        by_cases hb : xs[k].toNat < 128
        · rw [rune_low hk hb] at hc hd
          have hc : xs[k].toNat = c := hc
          have hd : 1 = d := hd
          obtain rfl : j = k := by omega
          refine ⟨fun h2 => h (.inl ?_), fun h2 => h (.inr ?_)⟩
          · rw [← hc, h2]; rfl
          · rw [← hc, h2]; rfl
        · have h3 := (rune_high hk (by omega)).2.2 j (by omega) (by rw [hd]; exact hj) hjl
          refine ⟨fun h2 => ?_, fun h2 => ?_⟩
          · rw [h2] at h3; exact absurd h3 (by decide)
          · rw [h2] at h3; exact absurd h3 (by decide)
      refine WL.extract ?_
      refine WL.nil ?_
      refine WQ.next ?_
      refine WC.seq ?_
      refine WC.condT rfl rfl ?_
      refine WC.skip ?_
      refine WQ.next ?_
      refine WC.block ?_
      refine WC.seq ?_
      refine WC.region ?_
      refine WL.extract ?_
      refine WL.extract ?_
      refine WL.assign ?_
      refine WL.assign ?_
      refine WL.nil ?_
      refine WQ.next ?_
      refine WC.seq ?_
      refine WC.region ?_
      refine WL.move ?_
      refine WL.move ?_
      refine WL.call (hc := Tryz.call135) (sp := idxRune (c := c)) (h := ?_)
      rintro _ _ ⟨r, rfl, hr, rfl⟩
      by_cases hq : c = 47 ∨ c = 0
      · have hr0 : 0 ≤ r := of_decide_eq_true (by rw [hr]; exact decide_eq_true hq)
        refine WL.geq ?_
        refine WL.nil ?_
        refine WQ.next ?_
        refine WC.condT rfl (congrArg Value.bool (by first | (simp; done) | (simp; omega) | omega)) ?_
        refine WC.seq ?_
        refine WC.region ?_
        refine WL.move ?_
        refine WL.assign ?_
        refine WL.nil ?_
        refine WQ.next ?_
        refine WC.ret (WQ.blockRet (WQ.thenRet (WQ.blockRet (WQ.thenRet (?_)))))
        exact WQ.ret1 (h1 := .tmp (t := 4) rfl) ⟨_, ⟨_, rfl, by rw [decide_eq_true (by omega), hyes hq], rfl⟩, Am.auto⟩
      · have hr0 : ¬ 0 ≤ r := of_decide_eq_false (by rw [hr]; exact decide_eq_false hq)
        refine WL.geq ?_
        refine WL.nil ?_
        refine WQ.next ?_
        refine WC.condF rfl (congrArg Value.bool (by first | (simp; done) | (simp; omega) | omega)) ?_
        refine WC.skip ?_
        refine WQ.blockNormal ?_
        exact WQ.back (k + d) (hno hq) (by show xs.length - (k + d) < xs.length - k; omega)

theorem hasAny {xs : Bytes} (hl : xs.length ≤ 65536) : Spec Tryz.prog 69 #[sv xs, sv [47, 0]] [] fun F v M => v = .bool (sepIn xs) ∧ M = F := by
  refine Spec.intro Tryz.func69 rfl rfl fun B F => ?_
  simp only [Tryz.ntmps69, List.cons_append, List.nil_append, env0, Nat.reduceAdd]
  refine WC.seq ?_
  refine WC.region ?_
  refine WL.assign ?_
  refine WL.nil ?_
  refine WQ.next ?_
  refine WC.seq ?_
  refine WC.region ?_
  refine WL.move ?_
  refine WL.move ?_
  refine WL.call (hc := Tryz.call115) (sp := idxAny hl) (h := ?_)
  rintro _ _ ⟨r, rfl, hr, rfl⟩
  refine WL.geq ?_
  refine WL.assign ?_
  refine WL.nil ?_
  refine WQ.next ?_
  refine WC.ret (?_)
  exact WQ.ret1 (h1 := .tmp (t := 4) rfl) ⟨_, ⟨congrArg Value.bool hr, rfl⟩, Am.auto⟩

theorem dName {xs : Bytes} : Spec Tryz.prog 30 #[sv xs] [] fun F v M => v = .bool (nameOk xs) ∧ M = F := by
  refine Spec.intro Tryz.func30 rfl rfl fun B F => ?_
  simp only [Tryz.ntmps30, List.cons_append, List.nil_append, env0, Nat.reduceAdd]
  unfold nameOk
  by_cases h1 : xs = []
  · refine WC.seq ?_
    refine WC.region ?_
    refine WL.assign ?_
    refine WL.nil ?_
    refine WQ.next ?_
    refine WC.seq ?_
    refine WC.region ?_
    refine WL.move ?_
    refine WL.neS _ _ ?_
    refine WL.cast (d := 4) (u := .bool false) rfl (congrArg Value.bool (by simp [h1])) ?_
    refine WL.move ?_
    refine WL.gF ?_
    refine WL.gF ?_
    refine WL.gF ?_
    refine WL.pickF ?_
    refine WL.move ?_
    refine WL.gF ?_
    refine WL.gF ?_
    refine WL.gF ?_
    refine WL.pickF ?_
    refine WL.move ?_
    refine WL.gF ?_
    refine WL.gF ?_
    refine WL.pickF ?_
    refine WL.move ?_
    refine WL.gF ?_
    refine WL.gF ?_
    refine WL.pickF ?_
    refine WL.assign ?_
    refine WL.nil ?_
    refine WQ.next ?_
    refine WC.ret (?_)
    exact WQ.ret1 (h1 := .tmp (t := 2) rfl) ⟨_, ⟨by simp [h1], rfl⟩, Am.auto⟩
  · by_cases h2 : xs.length ≤ 50
    · cases h3 : sepIn xs
      · by_cases h4 : xs = [46]
        · refine WC.seq ?_
          refine WC.region ?_
          refine WL.assign ?_
          refine WL.nil ?_
          refine WQ.next ?_
          refine WC.seq ?_
          refine WC.region ?_
          refine WL.move ?_
          refine WL.neS _ _ ?_
          refine WL.cast (d := 4) (u := .bool true) rfl (congrArg Value.bool (by simp [h1])) ?_
          refine WL.move ?_
          refine WL.gT ?_
          refine WL.move ?_
          refine WL.gT ?_
          refine WL.lenT _ ?_ st9
          refine WL.gT ?_
          refine WL.leq ?_
          refine WL.pickT ?_
          refine WL.move ?_
          refine WL.cast (d := 10) (u := .bool true) rfl (congrArg Value.bool (by first | (simp; done) | (simp; omega) | omega)) ?_
          refine WL.gT ?_
          refine WL.move ?_
          refine WL.gT ?_
          refine WL.call (hc := Tryz.call69) (sp := hasAny (xs := xs) (by omega)) (h := ?_)
          rintro _ _ ⟨rfl, rfl⟩
          refine WL.gT ?_
          refine WL.not ?_
          refine WL.cast (d := 13) (u := .bool true) rfl (congrArg Value.bool (by rw [h3]; rfl)) ?_
          refine WL.pickT ?_
          refine WL.move ?_
          refine WL.gT ?_
          refine WL.move ?_
          refine WL.gT ?_
          refine WL.neS _ _ ?_
          refine WL.cast (d := 17) (u := .bool false) rfl (congrArg Value.bool (by simp [h4])) ?_
          refine WL.pickT ?_
          refine WL.move ?_
          refine WL.gF ?_
          refine WL.gF ?_
          refine WL.pickF ?_
          refine WL.assign ?_
          refine WL.nil ?_
          refine WQ.next ?_
          refine WC.ret (?_)
          exact WQ.ret1 (h1 := .tmp (t := 2) rfl) ⟨_, ⟨by subst h4; rfl, rfl⟩, Am.auto⟩
        · refine WC.seq ?_
          refine WC.region ?_
          refine WL.assign ?_
          refine WL.nil ?_
          refine WQ.next ?_
          refine WC.seq ?_
          refine WC.region ?_
          refine WL.move ?_
          refine WL.neS _ _ ?_
          refine WL.cast (d := 4) (u := .bool true) rfl (congrArg Value.bool (by simp [h1])) ?_
          refine WL.move ?_
          refine WL.gT ?_
          refine WL.move ?_
          refine WL.gT ?_
          refine WL.lenT _ ?_ st9
          refine WL.gT ?_
          refine WL.leq ?_
          refine WL.pickT ?_
          refine WL.move ?_
          refine WL.cast (d := 10) (u := .bool true) rfl (congrArg Value.bool (by first | (simp; done) | (simp; omega) | omega)) ?_
          refine WL.gT ?_
          refine WL.move ?_
          refine WL.gT ?_
          refine WL.call (hc := Tryz.call69) (sp := hasAny (xs := xs) (by omega)) (h := ?_)
          rintro _ _ ⟨rfl, rfl⟩
          refine WL.gT ?_
          refine WL.not ?_
          refine WL.cast (d := 13) (u := .bool true) rfl (congrArg Value.bool (by rw [h3]; rfl)) ?_
          refine WL.pickT ?_
          refine WL.move ?_
          refine WL.gT ?_
          refine WL.move ?_
          refine WL.gT ?_
          refine WL.neS _ _ ?_
          refine WL.cast (d := 17) (u := .bool true) rfl (congrArg Value.bool (by simp [h4])) ?_
          refine WL.pickT ?_
          refine WL.move ?_
          refine WL.gT ?_
          refine WL.move ?_
          refine WL.gT ?_
          refine WL.neS _ _ ?_
          refine WL.pickT ?_
          refine WL.assign ?_
          refine WL.nil ?_
          refine WQ.next ?_
          refine WC.ret (?_)
          exact WQ.ret1 (h1 := .tmp (t := 2) rfl) ⟨_, ⟨by simp [*], rfl⟩, Am.auto⟩
      · refine WC.seq ?_
        refine WC.region ?_
        refine WL.assign ?_
        refine WL.nil ?_
        refine WQ.next ?_
        refine WC.seq ?_
        refine WC.region ?_
        refine WL.move ?_
        refine WL.neS _ _ ?_
        refine WL.cast (d := 4) (u := .bool true) rfl (congrArg Value.bool (by simp [h1])) ?_
        refine WL.move ?_
        refine WL.gT ?_
        refine WL.move ?_
        refine WL.gT ?_
        refine WL.lenT _ ?_ st9
        refine WL.gT ?_
        refine WL.leq ?_
        refine WL.pickT ?_
        refine WL.move ?_
        refine WL.cast (d := 10) (u := .bool true) rfl (congrArg Value.bool (by first | (simp; done) | (simp; omega) | omega)) ?_
        refine WL.gT ?_
        refine WL.move ?_
        refine WL.gT ?_
        refine WL.call (hc := Tryz.call69) (sp := hasAny (xs := xs) (by omega)) (h := ?_)
        rintro _ _ ⟨rfl, rfl⟩
        refine WL.gT ?_
        refine WL.not ?_
        refine WL.cast (d := 13) (u := .bool false) rfl (congrArg Value.bool (by rw [h3]; rfl)) ?_
        refine WL.pickT ?_
        refine WL.move ?_
        refine WL.gF ?_
        refine WL.gF ?_
        refine WL.pickF ?_
        refine WL.move ?_
        refine WL.gF ?_
        refine WL.gF ?_
        refine WL.pickF ?_
        refine WL.assign ?_
        refine WL.nil ?_
        refine WQ.next ?_
        refine WC.ret (?_)
        exact WQ.ret1 (h1 := .tmp (t := 2) rfl) ⟨_, ⟨by simp [*], rfl⟩, Am.auto⟩
    · refine WC.seq ?_
      refine WC.region ?_
      refine WL.assign ?_
      refine WL.nil ?_
      refine WQ.next ?_
      refine WC.seq ?_
      refine WC.region ?_
      refine WL.move ?_
      refine WL.neS _ _ ?_
      refine WL.cast (d := 4) (u := .bool true) rfl (congrArg Value.bool (by simp [h1])) ?_
      refine WL.move ?_
      refine WL.gT ?_
      refine WL.move ?_
      refine WL.gT ?_
      refine WL.lenT _ ?_ st9
      refine WL.gT ?_
      refine WL.leq ?_
      refine WL.pickT ?_
      refine WL.move ?_
      refine WL.cast (d := 10) (u := .bool false) rfl (congrArg Value.bool (by first | (simp; done) | (simp; omega) | omega)) ?_
      refine WL.gF ?_
      refine WL.gF ?_
      refine WL.gF ?_
      refine WL.pickF ?_
      refine WL.move ?_
      refine WL.gF ?_
      refine WL.gF ?_
      refine WL.pickF ?_
      refine WL.move ?_
      refine WL.gF ?_
      refine WL.gF ?_
      refine WL.pickF ?_
      refine WL.assign ?_
      refine WL.nil ?_
      refine WQ.next ?_
      refine WC.ret (?_)
      exact WQ.ret1 (h1 := .tmp (t := 2) rfl) ⟨_, ⟨by simp [*], rfl⟩, Am.auto⟩

end Go.Proofs.YtedmihapieleaaaGreat
