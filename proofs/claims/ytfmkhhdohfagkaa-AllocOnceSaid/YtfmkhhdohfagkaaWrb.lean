/- Walk of AllocOnce. -/
import Derived.Test.YtfmkhhdohfagkaaFa
import Derived.Test.YtfmkhhdohfagkaaWr
import Derived.KernelRfl
set_option linter.unusedVariables false
set_option linter.unusedSimpArgs false
namespace Go.Proofs.Ytfmkhhdohfagkaa
open Go

def rngB (lo hi : Nat) : Nat → Bool := fun k => decide (lo ≤ k ∧ k < hi)
theorem rngB_zero (hi : Nat) : upto hi = rngB 0 hi := by
  funext k
  unfold upto rngB
  congr 1
  rw [eq_iff_iff]
  constructor <;> intro h <;> omega
theorem rngB_drop {lo hi : Nat} (h : lo < hi) : setF (rngB lo hi) lo false = rngB (lo + 1) hi := by
  funext k
  unfold setF rngB
  split
  · rename_i h; subst h; symm; exact decide_eq_false (by omega)
  · congr 1
    rw [eq_iff_iff]
    constructor <;> intro h <;> omega
theorem rngB_add (lo i : Nat) : setF (rngB lo (lo + i)) (lo + i) true = rngB lo (lo + (i + 1)) := by
  funext k
  unfold setF rngB
  split
  · rename_i h; subst h; symm; exact decide_eq_true (by omega)
  · congr 1
    rw [eq_iff_iff]
    constructor <;> intro h <;> omega
theorem rngB_empty (k : Nat) : rngB k k = upto 0 := by
  funext j
  unfold rngB upto
  rw [decide_eq_false (by omega), decide_eq_false (by omega)]
theorem noneB_rng (k : Nat) : noneB = rngB k (k + 0) := by
  rw [Nat.add_zero, rngB_empty]; exact upto_zero

theorem lawOnce {n inodes : Int} (hn : -9223372036854775808 ≤ n ∧ n ≤ 9223372036854775807) (hm : -9223372036854775808 ≤ inodes ∧ inodes ≤ 9223372036854775807) : Spec Try.prog 4 #[.int .i64 n, .int .i64 inodes] [] fun F v M => v = .bool true ∧ M = F := by
  refine Spec.intro Try.func4 rfl rfl fun B F => ?_
  simp only [Try.ntmps4, List.cons_append, List.nil_append, env0, Nat.reduceAdd]
  rcases (show n < 252 ∨ (252 ≤ n ∧ 600 < n) ∨ (252 ≤ n ∧ n ≤ 600 ∧ inodes < 1) ∨ (252 ≤ n ∧ n ≤ 600 ∧ 1 ≤ inodes ∧ 40 < inodes) ∨ (252 ≤ n ∧ n ≤ 600 ∧ 1 ≤ inodes ∧ inodes ≤ 40) from by omega) with hc | hc | hc | hc | hc
  · refine WC.seq ?_
    refine WC.region ?_
    refine WL.assign ?_
    refine WL.nil ?_
    refine WQ.next ?_
    refine WC.seq ?_
    refine WC.seq ?_
    refine WC.region ?_
    refine WL.move ?_
    refine WL.lss ?_
    refine WL.move ?_
    refine WL.cast (d := 22) (u := .bool true) rfl (congrArg Value.bool (by first | (simp; done) | (simp; omega) | omega)) ?_
    refine WL.gF ?_
    refine WL.gF ?_
    refine WL.pickT ?_
    refine WL.move ?_
    refine WL.gF ?_
    refine WL.gF ?_
    refine WL.pickT ?_
    refine WL.move ?_
    refine WL.gF ?_
    refine WL.gF ?_
    refine WL.pickT ?_
    refine WL.nil ?_
    refine WQ.next ?_
    refine WC.condT rfl rfl ?_
    refine WC.seq ?_
    refine WC.region ?_
    refine WL.call (hc := Try.call7) (sp := lawAwake) (h := ?_)
    rintro _ _ ⟨rfl, rfl⟩
    refine WL.assign ?_
    refine WL.nil ?_
    refine WQ.next ?_
    refine WC.ret (WQ.thenRet (?_))
    exact WQ.ret1 (h1 := .tmp (t := 4) rfl) ⟨_, ⟨rfl, rfl⟩, Am.auto⟩
  · refine WC.seq ?_
    refine WC.region ?_
    refine WL.assign ?_
    refine WL.nil ?_
    refine WQ.next ?_
    refine WC.seq ?_
    refine WC.seq ?_
    refine WC.region ?_
    refine WL.move ?_
    refine WL.lss ?_
    refine WL.move ?_
    refine WL.cast (d := 22) (u := .bool false) rfl (congrArg Value.bool (by first | (simp; done) | (simp; omega) | omega)) ?_
    refine WL.gT ?_
    refine WL.move ?_
    refine WL.gT ?_
    refine WL.gtr ?_
    refine WL.pickF ?_
    refine WL.move ?_
    refine WL.cast (d := 26) (u := .bool true) rfl (congrArg Value.bool (by first | (simp; done) | (simp; omega) | omega)) ?_
    refine WL.gF ?_
    refine WL.gF ?_
    refine WL.pickT ?_
    refine WL.move ?_
    refine WL.gF ?_
    refine WL.gF ?_
    refine WL.pickT ?_
    refine WL.nil ?_
    refine WQ.next ?_
    refine WC.condT rfl rfl ?_
    refine WC.seq ?_
    refine WC.region ?_
    refine WL.call (hc := Try.call7) (sp := lawAwake) (h := ?_)
    rintro _ _ ⟨rfl, rfl⟩
    refine WL.assign ?_
    refine WL.nil ?_
    refine WQ.next ?_
    refine WC.ret (WQ.thenRet (?_))
    exact WQ.ret1 (h1 := .tmp (t := 4) rfl) ⟨_, ⟨rfl, rfl⟩, Am.auto⟩
  · refine WC.seq ?_
    refine WC.region ?_
    refine WL.assign ?_
    refine WL.nil ?_
    refine WQ.next ?_
    refine WC.seq ?_
    refine WC.seq ?_
    refine WC.region ?_
    refine WL.move ?_
    refine WL.lss ?_
    refine WL.move ?_
    refine WL.cast (d := 22) (u := .bool false) rfl (congrArg Value.bool (by first | (simp; done) | (simp; omega) | omega)) ?_
    refine WL.gT ?_
    refine WL.move ?_
    refine WL.gT ?_
    refine WL.gtr ?_
    refine WL.pickF ?_
    refine WL.move ?_
    refine WL.cast (d := 26) (u := .bool false) rfl (congrArg Value.bool (by first | (simp; done) | (simp; omega) | omega)) ?_
    refine WL.gT ?_
    refine WL.move ?_
    refine WL.gT ?_
    refine WL.lss ?_
    refine WL.pickF ?_
    refine WL.move ?_
    refine WL.cast (d := 30) (u := .bool true) rfl (congrArg Value.bool (by first | (simp; done) | (simp; omega) | omega)) ?_
    refine WL.gF ?_
    refine WL.gF ?_
    refine WL.pickT ?_
    refine WL.nil ?_
    refine WQ.next ?_
    refine WC.condT rfl rfl ?_
    refine WC.seq ?_
    refine WC.region ?_
    refine WL.call (hc := Try.call7) (sp := lawAwake) (h := ?_)
    rintro _ _ ⟨rfl, rfl⟩
    refine WL.assign ?_
    refine WL.nil ?_
    refine WQ.next ?_
    refine WC.ret (WQ.thenRet (?_))
    exact WQ.ret1 (h1 := .tmp (t := 4) rfl) ⟨_, ⟨rfl, rfl⟩, Am.auto⟩
  · refine WC.seq ?_
    refine WC.region ?_
    refine WL.assign ?_
    refine WL.nil ?_
    refine WQ.next ?_
    refine WC.seq ?_
    refine WC.seq ?_
    refine WC.region ?_
    refine WL.move ?_
    refine WL.lss ?_
    refine WL.move ?_
    refine WL.cast (d := 22) (u := .bool false) rfl (congrArg Value.bool (by first | (simp; done) | (simp; omega) | omega)) ?_
    refine WL.gT ?_
    refine WL.move ?_
    refine WL.gT ?_
    refine WL.gtr ?_
    refine WL.pickF ?_
    refine WL.move ?_
    refine WL.cast (d := 26) (u := .bool false) rfl (congrArg Value.bool (by first | (simp; done) | (simp; omega) | omega)) ?_
    refine WL.gT ?_
    refine WL.move ?_
    refine WL.gT ?_
    refine WL.lss ?_
    refine WL.pickF ?_
    refine WL.move ?_
    refine WL.cast (d := 30) (u := .bool false) rfl (congrArg Value.bool (by first | (simp; done) | (simp; omega) | omega)) ?_
    refine WL.gT ?_
    refine WL.move ?_
    refine WL.gT ?_
    refine WL.gtr ?_
    refine WL.pickF ?_
    refine WL.nil ?_
    refine WQ.next ?_
    refine WC.condT rfl (congrArg Value.bool (by first | (simp; done) | (simp; omega) | omega)) ?_
    refine WC.seq ?_
    refine WC.region ?_
    refine WL.call (hc := Try.call7) (sp := lawAwake) (h := ?_)
    rintro _ _ ⟨rfl, rfl⟩
    refine WL.assign ?_
    refine WL.nil ?_
    refine WQ.next ?_
    refine WC.ret (WQ.thenRet (?_))
    exact WQ.ret1 (h1 := .tmp (t := 4) rfl) ⟨_, ⟨rfl, rfl⟩, Am.auto⟩
  · obtain ⟨N, rfl⟩ : ∃ N : Nat, n = (N : Int) := ⟨n.toNat, by omega⟩
    obtain ⟨K, rfl⟩ : ∃ K : Nat, inodes = (K : Int) := ⟨inodes.toNat, by omega⟩
    refine WC.seq ?_
    refine WC.region ?_
    refine WL.assign ?_
    refine WL.nil ?_
    refine WQ.next ?_
    refine WC.seq ?_
    refine WC.seq ?_
    refine WC.region ?_
    refine WL.move ?_
    refine WL.lss ?_
    refine WL.move ?_
    refine WL.cast (d := 22) (u := .bool false) rfl (congrArg Value.bool (by first | (simp; done) | (simp; omega) | omega)) ?_
    refine WL.gT ?_
    refine WL.move ?_
    refine WL.gT ?_
    refine WL.gtr ?_
    refine WL.pickF ?_
    refine WL.move ?_
    refine WL.cast (d := 26) (u := .bool false) rfl (congrArg Value.bool (by first | (simp; done) | (simp; omega) | omega)) ?_
    refine WL.gT ?_
    refine WL.move ?_
    refine WL.gT ?_
    refine WL.lss ?_
    refine WL.pickF ?_
    refine WL.move ?_
    refine WL.cast (d := 30) (u := .bool false) rfl (congrArg Value.bool (by first | (simp; done) | (simp; omega) | omega)) ?_
    refine WL.gT ?_
    refine WL.move ?_
    refine WL.gT ?_
    refine WL.gtr ?_
    refine WL.pickF ?_
    refine WL.nil ?_
    refine WQ.next ?_
    refine WC.condF rfl (congrArg Value.bool (by first | (simp; done) | (simp; omega) | omega)) ?_
    refine WC.skip ?_
    refine WQ.next ?_
    refine WC.seq ?_
    refine WC.region ?_
    refine WL.move ?_
    refine WL.move ?_
    refine WL.call (hc := Try.call11) (sp := refMake (n := N) (ino := K) (by omega) (by omega) (by omega) (by omega)) (h := ?_)
    rintro _ M1 ⟨(⟨p, hp, hpn, hpi, rfl⟩ | rfl), hM⟩ <;> obtain rfl := hM.symm
    · subst hpn
      subst hpi
      have hdc := hp.dc
      have hnn := hp.n2
      have hno : p.n ≤ 600 := by omega
      refine WL.move ?_
      refine WL.extract ?_
      refine WL.extract ?_
      refine WL.alloc z27 fun b5 => ?_
      refine WL.stV ?_ agg27
      refine WL.assign ?_
      refine WL.nil ?_
      refine WQ.next ?_
      refine WC.seq ?_
      refine WC.seq ?_
      refine WC.region ?_
      refine WL.move ?_
      refine WL.nei ?_
      refine WL.nil ?_
      refine WQ.next ?_
      refine WC.condF rfl rfl ?_
      refine WC.skip ?_
      refine WQ.next ?_
      refine WC.seq ?_
      refine WC.region ?_
      refine WL.move ?_
      refine WL.move ?_
      refine WL.call (hc := Try.call8) (sp := aFresh hp) (h := ?_)
      rintro _ _ ⟨c, a, rfl, rfl⟩
      refine WL.move ?_
      refine WL.extract ?_
      refine WL.extract ?_
      refine WL.extract ?_
      refine WL.extract ?_
      refine WL.alloc z27 fun b9 => ?_
      refine WL.assign ?_
      refine WL.assign ?_
      refine WL.stV ?_ agg27
      refine WL.assign ?_
      refine WL.nil ?_
      refine WQ.next ?_
      refine WC.seq ?_
      refine WC.seq ?_
      refine WC.region ?_
      refine WL.move ?_
      refine WL.not ?_
      refine WL.nil ?_
      refine WQ.next ?_
      refine WC.condF rfl rfl ?_
      refine WC.skip ?_
      refine WQ.next ?_
      refine WC.seq ?_
      refine WC.region ?_
      refine WL.move ?_
      refine WL.mkS (k := (p.n : Int)) z4 (fun b55 => ?_) so30 (by omega) (by omega) (by omega)
      refine WL.cast (d := 55) (u := .slice (some ⟨b55, 0, none⟩) p.n p.n) rfl (by rw [Int.toNat_natCast]) ?_
      refine WL.to (A := buf b55 4 (p.n : Int).toNat (List.replicate (p.n : Int).toNat (.bool false))) (A' := buf b55 4 p.n (boolsV (rngB p.da (p.da + 0)) p.n)) (fun h hh => by rw [← noneB_rng, ← boolsV_none]; rw [Int.toNat_natCast] at hh; exact hh) ?_
      refine WL.assign ?_
      refine WL.nil ?_
      refine WQ.next ?_
      refine WC.seq ?_
      refine WC.seq ?_
      refine WC.region ?_
      refine WL.assign ?_
      refine WL.nil ?_
      refine WQ.next ?_
      refine WC.block ?_
      refine WC.to (A := AL a c p noneB rootB noneB rootB true) (A' := AL a c p noneB rootB (upto 0) rootB true) (fun h hh => by rw [← upto_zero]; exact hh) ?_
      refine WC.loopA (σ := Nat) (fun i => [(0, .int .i64 (p.n : Int)), (8, .pointer (some ⟨a, 0, none⟩)), (9, .pointer (some ⟨b9, 0, none⟩)), (11, .slice (some ⟨b55, 0, none⟩) p.n p.n), (12, .int .i64 (i : Int))]) (fun i => [pt b9 (.cells p.cells 27 (0, 0)), buf b55 4 p.n (boolsV (rngB p.da (p.da + i)) p.n), AL a c p noneB rootB (upto i) rootB true] ++ F) (fun i => i ≤ p.dc) (fun i => p.dc - i) 0 (Nat.zero_le _) ?_
      rintro i hi
      refine WC.seq ?_
      refine WC.seq ?_
      refine WC.region ?_
      refine WL.move ?_
      refine WL.fa ?_ fo27_6
      refine WL.ld ?_ sc3
      refine WL.lss ?_
      refine WL.nil ?_
      refine WQ.next ?_
      refine WC.cond rfl (fun hb => ?_) (fun hb => ?_)
      · have hlt : i < p.dc := by have := of_decide_eq_true hb; omega
        refine WC.skip ?_
        refine WQ.next ?_
        refine WC.seq ?_
        refine WC.block ?_
        refine WC.seq ?_
        refine WC.region ?_
        refine WL.move ?_
        refine WL.call (hc := Try.call9) (sp := aTakeK (k := i) (bk := upto i) hp hlt (decide_eq_false (by omega)) (fun j hj => decide_eq_true hj)) (h := ?_)
        rintro _ _ ⟨rfl, rfl⟩
        rw [upto_succ]
        refine WL.move ?_
        refine WL.extract ?_
        refine WL.extract ?_
        refine WL.assign ?_
        refine WL.assign ?_
        refine WL.nil ?_
        refine WQ.next ?_
        refine WC.seq ?_
        refine WC.seq ?_
        refine WC.region ?_
        refine WL.move ?_
        refine WL.nei ?_
        refine WL.move ?_
        refine WL.gT ?_
        refine WL.move ?_
        refine WL.gT ?_
        refine WL.fa ?_ fo27_5
        refine WL.gT ?_
        refine WL.ld ?_ sc3
        refine WL.gT ?_
        refine WL.lss ?_
        refine WL.pickF ?_
        refine WL.move ?_
        refine WL.cast (d := 75) (u := .bool false) rfl (congrArg Value.bool (by first | (simp; done) | (simp; omega) | omega)) ?_
        refine WL.gT ?_
        refine WL.move ?_
        refine WL.gT ?_
        refine WL.move ?_
        refine WL.gT ?_
        refine WL.geq ?_
        refine WL.pickF ?_
        refine WL.move ?_
        refine WL.cast (d := 80) (u := .bool false) rfl (congrArg Value.bool (by first | (simp; done) | (simp; omega) | omega)) ?_
        refine WL.gT ?_
        refine WL.move ?_
        refine WL.gT ?_
        refine WL.move ?_
        refine WL.gT ?_
        refine WL.idx1 ?_ so30
        refine WL.gT ?_
        refine WL.ldR (R := buf b55 4 p.n (boolsV (rngB p.da (p.da + i)) p.n)) (xs := boolsV (rngB p.da (p.da + i)) p.n) (i := ((p.da + i : Nat) : Int).toNat) (v := .bool false) ?_ sc4 Reads.buf (by rw [Int.toNat_natCast, boolsV_get _ (by omega)]; exact congrArg (fun z => some (Value.bool z)) (decide_eq_false (by omega)))
        refine WL.pickF ?_
        refine WL.nil ?_
        refine WQ.next ?_
        refine WC.condF rfl rfl ?_
        refine WC.skip ?_
        refine WQ.next ?_
        refine WC.region ?_
        refine WL.move ?_
        refine WL.move ?_
        refine WL.idx1 ?_ so30
        refine WL.stB ?_ sc4 (show 0 + ((p.da + i : Nat) : Int).toNat < (boolsV (rngB p.da (p.da + i)) p.n).length by rw [boolsV_length]; omega)
        refine WL.nil ?_
        refine WQ.blockNormal ?_
        refine WQ.next ?_
        refine WC.region ?_
        refine WL.move ?_
        refine WL.add ?_
        refine WL.assign ?_
        refine WL.nil ?_
        refine WQ.to (A := buf b55 4 p.n ((boolsV (rngB p.da (p.da + i)) p.n).set (0 + ((p.da + i : Nat) : Int).toNat) (.bool true))) (A' := buf b55 4 p.n (boolsV (rngB p.da (p.da + (i + 1))) p.n)) (fun h hh => by rw [← rngB_add, ← boolsV_set]; rw [Int.toNat_natCast, Nat.zero_add] at hh; exact hh) ?_
        refine WQ.cast (d := 12) (u := .int .i64 ((i + 1 : Nat) : Int)) rfl (congrArg (Value.int .i64) (by omega)) ?_
        exact WQ.back (i + 1) (by omega) (by omega)
      · have hge : ¬ i < p.dc := by have := of_decide_eq_false hb; omega
        have hie : i = p.dc := by omega
        subst hie
        have hcn : cntB (upto p.dc) p.dc = p.dc := by rw [cntB_upto]; omega
        refine WC.exit (WQ.thenExit (WQ.thenExit (WQ.blockExit (?_))))
        refine WQ.next ?_
        refine WC.seq ?_
        refine WC.region ?_
        refine WL.move ?_
        refine WL.call (hc := Try.call9) (sp := aTakeFull (bk := upto p.dc) hp (fun i hi => decide_eq_true hi)) (h := ?_)
        rintro _ _ ⟨rfl, rfl⟩
        refine WL.move ?_
        refine WL.extract ?_
        refine WL.extract ?_
        refine WL.assign ?_
        refine WL.assign ?_
        refine WL.nil ?_
        refine WQ.next ?_
        refine WC.seq ?_
        refine WC.region ?_
        refine WL.move ?_
        refine WL.call (hc := Try.call12) (sp := aFree (bk0 := noneB) (ik0 := rootB) (bk := upto p.dc) (ik := rootB) (op := true) hp) (h := ?_)
        rintro _ _ ⟨rfl, rfl⟩
        refine WL.move ?_
        refine WL.extract ?_
        refine WL.extract ?_
        refine WL.assign ?_
        refine WL.assign ?_
        refine WL.nil ?_
        refine WQ.next ?_
        refine WC.seq ?_
        refine WC.seq ?_
        refine WC.region ?_
        refine WL.move ?_
        refine WL.nei ?_
        refine WL.move ?_
        refine WL.gT ?_
        refine WL.move ?_
        refine WL.gT ?_
        refine WL.nei ?_
        refine WL.cast (d := 103) (u := .bool false) rfl (congrArg Value.bool (by rw [hcn]; simp)) ?_
        refine WL.pickF ?_
        refine WL.nil ?_
        refine WQ.next ?_
        refine WC.condF rfl rfl ?_
        refine WC.skip ?_
        refine WQ.next ?_
        refine WC.seq ?_
        refine WC.seq ?_
        refine WC.region ?_
        refine WL.assign ?_
        refine WL.nil ?_
        refine WQ.next ?_
        refine WC.block ?_
        refine WC.to (A := AL a c p noneB rootB (upto p.dc) rootB true) (A' := AL a c p noneB rootB (rngB 0 p.dc) rootB true) (fun h hh => by rw [← rngB_zero]; exact hh) ?_
        refine WC.loopA (σ := Nat) (fun j => [(8, .pointer (some ⟨a, 0, none⟩)), (9, .pointer (some ⟨b9, 0, none⟩)), (19, .int .i64 (j : Int))]) (fun j => [pt b9 (.cells p.cells 27 (0, 0)), AL a c p noneB rootB (rngB j p.dc) rootB true] ++ F) (fun j => j ≤ p.dc) (fun j => p.dc - j) 0 (Nat.zero_le _) ?_
        rintro j hj
        refine WC.seq ?_
        refine WC.seq ?_
        refine WC.region ?_
        refine WL.move ?_
        refine WL.fa ?_ fo27_6
        refine WL.ld ?_ sc3
        refine WL.lss ?_
        refine WL.nil ?_
        refine WQ.next ?_
        refine WC.cond rfl (fun hb2 => ?_) (fun hb2 => ?_)
        · have hlt : j < p.dc := by have := of_decide_eq_true hb2; omega
          refine WC.skip ?_
          refine WQ.next ?_
          refine WC.seq ?_
          refine WC.block ?_
          refine WC.seq ?_
          refine WC.region ?_
          refine WL.move ?_
          refine WL.fa ?_ fo27_5
          refine WL.ld ?_ sc3
          refine WL.move ?_
          refine WL.add ?_
          refine WL.cast (d := 115) (u := .int .i64 ((p.da + j : Nat) : Int)) rfl (congrArg (Value.int .i64) (by omega)) ?_
          refine WL.call (hc := Try.call10) (sp := aGiveBlock (k := j) (bk := rngB j p.dc) hp hlt (decide_eq_true (by omega))) (h := ?_)
          rintro _ _ ⟨rfl, rfl⟩
          rw [rngB_drop hlt]
          refine WL.nei ?_
          refine WL.nil ?_
          refine WQ.next ?_
          refine WC.condF rfl rfl ?_
          refine WC.skip ?_
          refine WQ.blockNormal ?_
          refine WQ.next ?_
          refine WC.region ?_
          refine WL.move ?_
          refine WL.add ?_
          refine WL.assign ?_
          refine WL.nil ?_
          refine WQ.cast (d := 19) (u := .int .i64 ((j + 1 : Nat) : Int)) rfl (congrArg (Value.int .i64) (by omega)) ?_
          exact WQ.back (j + 1) (by omega) (by omega)
        · have hge2 : ¬ j < p.dc := by have := of_decide_eq_false hb2; omega
          have hje : j = p.dc := by omega
          subst hje
          have hc0 : cntB (upto 0) p.dc = 0 := by rw [cntB_upto]; omega
          refine WC.to (A := AL a c p noneB rootB (rngB p.dc p.dc) rootB true) (A' := AL a c p noneB rootB (upto 0) rootB true) (fun h hh => by rw [← rngB_empty p.dc]; exact hh) ?_
          refine WC.exit (WQ.thenExit (WQ.thenExit (WQ.blockExit (?_))))
          refine WQ.next ?_
          refine WC.seq ?_
          refine WC.region ?_
          refine WL.move ?_
          refine WL.call (hc := Try.call12) (sp := aFree (bk0 := noneB) (ik0 := rootB) (bk := upto 0) (ik := rootB) (op := true) hp) (h := ?_)
          rintro _ _ ⟨rfl, rfl⟩
          refine WL.move ?_
          refine WL.extract ?_
          refine WL.extract ?_
          refine WL.assign ?_
          refine WL.nil ?_
          refine WQ.next ?_
          refine WC.seq ?_
          refine WC.region ?_
          refine WL.move ?_
          refine WL.fa ?_ fo27_6
          refine WL.ld ?_ sc3
          refine WL.eqi ?_
          refine WL.cast (d := 126) (u := .bool true) rfl (congrArg Value.bool (decide_eq_true (by rw [hc0]; omega))) ?_
          refine WL.move ?_
          refine WL.gT ?_
          refine WL.move ?_
          refine WL.gT ?_
          refine WL.fa ?_ fo27_5
          refine WL.gT ?_
          refine WL.ld ?_ sc3
          refine WL.gT ?_
          refine WL.call (hc := Try.call10) (sp := aGiveBlockNo (bk := upto 0) (k := (p.da : Int)) hp (.inr (.inr ⟨by omega, by have := hp.d1; omega, decide_eq_false (by omega)⟩)) (by omega)) (h := ?_)
          rintro _ _ ⟨rfl, rfl⟩
          refine WL.gT ?_
          refine WL.eqi ?_
          refine WL.pickT ?_
          refine WL.move ?_
          refine WL.gT ?_
          refine WL.call (hc := Try.call7) (sp := lawAwake) (h := ?_)
          rintro _ _ ⟨rfl, rfl⟩
          refine WL.pickT ?_
          refine WL.assign ?_
          refine WL.nil ?_
          refine WQ.next ?_
          refine WC.ret (?_)
          exact WQ.ret1 (h1 := .tmp (t := 4) rfl) ⟨_, ⟨rfl, rfl⟩, Am.auto⟩
    · refine WL.move ?_
      refine WL.extract ?_
      refine WL.extract ?_
      refine WL.alloc z27 fun b5 => ?_
      refine WL.stV ?_ agg27
      refine WL.assign ?_
      refine WL.nil ?_
      refine WQ.next ?_
      refine WC.seq ?_
      refine WC.seq ?_
      refine WC.region ?_
      refine WL.move ?_
      refine WL.nei ?_
      refine WL.nil ?_
      refine WQ.next ?_
      refine WC.condT rfl rfl ?_
      refine WC.seq ?_
      refine WC.region ?_
      refine WL.call (hc := Try.call7) (sp := lawAwake) (h := ?_)
      rintro _ _ ⟨rfl, rfl⟩
      refine WL.assign ?_
      refine WL.nil ?_
      refine WQ.next ?_
      refine WC.ret (WQ.thenRet (?_))
      exact WQ.ret1 (h1 := .tmp (t := 4) rfl) ⟨_, ⟨rfl, rfl⟩, Am.auto⟩

end Go.Proofs.Ytfmkhhdohfagkaa
