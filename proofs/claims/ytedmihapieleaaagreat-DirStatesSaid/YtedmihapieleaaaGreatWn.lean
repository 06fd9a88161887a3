/- Walks of layout.Make, of the reference's Make; a plan. -/
import Derived.Test.YtedmihapieleaaaGreatFa
import Derived.Test.YtedmihapieleaaaGreatWm
import Derived.KernelRfl
set_option linter.unusedVariables false
set_option linter.unusedSimpArgs false
namespace Go.Proofs.YtedmihapieleaaaGreat
open Go

theorem bdPlan (a b c : Int) : BuildOk Tryz.prog 28 [(0, .int .i64 a), (1, .int .i64 b), (6, .int .i64 c)] #[.int .i64 a, .int .i64 b, .int .i64 0, .int .i64 0, .int .i64 0, .int .i64 0, .int .i64 c] := fun w => by kernel_rfl
theorem bdLa (b o : Nat) (m : Int) : BuildOk Tryz.prog 134 [(0, .pointer (some ⟨b, o, none⟩)), (1, .int .i64 m)] #[.pointer (some ⟨b, o, none⟩), .int .i64 m] := fun w => by kernel_rfl
theorem bsLa (b o1 o2 o3 o4 : Nat) (m1 m2 m3 m4 : Int) : BuildSOk Tryz.prog 135 4 [(0, .agg #[.pointer (some ⟨b, o1, none⟩), .int .i64 m1]), (1, .agg #[.pointer (some ⟨b, o2, none⟩), .int .i64 m2]), (2, .agg #[.pointer (some ⟨b, o3, none⟩), .int .i64 m3]), (3, .agg #[.pointer (some ⟨b, o4, none⟩), .int .i64 m4])] 134
  #[.pointer (some ⟨b, o1, none⟩), .int .i64 m1, .pointer (some ⟨b, o2, none⟩), .int .i64 m2, .pointer (some ⟨b, o3, none⟩), .int .i64 m3, .pointer (some ⟨b, o4, none⟩), .int .i64 m4] := fun w => by kernel_rfl
/-- A plan is the one of its blocks and inodes. -/
structure PlIs (p : Pl) : Prop where
  n2 : p.n ≤ 65536
  i1 : 1 ≤ p.ino
  i2 : p.ino ≤ 4096
  im : p.im = 246
  bm : p.bm = 246 + (p.ino + 4095) / 4096
  m1 : p.bm + 1 ≤ p.tb
  da : p.da = p.tb + (p.ino + 7) / 8
  dc : p.da + p.dc = p.n
  d1 : 1 ≤ p.dc
  enough : p.dc ≤ 4096 * (p.tb - p.bm)
  least : p.tb - p.bm = 1 ∨ 4096 * (p.tb - p.bm - 1) < p.dc + 1
theorem PlIs.one {p q : Pl} (h : PlIs p) (k : PlIs q) (hn : p.n = q.n) (hi : p.ino = q.ino) : p = q := by
  obtain ⟨n, ino, im, bm, tb, da, dc⟩ := p
  obtain ⟨n', ino', im', bm', tb', da', dc'⟩ := q
  have h1 := h.im; have h2 := h.bm; have h3 := h.m1; have h4 := h.da; have h5 := h.dc; have h6 := h.enough; have h7 := h.least
  have k1 := k.im; have k2 := k.bm; have k3 := k.m1; have k4 := k.da; have k5 := k.dc; have k6 := k.enough; have k7 := k.least
  simp only at hn hi h1 h2 h3 h4 h5 h6 h7 k1 k2 k3 k4 k5 k6 k7
  subst hn
  subst hi
  have e1 : bm = bm' := by omega
  subst e1
  have e2 : tb = tb' := by omega
  subst e2
  have e3 : da = da' := by omega
  have e4 : dc = dc' := by omega
  have e5 : im = im' := by omega
  subst e3; subst e4; subst e5
  rfl
theorem PlIs.ok {p : Pl} (h : PlIs p) : PlOk p := by
  have h1 := h.im; have h2 := h.bm; have h3 := h.m1; have h4 := h.da; have h5 := h.dc; have h6 := h.enough; have h7 := h.least; have h8 := h.n2; have h9 := h.i1; have h10 := h.i2; have h11 := h.d1
  exact ⟨⟨by omega, by omega, by omega, by omega⟩, ⟨by omega, by omega, by omega, by omega⟩, h9, h10, by omega, by omega, by omega, h5, h11⟩

theorem upA (k : Nat) : ((k : Int) + 4096 - 1) / 4096 = ((k + 4095) / 4096 : Nat) := by omega
theorem upB (k : Nat) : ((k : Int) + 8 - 1) / 8 = ((k + 7) / 8 : Nat) := by omega

theorem layUp {a b : Int} (ha : 0 ≤ a ∧ a ≤ 100000) (hb : 1 ≤ b ∧ b ≤ 100000) : Spec Tryz.prog 78 #[.int .i64 a, .int .i64 b] [] fun F v M => v = .int .i64 ((a + b - 1) / b) ∧ M = F := by
  refine Spec.intro Tryz.func78 rfl rfl fun B F => ?_
  simp only [Tryz.ntmps78, List.cons_append, List.nil_append, env0, Nat.reduceAdd]
  refine WC.seq ?_
  refine WC.region ?_
  refine WL.assign ?_
  refine WL.nil ?_
  refine WQ.next ?_
  refine WC.seq ?_
  refine WC.region ?_
  refine WL.move ?_
  refine WL.move ?_
  refine WL.add ?_
  refine WL.sub ?_
  refine WL.move ?_
  refine WL.quo ?_
  refine WL.assign ?_
  refine WL.nil ?_
  refine WQ.next ?_
  refine WC.ret (?_)
  exact WQ.ret1 (h1 := .tmp (t := 4) rfl) ⟨_, ⟨rfl, rfl⟩, Am.auto⟩

theorem layMake {p : Pl} (h : PlIs p) : Spec Tryz.prog 40 #[.int .i64 (p.n : Int), .int .i64 (p.ino : Int)] [] fun F v M => v = .tuple #[.agg p.cells, .int .i64 0] ∧ M = F := by
  refine Spec.intro Tryz.func40 rfl rfl fun B F => ?_
  simp only [Tryz.ntmps40, List.cons_append, List.nil_append, env0, Nat.reduceAdd]
  have h1 := h.im
  have h2 := h.bm
  have h3 := h.m1
  have h4 := h.da
  have h5 := h.dc
  have h6 := h.enough
  have h7 := h.least
  have h8 := h.n2
  have h9 := h.i1
  have h10 := h.i2
  have h11 := h.d1
  refine WC.seq ?_
  refine WC.region ?_
  refine WL.alloc z28 fun b4 => ?_
  refine WL.assign ?_
  refine WL.nil ?_
  refine WQ.next ?_
  refine WC.seq ?_
  refine WC.seq ?_
  refine WC.region ?_
  refine WL.move ?_
  refine WL.lss ?_
  refine WL.move ?_
  refine WL.cast (d := 16) (u := .bool false) rfl (congrArg Value.bool (by first | (simp; done) | (simp; omega) | omega)) ?_
  refine WL.gT ?_
  refine WL.move ?_
  refine WL.gT ?_
  refine WL.gtr ?_
  refine WL.pickF ?_
  refine WL.move ?_
  refine WL.cast (d := 20) (u := .bool false) rfl (congrArg Value.bool (by first | (simp; done) | (simp; omega) | omega)) ?_
  refine WL.gT ?_
  refine WL.move ?_
  refine WL.gT ?_
  refine WL.lss ?_
  refine WL.pickF ?_
  refine WL.move ?_
  refine WL.cast (d := 24) (u := .bool false) rfl (congrArg Value.bool (by first | (simp; done) | (simp; omega) | omega)) ?_
  refine WL.gT ?_
  refine WL.move ?_
  refine WL.gT ?_
  refine WL.gtr ?_
  refine WL.pickF ?_
  refine WL.nil ?_
  refine WQ.next ?_
  refine WC.condF rfl (congrArg Value.bool (by first | (simp; done) | (simp; omega) | omega)) ?_
  refine WC.skip ?_
  refine WQ.next ?_
  refine WC.seq ?_
  refine WC.region ?_
  refine WL.move ?_
  refine WL.call (hc := Tryz.call78) (sp := layUp (by omega) (by omega)) (h := ?_)
  rintro _ _ ⟨rfl, rfl⟩
  refine WL.move ?_
  refine WL.call (hc := Tryz.call78) (sp := layUp (by omega) (by omega)) (h := ?_)
  rintro _ _ ⟨rfl, rfl⟩
  refine WL.assign ?_
  refine WL.cast (d := 6) (u := .int .i64 (((p.ino + 4095) / 4096 : Nat) : Int)) rfl (congrArg (Value.int .i64) (upA _)) ?_
  refine WL.assign ?_
  refine WL.cast (d := 7) (u := .int .i64 (((p.ino + 7) / 8 : Nat) : Int)) rfl (congrArg (Value.int .i64) (upB _)) ?_
  refine WL.nil ?_
  refine WQ.next ?_
  refine WC.seq ?_
  refine WC.region ?_
  refine WL.move ?_
  refine WL.sub ?_
  refine WL.move ?_
  refine WL.sub ?_
  refine WL.move ?_
  refine WL.sub ?_
  refine WL.assign ?_
  refine WL.cast (d := 8) (u := .int .i64 ((p.dc : Int) + (p.tb - p.bm))) rfl (congrArg (Value.int .i64) (by omega)) ?_
  refine WL.nil ?_
  refine WQ.next ?_
  refine WC.seq ?_
  refine WC.region ?_
  refine WL.assign ?_
  refine WL.nil ?_
  refine WQ.next ?_
  refine WC.seq ?_
  refine WC.block ?_
  refine WC.loopA (σ := Nat) (fun m => [(0, .int .i64 (p.n : Int)), (1, .int .i64 (p.ino : Int)), (4, .pointer (some ⟨b4, 0, none⟩)), (6, .int .i64 (((p.ino + 4095) / 4096 : Nat) : Int)), (7, .int .i64 (((p.ino + 7) / 8 : Nat) : Int)), (8, .int .i64 ((p.dc : Int) + (p.tb - p.bm))), (9, .int .i64 (m : Int))]) (fun m => pt b4 (.cells #[.int .i64 0, .int .i64 0, .int .i64 0, .int .i64 0, .int .i64 0, .int .i64 0, .int .i64 0] 28 (0, 0)) :: F) (fun m => 1 ≤ m ∧ m ≤ p.tb - p.bm) (fun m => p.tb - p.bm - m) 1 (by omega) ?_
  rintro m hm
  refine WC.seq ?_
  refine WC.seq ?_
  refine WC.region ?_
  refine WL.move ?_
  refine WL.mul ?_
  refine WL.move ?_
  refine WL.move ?_
  refine WL.sub ?_
  refine WL.lss ?_
  refine WL.nil ?_
  refine WQ.next ?_
  refine WC.cond rfl (fun hb => ?_) (fun hb => ?_)
  · have hlt : 4096 * (m : Int) < (p.dc : Int) + (p.tb - p.bm) - m := of_decide_eq_true hb
    refine WC.skip ?_
    refine WQ.next ?_
    refine WC.block ?_
    refine WC.region ?_
    refine WL.move ?_
    refine WL.add ?_
    refine WL.assign ?_
    refine WL.nil ?_
    refine WQ.blockNormal ?_
    refine WQ.cast (d := 9) (u := .int .i64 ((m + 1 : Nat) : Int)) rfl (congrArg (Value.int .i64) (by omega)) ?_
    exact WQ.back (m + 1) (by omega) (by omega)
  · have hge : ¬ 4096 * (m : Int) < (p.dc : Int) + (p.tb - p.bm) - m := of_decide_eq_false hb
    have hmm : m = p.tb - p.bm := by omega
    refine WC.exit (WQ.thenExit (WQ.thenExit (WQ.blockExit (?_))))
    refine WQ.next ?_
    refine WC.seq ?_
    refine WC.region ?_
    refine WL.move ?_
    refine WL.move ?_
    refine WL.move ?_
    refine WL.move ?_
    refine WL.sub ?_
    refine WL.cast (d := 51) (u := .int .i64 (p.dc : Int)) rfl (congrArg (Value.int .i64) (by omega)) ?_
    refine WL.build ?_ (bdPlan _ _ _)
    refine WL.alloc z28 fun b10 => ?_
    refine WL.stV ?_ agg28
    refine WL.nil ?_
    refine WQ.next ?_
    refine WC.seq ?_
    refine WC.seq ?_
    refine WC.region ?_
    refine WL.fa ?_ fo28_6
    refine WL.ld ?_ sc3
    refine WL.lss ?_
    refine WL.nil ?_
    refine WQ.next ?_
    refine WC.condF rfl (congrArg Value.bool (by first | (simp; done) | (simp; omega) | omega)) ?_
    refine WC.skip ?_
    refine WQ.next ?_
    refine WC.seq ?_
    refine WC.region ?_
    refine WL.assign ?_
    refine WL.nil ?_
    refine WQ.next ?_
    refine WC.seq ?_
    refine WC.seq ?_
    refine WC.region ?_
    refine WL.fa ?_ fo28_2
    refine WL.move ?_
    refine WL.build ?_ (bdLa _ _ _)
    refine WL.fa ?_ fo28_3
    refine WL.move ?_
    refine WL.build ?_ (bdLa _ _ _)
    refine WL.fa ?_ fo28_4
    refine WL.move ?_
    refine WL.build ?_ (bdLa _ _ _)
    refine WL.fa ?_ fo28_5
    refine WL.fa ?_ fo28_6
    refine WL.ld ?_ sc3
    refine WL.build ?_ (bdLa _ _ _)
    refine WL.buildS (fun b70 => ?_) (bsLa _ _ _ _ _ _ _ _ _)
    refine WL.lenS ?_ sl135
    refine WL.move ?_
    refine WL.nil ?_
    refine WQ.next ?_
    refine WC.block ?_
    refine WC.loopN 5 (RC.succ ?_)
    refine WC.seq ?_
    refine WC.region ?_
    refine WL.lss ?_
    refine WL.nil ?_
    refine WQ.next ?_
    refine WC.seq ?_
    refine WC.condT rfl (congrArg Value.bool (by first | (simp; done) | (simp; omega) | omega)) ?_
    refine WC.skip ?_
    refine WQ.next ?_
    refine WC.seq ?_
    refine WC.block ?_
    refine WC.seq ?_
    refine WC.region ?_
    refine WL.idx ?_ so135
    refine WL.ldAR (i := 0) (us := [.pointer (some ⟨b10, 2, none⟩), .int .i64 (((p.ino + 4095) / 4096 : Nat) : Int)]) ?_ agg134 Reads.pt rfl (Nat.le_of_ble_eq_true rfl) (R := pt b70 (.cells #[.pointer (some ⟨b10, 2, none⟩), .int .i64 (((p.ino + 4095) / 4096 : Nat) : Int), .pointer (some ⟨b10, 3, none⟩), .int .i64 (m : Int), .pointer (some ⟨b10, 4, none⟩), .int .i64 (((p.ino + 7) / 8 : Nat) : Int), .pointer (some ⟨b10, 5, none⟩), .int .i64 (p.dc : Int)] 134 (0, 0)))
    refine WL.alloc z134 fun b13_0 => ?_
    refine WL.stV ?_ agg134
    refine WL.nil ?_
    refine WQ.next ?_
    refine WC.seq ?_
    refine WC.region ?_
    refine WL.fa ?_ fo134_0
    refine WL.ld ?_ sc132
    refine WL.move ?_
    refine WL.nilCheck ?_
    refine WL.st ?_ sc3
    refine WL.nil ?_
    refine WQ.next ?_
    refine WC.region ?_
    refine WL.move ?_
    refine WL.fa ?_ fo134_1
    refine WL.ld ?_ sc3
    refine WL.add ?_
    refine WL.assign ?_
    refine WL.nil ?_
    refine WQ.blockNormal ?_
    refine WQ.next ?_
    refine WC.region ?_
    refine WL.add ?_
    refine WL.move ?_
    refine WL.nil ?_
    refine WQ.again (RC.succ ?_)
    refine WC.seq ?_
    refine WC.region ?_
    refine WL.lss ?_
    refine WL.nil ?_
    refine WQ.next ?_
    refine WC.seq ?_
    refine WC.condT rfl (congrArg Value.bool (by first | (simp; done) | (simp; omega) | omega)) ?_
    refine WC.skip ?_
    refine WQ.next ?_
    refine WC.seq ?_
    refine WC.block ?_
    refine WC.seq ?_
    refine WC.region ?_
    refine WL.idx ?_ so135
    refine WL.ldAR (i := 2) (us := [.pointer (some ⟨b10, 3, none⟩), .int .i64 (m : Int)]) ?_ agg134 Reads.pt rfl (Nat.le_of_ble_eq_true rfl) (R := pt b70 (.cells #[.pointer (some ⟨b10, 2, none⟩), .int .i64 (((p.ino + 4095) / 4096 : Nat) : Int), .pointer (some ⟨b10, 3, none⟩), .int .i64 (m : Int), .pointer (some ⟨b10, 4, none⟩), .int .i64 (((p.ino + 7) / 8 : Nat) : Int), .pointer (some ⟨b10, 5, none⟩), .int .i64 (p.dc : Int)] 134 (0, 0)))
    refine WL.alloc z134 fun b13_1 => ?_
    refine WL.stV ?_ agg134
    refine WL.nil ?_
    refine WQ.next ?_
    refine WC.seq ?_
    refine WC.region ?_
    refine WL.fa ?_ fo134_0
    refine WL.ld ?_ sc132
    refine WL.move ?_
    refine WL.nilCheck ?_
    refine WL.st ?_ sc3
    refine WL.nil ?_
    refine WQ.next ?_
    refine WC.region ?_
    refine WL.move ?_
    refine WL.fa ?_ fo134_1
    refine WL.ld ?_ sc3
    refine WL.add ?_
    refine WL.assign ?_
    refine WL.nil ?_
    refine WQ.blockNormal ?_
    refine WQ.next ?_
    refine WC.region ?_
    refine WL.add ?_
    refine WL.move ?_
    refine WL.nil ?_
    refine WQ.again (RC.succ ?_)
    refine WC.seq ?_
    refine WC.region ?_
    refine WL.lss ?_
    refine WL.nil ?_
    refine WQ.next ?_
    refine WC.seq ?_
    refine WC.condT rfl (congrArg Value.bool (by first | (simp; done) | (simp; omega) | omega)) ?_
    refine WC.skip ?_
    refine WQ.next ?_
    refine WC.seq ?_
    refine WC.block ?_
    refine WC.seq ?_
    refine WC.region ?_
    refine WL.idx ?_ so135
    refine WL.ldAR (i := 4) (us := [.pointer (some ⟨b10, 4, none⟩), .int .i64 (((p.ino + 7) / 8 : Nat) : Int)]) ?_ agg134 Reads.pt rfl (Nat.le_of_ble_eq_true rfl) (R := pt b70 (.cells #[.pointer (some ⟨b10, 2, none⟩), .int .i64 (((p.ino + 4095) / 4096 : Nat) : Int), .pointer (some ⟨b10, 3, none⟩), .int .i64 (m : Int), .pointer (some ⟨b10, 4, none⟩), .int .i64 (((p.ino + 7) / 8 : Nat) : Int), .pointer (some ⟨b10, 5, none⟩), .int .i64 (p.dc : Int)] 134 (0, 0)))
    refine WL.alloc z134 fun b13_2 => ?_
    refine WL.stV ?_ agg134
    refine WL.nil ?_
    refine WQ.next ?_
    refine WC.seq ?_
    refine WC.region ?_
    refine WL.fa ?_ fo134_0
    refine WL.ld ?_ sc132
    refine WL.move ?_
    refine WL.nilCheck ?_
    refine WL.st ?_ sc3
    refine WL.nil ?_
    refine WQ.next ?_
    refine WC.region ?_
    refine WL.move ?_
    refine WL.fa ?_ fo134_1
    refine WL.ld ?_ sc3
    refine WL.add ?_
    refine WL.assign ?_
    refine WL.nil ?_
    refine WQ.blockNormal ?_
    refine WQ.next ?_
    refine WC.region ?_
    refine WL.add ?_
    refine WL.move ?_
    refine WL.nil ?_
    refine WQ.again (RC.succ ?_)
    refine WC.seq ?_
    refine WC.region ?_
    refine WL.lss ?_
    refine WL.nil ?_
    refine WQ.next ?_
    refine WC.seq ?_
    refine WC.condT rfl (congrArg Value.bool (by first | (simp; done) | (simp; omega) | omega)) ?_
    refine WC.skip ?_
    refine WQ.next ?_
    refine WC.seq ?_
    refine WC.block ?_
    refine WC.seq ?_
    refine WC.region ?_
    refine WL.idx ?_ so135
    refine WL.ldAR (i := 6) (us := [.pointer (some ⟨b10, 5, none⟩), .int .i64 (p.dc : Int)]) ?_ agg134 Reads.pt rfl (Nat.le_of_ble_eq_true rfl) (R := pt b70 (.cells #[.pointer (some ⟨b10, 2, none⟩), .int .i64 (((p.ino + 4095) / 4096 : Nat) : Int), .pointer (some ⟨b10, 3, none⟩), .int .i64 (m : Int), .pointer (some ⟨b10, 4, none⟩), .int .i64 (((p.ino + 7) / 8 : Nat) : Int), .pointer (some ⟨b10, 5, none⟩), .int .i64 (p.dc : Int)] 134 (0, 0)))
    refine WL.alloc z134 fun b13_3 => ?_
    refine WL.stV ?_ agg134
    refine WL.nil ?_
    refine WQ.next ?_
    refine WC.seq ?_
    refine WC.region ?_
    refine WL.fa ?_ fo134_0
    refine WL.ld ?_ sc132
    refine WL.move ?_
    refine WL.nilCheck ?_
    refine WL.st ?_ sc3
    refine WL.nil ?_
    refine WQ.next ?_
    refine WC.region ?_
    refine WL.move ?_
    refine WL.fa ?_ fo134_1
    refine WL.ld ?_ sc3
    refine WL.add ?_
    refine WL.assign ?_
    refine WL.nil ?_
    refine WQ.blockNormal ?_
    refine WQ.next ?_
    refine WC.region ?_
    refine WL.add ?_
    refine WL.move ?_
    refine WL.nil ?_
    refine WQ.again (RC.succ ?_)
    refine WC.seq ?_
    refine WC.region ?_
    refine WL.lss ?_
    refine WL.nil ?_
    refine WQ.next ?_
    refine WC.seq ?_
    refine WC.condF rfl (congrArg Value.bool (by first | (simp; done) | (simp; omega) | omega)) ?_
    refine WC.exit (WQ.thenExit (WQ.thenExit (WQ.blockExit (?_))))
    refine WQ.next ?_
    refine WC.seq ?_
    refine WC.region ?_
    refine WL.ldA ?_ agg28
    refine WL.stV ?_ agg28
    refine WL.assign ?_
    refine WL.nil ?_
    refine WQ.next ?_
    refine WC.ret (?_)
    have hce : (#[.int .i64 (p.n : Int), .int .i64 (p.ino : Int), .int .i64 246, .int .i64 (246 + (((p.ino + 4095) / 4096 : Nat) : Int)), .int .i64 (246 + (((p.ino + 4095) / 4096 : Nat) : Int) + (m : Int)), .int .i64 (246 + (((p.ino + 4095) / 4096 : Nat) : Int) + (m : Int) + (((p.ino + 7) / 8 : Nat) : Int)), .int .i64 (p.dc : Int)] : Array Value) = p.cells := by
      unfold Pl.cells
      rw [show (p.im : Int) = 246 from by omega, show (p.bm : Int) = 246 + (((p.ino + 4095) / 4096 : Nat) : Int) from by omega, show (p.tb : Int) = 246 + (((p.ino + 4095) / 4096 : Nat) : Int) + (m : Int) from by omega, show (p.da : Int) = 246 + (((p.ino + 4095) / 4096 : Nat) : Int) + (m : Int) + (((p.ino + 7) / 8 : Nat) : Int) from by omega]
    refine WQ.to (A := pt b4 (.cells #[.int .i64 (p.n : Int), .int .i64 (p.ino : Int), .int .i64 246, .int .i64 (246 + (((p.ino + 4095) / 4096 : Nat) : Int)), .int .i64 (246 + (((p.ino + 4095) / 4096 : Nat) : Int) + (m : Int)), .int .i64 (246 + (((p.ino + 4095) / 4096 : Nat) : Int) + (m : Int) + (((p.ino + 7) / 8 : Nat) : Int)), .int .i64 (p.dc : Int)] 28 (0, 0))) (A' := pt b4 (.cells p.cells 28 (0, 0))) (fun h hh => by rw [← hce]; exact hh) ?_
    exact WQ.ret2 (h2 := .tmp (t := 5) rfl) ⟨_, ⟨rfl, rfl⟩, Am.auto⟩


theorem bdPlan0 : BuildOk Tryz.prog 28 [] #[.int .i64 0, .int .i64 0, .int .i64 0, .int .i64 0, .int .i64 0, .int .i64 0, .int .i64 0] := fun w => by kernel_rfl
theorem bdPlan3 (a b c : Int) : BuildOk Tryz.prog 28 [(0, .int .i64 a), (1, .int .i64 b), (2, .int .i64 c)] #[.int .i64 a, .int .i64 b, .int .i64 c, .int .i64 0, .int .i64 0, .int .i64 0, .int .i64 0] := fun w => by kernel_rfl
/-- The plan of so many blocks and inodes, with m blocks for the map of blocks. -/
def mkPl (n ino m : Nat) : Pl := ⟨n, ino, 246, 246 + (ino + 4095) / 4096, 246 + (ino + 4095) / 4096 + m, 246 + (ino + 4095) / 4096 + m + (ino + 7) / 8, n - (246 + (ino + 4095) / 4096 + m + (ino + 7) / 8)⟩
theorem mkPl_is {n ino m : Nat} (hn : n ≤ 65536) (h1 : 1 ≤ ino) (h2 : ino ≤ 4096) (hm : 1 ≤ m) (hd : 246 + (ino + 4095) / 4096 + m + (ino + 7) / 8 + 1 ≤ n) (he : n ≤ 246 + (ino + 4095) / 4096 + m + (ino + 7) / 8 + 4096 * m)
    (hl : m = 1 ∨ 246 + (ino + 4095) / 4096 + m + (ino + 7) / 8 + 4096 * (m - 1) < n + 1) : PlIs (mkPl n ino m) := by
  refine ⟨hn, h1, h2, rfl, rfl, ?_, rfl, ?_, ?_, ?_, ?_⟩ <;> simp only [mkPl] <;> omega
def zeroPl : Array Value := #[.int .i64 0, .int .i64 0, .int .i64 0, .int .i64 0, .int .i64 0, .int .i64 0, .int .i64 0]
theorem upA2 (k : Nat) : ((k : Int) + 4095) / 4096 = ((k + 4095) / 4096 : Nat) := by omega
theorem upB2 (k : Nat) : ((k : Int) + 7) / 8 = ((k + 7) / 8 : Nat) := by omega

end Go.Proofs.YtedmihapieleaaaGreat
