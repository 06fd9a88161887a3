/- Walks of package inode: Format, Make, Stat, block, fresh, take. -/
import Derived.Test.YtedmihapieleaaaGreatFa
import Derived.Test.YtedmihapieleaaaGreatWu
import Derived.Test.YtedmihapieleaaaGreatPj
import Derived.KernelRfl
set_option linter.unusedVariables false
set_option linter.unusedSimpArgs false
namespace Go.Proofs.YtedmihapieleaaaGreat
open Go
theorem z55 : zeroOf Tryz.prog 55 = some (#[.int .i64 0, .int .i64 0]) := by kernel_rfl
theorem agg55 : aggOk Tryz.prog 55 2 = true := by kernel_rfl
theorem inStat {s c a : Nat} {p : Pl} {V0 V : Nat → Bytes} {D : List Nat} {op : Bool} {i : Nat} (ho : PlOk p) (hi : i < p.ino) (hd : i = 0 ∨ dig V p.im i = true) : Spec Tryz.prog 29 #[.pointer (some ⟨s, 0, none⟩), nI i] [pt s (stO c a p), pt a (alO c p), TR c p.n V0 V D op] fun F v M => v = .tuple #[.agg #[nI (ldN p V i).kd, nI (ldN p V i).sz], .int .i64 0] ∧ M = [pt s (stO c a p), pt a (alO c p), TR c p.n V0 V D op] ++ F := by
  refine Spec.intro Tryz.func29 rfl rfl fun B F => ?_
  simp only [Tryz.ntmps29, List.cons_append, List.nil_append, env0, Nat.reduceAdd]
  refine WC.seq ?_
  refine WC.region ?_
  refine WL.alloc z55 fun b4 => ?_
  refine WL.assign ?_
  refine WL.nil ?_
  refine WQ.next ?_
  refine WC.seq ?_
  refine WC.region ?_
  refine WL.move ?_
  refine WL.move ?_
  refine WL.call (hc := Tryz.call61) (sp := inLoad (i := i) (V0 := V0) (V := V) (D := D) (op := op) ho hi hd) (h := ?_)
  rintro _ _ ⟨rfl, rfl⟩
  refine WL.move ?_
  refine WL.extract ?_
  refine WL.extract ?_
  refine WL.allocL zNd rfl fun b6 => ?_
  refine WL.stLA (xs := ndL nd0) (us := ndL (ldN p V i)) ?_ agg92 (ndL_length (ldB_fits _ _).bl) rfl (ndL_single _)
  refine WL.assign ?_
  refine WL.nil ?_
  refine WQ.next ?_
  refine WC.seq ?_
  refine WC.region ?_
  refine WL.fa ?_ fo92_0
  refine WL.ldL (xs := ndL (ldN p V i)) (i := 0) (v := nI (ldN p V i).kd) ?_ sc3 rfl
  refine WL.fa ?_ fo92_1
  refine WL.ldL (xs := ndL (ldN p V i)) (i := 1) (v := nI (ldN p V i).sz) ?_ sc3 rfl
  refine WL.build ?_ (bdStat _ _)
  refine WL.move ?_
  refine WL.stV ?_ agg55
  refine WL.assign ?_
  refine WL.nil ?_
  refine WQ.next ?_
  refine WC.ret (?_)
  exact WQ.ret2 (h2 := .tmp (t := 5) rfl) ⟨_, ⟨rfl, rfl⟩, Am.auto⟩

theorem inStatNo {s c a : Nat} {p : Pl} {V0 V : Nat → Bytes} {D : List Nat} {op : Bool} {i : Int} (ho : PlOk p) (hno : ¬ (0 ≤ i ∧ i < p.ino ∧ (i = 0 ∨ dig V p.im i.toNat = true))) : Spec Tryz.prog 29 #[.pointer (some ⟨s, 0, none⟩), .int .i64 i] [pt s (stO c a p), pt a (alO c p), TR c p.n V0 V D op] fun F v M => v = .tuple #[.agg #[nI 0, nI 0], .int .i64 4] ∧ M = [pt s (stO c a p), pt a (alO c p), TR c p.n V0 V D op] ++ F := by
  refine Spec.intro Tryz.func29 rfl rfl fun B F => ?_
  simp only [Tryz.ntmps29, List.cons_append, List.nil_append, env0, Nat.reduceAdd]
  refine WC.seq ?_
  refine WC.region ?_
  refine WL.alloc z55 fun b4 => ?_
  refine WL.assign ?_
  refine WL.nil ?_
  refine WQ.next ?_
  refine WC.seq ?_
  refine WC.region ?_
  refine WL.move ?_
  refine WL.move ?_
  refine WL.call (hc := Tryz.call61) (sp := inLoadNo (i := i) (V0 := V0) (V := V) (D := D) (op := op) ho hno) (h := ?_)
  rintro _ _ ⟨rfl, rfl⟩
  refine WL.move ?_
  refine WL.extract ?_
  refine WL.extract ?_
  refine WL.allocL zNd rfl fun b6 => ?_
  refine WL.stLA (xs := ndL nd0) (us := ndL nd0) ?_ agg92 (ndL_length rfl) rfl (ndL_single _)
  refine WL.assign ?_
  refine WL.nil ?_
  refine WQ.next ?_
  refine WC.seq ?_
  refine WC.region ?_
  refine WL.fa ?_ fo92_0
  refine WL.ldL (xs := ndL nd0) (i := 0) (v := nI nd0.kd) ?_ sc3 rfl
  refine WL.fa ?_ fo92_1
  refine WL.ldL (xs := ndL nd0) (i := 1) (v := nI nd0.sz) ?_ sc3 rfl
  refine WL.build ?_ (bdStat _ _)
  refine WL.move ?_
  refine WL.stV ?_ agg55
  refine WL.assign ?_
  refine WL.nil ?_
  refine WQ.next ?_
  refine WC.ret (?_)
  exact WQ.ret2 (h2 := .tmp (t := 5) rfl) ⟨_, ⟨rfl, rfl⟩, Am.auto⟩

theorem inStatNil {i : Value} : Spec Tryz.prog 29 #[.pointer none, i] [] fun F v M => v = .tuple #[.agg #[nI 0, nI 0], .int .i64 8] ∧ M =  F := by
  refine Spec.intro Tryz.func29 rfl rfl fun B F => ?_
  simp only [Tryz.ntmps29, List.cons_append, List.nil_append, env0, Nat.reduceAdd]
  refine WC.seq ?_
  refine WC.region ?_
  refine WL.alloc z55 fun b4 => ?_
  refine WL.assign ?_
  refine WL.nil ?_
  refine WQ.next ?_
  refine WC.seq ?_
  refine WC.region ?_
  refine WL.move ?_
  refine WL.move ?_
  refine WL.call (hc := Tryz.call61) (sp := inLoadNil) (h := ?_)
  rintro _ _ ⟨rfl, rfl⟩
  refine WL.move ?_
  refine WL.extract ?_
  refine WL.extract ?_
  refine WL.allocL zNd rfl fun b6 => ?_
  refine WL.stLA (xs := ndL nd0) (us := ndL nd0) ?_ agg92 (ndL_length rfl) rfl (ndL_single _)
  refine WL.assign ?_
  refine WL.nil ?_
  refine WQ.next ?_
  refine WC.seq ?_
  refine WC.region ?_
  refine WL.fa ?_ fo92_0
  refine WL.ldL (xs := ndL nd0) (i := 0) (v := nI nd0.kd) ?_ sc3 rfl
  refine WL.fa ?_ fo92_1
  refine WL.ldL (xs := ndL nd0) (i := 1) (v := nI nd0.sz) ?_ sc3 rfl
  refine WL.build ?_ (bdStat _ _)
  refine WL.move ?_
  refine WL.stV ?_ agg55
  refine WL.assign ?_
  refine WL.nil ?_
  refine WQ.next ?_
  refine WC.ret (?_)
  exact WQ.ret2 (h2 := .tmp (t := 5) rfl) ⟨_, ⟨rfl, rfl⟩, Am.auto⟩

theorem inFormat {s c a : Nat} {p : Pl} {V0 V : Nat → Bytes} {D : List Nat} (ho : PlOk p) (hroom : Room D) : Spec Tryz.prog 48 #[.pointer (some ⟨s, 0, none⟩)] [pt s (stO c a p), TR c p.n V0 V D true] fun F v M => v = okV ∧ M = [pt s (stO c a p), TR c p.n V0 (svV p V 0 ⟨2, 0, List.replicate 11 0⟩) (insD D (p.tb + 0 / 8)) true] ++ F := by
  refine Spec.intro Tryz.func48 rfl rfl fun B F => ?_
  simp only [Tryz.ntmps48, List.cons_append, List.nil_append, env0, Nat.reduceAdd]
  refine WC.seq ?_
  refine WC.region ?_
  refine WL.assign ?_
  refine WL.nil ?_
  refine WQ.next ?_
  refine WC.seq ?_
  refine WC.seq ?_
  refine WC.region ?_
  refine WL.move ?_
  refine WL.call (hc := Tryz.call49) (sp := inReady (n := p.n) (V0 := V0) (V := V) (D := D) (op := true)) (h := ?_)
  rintro _ _ ⟨rfl, rfl⟩
  simp only [List.cons_append, List.nil_append]
  refine WL.not ?_
  refine WL.nil ?_
  refine WQ.next ?_
  refine WC.condF rfl rfl ?_
  refine WC.skip ?_
  refine WQ.next ?_
  refine WC.seq ?_
  refine WC.region ?_
  refine WL.move ?_
  refine WL.build ?_ (bdNdK 2)
  refine WL.call (hc := Tryz.call51) (sp := inSave (i := 0) (x := ⟨2, 0, List.replicate 11 0⟩) (V0 := V0) (V := V) (D := D) ho ho.i1 ⟨rfl, by decide⟩ hroom) (h := ?_)
  rintro _ _ ⟨rfl, rfl⟩
  refine WL.assign ?_
  refine WL.nil ?_
  refine WQ.next ?_
  refine WC.ret (?_)
  exact WQ.ret1 (h1 := .tmp (t := 2) rfl) ⟨_, ⟨rfl, rfl⟩, Am.auto⟩


theorem kFits {k : Nat} (h : k < 4294967296) : Fits ⟨k, 0, List.replicate 11 0⟩ := ⟨rfl, fun v hv => by
  simp only [Nd.nums, List.mem_cons, List.mem_replicate] at hv
  rcases hv with rfl | rfl | ⟨_, rfl⟩
  · exact h
  · decide
  · decide⟩
def mkD (p : Pl) (D : List Nat) (i : Nat) : List Nat := insD (insD D (p.im + i / 4096)) (p.tb + i / 8)
theorem PlOk.lo {p : Pl} (h : PlOk p) : 245 ≤ p.im ∧ p.im < p.bm ∧ p.bm < p.tb ∧ p.tb < p.da ∧ p.da < p.n ∧ p.n ≤ 65536 := by
  have h1 := h.aI.lo; have h2 := h.apart; have h3 := h.tbl; have h4 := h.d1; have h5 := h.tbda; have h6 := h.dat; have h7 := h.aI.n2
  omega
theorem mkD_ok {p : Pl} {D : List Nat} (ho : PlOk p) (hd : Dk p D) {i : Nat} (hi : i < p.ino) : Dk p (mkD p D i) ∧ wt p (mkD p D i) ≤ wt p D + 1 := by
  have h1 := ho.lo; have h2 := ho.i2; have h3 := ho.tab
  have e1 := wt_ins p D (p.im + i / 4096)
  have e2 := wt_ins p (insD D (p.im + i / 4096)) (p.tb + i / 8)
  have e3 := e1.2.1 (by omega)
  exact ⟨(hd.ins (by omega) (by omega)).ins (by omega) (by omega), by unfold mkD; omega⟩

theorem inMake {s c a : Nat} {p : Pl} {V0 V : Nat → Bytes} {D : List Nat} {k : Nat} (ho : PlOk p) (hk : k = 1 ∨ k = 2) (hdk : Dk p D) (hrm : Rm p D 1) : Spec Tryz.prog 17 #[.pointer (some ⟨s, 0, none⟩), nI k] [pt s (stO c a p), pt a (alO c p), TR c p.n V0 V D true] fun F v M =>
    (∃ i, i < p.ino ∧ dig V p.im i = false ∧ (∀ j < i, dig V p.im j = true) ∧ v = .tuple #[nI i, .int .i64 0] ∧ M = [pt s (stO c a p), pt a (alO c p), TR c p.n V0 (svV p (setD V p.im i true) i ⟨k, 0, List.replicate 11 0⟩) (mkD p D i) true] ++ F) ∨
    ((∀ j < p.ino, dig V p.im j = true) ∧ v = .tuple #[nI 0, .int .i64 3] ∧ M = [pt s (stO c a p), pt a (alO c p), TR c p.n V0 V D true] ++ F) := by
  refine Spec.intro Tryz.func17 rfl rfl fun B F => ?_
  simp only [Tryz.ntmps17, List.cons_append, List.nil_append, env0, Nat.reduceAdd]
  have hlo := ho.lo
  have hi2 := ho.i2
  rcases hk with rfl | rfl
  · refine WC.seq ?_
    refine WC.region ?_
    refine WL.assign ?_
    refine WL.assign ?_
    refine WL.nil ?_
    refine WQ.next ?_
    refine WC.seq ?_
    refine WC.block ?_
    refine WC.seq ?_
    refine WC.region ?_
    refine WL.move ?_
    refine WL.call (hc := Tryz.call49) (sp := inReady (n := p.n) (V0 := V0) (V := V) (D := D) (op := true)) (h := ?_)
    rintro _ _ ⟨rfl, rfl⟩
    simp only [List.cons_append, List.nil_append]
    refine WL.not ?_
    refine WL.assign ?_
    refine WL.nil ?_
    refine WQ.next ?_
    refine WC.condF rfl rfl ?_
    refine WC.seq ?_
    refine WC.region ?_
    refine WL.move ?_
    refine WL.nei ?_
    refine WL.move ?_
    refine WL.gF ?_
    refine WL.gF ?_
    refine WL.pickF ?_
    refine WL.assign ?_
    refine WL.nil ?_
    refine WQ.next ?_
    refine WC.condF rfl rfl ?_
    refine WC.skip ?_
    refine WQ.blockNormal ?_
    refine WQ.next ?_
    refine WC.seq ?_
    refine WC.region ?_
    refine WL.move ?_
    refine WL.nilCheck ?_
    refine WL.fa ?_ fo87_1
    refine WL.ld ?_ sc25
    refine WL.call (hc := Tryz.call50) (sp := alTakeInode (p := p) (V0 := V0) (V := V) (D := D) ho (hdk.room (c := 0) hrm)) (h := ?_)
    rintro _ _ (⟨j, hj, hj0, hjb, rfl, rfl⟩ | ⟨hall, rfl, rfl⟩) <;> simp only [List.cons_append, List.nil_append]
    · refine WL.move ?_
      refine WL.extract ?_
      refine WL.extract ?_
      refine WL.assign ?_
      refine WL.assign ?_
      refine WL.nil ?_
      refine WQ.next ?_
      refine WC.seq ?_
      refine WC.seq ?_
      refine WC.region ?_
      refine WL.move ?_
      refine WL.nei ?_
      refine WL.nil ?_
      refine WQ.next ?_
      refine WC.condF rfl rfl ?_
      refine WC.skip ?_
      refine WQ.next ?_
      refine WC.seq ?_
      refine WC.seq ?_
      refine WC.region ?_
      refine WL.move ?_
      refine WL.move ?_
      refine WL.move ?_
      refine WL.build ?_ (bdNdK 1)
      refine WL.call (hc := Tryz.call51) (sp := inSave (i := j) (x := ⟨1, 0, List.replicate 11 0⟩) (V0 := V0) (V := setD V p.im j true) (D := insD D (p.im + j / 4096)) ho hj (kFits (by decide)) ((hdk.ins (by omega) (by omega)).room (c := 0) (hrm.mono (by have := (wt_ins p D (p.im + j / 4096)).2.1 (by omega); omega)))) (h := ?_)
      rintro _ _ ⟨rfl, rfl⟩
      simp only [List.cons_append, List.nil_append]
      refine WL.assign ?_
      refine WL.nil ?_
      refine WQ.next ?_
      refine WC.seq ?_
      refine WC.region ?_
      refine WL.move ?_
      refine WL.nei ?_
      refine WL.nil ?_
      refine WQ.next ?_
      refine WC.condF rfl rfl ?_
      refine WC.skip ?_
      refine WQ.next ?_
      refine WC.seq ?_
      refine WC.region ?_
      refine WL.move ?_
      refine WL.assign ?_
      refine WL.assign ?_
      refine WL.nil ?_
      refine WQ.next ?_
      refine WC.ret (?_)
      exact WQ.ret2 (h1 := .tmp (t := 4) rfl) (h2 := .tmp (t := 5) rfl) ⟨_, .inl ⟨j, hj, hj0, hjb, rfl, rfl⟩, Am.auto⟩
    · refine WL.move ?_
      refine WL.extract ?_
      refine WL.extract ?_
      refine WL.assign ?_
      refine WL.assign ?_
      refine WL.nil ?_
      refine WQ.next ?_
      refine WC.seq ?_
      refine WC.seq ?_
      refine WC.region ?_
      refine WL.move ?_
      refine WL.nei ?_
      refine WL.nil ?_
      refine WQ.next ?_
      refine WC.condT rfl rfl ?_
      refine WC.seq ?_
      refine WC.region ?_
      refine WL.move ?_
      refine WL.assign ?_
      refine WL.assign ?_
      refine WL.nil ?_
      refine WQ.next ?_
      refine WC.ret (WQ.thenRet (?_))
      exact WQ.ret2 (h1 := .tmp (t := 4) rfl) (h2 := .tmp (t := 5) rfl) ⟨_, .inr ⟨hall, rfl, rfl⟩, Am.auto⟩
  · refine WC.seq ?_
    refine WC.region ?_
    refine WL.assign ?_
    refine WL.assign ?_
    refine WL.nil ?_
    refine WQ.next ?_
    refine WC.seq ?_
    refine WC.block ?_
    refine WC.seq ?_
    refine WC.region ?_
    refine WL.move ?_
    refine WL.call (hc := Tryz.call49) (sp := inReady (n := p.n) (V0 := V0) (V := V) (D := D) (op := true)) (h := ?_)
    rintro _ _ ⟨rfl, rfl⟩
    simp only [List.cons_append, List.nil_append]
    refine WL.not ?_
    refine WL.assign ?_
    refine WL.nil ?_
    refine WQ.next ?_
    refine WC.condF rfl rfl ?_
    refine WC.seq ?_
    refine WC.region ?_
    refine WL.move ?_
    refine WL.nei ?_
    refine WL.move ?_
    refine WL.gT ?_
    refine WL.move ?_
    refine WL.gT ?_
    refine WL.nei ?_
    refine WL.pickT ?_
    refine WL.assign ?_
    refine WL.nil ?_
    refine WQ.next ?_
    refine WC.condF rfl rfl ?_
    refine WC.skip ?_
    refine WQ.blockNormal ?_
    refine WQ.next ?_
    refine WC.seq ?_
    refine WC.region ?_
    refine WL.move ?_
    refine WL.nilCheck ?_
    refine WL.fa ?_ fo87_1
    refine WL.ld ?_ sc25
    refine WL.call (hc := Tryz.call50) (sp := alTakeInode (p := p) (V0 := V0) (V := V) (D := D) ho (hdk.room (c := 0) hrm)) (h := ?_)
    rintro _ _ (⟨j, hj, hj0, hjb, rfl, rfl⟩ | ⟨hall, rfl, rfl⟩) <;> simp only [List.cons_append, List.nil_append]
    · refine WL.move ?_
      refine WL.extract ?_
      refine WL.extract ?_
      refine WL.assign ?_
      refine WL.assign ?_
      refine WL.nil ?_
      refine WQ.next ?_
      refine WC.seq ?_
      refine WC.seq ?_
      refine WC.region ?_
      refine WL.move ?_
      refine WL.nei ?_
      refine WL.nil ?_
      refine WQ.next ?_
      refine WC.condF rfl rfl ?_
      refine WC.skip ?_
      refine WQ.next ?_
      refine WC.seq ?_
      refine WC.seq ?_
      refine WC.region ?_
      refine WL.move ?_
      refine WL.move ?_
      refine WL.move ?_
      refine WL.build ?_ (bdNdK 2)
      refine WL.call (hc := Tryz.call51) (sp := inSave (i := j) (x := ⟨2, 0, List.replicate 11 0⟩) (V0 := V0) (V := setD V p.im j true) (D := insD D (p.im + j / 4096)) ho hj (kFits (by decide)) ((hdk.ins (by omega) (by omega)).room (c := 0) (hrm.mono (by have := (wt_ins p D (p.im + j / 4096)).2.1 (by omega); omega)))) (h := ?_)
      rintro _ _ ⟨rfl, rfl⟩
      simp only [List.cons_append, List.nil_append]
      refine WL.assign ?_
      refine WL.nil ?_
      refine WQ.next ?_
      refine WC.seq ?_
      refine WC.region ?_
      refine WL.move ?_
      refine WL.nei ?_
      refine WL.nil ?_
      refine WQ.next ?_
      refine WC.condF rfl rfl ?_
      refine WC.skip ?_
      refine WQ.next ?_
      refine WC.seq ?_
      refine WC.region ?_
      refine WL.move ?_
      refine WL.assign ?_
      refine WL.assign ?_
      refine WL.nil ?_
      refine WQ.next ?_
      refine WC.ret (?_)
      exact WQ.ret2 (h1 := .tmp (t := 4) rfl) (h2 := .tmp (t := 5) rfl) ⟨_, .inl ⟨j, hj, hj0, hjb, rfl, rfl⟩, Am.auto⟩
    · refine WL.move ?_
      refine WL.extract ?_
      refine WL.extract ?_
      refine WL.assign ?_
      refine WL.assign ?_
      refine WL.nil ?_
      refine WQ.next ?_
      refine WC.seq ?_
      refine WC.seq ?_
      refine WC.region ?_
      refine WL.move ?_
      refine WL.nei ?_
      refine WL.nil ?_
      refine WQ.next ?_
      refine WC.condT rfl rfl ?_
      refine WC.seq ?_
      refine WC.region ?_
      refine WL.move ?_
      refine WL.assign ?_
      refine WL.assign ?_
      refine WL.nil ?_
      refine WQ.next ?_
      refine WC.ret (WQ.thenRet (?_))
      exact WQ.ret2 (h1 := .tmp (t := 4) rfl) (h2 := .tmp (t := 5) rfl) ⟨_, .inr ⟨hall, rfl, rfl⟩, Am.auto⟩

theorem inMake0 {s c a : Nat} {p : Pl} {V0 V : Nat → Bytes} {D : List Nat} {k : Int} : Spec Tryz.prog 17 #[.pointer (some ⟨s, 0, none⟩), .int .i64 k] [pt s (stO c a p), TR c p.n V0 V D false] fun F v M => v = .tuple #[nI 0, .int .i64 8] ∧ M = [pt s (stO c a p), TR c p.n V0 V D false] ++ F := by
  refine Spec.intro Tryz.func17 rfl rfl fun B F => ?_
  simp only [Tryz.ntmps17, List.cons_append, List.nil_append, env0, Nat.reduceAdd]
  refine WC.seq ?_
  refine WC.region ?_
  refine WL.assign ?_
  refine WL.assign ?_
  refine WL.nil ?_
  refine WQ.next ?_
  refine WC.seq ?_
  refine WC.block ?_
  refine WC.seq ?_
  refine WC.region ?_
  refine WL.move ?_
  refine WL.call (hc := Tryz.call49) (sp := inReady (n := p.n) (V0 := V0) (V := V) (D := D) (op := false)) (h := ?_)
  rintro _ _ ⟨rfl, rfl⟩
  simp only [List.cons_append, List.nil_append]
  refine WL.not ?_
  refine WL.assign ?_
  refine WL.nil ?_
  refine WQ.next ?_
  refine WC.condT rfl rfl ?_
  refine WC.seq ?_
  refine WC.region ?_
  refine WL.assign ?_
  refine WL.assign ?_
  refine WL.nil ?_
  refine WQ.next ?_
  refine WC.ret (WQ.blockRet (WQ.thenRet (?_)))
  exact WQ.ret2 (h1 := .tmp (t := 4) rfl) (h2 := .tmp (t := 5) rfl) ⟨_, ⟨rfl, rfl⟩, Am.auto⟩

theorem inReadyNil  : Spec Tryz.prog 49 #[.pointer none] [] fun F v M => v = .bool false ∧ M = F := by
  refine Spec.intro Tryz.func49 rfl rfl fun B F => ?_
  simp only [Tryz.ntmps49, List.cons_append, List.nil_append, env0, Nat.reduceAdd]
  refine WC.seq ?_
  refine WC.region ?_
  refine WL.assign ?_
  refine WL.nil ?_
  refine WQ.next ?_
  refine WC.seq ?_
  refine WC.region ?_
  refine WL.move ?_
  refine WL.neNil ?_ ptr26
  refine WL.move ?_
  refine WL.gF ?_
  refine WL.gF ?_
  refine WL.gF ?_
  refine WL.gF ?_
  refine WL.gF ?_
  refine WL.pickF ?_
  refine WL.assign ?_
  refine WL.nil ?_
  refine WQ.next ?_
  refine WC.ret (?_)
  exact WQ.ret1 (h1 := .tmp (t := 2) rfl) ⟨_, ⟨rfl, rfl⟩, Am.auto⟩

theorem inMakeNil {k : Int} : Spec Tryz.prog 17 #[.pointer none, .int .i64 k] [] fun F v M => v = .tuple #[nI 0, .int .i64 8] ∧ M = F := by
  refine Spec.intro Tryz.func17 rfl rfl fun B F => ?_
  simp only [Tryz.ntmps17, List.cons_append, List.nil_append, env0, Nat.reduceAdd]
  refine WC.seq ?_
  refine WC.region ?_
  refine WL.assign ?_
  refine WL.assign ?_
  refine WL.nil ?_
  refine WQ.next ?_
  refine WC.seq ?_
  refine WC.block ?_
  refine WC.seq ?_
  refine WC.region ?_
  refine WL.move ?_
  refine WL.call (hc := Tryz.call49) (sp := inReadyNil) (h := ?_)
  rintro _ _ ⟨rfl, rfl⟩
  refine WL.not ?_
  refine WL.assign ?_
  refine WL.nil ?_
  refine WQ.next ?_
  refine WC.condT rfl rfl ?_
  refine WC.seq ?_
  refine WC.region ?_
  refine WL.assign ?_
  refine WL.assign ?_
  refine WL.nil ?_
  refine WQ.next ?_
  refine WC.ret (WQ.blockRet (WQ.thenRet (?_)))
  exact WQ.ret2 (h1 := .tmp (t := 4) rfl) (h2 := .tmp (t := 5) rfl) ⟨_, ⟨rfl, rfl⟩, Am.auto⟩

theorem inBlock {s c a : Nat} {p : Pl} {V0 V : Nat → Bytes} {D : List Nat} {op : Bool} {x : Nd} {k : Nat} (hbl : x.bl.length = 11) (hk : k < 138) (hV : 10 ≤ k → 245 ≤ x.bl.getD 10 0 ∧ x.bl.getD 10 0 < p.n) : Spec Tryz.prog 62 #[.pointer (some ⟨s, 0, none⟩), ndV x, nI k] [pt s (stO c a p), TR c p.n V0 V D op] fun F v M => v = .tuple #[nI (ptr V x k), .int .i64 0] ∧ M = [pt s (stO c a p), TR c p.n V0 V D op] ++ F := by
  refine Spec.intro Tryz.func62 rfl rfl fun B F => ?_
  simp only [Tryz.ntmps62, List.cons_append, List.nil_append, env0, Nat.reduceAdd]
  by_cases h10 : k < 10
  · refine WC.seq ?_
    refine WC.region ?_
    refine WL.boxL (us := ndL x) fun b4 => ?_
    refine WL.assign ?_
    refine WL.assign ?_
    refine WL.nil ?_
    refine WQ.next ?_
    refine WC.seq ?_
    refine WC.seq ?_
    refine WC.region ?_
    refine WL.move ?_
    refine WL.lss ?_
    refine WL.nil ?_
    refine WQ.next ?_
    refine WC.condT rfl (congrArg Value.bool (by first | (simp; done) | (simp; omega) | omega)) ?_
    refine WC.seq ?_
    refine WC.region ?_
    refine WL.move ?_
    refine WL.fa ?_ fo92_2
    refine WL.idxA ?_ ar90
    refine WL.ldL (xs := ndL x) (i := 0 + 2 + ((k : Nat) : Int).toNat * 1) (v := nI (x.bl.getD k 0)) ?_ sc3 (by rw [show 0 + 2 + ((k : Nat) : Int).toNat * 1 = 2 + k from by omega]; exact ndL_bl (by omega))
    refine WL.assign ?_
    refine WL.assign ?_
    refine WL.nil ?_
    refine WQ.next ?_
    refine WC.ret (WQ.thenRet (?_))
    exact WQ.ret2 (h1 := .tmp (t := 6) rfl) (h2 := .tmp (t := 7) rfl) ⟨_, ⟨by unfold ptr; rw [if_neg (by omega), if_pos h10], rfl⟩, Am.auto⟩
  · obtain ⟨hV1, hV2⟩ := hV (by omega)
    refine WC.seq ?_
    refine WC.region ?_
    refine WL.boxL (us := ndL x) fun b4 => ?_
    refine WL.assign ?_
    refine WL.assign ?_
    refine WL.nil ?_
    refine WQ.next ?_
    refine WC.seq ?_
    refine WC.seq ?_
    refine WC.region ?_
    refine WL.move ?_
    refine WL.lss ?_
    refine WL.nil ?_
    refine WQ.next ?_
    refine WC.condF rfl (congrArg Value.bool (by first | (simp; done) | (simp; omega) | omega)) ?_
    refine WC.skip ?_
    refine WQ.next ?_
    refine WC.seq ?_
    refine WC.draw ([pt s (stO c a p), row b4 92 (ndL x)]) [] 13 #[false, false, false, false, false, false, false, false, false, false, false, false, false] mixed (by kernel_rfl) NoPanic.autoJ ?_
    refine WD.take (i := 0) #[true, false, false, false, false, false, false, false, false, false, false, false, false] rfl (by kernel_rfl) (Qt.move ) ?_
    refine WD.take (i := 1) #[true, true, false, false, false, false, false, false, false, false, false, false, false] rfl (by kernel_rfl) (Qt.nilCheck ) ?_
    refine WD.take (i := 2) #[true, true, true, false, false, false, false, false, false, false, false, false, false] rfl (by kernel_rfl) (Qt.fa fo87_0) ?_
    refine WD.take (i := 3) #[true, true, true, true, false, false, false, false, false, false, false, false, false] rfl (by kernel_rfl) (Qt.ld sc24) ?_
    refine WD.take (i := 4) #[true, true, true, true, true, false, false, false, false, false, false, false, false] rfl (by kernel_rfl) (Qt.fa fo92_2) ?_
    refine WD.take (i := 5) #[true, true, true, true, true, true, false, false, false, false, false, false, false] rfl (by kernel_rfl) (Qt.idxA ar90) ?_
    refine WD.take (i := 6) #[true, true, true, true, true, true, true, false, false, false, false, false, false] rfl (by kernel_rfl) (Qt.ldL (xs := ndL x) (i := 12) (v := nI (x.bl.getD 10 0)) sc3 (ndL_bl (k := 10) (by omega))) ?_
    refine WD.one (i := 7) #[true, true, true, true, true, true, true, true, false, false, false, false, false] rfl (by kernel_rfl) fun hnp => ?_
    refine WL.call (hc := Tryz.call63) (sp := tRead (n := p.n) (V0 := V0) (V := V) (D := D) (op := op) (k := x.bl.getD 10 0) hV1 hV2) (h := ?_)
    rintro _ _ ⟨gb, q, el, rfl, ⟨hq1, hq2, hl5⟩, rfl⟩
    refine WL.nil (WQ.wd hnp (.inl Am.auto) ?_)
    refine WD.take (i := 8) #[true, true, true, true, true, true, true, true, true, false, false, false, false] rfl (by kernel_rfl) (Qt.move ) ?_
    refine WD.take (i := 9) #[true, true, true, true, true, true, true, true, true, true, false, false, false] rfl (by kernel_rfl) (Qt.extract ) ?_
    refine WD.take (i := 10) #[true, true, true, true, true, true, true, true, true, true, true, false, false] rfl (by kernel_rfl) (Qt.extract ) ?_
    refine WD.take (i := 11) #[true, true, true, true, true, true, true, true, true, true, true, true, false] rfl (by kernel_rfl) (Qt.assign ) ?_
    refine WD.take (i := 12) #[true, true, true, true, true, true, true, true, true, true, true, true, true] rfl (by kernel_rfl) (Qt.assign ) ?_
    refine WD.done (by kernel_rfl) ?_
    refine WQ.next ?_
    refine WC.seq ?_
    refine WC.region ?_
    refine WL.move ?_
    refine WL.move ?_
    refine WL.sub ?_
    refine WL.mul ?_
    refine WL.cast (d := 30) (u := nI (4 * (k - 10))) rfl (congrArg (Value.int .i64) (by omega)) ?_
    refine WL.call (hc := Tryz.call109) (sp := inGet (q := 4 * (k - 10)) Reads.buf hl5 (by decide) (by omega)) (h := ?_)
    rintro _ _ ⟨rfl, rfl⟩
    refine WL.move ?_
    refine WL.assign ?_
    refine WL.assign ?_
    refine WL.nil ?_
    refine WQ.next ?_
    refine WC.ret (?_)
    exact WQ.ret2 (h1 := .tmp (t := 6) rfl) (h2 := .tmp (t := 7) rfl) ⟨_, ⟨by unfold ptr; rw [if_neg (by omega), if_neg h10]; rfl, rfl⟩, Am.auto⟩


def frD (p : Pl) (D : List Nat) (b : Nat) : List Nat := insD (insD D (p.bm + b / 4096)) (p.da + b)
theorem frD_ok {p : Pl} {D : List Nat} (ho : PlOk p) (hd : Dk p D) {b : Nat} (hb : b < p.dc) : Dk p (frD p D b) ∧ wt p (frD p D b) ≤ wt p D + 1 ∧ (∀ z ∈ D, z ∈ frD p D b) ∧ p.da + b ∈ frD p D b := by
  have h1 := ho.lo; have h2 := ho.mapAt hb; have h3 := ho.dat
  have e1 := (wt_ins p D (p.bm + b / 4096)).2.1 h2
  have e2 := wt_ins p (insD D (p.bm + b / 4096)) (p.da + b)
  refine ⟨(hd.ins (by omega) (by omega)).ins (by omega) (by omega), by unfold frD; omega, fun z hz => ?_, ?_⟩
  · exact mem_insD.2 (.inl (mem_insD.2 (.inl hz)))
  · exact mem_insD.2 (.inr rfl)

theorem inFresh {s c a : Nat} {p : Pl} {V0 V : Nat → Bytes} {D : List Nat} (ho : PlOk p) (hdk : Dk p D) (hrm : Rm p D 1) (hfree : cnt V p.bm p.dc < p.dc) : Spec Tryz.prog 128 #[.pointer (some ⟨s, 0, none⟩)] [pt s (stO c a p), pt a (alO c p), TR c p.n V0 V D true] fun F v M =>
    ∃ b, b < p.dc ∧ dig V p.bm b = false ∧ v = .tuple #[nI (p.da + b), .int .i64 0] ∧ M = [pt s (stO c a p), pt a (alO c p), TR c p.n V0 (frV p V b) (frD p D b) true] ++ F := by
  refine Spec.intro Tryz.func128 rfl rfl fun B F => ?_
  simp only [Tryz.ntmps128, List.cons_append, List.nil_append, env0, Nat.reduceAdd]
  have hlo := ho.lo
  have hdat := ho.dat
  refine WC.seq ?_
  refine WC.region ?_
  refine WL.assign ?_
  refine WL.assign ?_
  refine WL.nil ?_
  refine WQ.next ?_
  refine WC.seq ?_
  refine WC.region ?_
  refine WL.move ?_
  refine WL.nilCheck ?_
  refine WL.fa ?_ fo87_1
  refine WL.ld ?_ sc25
  refine WL.call (hc := Tryz.call150) (sp := alTakeBlock (p := p) (V0 := V0) (V := V) (D := D) ho (hdk.room (c := 0) hrm)) (h := ?_)
  rintro _ _ (⟨k, hk, hk0, hkb, rfl, rfl⟩ | ⟨hall, rfl, rfl⟩) <;> simp only [List.cons_append, List.nil_append]
  · refine WL.move ?_
    refine WL.extract ?_
    refine WL.extract ?_
    refine WL.assign ?_
    refine WL.assign ?_
    refine WL.nil ?_
    refine WQ.next ?_
    refine WC.seq ?_
    refine WC.seq ?_
    refine WC.region ?_
    refine WL.move ?_
    refine WL.nei ?_
    refine WL.nil ?_
    refine WQ.next ?_
    refine WC.condF rfl rfl ?_
    refine WC.skip ?_
    refine WQ.next ?_
    refine WC.seq ?_
    have hmp := ho.mapAt hk
    have hroom2 : (insD D (p.bm + k / 4096)).length < 60 := (hdk.ins (by omega) (by omega)).room (c := 0) (hrm.mono (by have := (wt_ins p D (p.bm + k / 4096)).2.1 (by omega); omega))
    refine WC.draw ([pt s (stO c a p)]) [] 10 #[false, false, false, false, false, false, false, false, false, false] mixed (by kernel_rfl) NoPanic.autoJ ?_
    refine WD.take (i := 0) #[true, false, false, false, false, false, false, false, false, false] rfl (by kernel_rfl) (Qt.move ) ?_
    refine WD.take (i := 1) #[true, true, false, false, false, false, false, false, false, false] rfl (by kernel_rfl) (Qt.move ) ?_
    refine WD.take (i := 2) #[true, true, true, false, false, false, false, false, false, false] rfl (by kernel_rfl) (Qt.nilCheck ) ?_
    refine WD.take (i := 3) #[true, true, true, true, false, false, false, false, false, false] rfl (by kernel_rfl) (Qt.fa fo87_0) ?_
    refine WD.take (i := 4) #[true, true, true, true, true, false, false, false, false, false] rfl (by kernel_rfl) (Qt.ld sc24) ?_
    refine WD.take (i := 5) #[true, true, true, true, true, true, false, false, false, false] rfl (by kernel_rfl) (Qt.move ) ?_
    refine WD.one (i := 6) #[true, true, true, true, true, true, true, false, false, false] rfl (by kernel_rfl) fun hnp => ?_
    refine WL.mkSN 512 z5 so33 (by decide) (by decide) fun b23 => ?_
    refine WL.to (A := buf b23 5 512 (List.replicate 512 (.int .u8 0))) (A' := buf b23 5 512 (bvs zeros)) (fun h hh => by rw [zeros, bvs_replicate]; exact hh) ?_
    refine WL.nil (WQ.wd hnp (.inl Am.auto) ?_)
    refine WD.one (i := 7) #[true, true, true, true, true, true, true, true, false, false] rfl (by kernel_rfl) fun hnp => ?_
    refine WL.call (hc := Tryz.call96) (sp := tWrite (n := p.n) (V0 := V0) (V := setD V p.bm k true) (D := insD D (p.bm + k / 4096)) (k := p.da + k) (by omega) (by omega) Reads.buf zeros_length rfl (.inr hroom2)) (h := ?_)
    rintro _ _ ⟨rfl, rfl⟩
    refine WL.nil (WQ.wd hnp (.inl Am.auto) ?_)
    refine WD.take (i := 8) #[true, true, true, true, true, true, true, true, true, false] rfl (by kernel_rfl) (Qt.assign ) ?_
    refine WD.take (i := 9) #[true, true, true, true, true, true, true, true, true, true] rfl (by kernel_rfl) (Qt.assign ) ?_
    refine WD.done (by kernel_rfl) ?_
    refine WQ.next ?_
    refine WC.ret (?_)
    exact WQ.ret2 (h1 := .tmp (t := 2) rfl) (h2 := .tmp (t := 3) rfl) ⟨_, ⟨k, hk, hk0, rfl, rfl⟩, Am.auto⟩
  · exact absurd hfree (by rw [cnt_full hall]; omega)

end Go.Proofs.YtedmihapieleaaaGreat
