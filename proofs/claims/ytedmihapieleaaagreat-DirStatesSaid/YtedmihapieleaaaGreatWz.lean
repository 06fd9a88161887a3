/- Walks of package inode: Read, Write, Truncate, Drop. -/
import Derived.Test.YtedmihapieleaaaGreatFa
import Derived.Test.YtedmihapieleaaaGreatPk
import Derived.KernelRfl
set_option linter.unusedVariables false
set_option linter.unusedSimpArgs false
namespace Go.Proofs.YtedmihapieleaaaGreat
open Go
theorem inChg {s c a : Nat} {p : Pl} {V0 V : Nat → Bytes} {D : List Nat} {i : Nat} (ho : PlOk p) (hi : i < p.ino) (hd : i = 0 ∨ dig V p.im i = true) : Spec Tryz.prog 52 #[.pointer (some ⟨s, 0, none⟩), nI i] [pt s (stO c a p), pt a (alO c p), TR c p.n V0 V D true] fun F v M => v = .tuple #[ndV (ldN p V i), .int .i64 0] ∧ M = [pt s (stO c a p), pt a (alO c p), TR c p.n V0 V D true] ++ F := by
  refine Spec.intro Tryz.func52 rfl rfl fun B F => ?_
  simp only [Tryz.ntmps52, List.cons_append, List.nil_append, env0, Nat.reduceAdd]
  refine WC.seq ?_
  refine WC.region ?_
  refine WL.allocL zNd rfl fun b4 => ?_
  refine WL.assign ?_
  refine WL.nil ?_
  refine WQ.next ?_
  refine WC.seq ?_
  refine WC.seq ?_
  refine WC.region ?_
  refine WL.move ?_
  refine WL.call (hc := Tryz.call49) (sp := inReady (n := p.n) (V0 := V0) (V := V) (D := D) (op := true)) (h := ?_)
  rintro _ _ ⟨rfl, rfl⟩
  simp only [List.cons_append, List.nil_append]
  refine WL.not ?_
  refine WL.nil ?_
  refine WQ.next ?_
  refine WC.condF rfl rfl ?_
  refine WC.skip ?_
  refine WQ.next ?_
  refine WC.seq ?_
  refine WC.region ?_
  refine WL.move ?_
  refine WL.move ?_
  refine WL.call (hc := Tryz.call61) (sp := inLoad (i := i) (V0 := V0) (V := V) (D := D) (op := true) ho hi hd) (h := ?_)
  rintro _ _ ⟨rfl, rfl⟩
  simp only [List.cons_append, List.nil_append]
  refine WL.extract ?_
  refine WL.extract ?_
  refine WL.stLA (xs := ndL nd0) (us := ndL (ldN p V i)) ?_ agg92 (ndL_length (ldB_fits _ _).bl) rfl (ndL_single _)
  refine WL.assign ?_
  refine WL.nil ?_
  refine WQ.next ?_
  refine WC.ret (?_)
  exact WQ.ret2 (h1 := RV.aggL rfl agg92 (by repeat (first | exact .here | apply Rem.there | apply Repl.there | apply Mem.there)) (ndL_length (ldB_fits _ _).bl)) (h2 := .tmp rfl) ⟨_, ⟨rfl, rfl⟩, Am.auto⟩

theorem inChgNo {s c a : Nat} {p : Pl} {V0 V : Nat → Bytes} {D : List Nat} {i : Int} (ho : PlOk p) (hno : ¬ (0 ≤ i ∧ i < p.ino ∧ (i = 0 ∨ dig V p.im i.toNat = true))) : Spec Tryz.prog 52 #[.pointer (some ⟨s, 0, none⟩), .int .i64 i] [pt s (stO c a p), pt a (alO c p), TR c p.n V0 V D true] fun F v M => v = .tuple #[ndV nd0, .int .i64 4] ∧ M = [pt s (stO c a p), pt a (alO c p), TR c p.n V0 V D true] ++ F := by
  refine Spec.intro Tryz.func52 rfl rfl fun B F => ?_
  simp only [Tryz.ntmps52, List.cons_append, List.nil_append, env0, Nat.reduceAdd]
  refine WC.seq ?_
  refine WC.region ?_
  refine WL.allocL zNd rfl fun b4 => ?_
  refine WL.assign ?_
  refine WL.nil ?_
  refine WQ.next ?_
  refine WC.seq ?_
  refine WC.seq ?_
  refine WC.region ?_
  refine WL.move ?_
  refine WL.call (hc := Tryz.call49) (sp := inReady (n := p.n) (V0 := V0) (V := V) (D := D) (op := true)) (h := ?_)
  rintro _ _ ⟨rfl, rfl⟩
  simp only [List.cons_append, List.nil_append]
  refine WL.not ?_
  refine WL.nil ?_
  refine WQ.next ?_
  refine WC.condF rfl rfl ?_
  refine WC.skip ?_
  refine WQ.next ?_
  refine WC.seq ?_
  refine WC.region ?_
  refine WL.move ?_
  refine WL.move ?_
  refine WL.call (hc := Tryz.call61) (sp := inLoadNo (i := i) (V0 := V0) (V := V) (D := D) (op := true) ho hno) (h := ?_)
  rintro _ _ ⟨rfl, rfl⟩
  simp only [List.cons_append, List.nil_append]
  refine WL.extract ?_
  refine WL.extract ?_
  refine WL.stLA (xs := ndL nd0) (us := ndL nd0) ?_ agg92 (ndL_length rfl) rfl (ndL_single _)
  refine WL.assign ?_
  refine WL.nil ?_
  refine WQ.next ?_
  refine WC.ret (?_)
  exact WQ.ret2 (h1 := RV.aggL rfl agg92 (by repeat (first | exact .here | apply Rem.there | apply Repl.there | apply Mem.there)) (ndL_length rfl)) (h2 := .tmp rfl) ⟨_, ⟨rfl, rfl⟩, Am.auto⟩

theorem inChg0 {s c a : Nat} {p : Pl} {V0 V : Nat → Bytes} {D : List Nat} {i : Value} : Spec Tryz.prog 52 #[.pointer (some ⟨s, 0, none⟩), i] [pt s (stO c a p), TR c p.n V0 V D false] fun F v M => v = .tuple #[ndV nd0, .int .i64 8] ∧ M = [pt s (stO c a p), TR c p.n V0 V D false] ++ F := by
  refine Spec.intro Tryz.func52 rfl rfl fun B F => ?_
  simp only [Tryz.ntmps52, List.cons_append, List.nil_append, env0, Nat.reduceAdd]
  refine WC.seq ?_
  refine WC.region ?_
  refine WL.allocL zNd rfl fun b4 => ?_
  refine WL.assign ?_
  refine WL.nil ?_
  refine WQ.next ?_
  refine WC.seq ?_
  refine WC.seq ?_
  refine WC.region ?_
  refine WL.move ?_
  refine WL.call (hc := Tryz.call49) (sp := inReady (n := p.n) (V0 := V0) (V := V) (D := D) (op := false)) (h := ?_)
  rintro _ _ ⟨rfl, rfl⟩
  simp only [List.cons_append, List.nil_append]
  refine WL.not ?_
  refine WL.nil ?_
  refine WQ.next ?_
  refine WC.condT rfl rfl ?_
  refine WC.seq ?_
  refine WC.region ?_
  refine WL.build ?_ bdNd0
  refine WL.stLA (xs := ndL nd0) (us := ndL nd0) ?_ agg92 rfl rfl (ndL_single _)
  refine WL.assign ?_
  refine WL.nil ?_
  refine WQ.next ?_
  refine WC.ret (WQ.thenRet (?_))
  exact WQ.ret2 (h1 := RV.aggL rfl agg92 (by repeat (first | exact .here | apply Rem.there | apply Repl.there | apply Mem.there)) (ndL_length rfl)) (h2 := .tmp rfl) ⟨_, ⟨rfl, rfl⟩, Am.auto⟩

theorem inChgNil {i : Value} : Spec Tryz.prog 52 #[.pointer none, i] [] fun F v M => v = .tuple #[ndV nd0, .int .i64 8] ∧ M =  F := by
  refine Spec.intro Tryz.func52 rfl rfl fun B F => ?_
  simp only [Tryz.ntmps52, List.cons_append, List.nil_append, env0, Nat.reduceAdd]
  refine WC.seq ?_
  refine WC.region ?_
  refine WL.allocL zNd rfl fun b4 => ?_
  refine WL.assign ?_
  refine WL.nil ?_
  refine WQ.next ?_
  refine WC.seq ?_
  refine WC.seq ?_
  refine WC.region ?_
  refine WL.move ?_
  refine WL.call (hc := Tryz.call49) (sp := inReadyNil) (h := ?_)
  rintro _ _ ⟨rfl, rfl⟩
  refine WL.not ?_
  refine WL.nil ?_
  refine WQ.next ?_
  refine WC.condT rfl rfl ?_
  refine WC.seq ?_
  refine WC.region ?_
  refine WL.build ?_ bdNd0
  refine WL.stLA (xs := ndL nd0) (us := ndL nd0) ?_ agg92 rfl rfl (ndL_single _)
  refine WL.assign ?_
  refine WL.nil ?_
  refine WQ.next ?_
  refine WC.ret (WQ.thenRet (?_))
  exact WQ.ret2 (h1 := RV.aggL rfl agg92 (by repeat (first | exact .here | apply Rem.there | apply Repl.there | apply Mem.there)) (ndL_length rfl)) (h2 := .tmp rfl) ⟨_, ⟨rfl, rfl⟩, Am.auto⟩

theorem inWriteNo {s c a : Nat} {p : Pl} {V0 V : Nat → Bytes} {D : List Nat} {i : Int} (ho : PlOk p) (hno : ¬ (0 ≤ i ∧ i < p.ino ∧ (i = 0 ∨ dig V p.im i.toNat = true))) {u v : Value} : Spec Tryz.prog 20 #[.pointer (some ⟨s, 0, none⟩), .int .i64 i, u, v] [pt s (stO c a p), pt a (alO c p), TR c p.n V0 V D true] fun F v M => v = .int .i64 4 ∧ M = [pt s (stO c a p), pt a (alO c p), TR c p.n V0 V D true] ++ F := by
  refine Spec.intro Tryz.func20 rfl rfl fun B F => ?_
  simp only [Tryz.ntmps20, List.cons_append, List.nil_append, env0, Nat.reduceAdd]
  refine WC.seq ?_
  refine WC.region ?_
  refine WL.assign ?_
  refine WL.nil ?_
  refine WQ.next ?_
  refine WC.seq ?_
  refine WC.region ?_
  refine WL.move ?_
  refine WL.move ?_
  refine WL.call (hc := Tryz.call52) (sp := inChgNo (V0 := V0) (V := V) (D := D) ho hno) (h := ?_)
  rintro _ _ ⟨rfl, rfl⟩
  simp only [List.cons_append, List.nil_append]
  refine WL.move ?_
  refine WL.extract ?_
  refine WL.extract ?_
  refine WL.allocL zNd rfl fun b9 => ?_
  refine WL.stLA (xs := ndL nd0) (us := ndL nd0) ?_ agg92 rfl rfl (ndL_single _)
  refine WL.assign ?_
  refine WL.nil ?_
  refine WQ.next ?_
  refine WC.seq ?_
  refine WC.block ?_
  refine WC.seq ?_
  refine WC.region ?_
  refine WL.move ?_
  refine WL.nei ?_
  refine WL.assign ?_
  refine WL.nil ?_
  refine WQ.next ?_
  refine WC.condT rfl rfl ?_
  refine WC.seq ?_
  refine WC.region ?_
  refine WL.move ?_
  refine WL.assign ?_
  refine WL.nil ?_
  refine WQ.next ?_
  refine WC.ret (WQ.blockRet (WQ.thenRet (?_)))
  exact WQ.ret1 (h1 := .tmp (t := 8) rfl) ⟨_, ⟨rfl, rfl⟩, Am.auto⟩

theorem inWrite0 {s c a : Nat} {p : Pl} {V0 V : Nat → Bytes} {D : List Nat} {i : Value} {u v : Value} : Spec Tryz.prog 20 #[.pointer (some ⟨s, 0, none⟩), i, u, v] [pt s (stO c a p), TR c p.n V0 V D false] fun F v M => v = .int .i64 8 ∧ M = [pt s (stO c a p), TR c p.n V0 V D false] ++ F := by
  refine Spec.intro Tryz.func20 rfl rfl fun B F => ?_
  simp only [Tryz.ntmps20, List.cons_append, List.nil_append, env0, Nat.reduceAdd]
  refine WC.seq ?_
  refine WC.region ?_
  refine WL.assign ?_
  refine WL.nil ?_
  refine WQ.next ?_
  refine WC.seq ?_
  refine WC.region ?_
  refine WL.move ?_
  refine WL.move ?_
  refine WL.call (hc := Tryz.call52) (sp := inChg0 (V0 := V0) (V := V) (D := D)) (h := ?_)
  rintro _ _ ⟨rfl, rfl⟩
  simp only [List.cons_append, List.nil_append]
  refine WL.move ?_
  refine WL.extract ?_
  refine WL.extract ?_
  refine WL.allocL zNd rfl fun b9 => ?_
  refine WL.stLA (xs := ndL nd0) (us := ndL nd0) ?_ agg92 rfl rfl (ndL_single _)
  refine WL.assign ?_
  refine WL.nil ?_
  refine WQ.next ?_
  refine WC.seq ?_
  refine WC.block ?_
  refine WC.seq ?_
  refine WC.region ?_
  refine WL.move ?_
  refine WL.nei ?_
  refine WL.assign ?_
  refine WL.nil ?_
  refine WQ.next ?_
  refine WC.condT rfl rfl ?_
  refine WC.seq ?_
  refine WC.region ?_
  refine WL.move ?_
  refine WL.assign ?_
  refine WL.nil ?_
  refine WQ.next ?_
  refine WC.ret (WQ.blockRet (WQ.thenRet (?_)))
  exact WQ.ret1 (h1 := .tmp (t := 8) rfl) ⟨_, ⟨rfl, rfl⟩, Am.auto⟩

theorem inWriteNil {i : Value} {u v : Value} : Spec Tryz.prog 20 #[.pointer none, i, u, v] [] fun F v M => v = .int .i64 8 ∧ M =  F := by
  refine Spec.intro Tryz.func20 rfl rfl fun B F => ?_
  simp only [Tryz.ntmps20, List.cons_append, List.nil_append, env0, Nat.reduceAdd]
  refine WC.seq ?_
  refine WC.region ?_
  refine WL.assign ?_
  refine WL.nil ?_
  refine WQ.next ?_
  refine WC.seq ?_
  refine WC.region ?_
  refine WL.move ?_
  refine WL.move ?_
  refine WL.call (hc := Tryz.call52) (sp := inChgNil) (h := ?_)
  rintro _ _ ⟨rfl, rfl⟩
  refine WL.move ?_
  refine WL.extract ?_
  refine WL.extract ?_
  refine WL.allocL zNd rfl fun b9 => ?_
  refine WL.stLA (xs := ndL nd0) (us := ndL nd0) ?_ agg92 rfl rfl (ndL_single _)
  refine WL.assign ?_
  refine WL.nil ?_
  refine WQ.next ?_
  refine WC.seq ?_
  refine WC.block ?_
  refine WC.seq ?_
  refine WC.region ?_
  refine WL.move ?_
  refine WL.nei ?_
  refine WL.assign ?_
  refine WL.nil ?_
  refine WQ.next ?_
  refine WC.condT rfl rfl ?_
  refine WC.seq ?_
  refine WC.region ?_
  refine WL.move ?_
  refine WL.assign ?_
  refine WL.nil ?_
  refine WQ.next ?_
  refine WC.ret (WQ.blockRet (WQ.thenRet (?_)))
  exact WQ.ret1 (h1 := .tmp (t := 8) rfl) ⟨_, ⟨rfl, rfl⟩, Am.auto⟩

theorem inTruncateNo {s c a : Nat} {p : Pl} {V0 V : Nat → Bytes} {D : List Nat} {i : Int} (ho : PlOk p) (hno : ¬ (0 ≤ i ∧ i < p.ino ∧ (i = 0 ∨ dig V p.im i.toNat = true))) {u : Value} : Spec Tryz.prog 26 #[.pointer (some ⟨s, 0, none⟩), .int .i64 i, u] [pt s (stO c a p), pt a (alO c p), TR c p.n V0 V D true] fun F v M => v = .int .i64 4 ∧ M = [pt s (stO c a p), pt a (alO c p), TR c p.n V0 V D true] ++ F := by
  refine Spec.intro Tryz.func26 rfl rfl fun B F => ?_
  simp only [Tryz.ntmps26, List.cons_append, List.nil_append, env0, Nat.reduceAdd]
  refine WC.seq ?_
  refine WC.region ?_
  refine WL.assign ?_
  refine WL.nil ?_
  refine WQ.next ?_
  refine WC.seq ?_
  refine WC.region ?_
  refine WL.move ?_
  refine WL.move ?_
  refine WL.call (hc := Tryz.call52) (sp := inChgNo (V0 := V0) (V := V) (D := D) ho hno) (h := ?_)
  rintro _ _ ⟨rfl, rfl⟩
  simp only [List.cons_append, List.nil_append]
  refine WL.move ?_
  refine WL.extract ?_
  refine WL.extract ?_
  refine WL.allocL zNd rfl fun b7 => ?_
  refine WL.stLA (xs := ndL nd0) (us := ndL nd0) ?_ agg92 rfl rfl (ndL_single _)
  refine WL.assign ?_
  refine WL.nil ?_
  refine WQ.next ?_
  refine WC.seq ?_
  refine WC.block ?_
  refine WC.seq ?_
  refine WC.region ?_
  refine WL.move ?_
  refine WL.nei ?_
  refine WL.assign ?_
  refine WL.nil ?_
  refine WQ.next ?_
  refine WC.condT rfl rfl ?_
  refine WC.seq ?_
  refine WC.region ?_
  refine WL.move ?_
  refine WL.assign ?_
  refine WL.nil ?_
  refine WQ.next ?_
  refine WC.ret (WQ.blockRet (WQ.thenRet (?_)))
  exact WQ.ret1 (h1 := .tmp (t := 6) rfl) ⟨_, ⟨rfl, rfl⟩, Am.auto⟩

theorem inTruncate0 {s c a : Nat} {p : Pl} {V0 V : Nat → Bytes} {D : List Nat} {i : Value} {u : Value} : Spec Tryz.prog 26 #[.pointer (some ⟨s, 0, none⟩), i, u] [pt s (stO c a p), TR c p.n V0 V D false] fun F v M => v = .int .i64 8 ∧ M = [pt s (stO c a p), TR c p.n V0 V D false] ++ F := by
  refine Spec.intro Tryz.func26 rfl rfl fun B F => ?_
  simp only [Tryz.ntmps26, List.cons_append, List.nil_append, env0, Nat.reduceAdd]
  refine WC.seq ?_
  refine WC.region ?_
  refine WL.assign ?_
  refine WL.nil ?_
  refine WQ.next ?_
  refine WC.seq ?_
  refine WC.region ?_
  refine WL.move ?_
  refine WL.move ?_
  refine WL.call (hc := Tryz.call52) (sp := inChg0 (V0 := V0) (V := V) (D := D)) (h := ?_)
  rintro _ _ ⟨rfl, rfl⟩
  simp only [List.cons_append, List.nil_append]
  refine WL.move ?_
  refine WL.extract ?_
  refine WL.extract ?_
  refine WL.allocL zNd rfl fun b7 => ?_
  refine WL.stLA (xs := ndL nd0) (us := ndL nd0) ?_ agg92 rfl rfl (ndL_single _)
  refine WL.assign ?_
  refine WL.nil ?_
  refine WQ.next ?_
  refine WC.seq ?_
  refine WC.block ?_
  refine WC.seq ?_
  refine WC.region ?_
  refine WL.move ?_
  refine WL.nei ?_
  refine WL.assign ?_
  refine WL.nil ?_
  refine WQ.next ?_
  refine WC.condT rfl rfl ?_
  refine WC.seq ?_
  refine WC.region ?_
  refine WL.move ?_
  refine WL.assign ?_
  refine WL.nil ?_
  refine WQ.next ?_
  refine WC.ret (WQ.blockRet (WQ.thenRet (?_)))
  exact WQ.ret1 (h1 := .tmp (t := 6) rfl) ⟨_, ⟨rfl, rfl⟩, Am.auto⟩

theorem inTruncateNil {i : Value} {u : Value} : Spec Tryz.prog 26 #[.pointer none, i, u] [] fun F v M => v = .int .i64 8 ∧ M =  F := by
  refine Spec.intro Tryz.func26 rfl rfl fun B F => ?_
  simp only [Tryz.ntmps26, List.cons_append, List.nil_append, env0, Nat.reduceAdd]
  refine WC.seq ?_
  refine WC.region ?_
  refine WL.assign ?_
  refine WL.nil ?_
  refine WQ.next ?_
  refine WC.seq ?_
  refine WC.region ?_
  refine WL.move ?_
  refine WL.move ?_
  refine WL.call (hc := Tryz.call52) (sp := inChgNil) (h := ?_)
  rintro _ _ ⟨rfl, rfl⟩
  refine WL.move ?_
  refine WL.extract ?_
  refine WL.extract ?_
  refine WL.allocL zNd rfl fun b7 => ?_
  refine WL.stLA (xs := ndL nd0) (us := ndL nd0) ?_ agg92 rfl rfl (ndL_single _)
  refine WL.assign ?_
  refine WL.nil ?_
  refine WQ.next ?_
  refine WC.seq ?_
  refine WC.block ?_
  refine WC.seq ?_
  refine WC.region ?_
  refine WL.move ?_
  refine WL.nei ?_
  refine WL.assign ?_
  refine WL.nil ?_
  refine WQ.next ?_
  refine WC.condT rfl rfl ?_
  refine WC.seq ?_
  refine WC.region ?_
  refine WL.move ?_
  refine WL.assign ?_
  refine WL.nil ?_
  refine WQ.next ?_
  refine WC.ret (WQ.blockRet (WQ.thenRet (?_)))
  exact WQ.ret1 (h1 := .tmp (t := 6) rfl) ⟨_, ⟨rfl, rfl⟩, Am.auto⟩

theorem inDropNo {s c a : Nat} {p : Pl} {V0 V : Nat → Bytes} {D : List Nat} {i : Int} (ho : PlOk p) (hno : ¬ (0 ≤ i ∧ i < p.ino ∧ (i = 0 ∨ dig V p.im i.toNat = true))) : Spec Tryz.prog 27 #[.pointer (some ⟨s, 0, none⟩), .int .i64 i] [pt s (stO c a p), pt a (alO c p), TR c p.n V0 V D true] fun F v M => v = .int .i64 4 ∧ M = [pt s (stO c a p), pt a (alO c p), TR c p.n V0 V D true] ++ F := by
  refine Spec.intro Tryz.func27 rfl rfl fun B F => ?_
  simp only [Tryz.ntmps27, List.cons_append, List.nil_append, env0, Nat.reduceAdd]
  refine WC.seq ?_
  refine WC.region ?_
  refine WL.assign ?_
  refine WL.nil ?_
  refine WQ.next ?_
  refine WC.seq ?_
  refine WC.region ?_
  refine WL.move ?_
  refine WL.move ?_
  refine WL.call (hc := Tryz.call52) (sp := inChgNo (V0 := V0) (V := V) (D := D) ho hno) (h := ?_)
  rintro _ _ ⟨rfl, rfl⟩
  simp only [List.cons_append, List.nil_append]
  refine WL.move ?_
  refine WL.extract ?_
  refine WL.extract ?_
  refine WL.allocL zNd rfl fun b5 => ?_
  refine WL.stLA (xs := ndL nd0) (us := ndL nd0) ?_ agg92 rfl rfl (ndL_single _)
  refine WL.assign ?_
  refine WL.nil ?_
  refine WQ.next ?_
  refine WC.seq ?_
  refine WC.block ?_
  refine WC.seq ?_
  refine WC.region ?_
  refine WL.move ?_
  refine WL.nei ?_
  refine WL.assign ?_
  refine WL.nil ?_
  refine WQ.next ?_
  refine WC.condT rfl rfl ?_
  refine WC.seq ?_
  refine WC.region ?_
  refine WL.move ?_
  refine WL.assign ?_
  refine WL.nil ?_
  refine WQ.next ?_
  refine WC.ret (WQ.blockRet (WQ.thenRet (?_)))
  exact WQ.ret1 (h1 := .tmp (t := 4) rfl) ⟨_, ⟨rfl, rfl⟩, Am.auto⟩

theorem inDrop0 {s c a : Nat} {p : Pl} {V0 V : Nat → Bytes} {D : List Nat} {i : Value} : Spec Tryz.prog 27 #[.pointer (some ⟨s, 0, none⟩), i] [pt s (stO c a p), TR c p.n V0 V D false] fun F v M => v = .int .i64 8 ∧ M = [pt s (stO c a p), TR c p.n V0 V D false] ++ F := by
  refine Spec.intro Tryz.func27 rfl rfl fun B F => ?_
  simp only [Tryz.ntmps27, List.cons_append, List.nil_append, env0, Nat.reduceAdd]
  refine WC.seq ?_
  refine WC.region ?_
  refine WL.assign ?_
  refine WL.nil ?_
  refine WQ.next ?_
  refine WC.seq ?_
  refine WC.region ?_
  refine WL.move ?_
  refine WL.move ?_
  refine WL.call (hc := Tryz.call52) (sp := inChg0 (V0 := V0) (V := V) (D := D)) (h := ?_)
  rintro _ _ ⟨rfl, rfl⟩
  simp only [List.cons_append, List.nil_append]
  refine WL.move ?_
  refine WL.extract ?_
  refine WL.extract ?_
  refine WL.allocL zNd rfl fun b5 => ?_
  refine WL.stLA (xs := ndL nd0) (us := ndL nd0) ?_ agg92 rfl rfl (ndL_single _)
  refine WL.assign ?_
  refine WL.nil ?_
  refine WQ.next ?_
  refine WC.seq ?_
  refine WC.block ?_
  refine WC.seq ?_
  refine WC.region ?_
  refine WL.move ?_
  refine WL.nei ?_
  refine WL.assign ?_
  refine WL.nil ?_
  refine WQ.next ?_
  refine WC.condT rfl rfl ?_
  refine WC.seq ?_
  refine WC.region ?_
  refine WL.move ?_
  refine WL.assign ?_
  refine WL.nil ?_
  refine WQ.next ?_
  refine WC.ret (WQ.blockRet (WQ.thenRet (?_)))
  exact WQ.ret1 (h1 := .tmp (t := 4) rfl) ⟨_, ⟨rfl, rfl⟩, Am.auto⟩

theorem inDropNil {i : Value} : Spec Tryz.prog 27 #[.pointer none, i] [] fun F v M => v = .int .i64 8 ∧ M =  F := by
  refine Spec.intro Tryz.func27 rfl rfl fun B F => ?_
  simp only [Tryz.ntmps27, List.cons_append, List.nil_append, env0, Nat.reduceAdd]
  refine WC.seq ?_
  refine WC.region ?_
  refine WL.assign ?_
  refine WL.nil ?_
  refine WQ.next ?_
  refine WC.seq ?_
  refine WC.region ?_
  refine WL.move ?_
  refine WL.move ?_
  refine WL.call (hc := Tryz.call52) (sp := inChgNil) (h := ?_)
  rintro _ _ ⟨rfl, rfl⟩
  refine WL.move ?_
  refine WL.extract ?_
  refine WL.extract ?_
  refine WL.allocL zNd rfl fun b5 => ?_
  refine WL.stLA (xs := ndL nd0) (us := ndL nd0) ?_ agg92 rfl rfl (ndL_single _)
  refine WL.assign ?_
  refine WL.nil ?_
  refine WQ.next ?_
  refine WC.seq ?_
  refine WC.block ?_
  refine WC.seq ?_
  refine WC.region ?_
  refine WL.move ?_
  refine WL.nei ?_
  refine WL.assign ?_
  refine WL.nil ?_
  refine WQ.next ?_
  refine WC.condT rfl rfl ?_
  refine WC.seq ?_
  refine WC.region ?_
  refine WL.move ?_
  refine WL.assign ?_
  refine WL.nil ?_
  refine WQ.next ?_
  refine WC.ret (WQ.blockRet (WQ.thenRet (?_)))
  exact WQ.ret1 (h1 := .tmp (t := 4) rfl) ⟨_, ⟨rfl, rfl⟩, Am.auto⟩

theorem inWrite {s c a : Nat} {p : Pl} {V0 V : Nat → Bytes} {D : List Nat} {F0 : FM} {i at' m cc : Nat} {f : Nat × Bytes} {R : HP} {A : Option Addr} {bs : Bytes} (h : Rep p V F0) (ho : PlOk p) (hi : F0 i = some f) (hdk : Dk p D) (hrm : Rm p D (has (max f.2.length (at' + m)) - has f.2.length + (m + 511) / 512 + 10)) (hR : bs = [] ∨ Reads R A (bvs bs)) (hm : bs.length = m) (hcc : m ≤ cc) (hcb : cc ≤ maxLen) (hat : at' ≤ f.2.length) (hbg : at' + m ≤ 70656) :
    Spec Tryz.prog 20 #[.pointer (some ⟨s, 0, none⟩), nI i, nI at', .slice A m cc] [R, pt s (stO c a p), pt a (alO c p), TR c p.n V0 V D true] fun F v M =>
      (p.dc + has f.2.length < tot F0 p.ino + has (max f.2.length (at' + m)) ∧ v = .int .i64 3 ∧ M = [R, pt s (stO c a p), pt a (alO c p), TR c p.n V0 V D true] ++ F) ∨
      (tot F0 p.ino + has (max f.2.length (at' + m)) ≤ p.dc + has f.2.length ∧ ∃ V' D', Rep p V' (updM F0 i (some (f.1, wrB f.2 at' bs))) ∧ (Dk p D' ∧ wt p D' ≤ wt p D + (has (max f.2.length (at' + m)) - has f.2.length) + (m + 511) / 512 + 5) ∧ v = okV ∧ M = [R, pt s (stO c a p), pt a (alO c p), TR c p.n V0 V' D' true] ++ F) := by
  refine Spec.intro Tryz.func20 rfl rfl fun B F => ?_
  simp only [Tryz.ntmps20, List.cons_append, List.nil_append, env0, Nat.reduceAdd]
  have hf := h.ok i f hi
  have hsz := hf.sz
  have hbig := hf.big
  have hlt := h.lt hi
  have hi2 := ho.i2
  have hlo := ho.lo
  have htab := ho.tab
  have hnd := repNd (p := p) (V := V) hi
  have hfx := h.inv.fits i _ _ hnd
  have hbl := hfx.bl
  have hnl := ndL_length hbl
  have hcl := h.cntle
  have hszg : (ndL (ldN p V i))[1]? = some (nI f.2.length) := by rw [← hsz]; rfl
  by_cases hgr : f.2.length < at' + m
  · have hmx : max f.2.length (at' + m) = at' + m := by omega
    rw [hmx] at hrm ⊢
    have hndx := h.ndX hi
    refine WC.seq ?_
    refine WC.region ?_
    refine WL.assign ?_
    refine WL.nil ?_
    refine WQ.next ?_
    refine WC.seq ?_
    refine WC.region ?_
    refine WL.move ?_
    refine WL.move ?_
    refine WL.call (hc := Tryz.call52) (sp := inChg (i := i) (V0 := V0) (V := V) (D := D) ho (h.lt hi) (h.digI hi)) (h := ?_)
    rintro _ _ ⟨rfl, rfl⟩
    simp only [List.cons_append, List.nil_append]
    refine WL.move ?_
    refine WL.extract ?_
    refine WL.extract ?_
    refine WL.allocL zNd rfl fun b9 => ?_
    refine WL.stLA (xs := ndL nd0) (us := ndL (ldN p V i)) ?_ agg92 hnl rfl (ndL_single _)
    refine WL.assign ?_
    refine WL.nil ?_
    refine WQ.next ?_
    refine WC.seq ?_
    refine WC.block ?_
    refine WC.seq ?_
    refine WC.region ?_
    refine WL.move ?_
    refine WL.nei ?_
    refine WL.assign ?_
    refine WL.nil ?_
    refine WQ.next ?_
    refine WC.condF rfl rfl ?_
    refine WC.seq ?_
    refine WC.region ?_
    refine WL.move ?_
    refine WL.lss ?_
    refine WL.move ?_
    refine WL.cast (d := 26) (u := .bool false) rfl (congrArg Value.bool (by first | (simp; done) | (simp; omega) | (unfold nI; simp; omega) | omega)) ?_
    refine WL.gT ?_
    refine WL.move ?_
    refine WL.gT ?_
    refine WL.fa ?_ fo92_1
    refine WL.gT ?_
    refine WL.ldL (xs := ndL (ldN p V i)) (i := 1) ?_ sc3 hszg
    refine WL.gT ?_
    refine WL.gtr ?_
    refine WL.pickF ?_
    refine WL.assign ?_
    refine WL.nil ?_
    refine WQ.next ?_
    refine WC.condF rfl (congrArg Value.bool (by first | (simp; done) | (simp; omega) | (unfold nI; simp; omega) | omega)) ?_
    refine WC.seq ?_
    refine WC.region ?_
    refine WL.move ?_
    refine WL.lenS ?_ sl33
    refine WL.move ?_
    refine WL.sub ?_
    refine WL.gtr ?_
    refine WL.assign ?_
    refine WL.nil ?_
    refine WQ.next ?_
    refine WC.condF rfl (congrArg Value.bool (by first | (simp; done) | (simp; omega) | (unfold nI; simp; omega) | omega)) ?_
    refine WC.skip ?_
    refine WQ.blockNormal ?_
    refine WQ.next ?_
    refine WC.seq ?_
    refine WC.seq ?_
    refine WC.region ?_
    refine WL.move ?_
    refine WL.move ?_
    refine WL.lenS ?_ sl33
    refine WL.add ?_
    refine WL.fa ?_ fo92_1
    refine WL.ldL (xs := ndL (ldN p V i)) (i := 1) ?_ sc3 hszg
    refine WL.gtr ?_
    refine WL.nil ?_
    refine WQ.next ?_
    refine WC.condT rfl (congrArg Value.bool (by first | (simp; done) | (simp; omega) | (unfold nI; simp; omega) | omega)) ?_
    refine WC.seq ?_
    refine WC.seq ?_
    refine WC.region ?_
    refine WL.move ?_
    refine WL.move ?_
    refine WL.move ?_
    refine WL.lenS ?_ sl33
    refine WL.add ?_
    refine WL.cast (d := 49) (u := nI (at' + m)) rfl (congrArg (Value.int .i64) (by omega)) ?_
    refine WL.call (hc := Tryz.call53) (sp := inGrow (i := i) (b := b9) (size := at' + m) (x := ldN p V i) (V0 := V0) (V := V) (D := D) h.inv ho hndx hdk (by rw [hsz]; omega) (by omega) (hrm.mono (by rw [hsz]; omega))) (h := ?_)
    rintro _ _ (⟨hfull, rfl, rfl⟩ | ⟨hle, x1, V1, D1, hG, rfl, rfl⟩) <;> simp only [List.cons_append, List.nil_append]
    · rw [h.cn, hsz] at hfull
      refine WL.assign ?_
      refine WL.nil ?_
      refine WQ.next ?_
      refine WC.seq ?_
      refine WC.region ?_
      refine WL.move ?_
      refine WL.nei ?_
      refine WL.nil ?_
      refine WQ.next ?_
      refine WC.condT rfl rfl ?_
      refine WC.seq ?_
      refine WC.region ?_
      refine WL.move ?_
      refine WL.assign ?_
      refine WL.nil ?_
      refine WQ.next ?_
      refine WC.ret (WQ.thenRet (WQ.thenRet (?_)))
      exact WQ.ret1 (h1 := .tmp (t := 8) rfl) ⟨_, .inl ⟨hfull, rfl, rfl⟩, Am.auto⟩
    · rw [h.cn, hsz] at hle
      have hfx1 := hG.inv.fits i x1 _ (updF_same ..)
      have hbl1 := hfx1.bl
      have hwg := hG.wt
      rw [hsz] at hwg
      have hhm : has f.2.length ≤ has (at' + m) := by rw [has_hs, has_hs]; exact hs_mono (dat_mono (by omega))
      have hrep := h.grown ho hi (by omega) (by omega) hG
      have hsd := inD_ok (p := p) hG.dk (v := p.tb + i / 8) (by omega) (by omega)
      have hld2 : ldN p (svV p V1 i x1) i = x1 := ldN_svV hG.inv.len hfx1
      have hel : (ext f.2 (at' + m)).length = at' + m := by rw [ext_length]; omega
      have hnd2 := repNd (p := p) (V := svV p V1 i x1) (updM_same F0 i (some (f.1, ext f.2 (at' + m))))
      rw [hld2] at hnd2
      simp only [hel] at hnd2
      refine WL.assign ?_
      refine WL.nil ?_
      refine WQ.next ?_
      refine WC.seq ?_
      refine WC.region ?_
      refine WL.move ?_
      refine WL.nei ?_
      refine WL.nil ?_
      refine WQ.next ?_
      refine WC.condF rfl rfl ?_
      refine WC.skip ?_
      refine WQ.next ?_
      refine WC.seq ?_
      refine WC.region ?_
      refine WL.move ?_
      refine WL.move ?_
      refine WL.ldW (xs := ndL x1) ?_ agg92 (ndL_length hbl1)
      refine WL.call (hc := Tryz.call51) (sp := inSave (i := i) (x := x1) (V0 := V0) (V := V1) (D := D1) ho hlt hfx1 (hG.dk.room (c := 0) (hrm.mono (by omega)))) (h := ?_)
      rintro _ _ ⟨rfl, rfl⟩
      simp only [List.cons_append, List.nil_append]
      refine WL.assign ?_
      refine WL.nil ?_
      refine WQ.next ?_
      refine WC.seq ?_
      refine WC.region ?_
      refine WL.move ?_
      refine WL.nei ?_
      refine WL.nil ?_
      refine WQ.next ?_
      refine WC.condF rfl rfl ?_
      refine WC.skip ?_
      refine WQ.next ?_
      refine WC.seq ?_
      refine WC.region ?_
      refine WL.move ?_
      refine WL.ldW (xs := ndL x1) ?_ agg92 (ndL_length hbl1)
      refine WL.move ?_
      refine WL.move ?_
      refine WL.call (hc := Tryz.call54) (sp := inLay (x := x1) (at' := at') (bs := bs) (R := R) (V0 := V0) (V := svV p V1 i x1) (D := insD D1 (p.tb + i / 8)) hrep.inv ho hnd2 hsd.1 (hrm.mono (by rw [hm]; omega)) hR hm hcc hcb (fun k k1 k2 => ⟨stdS_iff.2 (.inl (by unfold dat; omega)), by omega⟩) (by omega) (by omega)) (h := ?_)
      rintro _ _ ⟨V2, D2, hlay, ⟨hdk2, hw2⟩, rfl, rfl⟩
      simp only [List.cons_append, List.nil_append]
      refine WL.assign ?_
      refine WL.nil ?_
      refine WQ.next ?_
      refine WC.ret (?_)
      rw [← hm] at hlay hel
      have hfin := hrep.wrote ho (at' := at') (bs := bs) (updM_same ..) (by show at' + bs.length ≤ (ext f.2 (at' + m)).length; rw [← hm]; omega) (by rw [hld2]; exact hlay)
      rw [FM_twice] at hfin
      have hwe : wrB (ext f.2 (at' + m)) at' bs = wrB f.2 at' bs := by
        unfold wrB
        rw [← hm, ext_self (old := ext f.2 (at' + bs.length)) (by omega)]
      simp only [hwe] at hfin
      exact WQ.ret1 (h1 := .tmp (t := 8) rfl) ⟨_, .inr ⟨hle, _, _, hfin, ⟨hdk2, by omega⟩, rfl, rfl⟩, Am.auto⟩
  · have hmx : max f.2.length (at' + m) = f.2.length := by omega
    rw [hmx] at hrm ⊢
    refine WC.seq ?_
    refine WC.region ?_
    refine WL.assign ?_
    refine WL.nil ?_
    refine WQ.next ?_
    refine WC.seq ?_
    refine WC.region ?_
    refine WL.move ?_
    refine WL.move ?_
    refine WL.call (hc := Tryz.call52) (sp := inChg (i := i) (V0 := V0) (V := V) (D := D) ho (h.lt hi) (h.digI hi)) (h := ?_)
    rintro _ _ ⟨rfl, rfl⟩
    simp only [List.cons_append, List.nil_append]
    refine WL.move ?_
    refine WL.extract ?_
    refine WL.extract ?_
    refine WL.allocL zNd rfl fun b9 => ?_
    refine WL.stLA (xs := ndL nd0) (us := ndL (ldN p V i)) ?_ agg92 hnl rfl (ndL_single _)
    refine WL.assign ?_
    refine WL.nil ?_
    refine WQ.next ?_
    refine WC.seq ?_
    refine WC.block ?_
    refine WC.seq ?_
    refine WC.region ?_
    refine WL.move ?_
    refine WL.nei ?_
    refine WL.assign ?_
    refine WL.nil ?_
    refine WQ.next ?_
    refine WC.condF rfl rfl ?_
    refine WC.seq ?_
    refine WC.region ?_
    refine WL.move ?_
    refine WL.lss ?_
    refine WL.move ?_
    refine WL.cast (d := 26) (u := .bool false) rfl (congrArg Value.bool (by first | (simp; done) | (simp; omega) | (unfold nI; simp; omega) | omega)) ?_
    refine WL.gT ?_
    refine WL.move ?_
    refine WL.gT ?_
    refine WL.fa ?_ fo92_1
    refine WL.gT ?_
    refine WL.ldL (xs := ndL (ldN p V i)) (i := 1) ?_ sc3 hszg
    refine WL.gT ?_
    refine WL.gtr ?_
    refine WL.pickF ?_
    refine WL.assign ?_
    refine WL.nil ?_
    refine WQ.next ?_
    refine WC.condF rfl (congrArg Value.bool (by first | (simp; done) | (simp; omega) | (unfold nI; simp; omega) | omega)) ?_
    refine WC.seq ?_
    refine WC.region ?_
    refine WL.move ?_
    refine WL.lenS ?_ sl33
    refine WL.move ?_
    refine WL.sub ?_
    refine WL.gtr ?_
    refine WL.assign ?_
    refine WL.nil ?_
    refine WQ.next ?_
    refine WC.condF rfl (congrArg Value.bool (by first | (simp; done) | (simp; omega) | (unfold nI; simp; omega) | omega)) ?_
    refine WC.skip ?_
    refine WQ.blockNormal ?_
    refine WQ.next ?_
    refine WC.seq ?_
    refine WC.seq ?_
    refine WC.region ?_
    refine WL.move ?_
    refine WL.move ?_
    refine WL.lenS ?_ sl33
    refine WL.add ?_
    refine WL.fa ?_ fo92_1
    refine WL.ldL (xs := ndL (ldN p V i)) (i := 1) ?_ sc3 hszg
    refine WL.gtr ?_
    refine WL.nil ?_
    refine WQ.next ?_
    refine WC.condF rfl (congrArg Value.bool (by first | (simp; done) | (simp; omega) | (unfold nI; simp; omega) | omega)) ?_
    refine WC.skip ?_
    refine WQ.next ?_
    refine WC.seq ?_
    refine WC.region ?_
    refine WL.move ?_
    refine WL.ldW (xs := ndL (ldN p V i)) ?_ agg92 hnl
    refine WL.move ?_
    refine WL.move ?_
    refine WL.call (hc := Tryz.call54) (sp := inLay (x := ldN p V i) (at' := at') (bs := bs) (R := R) (V0 := V0) (V := V) (D := D) h.inv ho hnd hdk (hrm.mono (by rw [hm]; omega)) hR hm hcc hcb (fun k k1 k2 => ⟨stdS_iff.2 (.inl (by unfold dat; omega)), by omega⟩) (by omega) (by omega)) (h := ?_)
    rintro _ _ ⟨V2, D2, hlay, ⟨hdk2, hw2⟩, rfl, rfl⟩
    simp only [List.cons_append, List.nil_append]
    refine WL.assign ?_
    refine WL.nil ?_
    refine WQ.next ?_
    refine WC.ret (?_)
    rw [← hm] at hlay
    have hfin := h.wrote ho hi (by omega) hlay
    exact WQ.ret1 (h1 := .tmp (t := 8) rfl) ⟨_, .inr ⟨by omega, _, _, hfin, ⟨hdk2, by omega⟩, rfl, rfl⟩, Am.auto⟩

end Go.Proofs.YtedmihapieleaaaGreat
