/- Walks of package inode: one inode, one block. -/
import Derived.Test.YtedmihapieleaaaGreatFa
import Derived.Test.YtedmihapieleaaaGreatPi
import Derived.Test.YtedmihapieleaaaGreatSn
import Derived.KernelRfl
set_option linter.unusedVariables false
set_option linter.unusedSimpArgs false
namespace Go.Proofs.YtedmihapieleaaaGreat
open Go
theorem ar90 : arrOk Tryz.prog 90 3 11 1 = true := by kernel_rfl
theorem agg92 : aggOk Tryz.prog 92 13 = true := by kernel_rfl
theorem agg90 : aggOk Tryz.prog 90 11 = true := by kernel_rfl
theorem ptr26 : ptrOk Tryz.prog 26 = true := by kernel_rfl
theorem fo87_0 : fieldOk Tryz.prog 87 0 0 = true := by kernel_rfl
theorem fo87_2 : fieldOk Tryz.prog 87 2 2 = true := by kernel_rfl

theorem bdStore (c a : Nat) (v1 v2 v3 v4 v5 v6 v7 : Int) : BuildOk Tryz.prog 87 [(0, .pointer (some ⟨c, 0, none⟩)), (1, .pointer (some ⟨a, 0, none⟩)), (2, .agg #[.int .i64 v1, .int .i64 v2, .int .i64 v3, .int .i64 v4, .int .i64 v5, .int .i64 v6, .int .i64 v7])] #[.pointer (some ⟨c, 0, none⟩), .pointer (some ⟨a, 0, none⟩), .int .i64 v1, .int .i64 v2, .int .i64 v3, .int .i64 v4, .int .i64 v5, .int .i64 v6, .int .i64 v7] := fun w => by kernel_rfl
def stO (c a : Nat) (p : Pl) : Obj := .cells #[.pointer (some ⟨c, 0, none⟩), .pointer (some ⟨a, 0, none⟩), .int .i64 (p.n : Int), .int .i64 (p.ino : Int), .int .i64 (p.im : Int), .int .i64 (p.bm : Int), .int .i64 (p.tb : Int), .int .i64 (p.da : Int), .int .i64 (p.dc : Int)] 87 (0, 0)
def nI (n : Nat) : Value := .int .i64 (n : Int)
/-- An inode as cells. -/
def ndL (x : Nd) : List Value := nI x.kd :: nI x.sz :: x.bl.map nI
def ndV (x : Nd) : Value := .agg (ndL x).toArray
theorem ndL_length {x : Nd} (h : x.bl.length = 11) : (ndL x).length = 13 := by simp [ndL, h]
theorem ndL_single (x : Nd) : ∀ v ∈ ndL x, Value.single v = true := by
  intro v hv
  unfold ndL at hv
  simp only [List.mem_cons, List.mem_map] at hv
  rcases hv with rfl | rfl | ⟨k, _, rfl⟩ <;> rfl
theorem ndL_bl {x : Nd} {k : Nat} (h : k < x.bl.length) : (ndL x)[2 + k]? = some (nI (x.bl.getD k 0)) := by
  unfold ndL
  rw [show 2 + k = k + 1 + 1 from by omega, List.getElem?_cons_succ, List.getElem?_cons_succ, List.getElem?_map, List.getElem?_eq_getElem h, List.getD_eq_getElem?_getD, List.getElem?_eq_getElem h]
  rfl
theorem ndL_set {x : Nd} {k v : Nat} : (ndL x).set (2 + k) (nI v) = ndL ⟨x.kd, x.sz, x.bl.set k v⟩ := by
  unfold ndL
  rw [show 2 + k = k + 1 + 1 from by omega, List.set_cons_succ, List.set_cons_succ, List.map_set]
theorem ndL_arr {x : Nd} (h : x.bl.length = 11) : ((ndL x).drop 2).take 11 = x.bl.map nI := by
  unfold ndL
  rw [List.drop_succ_cons, List.drop_succ_cons, List.drop_zero, List.take_of_length_le (by simp [h])]
def nd0 : Nd := ⟨0, 0, List.replicate 11 0⟩
theorem zNd : zeroOf Tryz.prog 92 = some (ndL nd0).toArray := by kernel_rfl
theorem bdNd0 : BuildOk Tryz.prog 92 [] (ndL nd0).toArray := fun w => by kernel_rfl
theorem bdNdK (k : Nat) : BuildOk Tryz.prog 92 [(0, nI k)] (ndL ⟨k, 0, List.replicate 11 0⟩).toArray := fun w => by kernel_rfl
theorem bdStat (a b : Int) : BuildOk Tryz.prog 55 [(0, .int .i64 a), (1, .int .i64 b)] #[.int .i64 a, .int .i64 b] := fun w => by kernel_rfl

theorem inNew {c a : Nat} {p : Pl} : Spec Tryz.prog 46 #[.pointer (some ⟨c, 0, none⟩), .pointer (some ⟨a, 0, none⟩), .agg p.cells] [] fun F v M => ∃ s, v = .pointer (some ⟨s, 0, none⟩) ∧ M = pt s (stO c a p) :: F := by
  refine Spec.intro Tryz.func46 rfl rfl fun B F => ?_
  simp only [Tryz.ntmps46, List.cons_append, List.nil_append, env0, Nat.reduceAdd]
  refine WC.seq ?_
  refine WC.region ?_
  refine WL.box fun b5 => ?_
  refine WL.assign ?_
  refine WL.nil ?_
  refine WQ.next ?_
  refine WC.seq ?_
  refine WC.region ?_
  refine WL.move ?_
  refine WL.move ?_
  refine WL.ldA ?_ agg28
  refine WL.build ?_ (bdStore _ _ _ _ _ _ _ _ _)
  refine WL.box fun b11 => ?_
  refine WL.assign ?_
  refine WL.nil ?_
  refine WQ.next ?_
  refine WC.ret (?_)
  exact WQ.ret1 (h1 := .tmp (t := 6) rfl) ⟨_, ⟨_, rfl, rfl⟩, Am.auto⟩

theorem inReady {s c a n : Nat} {p : Pl} {V0 V : Nat → Bytes} {D : List Nat} {op : Bool} : Spec Tryz.prog 49 #[.pointer (some ⟨s, 0, none⟩)] [pt s (stO c a p), TR c n V0 V D op] fun F v M => v = .bool op ∧ M = [pt s (stO c a p), TR c n V0 V D op] ++ F := by
  refine Spec.intro Tryz.func49 rfl rfl fun B F => ?_
  simp only [Tryz.ntmps49, List.cons_append, List.nil_append, env0, Nat.reduceAdd]
  refine WC.seq ?_
  refine WC.region ?_
  refine WL.assign ?_
  refine WL.nil ?_
  refine WQ.next ?_
  refine WC.seq ?_
  refine WC.region ?_
  refine WL.move ?_
  refine WL.neNil ?_ ptr26
  refine WL.move ?_
  refine WL.gT ?_
  refine WL.move ?_
  refine WL.gT ?_
  refine WL.nilCheck ?_
  refine WL.gT ?_
  refine WL.fa ?_ fo87_0
  refine WL.gT ?_
  refine WL.ld ?_ sc24
  refine WL.gT ?_
  refine WL.call (hc := Tryz.call55) (sp := tOpen (n := n) (V0 := V0) (V := V) (D := D) (op := op)) (h := ?_)
  rintro _ _ ⟨rfl, rfl⟩
  refine WL.pickT ?_
  refine WL.assign ?_
  refine WL.nil ?_
  refine WQ.next ?_
  refine WC.ret (?_)
  exact WQ.ret1 (h1 := .tmp (t := 2) rfl) ⟨_, ⟨rfl, rfl⟩, Am.auto⟩

theorem inPlace {s c a i : Nat} {p : Pl} (hi : i ≤ 100000) (ht : p.tb ≤ 65536) : Spec Tryz.prog 98 #[.pointer (some ⟨s, 0, none⟩), nI i] [pt s (stO c a p)] fun F v M => v = .tuple #[nI (p.tb + i / 8), nI (i % 8 * 64)] ∧ M = pt s (stO c a p) :: F := by
  refine Spec.intro Tryz.func98 rfl rfl fun B F => ?_
  simp only [Tryz.ntmps98, List.cons_append, List.nil_append, env0, Nat.reduceAdd]
  unfold nI
  refine WC.seq ?_
  refine WC.region ?_
  refine WL.assign ?_
  refine WL.assign ?_
  refine WL.nil ?_
  refine WQ.next ?_
  refine WC.seq ?_
  refine WC.region ?_
  refine WL.move ?_
  refine WL.nilCheck ?_
  refine WL.fa ?_ fo87_2
  refine WL.fa ?_ fo28_4
  refine WL.ld ?_ sc3
  refine WL.move ?_
  refine WL.quo ?_
  refine WL.add ?_
  refine WL.cast (d := 13) (u := .int .i64 ((p.tb + i / 8 : Nat) : Int)) rfl (congrArg (Value.int .i64) (by omega)) ?_
  refine WL.move ?_
  refine WL.rem ?_
  refine WL.mul ?_
  refine WL.cast (d := 16) (u := .int .i64 ((i % 8 * 64 : Nat) : Int)) rfl (congrArg (Value.int .i64) (by omega)) ?_
  refine WL.assign ?_
  refine WL.assign ?_
  refine WL.nil ?_
  refine WQ.next ?_
  refine WC.ret (?_)
  exact WQ.ret2 (h1 := .tmp (t := 4) rfl) (h2 := .tmp (t := 5) rfl) ⟨_, ⟨rfl, rfl⟩, Am.auto⟩

theorem inGet {R : HP} {A : Addr} {n c : Nat} {xs : Bytes} {q : Nat} (hR : Reads R (some A) (bvs xs)) (hn : xs.length = n) (hl : n ≤ 1073741824) (hq : q + 4 ≤ n) : Spec Tryz.prog 109 #[.slice (some A) n c, nI q] [R] fun F v M => v = nI (num xs q) ∧ M = R :: F := by
  refine Spec.intro Tryz.func109 rfl rfl fun B F => ?_
  simp only [Tryz.ntmps109, List.cons_append, List.nil_append, env0, Nat.reduceAdd]
  have hlt := num_lt xs q
  have hq2 : q + 4 ≤ xs.length := by omega
  refine WC.seq ?_
  refine WC.region ?_
  refine WL.assign ?_
  refine WL.nil ?_
  refine WQ.next ?_
  refine WC.seq ?_
  refine WC.region ?_
  refine WL.move ?_
  refine WL.move ?_
  refine WL.call (hc := Tryz.call117) (sp := bitsGet (p := (q : Int)) hR hn hl (by omega) (by omega) (by omega)) (h := ?_)
  rintro _ _ ⟨rfl, rfl⟩
  refine WL.move ?_
  refine WL.extract ?_
  refine WL.extract ?_
  refine WL.assign ?_
  refine WL.assign ?_
  refine WL.nil ?_
  refine WQ.next ?_
  refine WC.seq ?_
  refine WC.region ?_
  refine WL.move ?_
  refine WL.cvt ?_ un138 un3
  refine WL.cast (d := 14) (u := nI (num xs q)) rfl (congrArg (Value.int .i64) (by rw [show ((q : Int)).toNat = q from by omega, show (4 : Int).toNat = 4 from rfl, num_seg hq2]; exact IntWalk.i64_in _ (by omega))) ?_
  refine WL.assign ?_
  refine WL.nil ?_
  refine WQ.next ?_
  refine WC.ret (?_)
  exact WQ.ret1 (h1 := .tmp (t := 4) rfl) ⟨_, ⟨rfl, rfl⟩, Am.auto⟩

theorem inPut {R : HP} {A : Addr} {n c : Nat} {xs : Bytes} {q v : Nat} (hR : Reads R (some A) (bvs xs)) (hn : xs.length = n) (hl : n ≤ 1073741824) (hq : q + 4 ≤ n) (hv : v < 2 ^ 63) : Spec Tryz.prog 99 #[.slice (some A) n c, nI q, nI v] [R] fun F u M => ∃ b k, (u = .slice (some ⟨b, 0, none⟩) n k ∧ n ≤ k ∧ k ≤ maxLen) ∧ M = buf b 5 k (bvs (put4 xs q v)) :: R :: F := by
  refine Spec.intro Tryz.func99 rfl rfl fun B F => ?_
  simp only [Tryz.ntmps99, List.cons_append, List.nil_append, env0, Nat.reduceAdd]
  refine WC.seq ?_
  refine WC.region ?_
  refine WL.assign ?_
  refine WL.nil ?_
  refine WQ.next ?_
  refine WC.seq ?_
  refine WC.region ?_
  refine WL.move ?_
  refine WL.move ?_
  refine WL.move ?_
  refine WL.cvt ?_ un3 un138
  refine WL.cast (d := 13) (u := .int .u64 (v : Int)) rfl (congrArg (Value.int .u64) (IntWalk.u64_in _ (by omega))) ?_
  refine WL.call (hc := Tryz.call116) (sp := bitsPut (p := (q : Int)) (v := v) hR hn hl (by omega) (by omega) (by omega) (by omega)) (h := ?_)
  rintro _ _ ⟨gb, kb, ⟨rfl, hk1, hk2⟩, rfl⟩
  rw [show ((q : Int)).toNat = q from by omega, show (4 : Int).toNat = 4 from rfl]
  refine WL.move ?_
  refine WL.extract ?_
  refine WL.extract ?_
  refine WL.assign ?_
  refine WL.assign ?_
  refine WL.nil ?_
  refine WQ.next ?_
  refine WC.seq ?_
  refine WC.region ?_
  refine WL.move ?_
  refine WL.assign ?_
  refine WL.nil ?_
  refine WQ.next ?_
  refine WC.ret (?_)
  exact WQ.ret1 (h1 := .tmp (t := 6) rfl) ⟨_, ⟨_, _, ⟨rfl, hk1, hk2⟩, rfl⟩, Am.auto⟩

theorem inData {k : Nat} (hk : k ≤ 1000000) : Spec Tryz.prog 101 #[nI k] [] fun F v M => v = nI (dat k) ∧ M = F := by
  refine Spec.intro Tryz.func101 rfl rfl fun B F => ?_
  simp only [Tryz.ntmps101, List.cons_append, List.nil_append, env0, Nat.reduceAdd]
  unfold nI dat
  refine WC.seq ?_
  refine WC.region ?_
  refine WL.assign ?_
  refine WL.nil ?_
  refine WQ.next ?_
  refine WC.seq ?_
  refine WC.region ?_
  refine WL.move ?_
  refine WL.add ?_
  refine WL.sub ?_
  refine WL.quo ?_
  refine WL.cast (d := 6) (u := .int .i64 (((k + 511) / 512 : Nat) : Int)) rfl (congrArg (Value.int .i64) (by omega)) ?_
  refine WL.assign ?_
  refine WL.nil ?_
  refine WQ.next ?_
  refine WC.ret (?_)
  exact WQ.ret1 (h1 := .tmp (t := 2) rfl) ⟨_, ⟨rfl, rfl⟩, Am.auto⟩

theorem inHas {k : Nat} (hk : k ≤ 1000000) : Spec Tryz.prog 100 #[nI k] [] fun F v M => v = nI (has k) ∧ M = F := by
  refine Spec.intro Tryz.func100 rfl rfl fun B F => ?_
  simp only [Tryz.ntmps100, List.cons_append, List.nil_append, env0, Nat.reduceAdd]
  have hd : dat k ≤ 2000 := by unfold dat; omega
  by_cases h10 : dat k ≤ 10
  · refine WC.seq ?_
    refine WC.region ?_
    refine WL.assign ?_
    refine WL.nil ?_
    refine WQ.next ?_
    refine WC.seq ?_
    refine WC.seq ?_
    refine WC.region ?_
    refine WL.move ?_
    refine WL.call (hc := Tryz.call101) (sp := inData (k := k) hk) (h := ?_)
    rintro _ _ ⟨rfl, rfl⟩
    refine WL.assign ?_
    refine WL.nil ?_
    refine WQ.next ?_
    refine WC.seq ?_
    refine WC.region ?_
    refine WL.move ?_
    refine WL.leq ?_
    refine WL.nil ?_
    refine WQ.next ?_
    refine WC.condT rfl (congrArg Value.bool (by first | (simp; done) | (simp; omega) | omega)) ?_
    refine WC.seq ?_
    refine WC.region ?_
    refine WL.move ?_
    refine WL.assign ?_
    refine WL.nil ?_
    refine WQ.next ?_
    refine WC.ret (WQ.thenRet (?_))
    exact WQ.ret1 (h1 := .tmp (t := 2) rfl) ⟨_, ⟨by unfold has; rw [if_pos h10], rfl⟩, Am.auto⟩
  · refine WC.seq ?_
    refine WC.region ?_
    refine WL.assign ?_
    refine WL.nil ?_
    refine WQ.next ?_
    refine WC.seq ?_
    refine WC.seq ?_
    refine WC.region ?_
    refine WL.move ?_
    refine WL.call (hc := Tryz.call101) (sp := inData (k := k) hk) (h := ?_)
    rintro _ _ ⟨rfl, rfl⟩
    refine WL.assign ?_
    refine WL.nil ?_
    refine WQ.next ?_
    refine WC.seq ?_
    refine WC.region ?_
    refine WL.move ?_
    refine WL.leq ?_
    refine WL.nil ?_
    refine WQ.next ?_
    refine WC.condF rfl (congrArg Value.bool (by first | (simp; done) | (simp; omega) | omega)) ?_
    refine WC.skip ?_
    refine WQ.next ?_
    refine WC.seq ?_
    refine WC.region ?_
    refine WL.move ?_
    refine WL.call (hc := Tryz.call101) (sp := inData (k := k) hk) (h := ?_)
    rintro _ _ ⟨rfl, rfl⟩
    refine WL.add ?_
    refine WL.cast (d := 11) (u := nI (has k)) rfl (by unfold has nI; rw [if_neg h10]; exact congrArg (Value.int .i64) (by omega)) ?_
    refine WL.assign ?_
    refine WL.nil ?_
    refine WQ.next ?_
    refine WC.ret (?_)
    exact WQ.ret1 (h1 := .tmp (t := 2) rfl) ⟨_, ⟨rfl, rfl⟩, Am.auto⟩

theorem alInode {a c : Nat} {i : Int} {p : Pl} {V0 V : Nat → Bytes} {D : List Nat} {op : Bool} (h : PlOk p) : Spec Tryz.prog 108 #[.pointer (some ⟨a, 0, none⟩), .int .i64 i] [pt a (alO c p), TR c p.n V0 V D op] fun F v M => v = .bool (decide (0 ≤ i ∧ i < p.ino ∧ (i = 0 ∨ dig V p.im i.toNat = true))) ∧ M = [pt a (alO c p), TR c p.n V0 V D op] ++ F := by
  refine Spec.intro Tryz.func108 rfl rfl fun B F => ?_
  simp only [Tryz.ntmps108, List.cons_append, List.nil_append, env0, Nat.reduceAdd]
  have hlo := h.aI.lo
  have hhi := h.aI.hi
  have hn2 := h.aI.n2
  have hi2 := h.i2
  have hap := h.apart
  rcases (show i < 0 ∨ (0 ≤ i ∧ (p.ino : Int) ≤ i) ∨ i = 0 ∧ i < (p.ino : Int) ∨ (0 < i ∧ i < (p.ino : Int)) from by omega) with hc | hc | hc | hc
  · refine WC.seq ?_
    refine WC.region ?_
    refine WL.assign ?_
    refine WL.nil ?_
    refine WQ.next ?_
    refine WC.seq ?_
    refine WC.seq ?_
    refine WC.region ?_
    refine WL.move ?_
    refine WL.eqNil ?_ ptr25
    refine WL.move ?_
    refine WL.gT ?_
    refine WL.move ?_
    refine WL.gT ?_
    refine WL.lss ?_
    refine WL.pickF ?_
    refine WL.move ?_
    refine WL.cast (d := 13) (u := .bool true) rfl (congrArg Value.bool (by first | (simp; done) | (simp; omega) | omega)) ?_
    refine WL.gF ?_
    refine WL.gF ?_
    refine WL.gF ?_
    refine WL.gF ?_
    refine WL.gF ?_
    refine WL.gF ?_
    refine WL.gF ?_
    refine WL.pickT ?_
    refine WL.nil ?_
    refine WQ.next ?_
    refine WC.condT rfl rfl ?_
    refine WC.seq ?_
    refine WC.region ?_
    refine WL.assign ?_
    refine WL.nil ?_
    refine WQ.next ?_
    refine WC.ret (WQ.thenRet (?_))
    exact WQ.ret1 (h1 := .tmp (t := 4) rfl) ⟨_, ⟨congrArg Value.bool (by symm; exact decide_eq_false (by omega)), rfl⟩, Am.auto⟩
  · refine WC.seq ?_
    refine WC.region ?_
    refine WL.assign ?_
    refine WL.nil ?_
    refine WQ.next ?_
    refine WC.seq ?_
    refine WC.seq ?_
    refine WC.region ?_
    refine WL.move ?_
    refine WL.eqNil ?_ ptr25
    refine WL.move ?_
    refine WL.gT ?_
    refine WL.move ?_
    refine WL.gT ?_
    refine WL.lss ?_
    refine WL.pickF ?_
    refine WL.move ?_
    refine WL.cast (d := 13) (u := .bool false) rfl (congrArg Value.bool (by first | (simp; done) | (simp; omega) | omega)) ?_
    refine WL.gT ?_
    refine WL.move ?_
    refine WL.gT ?_
    refine WL.move ?_
    refine WL.gT ?_
    refine WL.nilCheck ?_
    refine WL.gT ?_
    refine WL.fa ?_ fo154_1
    refine WL.gT ?_
    refine WL.fa ?_ fo28_1
    refine WL.gT ?_
    refine WL.ld ?_ sc3
    refine WL.gT ?_
    refine WL.geq ?_
    refine WL.pickF ?_
    refine WL.nil ?_
    refine WQ.next ?_
    refine WC.condT rfl (congrArg Value.bool (by first | (simp; done) | (simp; omega) | omega)) ?_
    refine WC.seq ?_
    refine WC.region ?_
    refine WL.assign ?_
    refine WL.nil ?_
    refine WQ.next ?_
    refine WC.ret (WQ.thenRet (?_))
    exact WQ.ret1 (h1 := .tmp (t := 4) rfl) ⟨_, ⟨congrArg Value.bool (by symm; exact decide_eq_false (by omega)), rfl⟩, Am.auto⟩
  · obtain ⟨m, rfl⟩ : ∃ m : Nat, i = (m : Int) := ⟨i.toNat, by omega⟩
    refine WC.seq ?_
    refine WC.region ?_
    refine WL.assign ?_
    refine WL.nil ?_
    refine WQ.next ?_
    refine WC.seq ?_
    refine WC.seq ?_
    refine WC.region ?_
    refine WL.move ?_
    refine WL.eqNil ?_ ptr25
    refine WL.move ?_
    refine WL.gT ?_
    refine WL.move ?_
    refine WL.gT ?_
    refine WL.lss ?_
    refine WL.pickF ?_
    refine WL.move ?_
    refine WL.cast (d := 13) (u := .bool false) rfl (congrArg Value.bool (by first | (simp; done) | (simp; omega) | omega)) ?_
    refine WL.gT ?_
    refine WL.move ?_
    refine WL.gT ?_
    refine WL.move ?_
    refine WL.gT ?_
    refine WL.nilCheck ?_
    refine WL.gT ?_
    refine WL.fa ?_ fo154_1
    refine WL.gT ?_
    refine WL.fa ?_ fo28_1
    refine WL.gT ?_
    refine WL.ld ?_ sc3
    refine WL.gT ?_
    refine WL.geq ?_
    refine WL.pickF ?_
    refine WL.nil ?_
    refine WQ.next ?_
    refine WC.condF rfl (congrArg Value.bool (by first | (simp; done) | (simp; omega) | omega)) ?_
    refine WC.skip ?_
    refine WQ.next ?_
    refine WC.seq ?_
    refine WC.draw ([pt a (alO c p)]) [] 18 #[false, false, false, false, false, false, false, false, false, false, false, false, false, false, false, false, false, false] mixed (by kernel_rfl) NoPanic.autoJ ?_
    refine WD.take (i := 0) #[true, false, false, false, false, false, false, false, false, false, false, false, false, false, false, false, false, false] rfl (by kernel_rfl) (Qt.move ) ?_
    refine WD.take (i := 1) #[true, true, false, false, false, false, false, false, false, false, false, false, false, false, false, false, false, false] rfl (by kernel_rfl) (Qt.nilCheck ) ?_
    refine WD.take (i := 2) #[true, true, true, false, false, false, false, false, false, false, false, false, false, false, false, false, false, false] rfl (by kernel_rfl) (Qt.fa fo154_0) ?_
    refine WD.take (i := 3) #[true, true, true, true, false, false, false, false, false, false, false, false, false, false, false, false, false, false] rfl (by kernel_rfl) (Qt.ld sc24) ?_
    refine WD.take (i := 4) #[true, true, true, true, true, false, false, false, false, false, false, false, false, false, false, false, false, false] rfl (by kernel_rfl) (Qt.move ) ?_
    refine WD.take (i := 5) #[true, true, true, true, true, true, false, false, false, false, false, false, false, false, false, false, false, false] rfl (by kernel_rfl) (Qt.nilCheck ) ?_
    refine WD.take (i := 6) #[true, true, true, true, true, true, true, false, false, false, false, false, false, false, false, false, false, false] rfl (by kernel_rfl) (Qt.fa fo154_1) ?_
    refine WD.take (i := 7) #[true, true, true, true, true, true, true, true, false, false, false, false, false, false, false, false, false, false] rfl (by kernel_rfl) (Qt.fa fo28_2) ?_
    refine WD.take (i := 8) #[true, true, true, true, true, true, true, true, true, false, false, false, false, false, false, false, false, false] rfl (by kernel_rfl) (Qt.ld sc3) ?_
    refine WD.take (i := 9) #[true, true, true, true, true, true, true, true, true, true, false, false, false, false, false, false, false, false] rfl (by kernel_rfl) (Qt.move ) ?_
    refine WD.take (i := 10) #[true, true, true, true, true, true, true, true, true, true, true, false, false, false, false, false, false, false] rfl (by kernel_rfl) (Qt.quo ) ?_
    refine WD.take (i := 11) #[true, true, true, true, true, true, true, true, true, true, true, true, false, false, false, false, false, false] rfl (by kernel_rfl) ((Qt.add).eq (v' := nI (p.im + m / 4096)) (congrArg (Value.int .i64) (by omega))) ?_
    refine WD.one (i := 12) #[true, true, true, true, true, true, true, true, true, true, true, true, true, false, false, false, false, false] rfl (by kernel_rfl) fun hnp => ?_
    refine WL.call (hc := Tryz.call63) (sp := tRead (n := p.n) (V0 := V0) (V := V) (D := D) (op := op) (k := p.im + m / 4096) (by omega) (by omega)) (h := ?_)
    rintro _ _ ⟨gb, q, el, rfl, ⟨hq1, hq2, hl5⟩, rfl⟩
    refine WL.nil (WQ.wd hnp (.inl Am.auto) ?_)
    refine WD.take (i := 13) #[true, true, true, true, true, true, true, true, true, true, true, true, true, true, false, false, false, false] rfl (by kernel_rfl) (Qt.move ) ?_
    refine WD.take (i := 14) #[true, true, true, true, true, true, true, true, true, true, true, true, true, true, true, false, false, false] rfl (by kernel_rfl) (Qt.extract ) ?_
    refine WD.take (i := 15) #[true, true, true, true, true, true, true, true, true, true, true, true, true, true, true, true, false, false] rfl (by kernel_rfl) (Qt.extract ) ?_
    refine WD.take (i := 16) #[true, true, true, true, true, true, true, true, true, true, true, true, true, true, true, true, true, false] rfl (by kernel_rfl) (Qt.assign ) ?_
    refine WD.take (i := 17) #[true, true, true, true, true, true, true, true, true, true, true, true, true, true, true, true, true, true] rfl (by kernel_rfl) (Qt.assign ) ?_
    refine WD.done (by kernel_rfl) ?_
    refine WQ.next ?_
    refine WC.seq ?_
    refine WC.region ?_
    refine WL.move ?_
    refine WL.eqi ?_
    refine WL.move ?_
    refine WL.cast (d := 40) (u := .bool true) rfl (congrArg Value.bool (by first | (simp; done) | (simp; omega) | omega)) ?_
    refine WL.gF ?_
    refine WL.gF ?_
    refine WL.gF ?_
    refine WL.gF ?_
    refine WL.pickT ?_
    refine WL.assign ?_
    refine WL.nil ?_
    refine WQ.next ?_
    refine WC.ret (?_)
    exact WQ.ret1 (h1 := .tmp (t := 4) rfl) ⟨_, ⟨congrArg Value.bool (by symm; exact decide_eq_true (by omega)), rfl⟩, Am.auto⟩
  · obtain ⟨m, rfl⟩ : ∃ m : Nat, i = (m : Int) := ⟨i.toNat, by omega⟩
    refine WC.seq ?_
    refine WC.region ?_
    refine WL.assign ?_
    refine WL.nil ?_
    refine WQ.next ?_
    refine WC.seq ?_
    refine WC.seq ?_
    refine WC.region ?_
    refine WL.move ?_
    refine WL.eqNil ?_ ptr25
    refine WL.move ?_
    refine WL.gT ?_
    refine WL.move ?_
    refine WL.gT ?_
    refine WL.lss ?_
    refine WL.pickF ?_
    refine WL.move ?_
    refine WL.cast (d := 13) (u := .bool false) rfl (congrArg Value.bool (by first | (simp; done) | (simp; omega) | omega)) ?_
    refine WL.gT ?_
    refine WL.move ?_
    refine WL.gT ?_
    refine WL.move ?_
    refine WL.gT ?_
    refine WL.nilCheck ?_
    refine WL.gT ?_
    refine WL.fa ?_ fo154_1
    refine WL.gT ?_
    refine WL.fa ?_ fo28_1
    refine WL.gT ?_
    refine WL.ld ?_ sc3
    refine WL.gT ?_
    refine WL.geq ?_
    refine WL.pickF ?_
    refine WL.nil ?_
    refine WQ.next ?_
    refine WC.condF rfl (congrArg Value.bool (by first | (simp; done) | (simp; omega) | omega)) ?_
    refine WC.skip ?_
    refine WQ.next ?_
    refine WC.seq ?_
    refine WC.draw ([pt a (alO c p)]) [] 18 #[false, false, false, false, false, false, false, false, false, false, false, false, false, false, false, false, false, false] mixed (by kernel_rfl) NoPanic.autoJ ?_
    refine WD.take (i := 0) #[true, false, false, false, false, false, false, false, false, false, false, false, false, false, false, false, false, false] rfl (by kernel_rfl) (Qt.move ) ?_
    refine WD.take (i := 1) #[true, true, false, false, false, false, false, false, false, false, false, false, false, false, false, false, false, false] rfl (by kernel_rfl) (Qt.nilCheck ) ?_
    refine WD.take (i := 2) #[true, true, true, false, false, false, false, false, false, false, false, false, false, false, false, false, false, false] rfl (by kernel_rfl) (Qt.fa fo154_0) ?_
    refine WD.take (i := 3) #[true, true, true, true, false, false, false, false, false, false, false, false, false, false, false, false, false, false] rfl (by kernel_rfl) (Qt.ld sc24) ?_
    refine WD.take (i := 4) #[true, true, true, true, true, false, false, false, false, false, false, false, false, false, false, false, false, false] rfl (by kernel_rfl) (Qt.move ) ?_
    refine WD.take (i := 5) #[true, true, true, true, true, true, false, false, false, false, false, false, false, false, false, false, false, false] rfl (by kernel_rfl) (Qt.nilCheck ) ?_
    refine WD.take (i := 6) #[true, true, true, true, true, true, true, false, false, false, false, false, false, false, false, false, false, false] rfl (by kernel_rfl) (Qt.fa fo154_1) ?_
    refine WD.take (i := 7) #[true, true, true, true, true, true, true, true, false, false, false, false, false, false, false, false, false, false] rfl (by kernel_rfl) (Qt.fa fo28_2) ?_
    refine WD.take (i := 8) #[true, true, true, true, true, true, true, true, true, false, false, false, false, false, false, false, false, false] rfl (by kernel_rfl) (Qt.ld sc3) ?_
    refine WD.take (i := 9) #[true, true, true, true, true, true, true, true, true, true, false, false, false, false, false, false, false, false] rfl (by kernel_rfl) (Qt.move ) ?_
    refine WD.take (i := 10) #[true, true, true, true, true, true, true, true, true, true, true, false, false, false, false, false, false, false] rfl (by kernel_rfl) (Qt.quo ) ?_
    refine WD.take (i := 11) #[true, true, true, true, true, true, true, true, true, true, true, true, false, false, false, false, false, false] rfl (by kernel_rfl) ((Qt.add).eq (v' := nI (p.im + m / 4096)) (congrArg (Value.int .i64) (by omega))) ?_
    refine WD.one (i := 12) #[true, true, true, true, true, true, true, true, true, true, true, true, true, false, false, false, false, false] rfl (by kernel_rfl) fun hnp => ?_
    refine WL.call (hc := Tryz.call63) (sp := tRead (n := p.n) (V0 := V0) (V := V) (D := D) (op := op) (k := p.im + m / 4096) (by omega) (by omega)) (h := ?_)
    rintro _ _ ⟨gb, q, el, rfl, ⟨hq1, hq2, hl5⟩, rfl⟩
    refine WL.nil (WQ.wd hnp (.inl Am.auto) ?_)
    refine WD.take (i := 13) #[true, true, true, true, true, true, true, true, true, true, true, true, true, true, false, false, false, false] rfl (by kernel_rfl) (Qt.move ) ?_
    refine WD.take (i := 14) #[true, true, true, true, true, true, true, true, true, true, true, true, true, true, true, false, false, false] rfl (by kernel_rfl) (Qt.extract ) ?_
    refine WD.take (i := 15) #[true, true, true, true, true, true, true, true, true, true, true, true, true, true, true, true, false, false] rfl (by kernel_rfl) (Qt.extract ) ?_
    refine WD.take (i := 16) #[true, true, true, true, true, true, true, true, true, true, true, true, true, true, true, true, true, false] rfl (by kernel_rfl) (Qt.assign ) ?_
    refine WD.take (i := 17) #[true, true, true, true, true, true, true, true, true, true, true, true, true, true, true, true, true, true] rfl (by kernel_rfl) (Qt.assign ) ?_
    refine WD.done (by kernel_rfl) ?_
    refine WQ.next ?_
    refine WC.seq ?_
    refine WC.region ?_
    refine WL.move ?_
    refine WL.eqi ?_
    refine WL.move ?_
    refine WL.cast (d := 40) (u := .bool false) rfl (congrArg Value.bool (by first | (simp; done) | (simp; omega) | omega)) ?_
    refine WL.gT ?_
    refine WL.move ?_
    refine WL.gT ?_
    refine WL.move ?_
    refine WL.gT ?_
    refine WL.rem ?_
    refine WL.gT ?_
    refine WL.call (hc := Tryz.call133) (sp := bitsTest Reads.buf hl5 (by decide) (k := (m : Int) % 4096) (by omega)) (h := ?_)
    rintro _ _ ⟨rfl, rfl⟩
    refine WL.pickF ?_
    refine WL.assign ?_
    refine WL.nil ?_
    refine WQ.next ?_
    refine WC.ret (?_)
    exact WQ.ret1 (h1 := .tmp (t := 4) rfl) ⟨_, ⟨congrArg Value.bool (by rw [show ((m : Int) % 4096).toNat = m % 4096 from by omega, Int.toNat_natCast]; show tb (V (p.im + m / 4096)) (m % 4096) = _; rw [show tb (V (p.im + m / 4096)) (m % 4096) = dig V p.im m from rfl]; cases dig V p.im m <;> simp <;> omega), rfl⟩, Am.auto⟩

end Go.Proofs.YtedmihapieleaaaGreat
