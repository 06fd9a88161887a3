/- Walks of package inode: load, save, block, fresh, take. -/
import Derived.Test.YtedmihapieleaaaGreatFa
import Derived.Test.YtedmihapieleaaaGreatWt
import Derived.KernelRfl
set_option linter.unusedVariables false
set_option linter.unusedSimpArgs false
namespace Go.Proofs.YtedmihapieleaaaGreat
open Go
theorem fo87_1 : fieldOk Tryz.prog 87 1 1 = true := by kernel_rfl
theorem fo92_0 : fieldOk Tryz.prog 92 0 0 = true := by kernel_rfl
theorem fo92_1 : fieldOk Tryz.prog 92 1 1 = true := by kernel_rfl
theorem fo92_2 : fieldOk Tryz.prog 92 2 2 = true := by kernel_rfl

def rng0 (f : Nat → Nat) (k : Nat) : List Nat := (List.range 11).map fun j => if j < k then f j else 0
theorem rng0_zero (f : Nat → Nat) : rng0 f 0 = List.replicate 11 0 := rfl
theorem rng0_all (f : Nat → Nat) : rng0 f 11 = (List.range 11).map f := by
  unfold rng0
  apply List.map_congr_left
  intro j hj
  rw [if_pos (List.mem_range.1 hj)]
theorem rng0_set (f : Nat → Nat) {k : Nat} (h : k < 11) : (rng0 f k).set k (f k) = rng0 f (k + 1) := by
  apply List.ext_getElem
  · simp [rng0]
  · intro j h1 h2
    simp only [rng0, List.getElem_set, List.getElem_map, List.getElem_range]
    by_cases hj : k = j
    · subst hj; rw [if_pos rfl, if_pos (by omega)]
    · rw [if_neg hj]
      by_cases h3 : j < k
      · rw [if_pos h3, if_pos (by omega)]
      · rw [if_neg h3, if_neg (by omega)]
theorem rng0_length (f : Nat → Nat) (k : Nat) : (rng0 f k).length = 11 := by simp [rng0]
theorem nums_take {x : Nd} {k : Nat} (h : k < x.bl.length) : x.nums.take (2 + (k + 1)) = x.nums.take (2 + k) ++ [x.bl.getD k 0] := by
  have : 2 + k < x.nums.length := by simp [Nd.nums]; omega
  rw [show 2 + (k + 1) = 2 + k + 1 from by omega, List.take_add_one, List.getElem?_eq_getElem this]
  congr 1
  simp only [Nd.nums, show 2 + k = k + 1 + 1 from by omega, List.getElem_cons_succ, Option.toList_some, List.getD_eq_getElem?_getD, List.getElem?_eq_getElem h, Option.getD_some]

theorem inLoad {s c a : Nat} {p : Pl} {V0 V : Nat → Bytes} {D : List Nat} {op : Bool} {i : Nat} (ho : PlOk p) (hi : i < p.ino) (hd : i = 0 ∨ dig V p.im i = true) : Spec Tryz.prog 61 #[.pointer (some ⟨s, 0, none⟩), nI i] [pt s (stO c a p), pt a (alO c p), TR c p.n V0 V D op] fun F v M => v = .tuple #[ndV (ldN p V i), .int .i64 0] ∧ M = [pt s (stO c a p), pt a (alO c p), TR c p.n V0 V D op] ++ F := by
  refine Spec.intro Tryz.func61 rfl rfl fun B F => ?_
  simp only [Tryz.ntmps61, List.cons_append, List.nil_append, env0, Nat.reduceAdd]
  have hi2 := ho.i2
  have htab := ho.tab
  have hn2 := ho.aB.n2
  have hdat := ho.dat
  have hlo := ho.aB.lo
  have htbl := ho.tbl
  have hblk : 245 ≤ p.tb + i / 8 ∧ p.tb + i / 8 < p.n := by omega
  have hat : i % 8 * 64 + 64 ≤ 512 := by omega
  refine WC.seq ?_
  refine WC.region ?_
  refine WL.allocL zNd rfl fun b4 => ?_
  refine WL.assign ?_
  refine WL.nil ?_
  refine WQ.next ?_
  refine WC.seq ?_
  refine WC.seq ?_
  refine WC.region ?_
  refine WL.move ?_
  refine WL.eqNil ?_ ptr26
  refine WL.move ?_
  refine WL.gT ?_
  refine WL.move ?_
  refine WL.gT ?_
  refine WL.nilCheck ?_
  refine WL.gT ?_
  refine WL.fa ?_ fo87_0
  refine WL.gT ?_
  refine WL.ld ?_ sc24
  refine WL.gT ?_
  refine WL.eqNil ?_ ptr24
  refine WL.pickF ?_
  refine WL.nil ?_
  refine WQ.next ?_
  refine WC.condF rfl rfl ?_
  refine WC.skip ?_
  refine WQ.next ?_
  refine WC.seq ?_
  refine WC.seq ?_
  refine WC.region ?_
  refine WL.move ?_
  refine WL.nilCheck ?_
  refine WL.fa ?_ fo87_1
  refine WL.ld ?_ sc25
  refine WL.move ?_
  refine WL.call (hc := Tryz.call108) (sp := alInode (i := (i : Int)) (V0 := V0) (V := V) (D := D) (op := op) ho) (h := ?_)
  rintro _ _ ⟨rfl, rfl⟩
  refine WL.cast (d := 25) (u := .bool true) rfl (congrArg Value.bool (decide_eq_true ⟨by omega, by omega, by rcases hd with h | h; exact .inl (by omega); exact .inr h⟩)) ?_
  refine WL.not ?_
  refine WL.nil ?_
  refine WQ.next ?_
  refine WC.condF rfl rfl ?_
  refine WC.skip ?_
  refine WQ.next ?_
  refine WC.seq ?_
  refine WC.region ?_
  refine WL.move ?_
  refine WL.move ?_
  refine WL.call (hc := Tryz.call98) (sp := inPlace (i := i) (p := p) (by omega) (by omega)) (h := ?_)
  rintro _ _ ⟨rfl, rfl⟩
  refine WL.move ?_
  refine WL.extract ?_
  refine WL.extract ?_
  refine WL.assign ?_
  refine WL.assign ?_
  refine WL.nil ?_
  refine WQ.next ?_
  refine WC.seq ?_
  refine WC.region ?_
  refine WL.move ?_
  refine WL.nilCheck ?_
  refine WL.fa ?_ fo87_0
  refine WL.ld ?_ sc24
  refine WL.move ?_
  refine WL.call (hc := Tryz.call63) (sp := tRead (n := p.n) (V0 := V0) (V := V) (D := D) (op := op) (k := p.tb + i / 8) hblk.1 hblk.2) (h := ?_)
  rintro _ _ ⟨gb, q, el, rfl, ⟨hq1, hq2, hl5⟩, rfl⟩
  refine WL.move ?_
  refine WL.extract ?_
  refine WL.extract ?_
  refine WL.assign ?_
  refine WL.assign ?_
  refine WL.nil ?_
  refine WQ.next ?_
  refine WC.seq ?_
  refine WC.seq ?_
  refine WC.region ?_
  refine WL.move ?_
  refine WL.nei ?_
  refine WL.nil ?_
  refine WQ.next ?_
  refine WC.condF rfl rfl ?_
  refine WC.skip ?_
  refine WQ.next ?_
  refine WC.seq ?_
  refine WC.region ?_
  refine WL.move ?_
  refine WL.move ?_
  refine WL.call (hc := Tryz.call109) (sp := inGet (q := i % 8 * 64) Reads.buf hl5 (by decide) (by omega)) (h := ?_)
  rintro _ _ ⟨rfl, rfl⟩
  refine WL.move ?_
  refine WL.move ?_
  refine WL.add ?_
  refine WL.cast (d := 52) (u := nI (i % 8 * 64 + 4)) rfl (congrArg (Value.int .i64) (by omega)) ?_
  refine WL.call (hc := Tryz.call109) (sp := inGet (q := i % 8 * 64 + 4) Reads.buf hl5 (by decide) (by omega)) (h := ?_)
  rintro _ _ ⟨rfl, rfl⟩
  refine WL.fa ?_ fo92_0
  refine WL.stL (xs := ndL nd0) (i := 0) ?_ sc3 (by decide)
  refine WL.to (A := row b4 92 ((ndL nd0).set 0 (nI (num (V (p.tb + i / 8)) (i % 8 * 64))))) (A' := row b4 92 (ndL ⟨num (V (p.tb + i / 8)) (i % 8 * 64), 0, List.replicate 11 0⟩)) (fun h hh => hh) ?_
  refine WL.fa ?_ fo92_1
  refine WL.stL (xs := ndL ⟨num (V (p.tb + i / 8)) (i % 8 * 64), 0, List.replicate 11 0⟩) (i := 1) ?_ sc3 (by rw [ndL_length rfl]; decide)
  refine WL.to (A := row b4 92 ((ndL ⟨num (V (p.tb + i / 8)) (i % 8 * 64), 0, List.replicate 11 0⟩).set 1 (nI (num (V (p.tb + i / 8)) (i % 8 * 64 + 4))))) (A' := row b4 92 (ndL ⟨num (V (p.tb + i / 8)) (i % 8 * 64), num (V (p.tb + i / 8)) (i % 8 * 64 + 4), List.replicate 11 0⟩)) (fun h hh => hh) ?_
  refine WL.nil ?_
  refine WQ.next ?_
  refine WC.seq ?_
  refine WC.seq ?_
  refine WC.region ?_
  refine WL.move ?_
  refine WL.nil ?_
  refine WQ.next ?_
  refine WC.block ?_
  refine WC.loopA (σ := Nat) (fun k => [(0, .pointer (some ⟨s, 0, none⟩)), (4, .pointer (some ⟨b4, 0, none⟩)), (7, nI (i % 8 * 64)), (8, .slice (some ⟨gb, 0, none⟩) 512 q), (56, nI k)]) (fun k => [row b4 92 (ndL ⟨num (V (p.tb + i / 8)) (i % 8 * 64), num (V (p.tb + i / 8)) (i % 8 * 64 + 4), rng0 (fun k => num (V (p.tb + i / 8)) (i % 8 * 64 + 8 + 4 * k)) k⟩), buf gb el q (bvs (V (p.tb + i / 8))), pt s (stO c a p), pt a (alO c p), TR c p.n V0 V D op] ++ F) (fun k => k ≤ 11) (fun k => 11 - k) 0 (by omega) ?_
  rintro k hk
  refine WC.seq ?_
  refine WC.region ?_
  refine WL.lss ?_
  refine WL.nil ?_
  refine WQ.next ?_
  refine WC.seq ?_
  refine WC.cond rfl (fun hb => ?_) (fun hb => ?_)
  · have hlt : k < 11 := by have := of_decide_eq_true hb; omega
    refine WC.skip ?_
    refine WQ.next ?_
    refine WC.seq ?_
    refine WC.block ?_
    refine WC.seq ?_
    refine WC.region ?_
    refine WL.move ?_
    refine WL.assign ?_
    refine WL.nil ?_
    refine WQ.next ?_
    refine WC.region ?_
    refine WL.move ?_
    refine WL.move ?_
    refine WL.move ?_
    refine WL.add ?_
    refine WL.move ?_
    refine WL.mul ?_
    refine WL.add ?_
    refine WL.cast (d := 65) (u := nI (i % 8 * 64 + 8 + 4 * k)) rfl (congrArg (Value.int .i64) (by omega)) ?_
    refine WL.call (hc := Tryz.call109) (sp := inGet (q := i % 8 * 64 + 8 + 4 * k) Reads.buf hl5 (by decide) (by omega)) (h := ?_)
    rintro _ _ ⟨rfl, rfl⟩
    refine WL.fa ?_ fo92_2
    refine WL.idxA ?_ ar90
    refine WL.stL ?_ sc3 (show 0 + 2 + ((k : Nat) : Int).toNat * 1 < (ndL ⟨num (V (p.tb + i / 8)) (i % 8 * 64), num (V (p.tb + i / 8)) (i % 8 * 64 + 4), rng0 (fun k => num (V (p.tb + i / 8)) (i % 8 * 64 + 8 + 4 * k)) k⟩).length by rw [ndL_length (rng0_length _ _)]; omega)
    refine WL.to (A := row b4 92 ((ndL ⟨num (V (p.tb + i / 8)) (i % 8 * 64), num (V (p.tb + i / 8)) (i % 8 * 64 + 4), rng0 (fun k => num (V (p.tb + i / 8)) (i % 8 * 64 + 8 + 4 * k)) k⟩).set (0 + 2 + ((k : Nat) : Int).toNat * 1) (nI (num (V (p.tb + i / 8)) (i % 8 * 64 + 8 + 4 * k))))) (A' := row b4 92 (ndL ⟨num (V (p.tb + i / 8)) (i % 8 * 64), num (V (p.tb + i / 8)) (i % 8 * 64 + 4), rng0 (fun k => num (V (p.tb + i / 8)) (i % 8 * 64 + 8 + 4 * k)) (k + 1)⟩)) (fun h hh => by rw [show 0 + 2 + ((k : Nat) : Int).toNat * 1 = 2 + k from by omega, ndL_set, rng0_set (fun k => num (V (p.tb + i / 8)) (i % 8 * 64 + 8 + 4 * k)) hlt] at hh; exact hh) ?_
    refine WL.nil ?_
    refine WQ.blockNormal ?_
    refine WQ.next ?_
    refine WC.region ?_
    refine WL.add ?_
    refine WL.move ?_
    refine WL.nil ?_
    refine WQ.cast (d := 56) (u := nI (k + 1)) rfl (congrArg (Value.int .i64) (by omega)) ?_
    exact WQ.back (k + 1) (by omega) (by omega)
  · have hge : ¬ k < 11 := by have := of_decide_eq_false hb; omega
    have hk11 : k = 11 := by omega
    subst hk11
    refine WC.exit (WQ.thenExit (WQ.thenExit (WQ.blockExit (?_))))
    refine WQ.next ?_
    refine WC.seq ?_
    refine WC.region ?_
    refine WL.ldW (xs := ndL ⟨num (V (p.tb + i / 8)) (i % 8 * 64), num (V (p.tb + i / 8)) (i % 8 * 64 + 4), rng0 (fun k => num (V (p.tb + i / 8)) (i % 8 * 64 + 8 + 4 * k)) 11⟩) ?_ agg92 (ndL_length (rng0_length _ _))
    refine WL.stLA (xs := ndL ⟨num (V (p.tb + i / 8)) (i % 8 * 64), num (V (p.tb + i / 8)) (i % 8 * 64 + 4), rng0 (fun k => num (V (p.tb + i / 8)) (i % 8 * 64 + 8 + 4 * k)) 11⟩) (us := ndL ⟨num (V (p.tb + i / 8)) (i % 8 * 64), num (V (p.tb + i / 8)) (i % 8 * 64 + 4), rng0 (fun k => num (V (p.tb + i / 8)) (i % 8 * 64 + 8 + 4 * k)) 11⟩) ?_ agg92 (ndL_length (rng0_length _ _)) (ndL_length (rng0_length _ _)) (ndL_single _)
    refine WL.assign ?_
    refine WL.nil ?_
    refine WQ.next ?_
    refine WC.ret (?_)
    refine WQ.to (A := row b4 92 (ndL ⟨num (V (p.tb + i / 8)) (i % 8 * 64), num (V (p.tb + i / 8)) (i % 8 * 64 + 4), rng0 (fun k => num (V (p.tb + i / 8)) (i % 8 * 64 + 8 + 4 * k)) 11⟩)) (A' := row b4 92 (ndL (ldN p V i))) (fun h hh => by rw [rng0_all] at hh; exact hh) ?_
    exact WQ.ret2 (h1 := RV.aggL rfl agg92 (by repeat (first | exact .here | apply Rem.there | apply Repl.there | apply Mem.there)) (ndL_length (ldB_fits _ _).bl)) (h2 := .tmp rfl) ⟨_, ⟨rfl, rfl⟩, Am.auto⟩

theorem inLoadNo {s c a : Nat} {p : Pl} {V0 V : Nat → Bytes} {D : List Nat} {op : Bool} {i : Int} (ho : PlOk p) (hno : ¬ (0 ≤ i ∧ i < p.ino ∧ (i = 0 ∨ dig V p.im i.toNat = true))) : Spec Tryz.prog 61 #[.pointer (some ⟨s, 0, none⟩), .int .i64 i] [pt s (stO c a p), pt a (alO c p), TR c p.n V0 V D op] fun F v M => v = .tuple #[ndV nd0, .int .i64 4] ∧ M = [pt s (stO c a p), pt a (alO c p), TR c p.n V0 V D op] ++ F := by
  refine Spec.intro Tryz.func61 rfl rfl fun B F => ?_
  simp only [Tryz.ntmps61, List.cons_append, List.nil_append, env0, Nat.reduceAdd]
  refine WC.seq ?_
  refine WC.region ?_
  refine WL.allocL zNd rfl fun b4 => ?_
  refine WL.assign ?_
  refine WL.nil ?_
  refine WQ.next ?_
  refine WC.seq ?_
  refine WC.seq ?_
  refine WC.region ?_
  refine WL.move ?_
  refine WL.eqNil ?_ ptr26
  refine WL.move ?_
  refine WL.gT ?_
  refine WL.move ?_
  refine WL.gT ?_
  refine WL.nilCheck ?_
  refine WL.gT ?_
  refine WL.fa ?_ fo87_0
  refine WL.gT ?_
  refine WL.ld ?_ sc24
  refine WL.gT ?_
  refine WL.eqNil ?_ ptr24
  refine WL.pickF ?_
  refine WL.nil ?_
  refine WQ.next ?_
  refine WC.condF rfl rfl ?_
  refine WC.skip ?_
  refine WQ.next ?_
  refine WC.seq ?_
  refine WC.seq ?_
  refine WC.region ?_
  refine WL.move ?_
  refine WL.nilCheck ?_
  refine WL.fa ?_ fo87_1
  refine WL.ld ?_ sc25
  refine WL.move ?_
  refine WL.call (hc := Tryz.call108) (sp := alInode (i := i) (V0 := V0) (V := V) (D := D) (op := op) ho) (h := ?_)
  rintro _ _ ⟨rfl, rfl⟩
  refine WL.cast (d := 25) (u := .bool false) rfl (congrArg Value.bool (decide_eq_false hno)) ?_
  refine WL.not ?_
  refine WL.nil ?_
  refine WQ.next ?_
  refine WC.condT rfl rfl ?_
  refine WC.seq ?_
  refine WC.region ?_
  refine WL.ldW (xs := ndL nd0) ?_ agg92 rfl
  refine WL.stLA (xs := ndL nd0) (us := ndL nd0) ?_ agg92 rfl rfl (ndL_single _)
  refine WL.assign ?_
  refine WL.nil ?_
  refine WQ.next ?_
  refine WC.ret (WQ.thenRet (?_))
  exact WQ.ret2 (h1 := RV.aggL rfl agg92 (by repeat (first | exact .here | apply Rem.there | apply Repl.there | apply Mem.there)) rfl) (h2 := .tmp rfl) ⟨_, ⟨rfl, rfl⟩, Am.auto⟩

theorem inLoadNil {i : Value} : Spec Tryz.prog 61 #[.pointer none, i] [] fun F v M => v = .tuple #[ndV nd0, .int .i64 8] ∧ M = F := by
  refine Spec.intro Tryz.func61 rfl rfl fun B F => ?_
  simp only [Tryz.ntmps61, List.cons_append, List.nil_append, env0, Nat.reduceAdd]
  refine WC.seq ?_
  refine WC.region ?_
  refine WL.allocL zNd rfl fun b4 => ?_
  refine WL.assign ?_
  refine WL.nil ?_
  refine WQ.next ?_
  refine WC.seq ?_
  refine WC.seq ?_
  refine WC.region ?_
  refine WL.move ?_
  refine WL.eqNil ?_ ptr26
  refine WL.move ?_
  refine WL.gF ?_
  refine WL.gF ?_
  refine WL.gF ?_
  refine WL.gF ?_
  refine WL.gF ?_
  refine WL.pickT ?_
  refine WL.nil ?_
  refine WQ.next ?_
  refine WC.condT rfl rfl ?_
  refine WC.seq ?_
  refine WC.region ?_
  refine WL.ldW (xs := ndL nd0) ?_ agg92 rfl
  refine WL.stLA (xs := ndL nd0) (us := ndL nd0) ?_ agg92 rfl rfl (ndL_single _)
  refine WL.assign ?_
  refine WL.nil ?_
  refine WQ.next ?_
  refine WC.ret (WQ.thenRet (?_))
  exact WQ.ret2 (h1 := RV.aggL rfl agg92 (by repeat (first | exact .here | apply Rem.there | apply Repl.there | apply Mem.there)) rfl) (h2 := .tmp rfl) ⟨_, ⟨rfl, rfl⟩, Am.auto⟩

theorem inSave {s c a : Nat} {p : Pl} {V0 V : Nat → Bytes} {D : List Nat} {i : Nat} {x : Nd} (ho : PlOk p) (hi : i < p.ino) (hf : Fits x) (hroom : Room D) : Spec Tryz.prog 51 #[.pointer (some ⟨s, 0, none⟩), nI i, ndV x] [pt s (stO c a p), TR c p.n V0 V D true] fun F v M => v = okV ∧ M = [pt s (stO c a p), TR c p.n V0 (svV p V i x) (insD D (p.tb + i / 8)) true] ++ F := by
  refine Spec.intro Tryz.func51 rfl rfl fun B F => ?_
  simp only [Tryz.ntmps51, List.cons_append, List.nil_append, env0, Nat.reduceAdd]
  have hi2 := ho.i2
  have htab := ho.tab
  have hn2 := ho.aB.n2
  have hdat := ho.dat
  have hlo := ho.aB.lo
  have htbl := ho.tbl
  have hblk : 245 ≤ p.tb + i / 8 ∧ p.tb + i / 8 < p.n := by omega
  have hat : i % 8 * 64 + 64 ≤ 512 := by omega
  have hbl := hf.bl
  have hkd : x.kd < 2 ^ 63 := by have := hf.lt x.kd (by simp [Nd.nums]); omega
  have hsz : x.sz < 2 ^ 63 := by have := hf.lt x.sz (by simp [Nd.nums]); omega
  have hbk : ∀ k, k < 11 → x.bl.getD k 0 < 2 ^ 63 := by
    intro k hk
    have hk2 : k < x.bl.length := by omega
    have hm : x.bl.getD k 0 ∈ x.nums := by
      rw [List.getD_eq_getElem?_getD, List.getElem?_eq_getElem hk2]
      unfold Nd.nums
      simp
    have := hf.lt _ hm
    omega
  refine WC.seq ?_
  refine WC.region ?_
  refine WL.boxL (us := ndL x) fun b5 => ?_
  refine WL.assign ?_
  refine WL.nil ?_
  refine WQ.next ?_
  refine WC.seq ?_
  refine WC.region ?_
  refine WL.move ?_
  refine WL.move ?_
  refine WL.call (hc := Tryz.call98) (sp := inPlace (i := i) (p := p) (by omega) (by omega)) (h := ?_)
  rintro _ _ ⟨rfl, rfl⟩
  refine WL.move ?_
  refine WL.extract ?_
  refine WL.extract ?_
  refine WL.assign ?_
  refine WL.assign ?_
  refine WL.nil ?_
  refine WQ.next ?_
  refine WC.seq ?_
  refine WC.region ?_
  refine WL.move ?_
  refine WL.nilCheck ?_
  refine WL.fa ?_ fo87_0
  refine WL.ld ?_ sc24
  refine WL.move ?_
  refine WL.call (hc := Tryz.call63) (sp := tRead (n := p.n) (V0 := V0) (V := V) (D := D) (op := true) (k := p.tb + i / 8) hblk.1 hblk.2) (h := ?_)
  rintro _ _ ⟨gb, q, el, rfl, ⟨hq1, hq2, hl5⟩, rfl⟩
  refine WL.move ?_
  refine WL.extract ?_
  refine WL.extract ?_
  refine WL.assign ?_
  refine WL.assign ?_
  refine WL.nil ?_
  refine WQ.next ?_
  refine WC.seq ?_
  refine WC.seq ?_
  refine WC.region ?_
  refine WL.move ?_
  refine WL.nei ?_
  refine WL.nil ?_
  refine WQ.next ?_
  refine WC.condF rfl rfl ?_
  refine WC.skip ?_
  refine WQ.next ?_
  refine WC.seq ?_
  refine WC.draw ([row b5 92 (ndL x)]) [] 11 #[false, false, false, false, false, false, false, false, false, false, false] mixed (by kernel_rfl) NoPanic.autoJ ?_
  refine WD.take (i := 0) #[true, false, false, false, false, false, false, false, false, false, false] rfl (by kernel_rfl) (Qt.move ) ?_
  refine WD.take (i := 1) #[true, true, false, false, false, false, false, false, false, false, false] rfl (by kernel_rfl) (Qt.move ) ?_
  refine WD.take (i := 2) #[true, true, true, false, false, false, false, false, false, false, false] rfl (by kernel_rfl) (Qt.fa fo92_0) ?_
  refine WD.take (i := 3) #[true, true, true, true, false, false, false, false, false, false, false] rfl (by kernel_rfl) (Qt.ldL (i := 0) (v := nI x.kd) sc3 rfl) ?_
  refine WD.take (i := 5) #[true, true, true, true, false, true, false, false, false, false, false] rfl (by kernel_rfl) (Qt.move ) ?_
  refine WD.take (i := 6) #[true, true, true, true, false, true, true, false, false, false, false] rfl (by kernel_rfl) ((Qt.add).eq (v' := nI (i % 8 * 64 + 4)) (congrArg (Value.int .i64) (by omega))) ?_
  refine WD.take (i := 7) #[true, true, true, true, false, true, true, true, false, false, false] rfl (by kernel_rfl) (Qt.fa fo92_1) ?_
  refine WD.take (i := 8) #[true, true, true, true, false, true, true, true, true, false, false] rfl (by kernel_rfl) (Qt.ldL (i := 1) (v := nI x.sz) sc3 rfl) ?_
  refine WD.one (i := 4) #[true, true, true, true, true, true, true, true, true, false, false] rfl (by kernel_rfl) fun hnp => ?_
  refine WL.call (hc := Tryz.call99) (sp := inPut (q := i % 8 * 64) (v := x.kd) Reads.buf hl5 (by decide) (by omega) hkd) (h := ?_)
  rintro _ _ ⟨gc, kc, ⟨rfl, hc1, hc2⟩, rfl⟩
  refine WL.nil (WQ.wd hnp (.inl Am.auto) ?_)
  refine WD.one (i := 9) #[true, true, true, true, true, true, true, true, true, true, false] rfl (by kernel_rfl) fun hnp => ?_
  refine WL.call (hc := Tryz.call99) (sp := inPut (q := i % 8 * 64 + 4) (v := x.sz) Reads.buf ((put4_length _ _ _).trans hl5) (by decide) (by omega) hsz) (h := ?_)
  rintro _ _ ⟨gd, kd, ⟨rfl, hd1, hd2⟩, rfl⟩
  refine WL.nil (WQ.wd hnp (.inl Am.auto) ?_)
  refine WD.take (i := 10) #[true, true, true, true, true, true, true, true, true, true, true] rfl (by kernel_rfl) (Qt.assign ) ?_
  refine WD.done (by kernel_rfl) ?_
  refine WQ.next ?_
  refine WC.seq ?_
  refine WC.seq ?_
  refine WC.region ?_
  refine WL.fa ?_ fo92_2
  refine WL.ldLA ?_ agg90 (ndL_arr hbl) (by rw [ndL_length hbl]; decide)
  refine WL.move ?_
  refine WL.nil ?_
  refine WQ.next ?_
  refine WC.block ?_
  refine WC.loopA (σ := Nat × Nat × Nat) (fun y => [(0, .pointer (some ⟨s, 0, none⟩)), (7, nI (p.tb + i / 8)), (8, nI (i % 8 * 64)), (9, .slice (some ⟨y.2.1, 0, none⟩) 512 y.2.2), (42, .agg (x.bl.map nI).toArray), (43, nI y.1)]) (fun y => [buf y.2.1 5 y.2.2 (bvs (putL (V (p.tb + i / 8)) (i % 8 * 64) (x.nums.take (2 + y.1)))), pt s (stO c a p), TR c p.n V0 V D true] ++ F) (fun y => y.1 ≤ 11 ∧ 512 ≤ y.2.2 ∧ y.2.2 ≤ maxLen) (fun y => 11 - y.1) (0, gd, kd) ⟨Nat.zero_le _, hd1, hd2⟩ ?_
  rintro ⟨k, ge0, ke0⟩ hk
  obtain ⟨hk, hk1, hk2⟩ := hk
  refine WC.seq ?_
  refine WC.region ?_
  refine WL.lss ?_
  refine WL.nil ?_
  refine WQ.next ?_
  refine WC.seq ?_
  refine WC.cond rfl (fun hb => ?_) (fun hb => ?_)
  · have hlt : k < 11 := by have := of_decide_eq_true hb; omega
    have hlen : (putL (V (p.tb + i / 8)) (i % 8 * 64) (x.nums.take (2 + k))).length = 512 := (putL_length _ _ _).trans hl5
    refine WC.skip ?_
    refine WQ.next ?_
    refine WC.seq ?_
    refine WC.block ?_
    refine WC.seq ?_
    refine WC.region ?_
    refine WL.move ?_
    refine WL.ixV (v := nI (x.bl.getD k 0)) ?_ ar90 sc3 (by rw [show ((k : Nat) : Int).toNat = k from by omega, List.getElem?_toArray, List.getElem?_map, List.getD_eq_getElem?_getD, List.getElem?_eq_getElem (show k < x.bl.length by omega)]; rfl)
    refine WL.assign ?_
    refine WL.assign ?_
    refine WL.nil ?_
    refine WQ.next ?_
    refine WC.region ?_
    refine WL.move ?_
    refine WL.move ?_
    refine WL.add ?_
    refine WL.move ?_
    refine WL.mul ?_
    refine WL.add ?_
    refine WL.cast (d := 52) (u := nI (i % 8 * 64 + 8 + 4 * k)) rfl (congrArg (Value.int .i64) (by omega)) ?_
    refine WL.move ?_
    refine WL.call (hc := Tryz.call99) (sp := inPut (q := i % 8 * 64 + 8 + 4 * k) (v := x.bl.getD k 0) Reads.buf hlen (by decide) (by omega) (hbk k hlt)) (h := ?_)
    rintro _ _ ⟨ge, ke, ⟨rfl, he1, he2⟩, rfl⟩
    refine WL.assign ?_
    refine WL.nil ?_
    refine WQ.blockNormal ?_
    refine WQ.next ?_
    refine WC.region ?_
    refine WL.add ?_
    refine WL.move ?_
    refine WL.nil ?_
    refine WQ.cast (d := 43) (u := nI (k + 1)) rfl (congrArg (Value.int .i64) (by omega)) ?_
    refine WQ.to (A := buf ge 5 ke (bvs (put4 (putL (V (p.tb + i / 8)) (i % 8 * 64) (x.nums.take (2 + k))) (i % 8 * 64 + 8 + 4 * k) (x.bl.getD k 0)))) (A' := buf ge 5 ke (bvs (putL (V (p.tb + i / 8)) (i % 8 * 64) (x.nums.take (2 + (k + 1)))))) (fun h hh => by rw [nums_take (by omega), putL_snoc, show i % 8 * 64 + 4 * (x.nums.take (2 + k)).length = i % 8 * 64 + 8 + 4 * k from by simp [Nd.nums, hbl]; omega]; exact hh) ?_
    exact WQ.back (k + 1, ge, ke) ⟨by show k + 1 ≤ 11; omega, he1, he2⟩ (by show 11 - (k + 1) < 11 - k; omega)
  · have hge : ¬ k < 11 := by have := of_decide_eq_false hb; omega
    have hk11 : k = 11 := by omega
    subst hk11
    have hall : x.nums.take (2 + 11) = x.nums := List.take_of_length_le (by simp [Nd.nums, hbl])
    refine WC.exit (WQ.thenExit (WQ.thenExit (WQ.blockExit (?_))))
    refine WQ.next ?_
    refine WC.seq ?_
    refine WC.region ?_
    refine WL.move ?_
    refine WL.nilCheck ?_
    refine WL.fa ?_ fo87_0
    refine WL.ld ?_ sc24
    refine WL.move ?_
    refine WL.move ?_
    refine WL.call (hc := Tryz.call96) (sp := tWrite (n := p.n) (V0 := V0) (V := V) (D := D) (k := p.tb + i / 8) hblk.1 hblk.2 Reads.buf ((putL_length _ _ _).trans hl5) rfl (.inr hroom)) (h := ?_)
    rintro _ _ ⟨rfl, rfl⟩
    refine WL.assign ?_
    refine WL.nil ?_
    refine WQ.next ?_
    refine WC.ret (?_)
    refine WQ.to (A := TR c p.n V0 (wr V (p.tb + i / 8) (putL (V (p.tb + i / 8)) (i % 8 * 64) (x.nums.take (2 + 11)))) (insD D (p.tb + i / 8)) true) (A' := TR c p.n V0 (svV p V i x) (insD D (p.tb + i / 8)) true) (fun h hh => by rw [hall] at hh; exact hh) ?_
    exact WQ.ret1 (h1 := .tmp (t := 6) rfl) ⟨_, ⟨rfl, rfl⟩, Am.auto⟩

end Go.Proofs.YtedmihapieleaaaGreat
