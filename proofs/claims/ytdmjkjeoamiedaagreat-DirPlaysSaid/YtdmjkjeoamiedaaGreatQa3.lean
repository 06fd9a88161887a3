/- A part of the proof of lawPlays: texts of this work put together. -/
import Derived.Test.YtdmjkjeoamiedaaGreatQa2
import Derived.KernelRfl
import Derived.WideKeyRuns
import Derived.Laws.RangeAny
import Derived.Lib.OthersKept
import Derived.Lib.Bytealg
import Derived.Lib.IndexBytes
import Derived.Scope
set_option linter.unusedVariables false
set_option linter.unusedSimpArgs false
set_option linter.unusedSectionVars false
section
namespace Go.Proofs.YtdmjkjeoamiedaaGreat
open Go
section
variable {P : Program} {B : Base} {n : Fr} {Q Q' : Exit → Act → World → Prop} {e : Env} {L : List HP} {ops : Array Oper} {l : List Oper}
variable {d : Nat} {ty : TypeId} {pos : String} {af : Array Edge} {x y z : Operand} {gd : Option (Nat × Bool)}
def row (b el : Nat) (xs : List Value) : HP := pt b (.cells xs.toArray el (0, 0))
def arrOk (P : Program) (t el k size : Nat) : Bool :=
  match P.underlying t with
  | some (.array m e) => Nat.beq m k && Nat.beq e el && (match P.info? el with
    | some i => Nat.beq i.size size
    | none => false)
  | _ => false
theorem arr_of {t el k size : Nat} (h : arrOk P t el k size = true) : P.underlying t = some (.array k el) ∧ ∃ i, P.info? el = some i ∧ i.size = size := by
  unfold arrOk at h
  split at h
  · rename_i m e hu
    simp only [Bool.and_eq_true] at h
    obtain ⟨⟨h1, h2⟩, h3⟩ := h
    have h1 := Nat.eq_of_beq_eq_true h1
    have h2 := Nat.eq_of_beq_eq_true h2
    subst h1; subst h2
    split at h3
    · rename_i i hi
      exact ⟨hu, i, hi, Nat.eq_of_beq_eq_true h3⟩
    · cases h3
  · cases h
theorem Qt.idxA {t el size b off k : Nat} {p : Int} {kk : IntKind} (ht : arrOk P t el k size = true)
    (hx : evo e x = some (.pointer (some ⟨b, off, none⟩)) := by rfl) (hy : evo e y = some (.int kk p) := by rfl) (hp : 0 ≤ p ∧ p < k := by omega) :
    Qt P B n e L ⟨some d, .indexAddr t x y, ty, pos, af, gd⟩ (.pointer (some ⟨b, off + p.toNat * size, none⟩)) :=
  fun a w ha hs => by
    obtain ⟨hu, i, hi, hsz⟩ := arr_of ht
    simp [execOp, ha.eval hx, ha.eval hy, Instr.indexAt, asIntOf, run_underlying hu, hp, sizeOf, typeInfo, hi, hsz, add_plain', Instr.sureAddr]
theorem WL.idxA {t el size b off k : Nat} {p : Int} {kk : IntKind} (h : WL P B n ops l Q ((d, .pointer (some ⟨b, off + p.toNat * size, none⟩)) :: e) L) (ht : arrOk P t el k size = true)
    (hx : evo e x = some (.pointer (some ⟨b, off, none⟩)) := by rfl) (hy : evo e y = some (.int kk p) := by rfl) (hp : 0 ≤ p ∧ p < k := by omega) (hd : Nat.ble (d + 1) n.k = true := by rfl) :
    WL P B n ops (⟨some d, .indexAddr t x y, ty, pos, af, none⟩ :: l) Q e L :=
  WL.pure h hd (Qt.idxA (ht := ht) (hp := hp) (hx := hx) (hy := hy))
theorem Qt.ixV {t el k : Nat} {p : Int} {kk : IntKind} {cs : Array Value} {v : Value} (ht : arrOk P t el k 1 = true) (hsc : scalarOk P el = true) (hv : cs[p.toNat]? = some v)
    (hx : evo e x = some (.agg cs) := by rfl) (hy : evo e y = some (.int kk p) := by rfl) (hp : 0 ≤ p ∧ p < k := by omega) :
    Qt P B n e L ⟨some d, .index t x y, ty, pos, af, gd⟩ v :=
  fun a w ha hs => by
    obtain ⟨hu, i, hi, hsz⟩ := arr_of ht
    have hpart : (part el cs p.toNat).run P w = .ok v w := by simp [part, run_isAgg_scalar hsc, hv]
    simp [execOp, ha.eval hx, ha.eval hy, Instr.index, asIntOf, run_underlying hu, hp, sizeOf, typeInfo, hi, hsz, hpart]
theorem WL.ixV {t el k : Nat} {p : Int} {kk : IntKind} {cs : Array Value} {v : Value} (h : WL P B n ops l Q ((d, v) :: e) L) (ht : arrOk P t el k 1 = true) (hsc : scalarOk P el = true) (hv : cs[p.toNat]? = some v)
    (hx : evo e x = some (.agg cs) := by rfl) (hy : evo e y = some (.int kk p) := by rfl) (hp : 0 ≤ p ∧ p < k := by omega) (hd : Nat.ble (d + 1) n.k = true := by rfl) :
    WL P B n ops (⟨some d, .index t x y, ty, pos, af, none⟩ :: l) Q e L := WL.pure h hd (Qt.ixV ht hsc hv hx hy hp)
theorem Qt.ldL {t b el i : Nat} {xs : List Value} {v : Value} (hsc : scalarOk P t = true) (hv : xs[i]? = some v)
    (hx : evo e x = some (.pointer (some ⟨b, i, none⟩)) := by rfl) (hm : Mem L (row b el xs) := by repeat (first | exact .here | refine .there ?_)) :
    Qt P B n e L ⟨some d, .load t x, ty, pos, af, gd⟩ v :=
  Qt.ld hsc hx hm (by rw [nthv_eq]; exact hv)
theorem WL.ldL {t b el i : Nat} {xs : List Value} {v : Value} (h : WL P B n ops l Q ((d, v) :: e) L) (hsc : scalarOk P t = true) (hv : xs[i]? = some v)
    (hx : evo e x = some (.pointer (some ⟨b, i, none⟩)) := by rfl) (hm : Mem L (row b el xs) := by repeat (first | exact .here | refine .there ?_)) (hd : Nat.ble (d + 1) n.k = true := by rfl) :
    WL P B n ops (⟨some d, .load t x, ty, pos, af, none⟩ :: l) Q e L := WL.pure h hd (Qt.ldL hsc hv hx hm)
theorem Qt.ldLA {t b el off k : Nat} {xs us : List Value} (hag : aggOk P t k = true) (hus : (xs.drop off).take k = us) (hk : off + k ≤ xs.length)
    (hx : evo e x = some (.pointer (some ⟨b, off, none⟩)) := by rfl) (hm : Mem L (row b el xs) := by repeat (first | exact .here | refine .there ?_)) :
    Qt P B n e L ⟨some d, .load t x, ty, pos, af, gd⟩ (.agg us.toArray) :=
  Qt.ldP (cs := xs.toArray) (us := us.toArray) hag (by simpa using hus) (Nat.ble_eq_true_of_le (by simpa using hk)) hx hm
theorem WL.ldLA {t b el off k : Nat} {xs us : List Value} (h : WL P B n ops l Q ((d, .agg us.toArray) :: e) L) (hag : aggOk P t k = true) (hus : (xs.drop off).take k = us) (hk : off + k ≤ xs.length)
    (hx : evo e x = some (.pointer (some ⟨b, off, none⟩)) := by rfl) (hm : Mem L (row b el xs) := by repeat (first | exact .here | refine .there ?_)) (hd : Nat.ble (d + 1) n.k = true := by rfl) :
    WL P B n ops (⟨some d, .load t x, ty, pos, af, none⟩ :: l) Q e L := WL.pure h hd (Qt.ldLA hag hus hk hx hm)
theorem Qt.ldW {t b el k : Nat} {xs : List Value} (hag : aggOk P t k = true) (hk : xs.length = k)
    (hx : evo e x = some (.pointer (some ⟨b, 0, none⟩)) := by rfl) (hm : Mem L (row b el xs) := by repeat (first | exact .here | refine .there ?_)) :
    Qt P B n e L ⟨some d, .load t x, ty, pos, af, gd⟩ (.agg xs.toArray) :=
  Qt.ldLA hag (by rw [List.drop_zero, List.take_of_length_le (by omega)]) (by omega) hx hm
theorem WL.ldW {t b el k : Nat} {xs : List Value} (h : WL P B n ops l Q ((d, .agg xs.toArray) :: e) L) (hag : aggOk P t k = true) (hk : xs.length = k)
    (hx : evo e x = some (.pointer (some ⟨b, 0, none⟩)) := by rfl) (hm : Mem L (row b el xs) := by repeat (first | exact .here | refine .there ?_)) (hd : Nat.ble (d + 1) n.k = true := by rfl) :
    WL P B n ops (⟨some d, .load t x, ty, pos, af, none⟩ :: l) Q e L := WL.pure h hd (Qt.ldW hag hk hx hm)
theorem row_set {b el i : Nat} {xs : List Value} {v : Value} : pt b (.cells (xs.toArray.setIfInBounds i v) el (0, 0)) = row b el (xs.set i v) := by
  unfold row
  congr 2
  simp
theorem WL.stL {t b el i : Nat} {xs : List Value} {v : Value} {L' : List HP} (h : WL P B n ops l Q e L') (hsc : scalarOk P t = true) (hi : i < xs.length)
    (hx : evo e x = some (.pointer (some ⟨b, i, none⟩)) := by rfl) (hy : evo e y = some v := by rfl)
    (hr : Repl L (row b el xs) (row b el (xs.set i v)) L' := by repeat (first | exact .here | apply Repl.there)) (hv : Value.single v = true := by rfl) :
    WL P B n ops (⟨none, .store t x y, ty, pos, af, none⟩ :: l) Q e L :=
  WL.st (cs := xs.toArray) h hsc hx hy (by rw [row_set]; exact hr) (Nat.ble_eq_true_of_le (by simp only [List.size_toArray]; omega)) hv
theorem WL.stLA {t b k el : Nat} {xs us : List Value} {L' : List HP} (h : WL P B n ops l Q e L') (hag : aggOk P t k = true) (hk : us.length = k) (hc : xs.length = k) (hsing : ∀ v ∈ us, Value.single v = true) (hk0 : Nat.ble 1 k = true := by rfl)
    (hx : evo e x = some (.pointer (some ⟨b, 0, none⟩)) := by rfl) (hy : evo e y = some (.agg us.toArray) := by rfl)
    (hr : Repl L (row b el xs) (row b el us) L' := by repeat (first | exact .here | apply Repl.there)) :
    WL P B n ops (⟨none, .store t x y, ty, pos, af, none⟩ :: l) Q e L :=
  WL.stV h hag hx hy hr hk0 (by simpa using hk) (by simpa using hc) (by simpa [List.all_eq_true] using hsing)
theorem WL.boxL {t : Nat} {us : List Value} (h : ∀ b, WL P B n ops l Q ((d, .pointer (some ⟨b, 0, none⟩)) :: e) (row b t us :: L)) (hx : evo e x = some (.agg us.toArray) := by rfl) (hd : Nat.ble (d + 1) n.k = true := by rfl) :
    WL P B n ops (⟨some d, .box t x, ty, pos, af, none⟩ :: l) Q e L := WL.box (v := .agg us.toArray) h hx hd
theorem WL.allocL {t : Nat} {us : List Value} {cs : Array Value} (hz : zeroOf P t = some cs) (hc : cs = us.toArray) (h : ∀ b, WL P B n ops l Q ((d, .pointer (some ⟨b, 0, none⟩)) :: e) (row b t us :: L)) (hd : Nat.ble (d + 1) n.k = true := by rfl) :
    WL P B n ops (⟨some d, .alloc t, ty, pos, af, none⟩ :: l) Q e L := by
  subst hc
  exact WL.alloc hz h hd
theorem RV.aggL {a t b el k : Nat} {xs : List Value} (h : look e a = some (.pointer (some ⟨b, 0, none⟩))) (hag : aggOk P t k = true) (hm : Mem L (row b el xs)) (hk : xs.length = k) : RV P e L (.cell a t) (.agg xs.toArray) :=
  RV.agg h hag hm (by simpa using hk)
attribute [irreducible] row
end
end Go.Proofs.YtdmjkjeoamiedaaGreat
end
section
namespace Go.Proofs.YtdmjkjeoamiedaaGreat
open Go
theorem ar125 : arrOk Tryz.prog 125 3 11 1 = true := by kernel_rfl
theorem agg127 : aggOk Tryz.prog 127 13 = true := by kernel_rfl
theorem agg125 : aggOk Tryz.prog 125 11 = true := by kernel_rfl
theorem ptr26 : ptrOk Tryz.prog 26 = true := by kernel_rfl
theorem fo158_0 : fieldOk Tryz.prog 158 0 0 = true := by kernel_rfl
theorem fo158_2 : fieldOk Tryz.prog 158 2 2 = true := by kernel_rfl
theorem bdStore (c a : Nat) (v1 v2 v3 v4 v5 v6 v7 : Int) : BuildOk Tryz.prog 158 [(0, .pointer (some ⟨c, 0, none⟩)), (1, .pointer (some ⟨a, 0, none⟩)), (2, .agg #[.int .i64 v1, .int .i64 v2, .int .i64 v3, .int .i64 v4, .int .i64 v5, .int .i64 v6, .int .i64 v7])] #[.pointer (some ⟨c, 0, none⟩), .pointer (some ⟨a, 0, none⟩), .int .i64 v1, .int .i64 v2, .int .i64 v3, .int .i64 v4, .int .i64 v5, .int .i64 v6, .int .i64 v7] := fun w => by kernel_rfl
def stO (c a : Nat) (p : Pl) : Obj := .cells #[.pointer (some ⟨c, 0, none⟩), .pointer (some ⟨a, 0, none⟩), .int .i64 (p.n : Int), .int .i64 (p.ino : Int), .int .i64 (p.im : Int), .int .i64 (p.bm : Int), .int .i64 (p.tb : Int), .int .i64 (p.da : Int), .int .i64 (p.dc : Int)] 158 (0, 0)
def nI (n : Nat) : Value := .int .i64 (n : Int)
def ndL (x : Nd) : List Value := nI x.kd :: nI x.sz :: x.bl.map nI
def ndV (x : Nd) : Value := .agg (ndL x).toArray
theorem ndL_length {x : Nd} (h : x.bl.length = 11) : (ndL x).length = 13 := by simp [ndL, h]
theorem ndL_single (x : Nd) : ∀ v ∈ ndL x, Value.single v = true := by
  intro v hv
  unfold ndL at hv
  simp only [List.mem_cons, List.mem_map] at hv
  rcases hv with rfl | rfl | ⟨k, _, rfl⟩ <;> rfl
theorem ndL_bl {x : Nd} {k : Nat} (h : k < x.bl.length) : (ndL x)[2 + k]? = some (nI (x.bl.getD k 0)) := by
  unfold ndL
  rw [show 2 + k = k + 1 + 1 from by omega, List.getElem?_cons_succ, List.getElem?_cons_succ, List.getElem?_map, List.getElem?_eq_getElem h, List.getD_eq_getElem?_getD, List.getElem?_eq_getElem h]
  rfl
theorem ndL_set {x : Nd} {k v : Nat} : (ndL x).set (2 + k) (nI v) = ndL ⟨x.kd, x.sz, x.bl.set k v⟩ := by
  unfold ndL
  rw [show 2 + k = k + 1 + 1 from by omega, List.set_cons_succ, List.set_cons_succ, List.map_set]
theorem ndL_arr {x : Nd} (h : x.bl.length = 11) : ((ndL x).drop 2).take 11 = x.bl.map nI := by
  unfold ndL
  rw [List.drop_succ_cons, List.drop_succ_cons, List.drop_zero, List.take_of_length_le (by simp [h])]
def nd0 : Nd := ⟨0, 0, List.replicate 11 0⟩
theorem zNd : zeroOf Tryz.prog 127 = some (ndL nd0).toArray := by kernel_rfl
theorem bdNdK (k : Nat) : BuildOk Tryz.prog 127 [(0, nI k)] (ndL ⟨k, 0, List.replicate 11 0⟩).toArray := fun w => by kernel_rfl
theorem bdStat (a b : Int) : BuildOk Tryz.prog 54 [(0, .int .i64 a), (1, .int .i64 b)] #[.int .i64 a, .int .i64 b] := fun w => by kernel_rfl
theorem inNew {c a : Nat} {p : Pl} : Spec Tryz.prog 32 #[.pointer (some ⟨c, 0, none⟩), .pointer (some ⟨a, 0, none⟩), .agg p.cells] [] fun F v M => ∃ s, v = .pointer (some ⟨s, 0, none⟩) ∧ M = pt s (stO c a p) :: F := by
  refine Spec.intro Tryz.func32 rfl rfl fun B F => ?_
  simp only [Tryz.ntmps32, List.cons_append, List.nil_append, env0, Nat.reduceAdd]
  refine .sr ?_
  refine .box fun b5 => ?_
  refine .assign (.x (.move (.move ?_)))
  refine .ldA ?_ agg59
  refine .build ?_ (bdStore _ _ _ _ _ _ _ _ _)
  refine .box fun b11 => ?_
  refine .assign (.z ?_)
  refine .ret (?_)
  exact .ret1 (h1 := .tmp (t := 6) rfl) ⟨_, ⟨_, rfl, rfl⟩, Am.auto⟩
theorem inReady {s c a n : Nat} {p : Pl} {V0 V : Nat → Bytes} {D : List Nat} {op : Bool} : Spec Tryz.prog 86 #[.pointer (some ⟨s, 0, none⟩)] [pt s (stO c a p), TR c n V0 V D op] fun F v M => v = .bool op ∧ M = [pt s (stO c a p), TR c n V0 V D op] ++ F := by
  refine Spec.intro Tryz.func86 rfl rfl fun B F => ?_
  simp only [Tryz.ntmps86, List.cons_append, List.nil_append, env0, Nat.reduceAdd]
  refine .sr (.assign (.x (.move ?_)))
  refine .neNil ?_ ptr26
  refine .move ?_
  refine .gT ?_
  refine .move ?_
  refine .gT ?_
  refine .nilCheck ?_
  refine .gT ?_
  refine .fa ?_ fo158_0
  refine .gT ?_
  refine .ld ?_ sc24
  refine .gT ?_
  refine .call (hc := Tryz.call50) (sp := tOpen (n := n) (V0 := V0) (V := V) (D := D) (op := op)) (h := ?_)
  rintro _ _ ⟨rfl, rfl⟩
  refine .pickT ?_
  refine .assign (.z ?_)
  refine .ret (?_)
  exact .ret1 (h1 := .tmp (t := 2) rfl) ⟨_, ⟨rfl, rfl⟩, Am.auto⟩
theorem inPlace {s c a i : Nat} {p : Pl} (hi : i ≤ 100000) (ht : p.tb ≤ 65536) : Spec Tryz.prog 110 #[.pointer (some ⟨s, 0, none⟩), nI i] [pt s (stO c a p)] fun F v M => v = .tuple #[nI (p.tb + i / 8), nI (i % 8 * 64)] ∧ M = pt s (stO c a p) :: F := by
  refine Spec.intro Tryz.func110 rfl rfl fun B F => ?_
  simp only [Tryz.ntmps110, List.cons_append, List.nil_append, env0, Nat.reduceAdd]
  unfold nI
  refine .sr (.assign (.assign (.x (.move ?_))))
  refine .nilCheck ?_
  refine .fa ?_ fo158_2
  refine .fa ?_ fo59_4
  refine .ld ?_ sc3
  refine .move ?_
  refine .quo ?_
  refine .add ?_
  refine .cast (d := 13) (u := .int .i64 ((p.tb + i / 8 : Nat) : Int)) rfl (congrArg (Value.int .i64) (by omega)) ?_
  refine .move ?_
  refine .rem ?_
  refine .mul ?_
  refine .cast (d := 16) (u := .int .i64 ((i % 8 * 64 : Nat) : Int)) rfl (congrArg (Value.int .i64) (by omega)) ?_
  refine .assign (.assign (.z ?_))
  refine .ret (?_)
  exact .ret2 (h1 := .tmp (t := 4) rfl) (h2 := .tmp (t := 5) rfl) ⟨_, ⟨rfl, rfl⟩, Am.auto⟩
theorem inGet {R : HP} {A : Addr} {n c : Nat} {xs : Bytes} {q : Nat} (hR : Reads R (some A) (bvs xs)) (hn : xs.length = n) (hl : n ≤ 1073741824) (hq : q + 4 ≤ n) : Spec Tryz.prog 111 #[.slice (some A) n c, nI q] [R] fun F v M => v = nI (num xs q) ∧ M = R :: F := by
  refine Spec.intro Tryz.func111 rfl rfl fun B F => ?_
  simp only [Tryz.ntmps111, List.cons_append, List.nil_append, env0, Nat.reduceAdd]
  have hlt := num_lt xs q
  have hq2 : q + 4 ≤ xs.length := by omega
  refine .sr (.assign (.x (.move (.move ?_))))
  refine .call (hc := Tryz.call94) (sp := bitsGet (p := (q : Int)) hR hn hl (by omega) (by omega) (by omega)) (h := ?_)
  rintro _ _ ⟨rfl, rfl⟩
  refine .move ?_
  refine .extract ?_
  refine .extract ?_
  refine .assign (.assign (.x (.move ?_)))
  refine .cvt ?_ un138 un3
  refine .cast (d := 14) (u := nI (num xs q)) rfl (congrArg (Value.int .i64) (by rw [show ((q : Int)).toNat = q from by omega, show (4 : Int).toNat = 4 from rfl, num_seg hq2]; exact IntWalk.i64_in _ (by omega))) ?_
  refine .assign (.z ?_)
  refine .ret (?_)
  exact .ret1 (h1 := .tmp (t := 4) rfl) ⟨_, ⟨rfl, rfl⟩, Am.auto⟩
theorem inPut {R : HP} {A : Addr} {n c : Nat} {xs : Bytes} {q v : Nat} (hR : Reads R (some A) (bvs xs)) (hn : xs.length = n) (hl : n ≤ 1073741824) (hq : q + 4 ≤ n) (hv : v < 2 ^ 63) : Spec Tryz.prog 118 #[.slice (some A) n c, nI q, nI v] [R] fun F u M => ∃ b k, (u = .slice (some ⟨b, 0, none⟩) n k ∧ n ≤ k ∧ k ≤ maxLen) ∧ M = buf b 5 k (bvs (put4 xs q v)) :: R :: F := by
  refine Spec.intro Tryz.func118 rfl rfl fun B F => ?_
  simp only [Tryz.ntmps118, List.cons_append, List.nil_append, env0, Nat.reduceAdd]
  refine .sr (.assign (.x (.move (.move (.move ?_)))))
  refine .cvt ?_ un3 un138
  refine .cast (d := 13) (u := .int .u64 (v : Int)) rfl (congrArg (Value.int .u64) (IntWalk.u64_in _ (by omega))) ?_
  refine .call (hc := Tryz.call90) (sp := bitsPut (p := (q : Int)) (v := v) hR hn hl (by omega) (by omega) (by omega) (by omega)) (h := ?_)
  rintro _ _ ⟨gb, kb, ⟨rfl, hk1, hk2⟩, rfl⟩
  rw [show ((q : Int)).toNat = q from by omega, show (4 : Int).toNat = 4 from rfl]
  refine .move ?_
  refine .extract ?_
  refine .extract ?_
  refine .assign (.assign (.x (.move (.assign (.z ?_)))))
  refine .ret (?_)
  exact .ret1 (h1 := .tmp (t := 6) rfl) ⟨_, ⟨_, _, ⟨rfl, hk1, hk2⟩, rfl⟩, Am.auto⟩
theorem inData {k : Nat} (hk : k ≤ 1000000) : Spec Tryz.prog 123 #[nI k] [] fun F v M => v = nI (dat k) ∧ M = F := by
  refine Spec.intro Tryz.func123 rfl rfl fun B F => ?_
  simp only [Tryz.ntmps123, List.cons_append, List.nil_append, env0, Nat.reduceAdd]
  unfold nI dat
  refine .sr (.assign (.x (.move ?_)))
  refine .add ?_
  refine .sub ?_
  refine .quo ?_
  refine .cast (d := 6) (u := .int .i64 (((k + 511) / 512 : Nat) : Int)) rfl (congrArg (Value.int .i64) (by omega)) ?_
  refine .assign (.z ?_)
  refine .ret (?_)
  exact .ret1 (h1 := .tmp (t := 2) rfl) ⟨_, ⟨rfl, rfl⟩, Am.auto⟩
theorem inHas {k : Nat} (hk : k ≤ 1000000) : Spec Tryz.prog 122 #[nI k] [] fun F v M => v = nI (has k) ∧ M = F := by
  refine Spec.intro Tryz.func122 rfl rfl fun B F => ?_
  simp only [Tryz.ntmps122, List.cons_append, List.nil_append, env0, Nat.reduceAdd]
  have hd : dat k ≤ 2000 := by unfold dat; omega
  by_cases h10 : dat k ≤ 10
  · refine .sr (.assign (.z (.seq (.sr (.move ?_)))))
    refine .call (hc := Tryz.call123) (sp := inData (k := k) hk) (h := ?_)
    rintro _ _ ⟨rfl, rfl⟩
    refine .assign (.x (.move ?_))
    refine .leq ?_
    refine .z ?_
    refine .condT rfl (congrArg Value.bool (by first | (simp; done) | (simp; omega) | omega)) ?_
    refine .sr (.move (.assign (.z ?_)))
    refine .ret (.thenRet (?_))
    exact .ret1 (h1 := .tmp (t := 2) rfl) ⟨_, ⟨by unfold has; rw [if_pos h10], rfl⟩, Am.auto⟩
  · refine .sr (.assign (.z (.seq (.sr (.move ?_)))))
    refine .call (hc := Tryz.call123) (sp := inData (k := k) hk) (h := ?_)
    rintro _ _ ⟨rfl, rfl⟩
    refine .assign (.x (.move ?_))
    refine .leq ?_
    refine .z ?_
    refine .condF rfl (congrArg Value.bool (by first | (simp; done) | (simp; omega) | omega)) ?_
    refine .skip (.next (.sr (.move ?_)))
    refine .call (hc := Tryz.call123) (sp := inData (k := k) hk) (h := ?_)
    rintro _ _ ⟨rfl, rfl⟩
    refine .add ?_
    refine .cast (d := 11) (u := nI (has k)) rfl (by unfold has nI; rw [if_neg h10]; exact congrArg (Value.int .i64) (by omega)) ?_
    refine .assign (.z ?_)
    refine .ret (?_)
    exact .ret1 (h1 := .tmp (t := 2) rfl) ⟨_, ⟨rfl, rfl⟩, Am.auto⟩
theorem alInode {a c : Nat} {i : Int} {p : Pl} {V0 V : Nat → Bytes} {D : List Nat} {op : Bool} (h : PlOk p) : Spec Tryz.prog 109 #[.pointer (some ⟨a, 0, none⟩), .int .i64 i] [pt a (alO c p), TR c p.n V0 V D op] fun F v M => v = .bool (decide (0 ≤ i ∧ i < p.ino ∧ (i = 0 ∨ dig V p.im i.toNat = true))) ∧ M = [pt a (alO c p), TR c p.n V0 V D op] ++ F := by
  refine Spec.intro Tryz.func109 rfl rfl fun B F => ?_
  simp only [Tryz.ntmps109, List.cons_append, List.nil_append, env0, Nat.reduceAdd]
  have hlo := h.aI.lo
  have hhi := h.aI.hi
  have hn2 := h.aI.n2
  have hi2 := h.i2
  have hap := h.apart
  rcases (show i < 0 ∨ (0 ≤ i ∧ (p.ino : Int) ≤ i) ∨ i = 0 ∧ i < (p.ino : Int) ∨ (0 < i ∧ i < (p.ino : Int)) from by omega) with hc | hc | hc | hc
  · refine .sr (.assign (.z (.seq (.sr (.move ?_)))))
    refine .eqNil ?_ ptr25
    refine .move ?_
    refine .gT ?_
    refine .move ?_
    refine .gT ?_
    refine .lss ?_
    refine .pickF ?_
    refine .move ?_
    refine .cast (d := 13) (u := .bool true) rfl (congrArg Value.bool (by first | (simp; done) | (simp; omega) | omega)) ?_
    refine .gF ?_
    refine .gF ?_
    refine .gF ?_
    refine .gF ?_
    refine .gF ?_
    refine .gF ?_
    refine .gF ?_
    refine .pickT ?_
    refine .z ?_
    refine .condT rfl rfl ?_
    refine .sr (.assign (.z ?_))
    refine .ret (.thenRet (?_))
    exact .ret1 (h1 := .tmp (t := 4) rfl) ⟨_, ⟨congrArg Value.bool (by symm; exact decide_eq_false (by omega)), rfl⟩, Am.auto⟩
  · refine .sr (.assign (.z (.seq (.sr (.move ?_)))))
    refine .eqNil ?_ ptr25
    refine .move ?_
    refine .gT ?_
    refine .move ?_
    refine .gT ?_
    refine .lss ?_
    refine .pickF ?_
    refine .move ?_
    refine .cast (d := 13) (u := .bool false) rfl (congrArg Value.bool (by first | (simp; done) | (simp; omega) | omega)) ?_
    refine .gT ?_
    refine .move ?_
    refine .gT ?_
    refine .move ?_
    refine .gT ?_
    refine .nilCheck ?_
    refine .gT ?_
    refine .fa ?_ fo156_1
    refine .gT ?_
    refine .fa ?_ fo59_1
    refine .gT ?_
    refine .ld ?_ sc3
    refine .gT ?_
    refine .geq ?_
    refine .pickF ?_
    refine .z ?_
    refine .condT rfl (congrArg Value.bool (by first | (simp; done) | (simp; omega) | omega)) ?_
    refine .sr (.assign (.z ?_))
    refine .ret (.thenRet (?_))
    exact .ret1 (h1 := .tmp (t := 4) rfl) ⟨_, ⟨congrArg Value.bool (by symm; exact decide_eq_false (by omega)), rfl⟩, Am.auto⟩
  · obtain ⟨m, rfl⟩ : ∃ m : Nat, i = (m : Int) := ⟨i.toNat, by omega⟩
    refine .sr (.assign (.z (.seq (.sr (.move ?_)))))
    refine .eqNil ?_ ptr25
    refine .move ?_
    refine .gT ?_
    refine .move ?_
    refine .gT ?_
    refine .lss ?_
    refine .pickF ?_
    refine .move ?_
    refine .cast (d := 13) (u := .bool false) rfl (congrArg Value.bool (by first | (simp; done) | (simp; omega) | omega)) ?_
    refine .gT ?_
    refine .move ?_
    refine .gT ?_
    refine .move ?_
    refine .gT ?_
    refine .nilCheck ?_
    refine .gT ?_
    refine .fa ?_ fo156_1
    refine .gT ?_
    refine .fa ?_ fo59_1
    refine .gT ?_
    refine .ld ?_ sc3
    refine .gT ?_
    refine .geq ?_
    refine .pickF ?_
    refine .z ?_
    refine .condF rfl (congrArg Value.bool (by first | (simp; done) | (simp; omega) | omega)) ?_
    refine .skip (.next (.seq ?_))
    refine .dr ([pt a (alO c p)]) [] 18 mixed .autoJ ?_
    refine .tk 0 rfl .move ?_
    refine .tk 1 rfl .nilCheck ?_
    refine .tk 2 rfl (.fa fo156_0) ?_
    refine .tk 3 rfl (.ld sc24) ?_
    refine .tk 4 rfl .move ?_
    refine .tk 5 rfl .nilCheck ?_
    refine .tk 6 rfl (.fa fo156_1) ?_
    refine .tk 7 rfl (.fa fo59_2) ?_
    refine .tk 8 rfl (.ld sc3) ?_
    refine .tk 9 rfl .move ?_
    refine .tk 10 rfl .quo ?_
    refine .tk 11 rfl ((Qt.add).eq (v' := nI (p.im + m / 4096)) (congrArg (Value.int .i64) (by omega))) ?_
    refine .on 12 rfl fun hnp => ?_
    refine .call (hc := Tryz.call107) (sp := tRead (n := p.n) (V0 := V0) (V := V) (D := D) (op := op) (k := p.im + m / 4096) (by omega) (by omega)) (h := ?_)
    rintro _ _ ⟨gb, q, el, rfl, ⟨hq1, hq2, hl5⟩, rfl⟩
    refine .nil (.wa hnp ?_)
    refine .tk 13 rfl .move ?_
    refine .tk 14 rfl .extract ?_
    refine .tk 15 rfl .extract ?_
    refine .tk 16 rfl .assign ?_
    refine .tk 17 rfl .assign ?_
    refine .fin ?_
    refine .next (.sr (.move ?_))
    refine .eqi ?_
    refine .move ?_
    refine .cast (d := 40) (u := .bool true) rfl (congrArg Value.bool (by first | (simp; done) | (simp; omega) | omega)) ?_
    refine .gF ?_
    refine .gF ?_
    refine .gF ?_
    refine .gF ?_
    refine .pickT ?_
    refine .assign (.z ?_)
    refine .ret (?_)
    exact .ret1 (h1 := .tmp (t := 4) rfl) ⟨_, ⟨congrArg Value.bool (by symm; exact decide_eq_true (by omega)), rfl⟩, Am.auto⟩
  · obtain ⟨m, rfl⟩ : ∃ m : Nat, i = (m : Int) := ⟨i.toNat, by omega⟩
    refine .sr (.assign (.z (.seq (.sr (.move ?_)))))
    refine .eqNil ?_ ptr25
    refine .move ?_
    refine .gT ?_
    refine .move ?_
    refine .gT ?_
    refine .lss ?_
    refine .pickF ?_
    refine .move ?_
    refine .cast (d := 13) (u := .bool false) rfl (congrArg Value.bool (by first | (simp; done) | (simp; omega) | omega)) ?_
    refine .gT ?_
    refine .move ?_
    refine .gT ?_
    refine .move ?_
    refine .gT ?_
    refine .nilCheck ?_
    refine .gT ?_
    refine .fa ?_ fo156_1
    refine .gT ?_
    refine .fa ?_ fo59_1
    refine .gT ?_
    refine .ld ?_ sc3
    refine .gT ?_
    refine .geq ?_
    refine .pickF ?_
    refine .z ?_
    refine .condF rfl (congrArg Value.bool (by first | (simp; done) | (simp; omega) | omega)) ?_
    refine .skip (.next (.seq ?_))
    refine .dr ([pt a (alO c p)]) [] 18 mixed .autoJ ?_
    refine .tk 0 rfl .move ?_
    refine .tk 1 rfl .nilCheck ?_
    refine .tk 2 rfl (.fa fo156_0) ?_
    refine .tk 3 rfl (.ld sc24) ?_
    refine .tk 4 rfl .move ?_
    refine .tk 5 rfl .nilCheck ?_
    refine .tk 6 rfl (.fa fo156_1) ?_
    refine .tk 7 rfl (.fa fo59_2) ?_
    refine .tk 8 rfl (.ld sc3) ?_
    refine .tk 9 rfl .move ?_
    refine .tk 10 rfl .quo ?_
    refine .tk 11 rfl ((Qt.add).eq (v' := nI (p.im + m / 4096)) (congrArg (Value.int .i64) (by omega))) ?_
    refine .on 12 rfl fun hnp => ?_
    refine .call (hc := Tryz.call107) (sp := tRead (n := p.n) (V0 := V0) (V := V) (D := D) (op := op) (k := p.im + m / 4096) (by omega) (by omega)) (h := ?_)
    rintro _ _ ⟨gb, q, el, rfl, ⟨hq1, hq2, hl5⟩, rfl⟩
    refine .nil (.wa hnp ?_)
    refine .tk 13 rfl .move ?_
    refine .tk 14 rfl .extract ?_
    refine .tk 15 rfl .extract ?_
    refine .tk 16 rfl .assign ?_
    refine .tk 17 rfl .assign ?_
    refine .fin ?_
    refine .next (.sr (.move ?_))
    refine .eqi ?_
    refine .move ?_
    refine .cast (d := 40) (u := .bool false) rfl (congrArg Value.bool (by first | (simp; done) | (simp; omega) | omega)) ?_
    refine .gT ?_
    refine .move ?_
    refine .gT ?_
    refine .move ?_
    refine .gT ?_
    refine .rem ?_
    refine .gT ?_
    refine .call (hc := Tryz.call139) (sp := bitsTest Reads.buf hl5 (by decide) (k := (m : Int) % 4096) (by omega)) (h := ?_)
    rintro _ _ ⟨rfl, rfl⟩
    refine .pickF ?_
    refine .assign (.z ?_)
    refine .ret (?_)
    exact .ret1 (h1 := .tmp (t := 4) rfl) ⟨_, ⟨congrArg Value.bool (by rw [show ((m : Int) % 4096).toNat = m % 4096 from by omega, Int.toNat_natCast]; show tb (V (p.im + m / 4096)) (m % 4096) = _; rw [show tb (V (p.im + m / 4096)) (m % 4096) = dig V p.im m from rfl]; cases dig V p.im m <;> simp <;> omega), rfl⟩, Am.auto⟩
end Go.Proofs.YtdmjkjeoamiedaaGreat
end
section
namespace Go.Proofs.YtdmjkjeoamiedaaGreat
open Go
theorem fo158_1 : fieldOk Tryz.prog 158 1 1 = true := by kernel_rfl
theorem fo127_0 : fieldOk Tryz.prog 127 0 0 = true := by kernel_rfl
theorem fo127_1 : fieldOk Tryz.prog 127 1 1 = true := by kernel_rfl
theorem fo127_2 : fieldOk Tryz.prog 127 2 2 = true := by kernel_rfl
def rng0 (f : Nat → Nat) (k : Nat) : List Nat := (List.range 11).map fun j => if j < k then f j else 0
theorem rng0_all (f : Nat → Nat) : rng0 f 11 = (List.range 11).map f := by
  unfold rng0
  apply List.map_congr_left
  intro j hj
  rw [if_pos (List.mem_range.1 hj)]
theorem rng0_set (f : Nat → Nat) {k : Nat} (h : k < 11) : (rng0 f k).set k (f k) = rng0 f (k + 1) := by
  apply List.ext_getElem
  · simp [rng0]
  · intro j h1 h2
    simp only [rng0, List.getElem_set, List.getElem_map, List.getElem_range]
    by_cases hj : k = j
    · subst hj; rw [if_pos rfl, if_pos (by omega)]
    · rw [if_neg hj]
      by_cases h3 : j < k
      · rw [if_pos h3, if_pos (by omega)]
      · rw [if_neg h3, if_neg (by omega)]
theorem rng0_length (f : Nat → Nat) (k : Nat) : (rng0 f k).length = 11 := by simp [rng0]
theorem nums_take {x : Nd} {k : Nat} (h : k < x.bl.length) : x.nums.take (2 + (k + 1)) = x.nums.take (2 + k) ++ [x.bl.getD k 0] := by
  have : 2 + k < x.nums.length := by simp [Nd.nums]; omega
  rw [show 2 + (k + 1) = 2 + k + 1 from by omega, List.take_add_one, List.getElem?_eq_getElem this]
  congr 1
  simp only [Nd.nums, show 2 + k = k + 1 + 1 from by omega, List.getElem_cons_succ, Option.toList_some, List.getD_eq_getElem?_getD, List.getElem?_eq_getElem h, Option.getD_some]
theorem inLoad {s c a : Nat} {p : Pl} {V0 V : Nat → Bytes} {D : List Nat} {op : Bool} {i : Nat} (ho : PlOk p) (hi : i < p.ino) (hd : i = 0 ∨ dig V p.im i = true) : Spec Tryz.prog 65 #[.pointer (some ⟨s, 0, none⟩), nI i] [pt s (stO c a p), pt a (alO c p), TR c p.n V0 V D op] fun F v M => v = .tuple #[ndV (ldN p V i), .int .i64 0] ∧ M = [pt s (stO c a p), pt a (alO c p), TR c p.n V0 V D op] ++ F := by
  refine Spec.intro Tryz.func65 rfl rfl fun B F => ?_
  simp only [Tryz.ntmps65, List.cons_append, List.nil_append, env0, Nat.reduceAdd]
  have hi2 := ho.i2
  have htab := ho.tab
  have hn2 := ho.aB.n2
  have hdat := ho.dat
  have hlo := ho.aB.lo
  have htbl := ho.tbl
  have hblk : 245 ≤ p.tb + i / 8 ∧ p.tb + i / 8 < p.n := by omega
  have hat : i % 8 * 64 + 64 ≤ 512 := by omega
  refine .sr ?_
  refine .allocL zNd rfl fun b4 => ?_
  refine .assign (.z (.seq (.sr (.move ?_))))
  refine .eqNil ?_ ptr26
  refine .move ?_
  refine .gT ?_
  refine .move ?_
  refine .gT ?_
  refine .nilCheck ?_
  refine .gT ?_
  refine .fa ?_ fo158_0
  refine .gT ?_
  refine .ld ?_ sc24
  refine .gT ?_
  refine .eqNil ?_ ptr24
  refine .pickF ?_
  refine .z ?_
  refine .condF rfl rfl ?_
  refine .skip (.next (.seq (.sr (.move ?_))))
  refine .nilCheck ?_
  refine .fa ?_ fo158_1
  refine .ld ?_ sc25
  refine .move ?_
  refine .call (hc := Tryz.call109) (sp := alInode (i := (i : Int)) (V0 := V0) (V := V) (D := D) (op := op) ho) (h := ?_)
  rintro _ _ ⟨rfl, rfl⟩
  refine .cast (d := 25) (u := .bool true) rfl (congrArg Value.bool (decide_eq_true ⟨by omega, by omega, by rcases hd with h | h; exact .inl (by omega); exact .inr h⟩)) ?_
  refine .not ?_
  refine .z ?_
  refine .condF rfl rfl ?_
  refine .skip (.next (.sr (.move (.move ?_))))
  refine .call (hc := Tryz.call110) (sp := inPlace (i := i) (p := p) (by omega) (by omega)) (h := ?_)
  rintro _ _ ⟨rfl, rfl⟩
  refine .move ?_
  refine .extract ?_
  refine .extract ?_
  refine .assign (.assign (.x (.move ?_)))
  refine .nilCheck ?_
  refine .fa ?_ fo158_0
  refine .ld ?_ sc24
  refine .move ?_
  refine .call (hc := Tryz.call107) (sp := tRead (n := p.n) (V0 := V0) (V := V) (D := D) (op := op) (k := p.tb + i / 8) hblk.1 hblk.2) (h := ?_)
  rintro _ _ ⟨gb, q, el, rfl, ⟨hq1, hq2, hl5⟩, rfl⟩
  refine .move ?_
  refine .extract ?_
  refine .extract ?_
  refine .assign (.assign (.z (.seq (.sr (.move ?_)))))
  refine .nei ?_
  refine .z ?_
  refine .condF rfl rfl ?_
  refine .skip (.next (.sr (.move (.move ?_))))
  refine .call (hc := Tryz.call111) (sp := inGet (q := i % 8 * 64) Reads.buf hl5 (by decide) (by omega)) (h := ?_)
  rintro _ _ ⟨rfl, rfl⟩
  refine .move (.move ?_)
  refine .add ?_
  refine .cast (d := 52) (u := nI (i % 8 * 64 + 4)) rfl (congrArg (Value.int .i64) (by omega)) ?_
  refine .call (hc := Tryz.call111) (sp := inGet (q := i % 8 * 64 + 4) Reads.buf hl5 (by decide) (by omega)) (h := ?_)
  rintro _ _ ⟨rfl, rfl⟩
  refine .fa ?_ fo127_0
  refine .stL (xs := ndL nd0) (i := 0) ?_ sc3 (by decide)
  refine .to (A := row b4 127 ((ndL nd0).set 0 (nI (num (V (p.tb + i / 8)) (i % 8 * 64))))) (A' := row b4 127 (ndL ⟨num (V (p.tb + i / 8)) (i % 8 * 64), 0, List.replicate 11 0⟩)) (fun h hh => hh) ?_
  refine .fa ?_ fo127_1
  refine .stL (xs := ndL ⟨num (V (p.tb + i / 8)) (i % 8 * 64), 0, List.replicate 11 0⟩) (i := 1) ?_ sc3 (by rw [ndL_length rfl]; decide)
  refine .to (A := row b4 127 ((ndL ⟨num (V (p.tb + i / 8)) (i % 8 * 64), 0, List.replicate 11 0⟩).set 1 (nI (num (V (p.tb + i / 8)) (i % 8 * 64 + 4))))) (A' := row b4 127 (ndL ⟨num (V (p.tb + i / 8)) (i % 8 * 64), num (V (p.tb + i / 8)) (i % 8 * 64 + 4), List.replicate 11 0⟩)) (fun h hh => hh) ?_
  refine .z (.seq (.sr (.move (.z (.block ?_)))))
  refine .loopA (σ := Nat) (fun k => [(0, .pointer (some ⟨s, 0, none⟩)), (4, .pointer (some ⟨b4, 0, none⟩)), (7, nI (i % 8 * 64)), (8, .slice (some ⟨gb, 0, none⟩) 512 q), (56, nI k)]) (fun k => [row b4 127 (ndL ⟨num (V (p.tb + i / 8)) (i % 8 * 64), num (V (p.tb + i / 8)) (i % 8 * 64 + 4), rng0 (fun k => num (V (p.tb + i / 8)) (i % 8 * 64 + 8 + 4 * k)) k⟩), buf gb el q (bvs (V (p.tb + i / 8))), pt s (stO c a p), pt a (alO c p), TR c p.n V0 V D op] ++ F) (fun k => k ≤ 11) (fun k => 11 - k) 0 (by omega) ?_
  rintro k hk
  refine .sr ?_
  refine .lss ?_
  refine .z (.seq ?_)
  refine .cond rfl (fun hb => ?_) (fun hb => ?_)
  · have hlt : k < 11 := by have := of_decide_eq_true hb; omega
    refine .skip (.next (.seq (.block (.sr (.move (.assign (.y (.move (.move ?_)))))))))
    refine .move ?_
    refine .add ?_
    refine .move ?_
    refine .mul ?_
    refine .add ?_
    refine .cast (d := 65) (u := nI (i % 8 * 64 + 8 + 4 * k)) rfl (congrArg (Value.int .i64) (by omega)) ?_
    refine .call (hc := Tryz.call111) (sp := inGet (q := i % 8 * 64 + 8 + 4 * k) Reads.buf hl5 (by decide) (by omega)) (h := ?_)
    rintro _ _ ⟨rfl, rfl⟩
    refine .fa ?_ fo127_2
    refine .idxA ?_ ar125
    refine .stL ?_ sc3 (show 0 + 2 + ((k : Nat) : Int).toNat * 1 < (ndL ⟨num (V (p.tb + i / 8)) (i % 8 * 64), num (V (p.tb + i / 8)) (i % 8 * 64 + 4), rng0 (fun k => num (V (p.tb + i / 8)) (i % 8 * 64 + 8 + 4 * k)) k⟩).length by rw [ndL_length (rng0_length _ _)]; omega)
    refine .to (A := row b4 127 ((ndL ⟨num (V (p.tb + i / 8)) (i % 8 * 64), num (V (p.tb + i / 8)) (i % 8 * 64 + 4), rng0 (fun k => num (V (p.tb + i / 8)) (i % 8 * 64 + 8 + 4 * k)) k⟩).set (0 + 2 + ((k : Nat) : Int).toNat * 1) (nI (num (V (p.tb + i / 8)) (i % 8 * 64 + 8 + 4 * k))))) (A' := row b4 127 (ndL ⟨num (V (p.tb + i / 8)) (i % 8 * 64), num (V (p.tb + i / 8)) (i % 8 * 64 + 4), rng0 (fun k => num (V (p.tb + i / 8)) (i % 8 * 64 + 8 + 4 * k)) (k + 1)⟩)) (fun h hh => by rw [show 0 + 2 + ((k : Nat) : Int).toNat * 1 = 2 + k from by omega, ndL_set, rng0_set (fun k => num (V (p.tb + i / 8)) (i % 8 * 64 + 8 + 4 * k)) hlt] at hh; exact hh) ?_
    refine .nil (.blockNormal (.next (.region ?_)))
    refine .add ?_
    refine .move (.nil ?_)
    refine .cast (d := 56) (u := nI (k + 1)) rfl (congrArg (Value.int .i64) (by omega)) ?_
    exact .back (k + 1) (by omega) (by omega)
  · have hge : ¬ k < 11 := by have := of_decide_eq_false hb; omega
    have hk11 : k = 11 := by omega
    subst hk11
    refine .exit (.thenExit (.thenExit (.blockExit (?_))))
    refine .next (.sr ?_)
    refine .ldW (xs := ndL ⟨num (V (p.tb + i / 8)) (i % 8 * 64), num (V (p.tb + i / 8)) (i % 8 * 64 + 4), rng0 (fun k => num (V (p.tb + i / 8)) (i % 8 * 64 + 8 + 4 * k)) 11⟩) ?_ agg127 (ndL_length (rng0_length _ _))
    refine .stLA (xs := ndL ⟨num (V (p.tb + i / 8)) (i % 8 * 64), num (V (p.tb + i / 8)) (i % 8 * 64 + 4), rng0 (fun k => num (V (p.tb + i / 8)) (i % 8 * 64 + 8 + 4 * k)) 11⟩) (us := ndL ⟨num (V (p.tb + i / 8)) (i % 8 * 64), num (V (p.tb + i / 8)) (i % 8 * 64 + 4), rng0 (fun k => num (V (p.tb + i / 8)) (i % 8 * 64 + 8 + 4 * k)) 11⟩) ?_ agg127 (ndL_length (rng0_length _ _)) (ndL_length (rng0_length _ _)) (ndL_single _)
    refine .assign (.z ?_)
    refine .ret (?_)
    refine .to (A := row b4 127 (ndL ⟨num (V (p.tb + i / 8)) (i % 8 * 64), num (V (p.tb + i / 8)) (i % 8 * 64 + 4), rng0 (fun k => num (V (p.tb + i / 8)) (i % 8 * 64 + 8 + 4 * k)) 11⟩)) (A' := row b4 127 (ndL (ldN p V i))) (fun h hh => by rw [rng0_all] at hh; exact hh) ?_
    exact .ret2 (h1 := RV.aggL rfl agg127 (by repeat (first | exact .here | apply Rem.there | apply Repl.there | apply Mem.there)) (ndL_length (ldB_fits _ _).bl)) (h2 := .tmp rfl) ⟨_, ⟨rfl, rfl⟩, Am.auto⟩
theorem inLoadNo {s c a : Nat} {p : Pl} {V0 V : Nat → Bytes} {D : List Nat} {op : Bool} {i : Int} (ho : PlOk p) (hno : ¬ (0 ≤ i ∧ i < p.ino ∧ (i = 0 ∨ dig V p.im i.toNat = true))) : Spec Tryz.prog 65 #[.pointer (some ⟨s, 0, none⟩), .int .i64 i] [pt s (stO c a p), pt a (alO c p), TR c p.n V0 V D op] fun F v M => v = .tuple #[ndV nd0, .int .i64 4] ∧ M = [pt s (stO c a p), pt a (alO c p), TR c p.n V0 V D op] ++ F := by
  refine Spec.intro Tryz.func65 rfl rfl fun B F => ?_
  simp only [Tryz.ntmps65, List.cons_append, List.nil_append, env0, Nat.reduceAdd]
  refine .sr ?_
  refine .allocL zNd rfl fun b4 => ?_
  refine .assign (.z (.seq (.sr (.move ?_))))
  refine .eqNil ?_ ptr26
  refine .move ?_
  refine .gT ?_
  refine .move ?_
  refine .gT ?_
  refine .nilCheck ?_
  refine .gT ?_
  refine .fa ?_ fo158_0
  refine .gT ?_
  refine .ld ?_ sc24
  refine .gT ?_
  refine .eqNil ?_ ptr24
  refine .pickF ?_
  refine .z ?_
  refine .condF rfl rfl ?_
  refine .skip (.next (.seq (.sr (.move ?_))))
  refine .nilCheck ?_
  refine .fa ?_ fo158_1
  refine .ld ?_ sc25
  refine .move ?_
  refine .call (hc := Tryz.call109) (sp := alInode (i := i) (V0 := V0) (V := V) (D := D) (op := op) ho) (h := ?_)
  rintro _ _ ⟨rfl, rfl⟩
  refine .cast (d := 25) (u := .bool false) rfl (congrArg Value.bool (decide_eq_false hno)) ?_
  refine .not ?_
  refine .z ?_
  refine .condT rfl rfl ?_
  refine .sr ?_
  refine .ldW (xs := ndL nd0) ?_ agg127 rfl
  refine .stLA (xs := ndL nd0) (us := ndL nd0) ?_ agg127 rfl rfl (ndL_single _)
  refine .assign (.z ?_)
  refine .ret (.thenRet (?_))
  exact .ret2 (h1 := RV.aggL rfl agg127 (by repeat (first | exact .here | apply Rem.there | apply Repl.there | apply Mem.there)) rfl) (h2 := .tmp rfl) ⟨_, ⟨rfl, rfl⟩, Am.auto⟩
theorem inSave {s c a : Nat} {p : Pl} {V0 V : Nat → Bytes} {D : List Nat} {i : Nat} {x : Nd} (ho : PlOk p) (hi : i < p.ino) (hf : Fits x) (hroom : Room D) : Spec Tryz.prog 87 #[.pointer (some ⟨s, 0, none⟩), nI i, ndV x] [pt s (stO c a p), TR c p.n V0 V D true] fun F v M => v = okV ∧ M = [pt s (stO c a p), TR c p.n V0 (svV p V i x) (insD D (p.tb + i / 8)) true] ++ F := by
  refine Spec.intro Tryz.func87 rfl rfl fun B F => ?_
  simp only [Tryz.ntmps87, List.cons_append, List.nil_append, env0, Nat.reduceAdd]
  have hi2 := ho.i2
  have htab := ho.tab
  have hn2 := ho.aB.n2
  have hdat := ho.dat
  have hlo := ho.aB.lo
  have htbl := ho.tbl
  have hblk : 245 ≤ p.tb + i / 8 ∧ p.tb + i / 8 < p.n := by omega
  have hat : i % 8 * 64 + 64 ≤ 512 := by omega
  have hbl := hf.bl
  have hkd : x.kd < 2 ^ 63 := by have := hf.lt x.kd (by simp [Nd.nums]); omega
  have hsz : x.sz < 2 ^ 63 := by have := hf.lt x.sz (by simp [Nd.nums]); omega
  have hbk : ∀ k, k < 11 → x.bl.getD k 0 < 2 ^ 63 := by
    intro k hk
    have hk2 : k < x.bl.length := by omega
    have hm : x.bl.getD k 0 ∈ x.nums := by
      rw [List.getD_eq_getElem?_getD, List.getElem?_eq_getElem hk2]
      unfold Nd.nums
      simp
    have := hf.lt _ hm
    omega
  refine .sr ?_
  refine .boxL (us := ndL x) fun b5 => ?_
  refine .assign (.x (.move (.move ?_)))
  refine .call (hc := Tryz.call110) (sp := inPlace (i := i) (p := p) (by omega) (by omega)) (h := ?_)
  rintro _ _ ⟨rfl, rfl⟩
  refine .move ?_
  refine .extract ?_
  refine .extract ?_
  refine .assign (.assign (.x (.move ?_)))
  refine .nilCheck ?_
  refine .fa ?_ fo158_0
  refine .ld ?_ sc24
  refine .move ?_
  refine .call (hc := Tryz.call107) (sp := tRead (n := p.n) (V0 := V0) (V := V) (D := D) (op := true) (k := p.tb + i / 8) hblk.1 hblk.2) (h := ?_)
  rintro _ _ ⟨gb, q, el, rfl, ⟨hq1, hq2, hl5⟩, rfl⟩
  refine .move ?_
  refine .extract ?_
  refine .extract ?_
  refine .assign (.assign (.z (.seq (.sr (.move ?_)))))
  refine .nei ?_
  refine .z ?_
  refine .condF rfl rfl ?_
  refine .skip (.next (.seq ?_))
  refine .dr ([row b5 127 (ndL x)]) [] 11 mixed .autoJ ?_
  refine .tk 0 rfl .move ?_
  refine .tk 1 rfl .move ?_
  refine .tk 2 rfl (.fa fo127_0) ?_
  refine .tk 3 rfl (Qt.ldL (i := 0) (v := nI x.kd) sc3 rfl) ?_
  refine .tk 5 rfl .move ?_
  refine .tk 6 rfl ((Qt.add).eq (v' := nI (i % 8 * 64 + 4)) (congrArg (Value.int .i64) (by omega))) ?_
  refine .tk 7 rfl (.fa fo127_1) ?_
  refine .tk 8 rfl (Qt.ldL (i := 1) (v := nI x.sz) sc3 rfl) ?_
  refine .on 4 rfl fun hnp => ?_
  refine .call (hc := Tryz.call118) (sp := inPut (q := i % 8 * 64) (v := x.kd) Reads.buf hl5 (by decide) (by omega) hkd) (h := ?_)
  rintro _ _ ⟨gc, kc, ⟨rfl, hc1, hc2⟩, rfl⟩
  refine .nil (.wa hnp ?_)
  refine .on 9 rfl fun hnp => ?_
  refine .call (hc := Tryz.call118) (sp := inPut (q := i % 8 * 64 + 4) (v := x.sz) Reads.buf ((put4_length _ _ _).trans hl5) (by decide) (by omega) hsz) (h := ?_)
  rintro _ _ ⟨gd, kd, ⟨rfl, hd1, hd2⟩, rfl⟩
  refine .nil (.wa hnp ?_)
  refine .tk 10 rfl .assign ?_
  refine .fin ?_
  refine .next (.seq (.sr ?_))
  refine .fa ?_ fo127_2
  refine .ldLA ?_ agg125 (ndL_arr hbl) (by rw [ndL_length hbl]; decide)
  refine .move (.z (.block ?_))
  refine .loopA (σ := Nat × Nat × Nat) (fun y => [(0, .pointer (some ⟨s, 0, none⟩)), (7, nI (p.tb + i / 8)), (8, nI (i % 8 * 64)), (9, .slice (some ⟨y.2.1, 0, none⟩) 512 y.2.2), (42, .agg (x.bl.map nI).toArray), (43, nI y.1)]) (fun y => [buf y.2.1 5 y.2.2 (bvs (putL (V (p.tb + i / 8)) (i % 8 * 64) (x.nums.take (2 + y.1)))), pt s (stO c a p), TR c p.n V0 V D true] ++ F) (fun y => y.1 ≤ 11 ∧ 512 ≤ y.2.2 ∧ y.2.2 ≤ maxLen) (fun y => 11 - y.1) (0, gd, kd) ⟨Nat.zero_le _, hd1, hd2⟩ ?_
  rintro ⟨k, ge0, ke0⟩ hk
  obtain ⟨hk, hk1, hk2⟩ := hk
  refine .sr ?_
  refine .lss ?_
  refine .z (.seq ?_)
  refine .cond rfl (fun hb => ?_) (fun hb => ?_)
  · have hlt : k < 11 := by have := of_decide_eq_true hb; omega
    have hlen : (putL (V (p.tb + i / 8)) (i % 8 * 64) (x.nums.take (2 + k))).length = 512 := (putL_length _ _ _).trans hl5
    refine .skip (.next (.seq (.block (.sr (.move ?_)))))
    refine .ixV (v := nI (x.bl.getD k 0)) ?_ ar125 sc3 (by rw [show ((k : Nat) : Int).toNat = k from by omega, List.getElem?_toArray, List.getElem?_map, List.getD_eq_getElem?_getD, List.getElem?_eq_getElem (show k < x.bl.length by omega)]; rfl)
    refine .assign (.assign (.y (.move (.move ?_))))
    refine .add ?_
    refine .move ?_
    refine .mul ?_
    refine .add ?_
    refine .cast (d := 52) (u := nI (i % 8 * 64 + 8 + 4 * k)) rfl (congrArg (Value.int .i64) (by omega)) ?_
    refine .move ?_
    refine .call (hc := Tryz.call118) (sp := inPut (q := i % 8 * 64 + 8 + 4 * k) (v := x.bl.getD k 0) Reads.buf hlen (by decide) (by omega) (hbk k hlt)) (h := ?_)
    rintro _ _ ⟨ge, ke, ⟨rfl, he1, he2⟩, rfl⟩
    refine .assign (.nil (.blockNormal (.next (.region ?_))))
    refine .add ?_
    refine .move (.nil ?_)
    refine .cast (d := 43) (u := nI (k + 1)) rfl (congrArg (Value.int .i64) (by omega)) ?_
    refine .to (A := buf ge 5 ke (bvs (put4 (putL (V (p.tb + i / 8)) (i % 8 * 64) (x.nums.take (2 + k))) (i % 8 * 64 + 8 + 4 * k) (x.bl.getD k 0)))) (A' := buf ge 5 ke (bvs (putL (V (p.tb + i / 8)) (i % 8 * 64) (x.nums.take (2 + (k + 1)))))) (fun h hh => by rw [nums_take (by omega), putL_snoc, show i % 8 * 64 + 4 * (x.nums.take (2 + k)).length = i % 8 * 64 + 8 + 4 * k from by simp [Nd.nums, hbl]; omega]; exact hh) ?_
    exact .back (k + 1, ge, ke) ⟨by show k + 1 ≤ 11; omega, he1, he2⟩ (by show 11 - (k + 1) < 11 - k; omega)
  · have hge : ¬ k < 11 := by have := of_decide_eq_false hb; omega
    have hk11 : k = 11 := by omega
    subst hk11
    have hall : x.nums.take (2 + 11) = x.nums := List.take_of_length_le (by simp [Nd.nums, hbl])
    refine .exit (.thenExit (.thenExit (.blockExit (?_))))
    refine .next (.sr (.move ?_))
    refine .nilCheck ?_
    refine .fa ?_ fo158_0
    refine .ld ?_ sc24
    refine .move (.move ?_)
    refine .call (hc := Tryz.call85) (sp := tWrite (n := p.n) (V0 := V0) (V := V) (D := D) (k := p.tb + i / 8) hblk.1 hblk.2 Reads.buf ((putL_length _ _ _).trans hl5) rfl (.inr hroom)) (h := ?_)
    rintro _ _ ⟨rfl, rfl⟩
    refine .assign (.z ?_)
    refine .ret (?_)
    refine .to (A := TR c p.n V0 (wr V (p.tb + i / 8) (putL (V (p.tb + i / 8)) (i % 8 * 64) (x.nums.take (2 + 11)))) (insD D (p.tb + i / 8)) true) (A' := TR c p.n V0 (svV p V i x) (insD D (p.tb + i / 8)) true) (fun h hh => by rw [hall] at hh; exact hh) ?_
    exact .ret1 (h1 := .tmp (t := 6) rfl) ⟨_, ⟨rfl, rfl⟩, Am.auto⟩
end Go.Proofs.YtdmjkjeoamiedaaGreat
end
section
namespace Go.Proofs.YtdmjkjeoamiedaaGreat
open Go
theorem cntB_true {f : Nat → Bool} {b : Nat} (h : f b = false) : ∀ n, cntB (setF f b true) n = cntB f n + (if b < n then 1 else 0)
  | 0 => rfl
  | n + 1 => by
    have ih := cntB_true h n
    unfold cntB at ih ⊢
    rw [List.range_succ, List.filter_append, List.filter_append, List.length_append, List.length_append, ih]
    by_cases hb : b = n
    · subst hb
      have h1 : setF f b true b = true := if_pos rfl
      simp [h, h1]
    · have h1 : setF f b true n = f n := if_neg (fun hh => hb hh.symm)
      have h2 : [n].filter (setF f b true) = [n].filter f := by simp only [List.filter_cons, List.filter_nil, h1]
      rw [h2]
      by_cases h2 : b < n
      · rw [if_pos h2, if_pos (by omega)]; omega
      · rw [if_neg h2, if_neg (by omega)]; omega
theorem cnt_true {V V' : Nat → Bytes} {first n b : Nat} (hb : b < n) (h0 : dig V first b = false) (h : ∀ k, k < n → dig V' first k = if k = b then true else dig V first k) : cnt V' first n = cnt V first n + 1 := by
  have h1 := cntB_true (f := fun k => dig V first k) h0 n
  rw [if_pos hb] at h1
  rw [cnt_cntB (f := setF (fun k => dig V first k) b true) (fun k hk => h k hk), h1]
  rfl
theorem cnt_same {V V' : Nat → Bytes} {first n : Nat} (h : ∀ k, k < n → dig V' first k = dig V first k) : cnt V' first n = cnt V first n :=
  cnt_cntB (f := fun k => dig V first k) h
theorem cnt_full {V : Nat → Bytes} {first n : Nat} (h : ∀ k, k < n → dig V first k = true) : cnt V first n = n := by
  unfold cnt
  rw [List.filter_eq_self.2 (fun k hk => h k (List.mem_range.1 hk)), List.length_range]
theorem zeros_getD (i : Nat) : zeros.getD i 0 = 0 := by
  unfold zeros
  rw [List.getD_eq_getElem?_getD, List.getElem?_replicate]
  split <;> rfl
def frV (p : Pl) (V : Nat → Bytes) (b : Nat) : Nat → Bytes := wr (setD V p.bm b true) (p.da + b) zeros
theorem frV_new (p : Pl) (V : Nat → Bytes) (b : Nat) : frV p V b (p.da + b) = zeros := wr_same ..
theorem frV_other {p : Pl} {V : Nat → Bytes} {b v : Nat} (h1 : v ≠ p.da + b) (h2 : v ≠ p.bm + b / 4096) : frV p V b v = V v := by
  unfold frV
  rw [wr_other _ _ h1]
  exact wr_other _ _ h2
theorem frV_len {p : Pl} {V : Nat → Bytes} (h : Len5 V) (b : Nat) : Len5 (frV p V b) := wr_len (setD_len h _ _ _) _ zeros_length
theorem PlOk.mapAt {p : Pl} (ho : PlOk p) {b : Nat} (hb : b < p.dc) : p.bm + b / 4096 < p.tb := by
  have := ho.tbl; omega
theorem PlOk.tbda {p : Pl} (ho : PlOk p) : p.tb + 1 ≤ p.da := by
  have := ho.tab; have := ho.i1; omega
theorem frV_dig {p : Pl} {V : Nat → Bytes} (ho : PlOk p) (h : Len5 V) {b k : Nat} (hb : b < p.dc) (hk : k < p.dc) : dig (frV p V b) p.bm k = if k = b then true else dig V p.bm k := by
  have h1 := ho.mapAt hk
  have h2 := ho.tbda
  rw [← dig_setD h]
  unfold dig frV
  rw [wr_other _ _ (by omega)]
theorem frV_imap {p : Pl} {V : Nat → Bytes} (ho : PlOk p) {b k : Nat} (hb : b < p.dc) (hk : k < p.ino) : dig (frV p V b) p.im k = dig V p.im k := by
  have h1 := ho.mapAt hb
  have h2 := ho.tbda
  have h3 := ho.apart
  have h4 := ho.i2
  unfold dig
  rw [frV_other (by omega) (by omega)]
theorem Inv.free {p : Pl} {V : Nat → Bytes} {nd : NF} (h : Inv p V nd) {b : Nat} (hb : b < p.dc) (hd : dig V p.bm b = false) {j : Nat} {y : Nd} {T : Nat → Bool} {k : Nat} (hj : nd j = some (y, T)) (hk : T k = true) : ptr V y k ≠ p.da + b := fun he => by
  have := (h.map b hb).2 ⟨j, y, T, k, hj, hk, he⟩
  rw [hd] at this; cases this
theorem frV_held {p : Pl} {V : Nat → Bytes} {nd : NF} (h : Inv p V nd) (ho : PlOk p) {b : Nat} (hb : b < p.dc) (hd : dig V p.bm b = false) {j : Nat} {y : Nd} {T : Nat → Bool} {k : Nat} (hj : nd j = some (y, T)) (hk : T k = true) : frV p V b (ptr V y k) = V (ptr V y k) := by
  have h1 := ho.mapAt hb
  have h2 := ho.tbda
  have h3 := h.rng j y T k hj hk
  exact frV_other (h.free hb hd hj hk) (by omega)
theorem frV_ptr {p : Pl} {V : Nat → Bytes} {nd : NF} (h : Inv p V nd) (ho : PlOk p) {b : Nat} (hb : b < p.dc) (hd : dig V p.bm b = false) {j : Nat} {y : Nd} {T : Nat → Bool} {k : Nat} (hj : nd j = some (y, T)) (hk : T k = true) : ptr (frV p V b) y k = ptr V y k :=
  ptrs_congr (h.sok j y T hj) (fun h2 => by have := frV_held h ho hb hd hj h2; rwa [ptr_200] at this) hk
theorem frV_kp {p : Pl} {V : Nat → Bytes} {nd : NF} (h : Inv p V nd) (ho : PlOk p) {b : Nat} (hb : b < p.dc) (hd : dig V p.bm b = false) (i : Nat) : Kp p V (frV p V b) nd i := by
  have h1 := ho.mapAt hb
  have h2 := ho.tbda
  exact ⟨fun v hv => frV_other (by omega) (by omega), fun v hv1 hv2 => frV_other (by omega) (by omega), fun j y T k _ hj hk => frV_held h ho hb hd hj hk⟩
theorem getD_set_same {l : List Nat} {k v : Nat} (h : k < l.length) : (l.set k v).getD k 0 = v := by
  rw [List.getD_eq_getElem?_getD, List.getElem?_set_self h]; rfl
theorem getD_set_other {l : List Nat} {k j v : Nat} (h : k ≠ j) : (l.set k v).getD j 0 = l.getD j 0 := by
  rw [List.getD_eq_getElem?_getD, List.getElem?_set_ne h, List.getD_eq_getElem?_getD]
theorem Fits.set {x : Nd} (h : Fits x) {k v : Nat} (hv : v < 4294967296) : Fits ⟨x.kd, x.sz, x.bl.set k v⟩ := by
  refine ⟨by simp [h.bl], fun u hu => ?_⟩
  simp only [Nd.nums, List.mem_cons] at hu
  rcases hu with rfl | rfl | hu
  · exact h.lt _ (by simp [Nd.nums])
  · exact h.lt _ (by simp [Nd.nums])
  · rcases List.mem_or_eq_of_mem_set hu with hu | rfl
    · exact h.lt _ (by simp [Nd.nums, hu])
    · exact hv
structure Stp (p : Pl) (V V' : Nat → Bytes) (nd : NF) (i : Nat) (x x' : Nd) (S S' : Nat → Bool) : Prop where
  inv : Inv p V' (updF nd i (some (x', S')))
  kp : Kp p V V' nd i
  kd : x'.kd = x.kd
  sz : x'.sz = x.sz
  ptrs : ∀ l, S l = true → S' l = true → ptr V' x' l = ptr V x l
  byt : ∀ l, l ≠ 200 → S l = true → S' l = true → V' (ptr V x l) = V (ptr V x l)
theorem updF_updF (nd : NF) (i : Nat) (y z : Option (Nd × (Nat → Bool))) : updF (updF nd i y) i z = updF nd i z := by
  funext j
  unfold updF
  split <;> rfl
theorem Stp.trans {p : Pl} {V V1 V2 : Nat → Bytes} {nd : NF} {i : Nat} {x x1 x2 : Nd} {S S1 S2 : Nat → Bool} (h0 : Inv p V nd) (h : Stp p V V1 nd i x x1 S S1) (h' : Stp p V1 V2 (updF nd i (some (x1, S1))) i x1 x2 S1 S2)
    (hS : ∀ l, S l = true → S2 l = true → S1 l = true) : Stp p V V2 nd i x x2 S S2 := by
  refine ⟨?_, ?_, h'.kd.trans h.kd, h'.sz.trans h.sz, fun l h1 h2 => ?_, fun l hl h1 h2 => ?_⟩
  · have := h'.inv
    rwa [updF_updF] at this
  · exact h.kp.trans h'.kp h0.sok (fun j hj => updF_other _ _ hj)
  · rw [h'.ptrs l (hS l h1 h2) h2, h.ptrs l h1 (hS l h1 h2)]
  · have h3 := h'.byt l hl (hS l h1 h2) h2
    rw [h.ptrs l h1 (hS l h1 h2)] at h3
    rw [h3, h.byt l hl h1 (hS l h1 h2)]
theorem Stp.fb {p : Pl} {V V' : Nat → Bytes} {nd : NF} {i : Nat} {x x' : Nd} {S S' : Nat → Bool} (h : Stp p V V' nd i x x' S S') {q : Nat} (hq : q / 512 < 138) (h1 : S (q / 512) = true) (h2 : S' (q / 512) = true) : fb V' x' q = fb V x q :=
  fb_congr (h.ptrs _ h1 h2) (h.byt _ (by omega) h1 h2)
theorem takeDirect {p : Pl} {V : Nat → Bytes} {nd : NF} (h : Inv p V nd) (ho : PlOk p) {i b k c : Nat} {x : Nd} {S S' : Nat → Bool} (hi : nd i = some (x, S)) (hb : b < p.dc) (hd : dig V p.bm b = false)
    (hk : (k < 10 ∧ c = k) ∨ (k = 10 ∧ c = 200 ∧ ∀ l, S l = true → l < 10)) (hS : ∀ l, S' l = true ↔ S l = true ∨ l = c) (hSc : S c = false) :
    Stp p V (frV p V b) nd i x ⟨x.kd, x.sz, x.bl.set k (p.da + b)⟩ S S' ∧ ptr (frV p V b) ⟨x.kd, x.sz, x.bl.set k (p.da + b)⟩ c = p.da + b := by
  have hfx := h.fits i x S hi
  have hdat := ho.dat
  have hn2 := ho.aB.n2
  have hbl := hfx.bl
  have hp : ∀ l, S l = true → ptr (frV p V b) ⟨x.kd, x.sz, x.bl.set k (p.da + b)⟩ l = ptr V x l := by
    intro l hl
    have h1 := frV_ptr h ho hb hd hi hl
    rw [← h1]
    have hlc : l ≠ c := fun hh => by rw [hh, hSc] at hl; cases hl
    unfold ptr
    rcases hk with ⟨hk, rfl⟩ | ⟨rfl, rfl, hall⟩
    · simp only [getD_set_other (show c ≠ 10 by omega), getD_set_other (Ne.symm hlc)]
    · have := hall l hl
      simp only [if_neg hlc, if_pos this, getD_set_other (show 10 ≠ l by omega)]
  have hpc : ptr (frV p V b) ⟨x.kd, x.sz, x.bl.set k (p.da + b)⟩ c = p.da + b := by
    unfold ptr
    rcases hk with ⟨hk, rfl⟩ | ⟨rfl, rfl, hall⟩
    · rw [if_neg (by omega), if_pos hk]
      exact getD_set_same (by omega)
    · rw [if_pos rfl]
      exact getD_set_same (by omega)
  refine ⟨⟨?_, frV_kp h ho hb hd i, rfl, rfl, fun l h1 h2 => hp l h1, fun l _ h1 h2 => frV_held h ho hb hd hi h1⟩, hpc⟩
  refine h.add hi hb hd hdat (hfx.set (by omega)) hS (by rcases hk with ⟨hk, rfl⟩ | ⟨_, rfl, _⟩; exact .inl (by omega); exact .inr rfl) (by rcases hk with ⟨hk, rfl⟩ | ⟨_, rfl, _⟩ <;> omega) hSc (frV_len h.len b)
    (fun l hl => frV_dig ho h.len hb hl) (fun l hl => frV_imap ho hb hl) hp hpc (fun j y T l hji hj hl => frV_ptr h ho hb hd hj hl)
def inV (p : Pl) (V : Nat → Bytes) (x : Nd) (b k : Nat) : Nat → Bytes := wr (frV p V b) (x.bl.getD 10 0) (put4 (frV p V b (x.bl.getD 10 0)) (4 * (k - 10)) (p.da + b))
theorem takeFar {p : Pl} {V : Nat → Bytes} {nd : NF} (h : Inv p V nd) (ho : PlOk p) {i b k : Nat} {x : Nd} {S S' : Nat → Bool} (hi : nd i = some (x, S)) (hb : b < p.dc) (hd : dig V p.bm b = false)
    (hk : 10 ≤ k) (hk2 : k < 138) (h200 : S 200 = true) (hS : ∀ l, S' l = true ↔ S l = true ∨ l = k) (hSc : S k = false) :
    Stp p V (inV p V x b k) nd i x x S S' ∧ ptr (inV p V x b k) x k = p.da + b ∧ inV p V x b k (p.da + b) = zeros := by
  have hfx := h.fits i x S hi
  have hdat := ho.dat
  have hn2 := ho.aB.n2
  have hm := ho.mapAt hb
  have htd := ho.tbda
  have hir := h.rng i x S 200 hi h200
  have hif := h.free hb hd hi h200
  rw [ptr_200] at hir hif
  have hlen := frV_len (p := p) h.len b
  have hoth : ∀ v, v ≠ x.bl.getD 10 0 → inV p V x b k v = frV p V b v := fun v hv => wr_other _ _ hv
  have hind : inV p V x b k (x.bl.getD 10 0) = put4 (frV p V b (x.bl.getD 10 0)) (4 * (k - 10)) (p.da + b) := wr_same ..
  have hindV : frV p V b (x.bl.getD 10 0) = V (x.bl.getD 10 0) := frV_other hif (by omega)
  have h4 : 4 * (k - 10) + 4 ≤ (frV p V b (x.bl.getD 10 0)).length := by rw [hlen]; omega
  have hpc : ptr (inV p V x b k) x k = p.da + b := by
    unfold ptr
    rw [if_neg (by omega), if_neg (by omega), hind]
    exact num_put4 h4 (by omega)
  have hp : ∀ l, S l = true → ptr (inV p V x b k) x l = ptr V x l := by
    intro l hl
    have hlk : l ≠ k := fun hh => by rw [hh, hSc] at hl; cases hl
    unfold ptr
    by_cases h1 : l = 200
    · rw [if_pos h1, if_pos h1]
    · rw [if_neg h1, if_neg h1]
      by_cases h2 : l < 10
      · rw [if_pos h2, if_pos h2]
      · rw [if_neg h2, if_neg h2, hind, num_put4_other h4 (by omega), hindV]
  have hne : ∀ j y T l, nd j = some (y, T) → T l = true → (j ≠ i ∨ l ≠ 200) → ptr V y l ≠ x.bl.getD 10 0 := fun j y T l hj hl hne he => by
    have := h.inj j y T l i x S 200 hj hl hi h200 (by rw [ptr_200]; exact he)
    rcases hne with h1 | h1
    · exact h1 this.1
    · exact h1 this.2
  have hheld : ∀ j y T l, nd j = some (y, T) → T l = true → (j ≠ i ∨ l ≠ 200) → inV p V x b k (ptr V y l) = V (ptr V y l) := fun j y T l hj hl hh => by
    rw [hoth _ (hne j y T l hj hl hh)]
    exact frV_held h ho hb hd hj hl
  refine ⟨⟨?_, ⟨fun v hv => ?_, fun v h1 h2 => ?_, fun j y T l hji hj hl => hheld j y T l hj hl (.inl hji)⟩, rfl, rfl, fun l h1 _ => hp l h1, fun l h0 h1 h2 => hheld i x S l hi h1 (.inr h0)⟩, hpc, ?_⟩
  · refine h.add hi hb hd hdat hfx hS (.inl hk2) (fun _ _ => h200) hSc (wr_len hlen _ (by rw [put4_length]; exact hlen _)) (fun l hl => ?_) (fun l hl => ?_) hp hpc (fun j y T l hji hj hl => ?_)
    · have := ho.mapAt hl
      rw [← frV_dig ho h.len hb hl]
      unfold dig
      rw [hoth _ (by omega)]
    · have h1 := ho.apart
      have h2 := ho.i2
      have h3 := ho.tbl
      refine Eq.trans ?_ (frV_imap ho hb hl)
      unfold dig
      rw [hoth _ (by omega)]
    · exact ptrs_congr (h.sok j y T hj) (fun h2 => by have := hheld j y T 200 hj h2 (.inl hji); rwa [ptr_200] at this) hl
  · have h3 := ho.tbl
    rw [hoth _ (by omega)]
    exact (frV_kp h ho hb hd i).lo v hv
  · rw [hoth _ (by omega)]
    exact (frV_kp h ho hb hd i).tab v h1 h2
  · rw [hoth _ (Ne.symm hif)]
    exact frV_new p V b
theorem inV_dig {p : Pl} {V : Nat → Bytes} {nd : NF} (h : Inv p V nd) (ho : PlOk p) {i b k : Nat} {x : Nd} {S : Nat → Bool} (hi : nd i = some (x, S)) (hb : b < p.dc) (h200 : S 200 = true) {l : Nat} (hl : l < p.dc) : dig (inV p V x b k) p.bm l = if l = b then true else dig V p.bm l := by
  have hir := h.rng i x S 200 hi h200
  rw [ptr_200] at hir
  have h1 := ho.mapAt hl
  have h2 := ho.tbda
  rw [← frV_dig ho h.len hb hl]
  unfold dig inV
  rw [wr_other _ _ (by omega)]
def splice (xs : Bytes) (off : Nat) (ys : Bytes) : Bytes := xs.take off ++ ys ++ xs.drop (off + ys.length)
theorem splice_length {xs ys : Bytes} {off : Nat} (h : off + ys.length ≤ xs.length) : (splice xs off ys).length = xs.length := by
  unfold splice
  simp only [List.length_append, List.length_take, List.length_drop]
  omega
theorem splice_getD {xs ys : Bytes} {off : Nat} (h : off + ys.length ≤ xs.length) (i : Nat) : (splice xs off ys).getD i 0 = if off ≤ i ∧ i < off + ys.length then ys.getD (i - off) 0 else xs.getD i 0 := by
  unfold splice
  simp only [List.getD_eq_getElem?_getD, List.getElem?_append, List.length_append, List.length_take, List.getElem?_take, List.getElem?_drop]
  have h1 : min off xs.length = off := by omega
  rw [h1]
  by_cases c1 : i < off
  · rw [if_pos (by omega), if_pos c1, if_pos c1, if_neg (by omega)]
  · by_cases c2 : i < off + ys.length
    · rw [if_pos c2, if_neg c1, if_pos ⟨by omega, c2⟩]
    · rw [if_neg c2, if_neg (by omega), show off + ys.length + (i - (off + ys.length)) = i from by omega]
structure LayR (p : Pl) (V V' : Nat → Bytes) (x : Nd) (lo hi : Nat) (bs : Bytes) : Prop where
  len : Len5 V'
  oth : ∀ b, (∀ k, lo / 512 ≤ k → 512 * k < hi → ptr V x k ≠ b) → V' b = V b
  byt : ∀ k, k < 138 → ∀ j, j < 512 → (∀ l, lo / 512 ≤ l → 512 * l < hi → ptr V x l = ptr V x k → l = k) → (V' (ptr V x k)).getD j 0 = if lo ≤ 512 * k + j ∧ 512 * k + j < hi then bs.getD (512 * k + j - lo) 0 else (V (ptr V x k)).getD j 0
theorem LayR.nil {p : Pl} {V : Nat → Bytes} (h : Len5 V) (x : Nd) (lo : Nat) (bs : Bytes) : LayR p V V x lo lo bs :=
  ⟨h, fun _ _ => rfl, fun k hk j hj _ => by rw [if_neg (by omega)]⟩
theorem LayR.step {p : Pl} {V V1 : Nat → Bytes} {x : Nd} {lo hi m : Nat} {bs : Bytes} (h : LayR p V V1 x lo hi bs) (hlo : lo ≤ hi) (hm : 0 < m) (hm2 : hi % 512 + m ≤ 512) (hb : hi - lo + m ≤ bs.length) (hk : hi / 512 < 138)
    (hinj : ∀ k l, lo / 512 ≤ k → 512 * k < hi + m → lo / 512 ≤ l → 512 * l < hi + m → ptr V x k = ptr V x l → k = l) :
    LayR p V (wr V1 (ptr V x (hi / 512)) (splice (V1 (ptr V x (hi / 512))) (hi % 512) ((bs.drop (hi - lo)).take m))) x lo (hi + m) bs := by
  have hlen : ((bs.drop (hi - lo)).take m).length = m := by rw [List.length_take, List.length_drop]; omega
  have hsp : hi % 512 + ((bs.drop (hi - lo)).take m).length ≤ (V1 (ptr V x (hi / 512))).length := by rw [hlen, h.len]; exact hm2
  refine ⟨wr_len h.len _ (by rw [splice_length hsp, h.len]), fun b hbk => ?_, fun k hk' j hj hu => ?_⟩
  · rw [wr_other _ _ (Ne.symm (hbk (hi / 512) (by omega) (by omega)))]
    exact h.oth b fun k h1 h2 => hbk k h1 (by omega)
  · have hu' := fun l h1 (h2 : 512 * l < hi) => hu l h1 (by omega)
    by_cases he : ptr V x k = ptr V x (hi / 512)
    · have hke := hu (hi / 512) (by omega) (by omega) he.symm
      subst hke
      rw [wr_same, splice_getD hsp, hlen]
      have := h.byt (hi / 512) hk j hj hu'
      by_cases c : hi % 512 ≤ j ∧ j < hi % 512 + m
      · rw [if_pos c, if_pos ⟨by omega, by omega⟩]
        rw [List.getD_eq_getElem?_getD, List.getElem?_take, if_pos (by omega), List.getElem?_drop, List.getD_eq_getElem?_getD]
        congr 2
        omega
      · rw [if_neg c, this]
        by_cases c2 : lo ≤ 512 * (hi / 512) + j ∧ 512 * (hi / 512) + j < hi
        · rw [if_pos c2, if_pos ⟨c2.1, by omega⟩]
        · rw [if_neg c2, if_neg (by omega)]
    · rw [wr_other _ _ he, h.byt k hk' j hj hu']
      have hkne : k ≠ hi / 512 := fun hh => he (by rw [hh])
      by_cases c2 : lo ≤ 512 * k + j ∧ 512 * k + j < hi
      · rw [if_pos c2, if_pos ⟨c2.1, by omega⟩]
      · rw [if_neg c2, if_neg (by omega)]
theorem LayR.stp {p : Pl} {V V' : Nat → Bytes} {nd : NF} {i lo hi : Nat} {x : Nd} {S : Nat → Bool} {bs : Bytes} (h : LayR p V V' x lo hi bs) (hv : Inv p V nd) (ho : PlOk p) (hi' : nd i = some (x, S)) (hlo : lo ≤ hi)
    (hS : ∀ k, lo / 512 ≤ k → 512 * k < hi → S k = true ∧ k < 138) :
    Inv p V' nd ∧ Kp p V V' nd i ∧ (∀ k, k < p.dc → dig V' p.bm k = dig V p.bm k) ∧ (∀ k, S k = true → ptr V' x k = ptr V x k) ∧
      ∀ q, q / 512 < 138 → S (q / 512) = true → fb V' x q = if lo ≤ q ∧ q < hi then bs.getD (q - lo) 0 else fb V x q := by
  have htd := ho.tbda
  have hlow : ∀ b, b < p.da → V' b = V b := fun b hb => h.oth b fun k h1 h2 he => by
    have := hv.rng i x S k hi' (hS k h1 h2).1
    omega
  have hheld : ∀ j y T l, nd j = some (y, T) → T l = true → (j ≠ i ∨ l = 200) → V' (ptr V y l) = V (ptr V y l) := fun j y T l hj hl hne => h.oth _ fun k h1 h2 he => by
    have := hv.inj i x S k j y T l hi' (hS k h1 h2).1 hj hl he
    rcases hne with hne | hne
    · exact hne this.1.symm
    · have := (hS k h1 h2).2
      omega
  have hptr : ∀ j y T l, nd j = some (y, T) → T l = true → ptr V' y l = ptr V y l := fun j y T l hj hl =>
    ptrs_congr (hv.sok j y T hj) (fun h2 => by have := hheld j y T 200 hj h2 (.inr rfl); rwa [ptr_200] at this) hl
  have hdig : ∀ k, k < p.dc → dig V' p.bm k = dig V p.bm k := fun k hk => by
    have := ho.mapAt hk
    unfold dig
    rw [hlow _ (by omega)]
  refine ⟨?_, ⟨fun b hb => hlow b (by have := ho.tbl; omega), fun b _ h2 => hlow b h2, fun j y T l hji hj hl => hheld j y T l hj hl (.inl hji)⟩, hdig, fun k hk => hptr i x S k hi' hk, fun q hq hSq => ?_⟩
  · refine hv.same h.len hdig (fun k hk => ?_) fun j => ?_
    · have h1 := ho.apart
      have h2 := ho.i2
      have h3 := ho.tbl
      unfold dig
      rw [hlow _ (by omega)]
    · cases hj : nd j with
      | none => exact .inl ⟨rfl, rfl⟩
      | some y =>
        obtain ⟨y, T⟩ := y
        exact .inr ⟨y, y, T, rfl, rfl, hv.fits _ _ _ hj, fun k hk => hptr j y T k hj hk⟩
  · unfold fb
    rw [hptr i x S (q / 512) hi' hSq, h.byt (q / 512) hq (q % 512) (by omega) (fun l h1 h2 he => (hv.inj i x S l i x S (q / 512) hi' (hS l h1 h2).1 hi' hSq he).2), show 512 * (q / 512) + q % 512 = q from by omega]
end Go.Proofs.YtdmjkjeoamiedaaGreat
end
section
namespace Go.Proofs.YtdmjkjeoamiedaaGreat
open Go
theorem z54 : zeroOf Tryz.prog 54 = some (#[.int .i64 0, .int .i64 0]) := by kernel_rfl
theorem agg54 : aggOk Tryz.prog 54 2 = true := by kernel_rfl
theorem inStat {s c a : Nat} {p : Pl} {V0 V : Nat → Bytes} {D : List Nat} {op : Bool} {i : Nat} (ho : PlOk p) (hi : i < p.ino) (hd : i = 0 ∨ dig V p.im i = true) : Spec Tryz.prog 24 #[.pointer (some ⟨s, 0, none⟩), nI i] [pt s (stO c a p), pt a (alO c p), TR c p.n V0 V D op] fun F v M => v = .tuple #[.agg #[nI (ldN p V i).kd, nI (ldN p V i).sz], .int .i64 0] ∧ M = [pt s (stO c a p), pt a (alO c p), TR c p.n V0 V D op] ++ F := by
  refine Spec.intro Tryz.func24 rfl rfl fun B F => ?_
  simp only [Tryz.ntmps24, List.cons_append, List.nil_append, env0, Nat.reduceAdd]
  refine .sr ?_
  refine .alloc z54 fun b4 => ?_
  refine .assign (.x (.move (.move ?_)))
  refine .call (hc := Tryz.call65) (sp := inLoad (i := i) (V0 := V0) (V := V) (D := D) (op := op) ho hi hd) (h := ?_)
  rintro _ _ ⟨rfl, rfl⟩
  refine .move ?_
  refine .extract ?_
  refine .extract ?_
  refine .allocL zNd rfl fun b6 => ?_
  refine .stLA (xs := ndL nd0) (us := ndL (ldN p V i)) ?_ agg127 (ndL_length (ldB_fits _ _).bl) rfl (ndL_single _)
  refine .assign (.x ?_)
  refine .fa ?_ fo127_0
  refine .ldL (xs := ndL (ldN p V i)) (i := 0) (v := nI (ldN p V i).kd) ?_ sc3 rfl
  refine .fa ?_ fo127_1
  refine .ldL (xs := ndL (ldN p V i)) (i := 1) (v := nI (ldN p V i).sz) ?_ sc3 rfl
  refine .build ?_ (bdStat _ _)
  refine .move ?_
  refine .stV ?_ agg54
  refine .assign (.z ?_)
  refine .ret (?_)
  exact .ret2 (h2 := .tmp (t := 5) rfl) ⟨_, ⟨rfl, rfl⟩, Am.auto⟩
theorem inStatNo {s c a : Nat} {p : Pl} {V0 V : Nat → Bytes} {D : List Nat} {op : Bool} {i : Int} (ho : PlOk p) (hno : ¬ (0 ≤ i ∧ i < p.ino ∧ (i = 0 ∨ dig V p.im i.toNat = true))) : Spec Tryz.prog 24 #[.pointer (some ⟨s, 0, none⟩), .int .i64 i] [pt s (stO c a p), pt a (alO c p), TR c p.n V0 V D op] fun F v M => v = .tuple #[.agg #[nI 0, nI 0], .int .i64 4] ∧ M = [pt s (stO c a p), pt a (alO c p), TR c p.n V0 V D op] ++ F := by
  refine Spec.intro Tryz.func24 rfl rfl fun B F => ?_
  simp only [Tryz.ntmps24, List.cons_append, List.nil_append, env0, Nat.reduceAdd]
  refine .sr ?_
  refine .alloc z54 fun b4 => ?_
  refine .assign (.x (.move (.move ?_)))
  refine .call (hc := Tryz.call65) (sp := inLoadNo (i := i) (V0 := V0) (V := V) (D := D) (op := op) ho hno) (h := ?_)
  rintro _ _ ⟨rfl, rfl⟩
  refine .move ?_
  refine .extract ?_
  refine .extract ?_
  refine .allocL zNd rfl fun b6 => ?_
  refine .stLA (xs := ndL nd0) (us := ndL nd0) ?_ agg127 (ndL_length rfl) rfl (ndL_single _)
  refine .assign (.x ?_)
  refine .fa ?_ fo127_0
  refine .ldL (xs := ndL nd0) (i := 0) (v := nI nd0.kd) ?_ sc3 rfl
  refine .fa ?_ fo127_1
  refine .ldL (xs := ndL nd0) (i := 1) (v := nI nd0.sz) ?_ sc3 rfl
  refine .build ?_ (bdStat _ _)
  refine .move ?_
  refine .stV ?_ agg54
  refine .assign (.z ?_)
  refine .ret (?_)
  exact .ret2 (h2 := .tmp (t := 5) rfl) ⟨_, ⟨rfl, rfl⟩, Am.auto⟩
theorem inFormat {s c a : Nat} {p : Pl} {V0 V : Nat → Bytes} {D : List Nat} (ho : PlOk p) (hroom : Room D) : Spec Tryz.prog 34 #[.pointer (some ⟨s, 0, none⟩)] [pt s (stO c a p), TR c p.n V0 V D true] fun F v M => v = okV ∧ M = [pt s (stO c a p), TR c p.n V0 (svV p V 0 ⟨2, 0, List.replicate 11 0⟩) (insD D (p.tb + 0 / 8)) true] ++ F := by
  refine Spec.intro Tryz.func34 rfl rfl fun B F => ?_
  simp only [Tryz.ntmps34, List.cons_append, List.nil_append, env0, Nat.reduceAdd]
  refine .sr (.assign (.z (.seq (.sr (.move ?_)))))
  refine .call (hc := Tryz.call86) (sp := inReady (n := p.n) (V0 := V0) (V := V) (D := D) (op := true)) (h := ?_)
  rintro _ _ ⟨rfl, rfl⟩
  simp only [List.cons_append, List.nil_append]
  refine .not ?_
  refine .z ?_
  refine .condF rfl rfl ?_
  refine .skip (.next (.sr (.move ?_)))
  refine .build ?_ (bdNdK 2)
  refine .call (hc := Tryz.call87) (sp := inSave (i := 0) (x := ⟨2, 0, List.replicate 11 0⟩) (V0 := V0) (V := V) (D := D) ho ho.i1 ⟨rfl, by decide⟩ hroom) (h := ?_)
  rintro _ _ ⟨rfl, rfl⟩
  refine .assign (.z ?_)
  refine .ret (?_)
  exact .ret1 (h1 := .tmp (t := 2) rfl) ⟨_, ⟨rfl, rfl⟩, Am.auto⟩
theorem kFits {k : Nat} (h : k < 4294967296) : Fits ⟨k, 0, List.replicate 11 0⟩ := ⟨rfl, fun v hv => by
  simp only [Nd.nums, List.mem_cons, List.mem_replicate] at hv
  rcases hv with rfl | rfl | ⟨_, rfl⟩
  · exact h
  · decide
  · decide⟩
def mkD (p : Pl) (D : List Nat) (i : Nat) : List Nat := insD (insD D (p.im + i / 4096)) (p.tb + i / 8)
theorem PlOk.lo {p : Pl} (h : PlOk p) : 245 ≤ p.im ∧ p.im < p.bm ∧ p.bm < p.tb ∧ p.tb < p.da ∧ p.da < p.n ∧ p.n ≤ 65536 := by
  have h1 := h.aI.lo; have h2 := h.apart; have h3 := h.tbl; have h4 := h.d1; have h5 := h.tbda; have h6 := h.dat; have h7 := h.aI.n2
  omega
theorem mkD_ok {p : Pl} {D : List Nat} (ho : PlOk p) (hd : Dk p D) {i : Nat} (hi : i < p.ino) : Dk p (mkD p D i) ∧ wt p (mkD p D i) ≤ wt p D + 1 := by
  have h1 := ho.lo; have h2 := ho.i2; have h3 := ho.tab
  have e1 := wt_ins p D (p.im + i / 4096)
  have e2 := wt_ins p (insD D (p.im + i / 4096)) (p.tb + i / 8)
  have e3 := e1.2.1 (by omega)
  exact ⟨(hd.ins (by omega) (by omega)).ins (by omega) (by omega), by unfold mkD; omega⟩
theorem inMake {s c a : Nat} {p : Pl} {V0 V : Nat → Bytes} {D : List Nat} {k : Nat} (ho : PlOk p) (hk : k = 1 ∨ k = 2) (hdk : Dk p D) (hrm : Rm p D 1) : Spec Tryz.prog 35 #[.pointer (some ⟨s, 0, none⟩), nI k] [pt s (stO c a p), pt a (alO c p), TR c p.n V0 V D true] fun F v M =>
    (∃ i, i < p.ino ∧ dig V p.im i = false ∧ (∀ j < i, dig V p.im j = true) ∧ v = .tuple #[nI i, .int .i64 0] ∧ M = [pt s (stO c a p), pt a (alO c p), TR c p.n V0 (svV p (setD V p.im i true) i ⟨k, 0, List.replicate 11 0⟩) (mkD p D i) true] ++ F) ∨
    ((∀ j < p.ino, dig V p.im j = true) ∧ v = .tuple #[nI 0, .int .i64 3] ∧ M = [pt s (stO c a p), pt a (alO c p), TR c p.n V0 V D true] ++ F) := by
  refine Spec.intro Tryz.func35 rfl rfl fun B F => ?_
  simp only [Tryz.ntmps35, List.cons_append, List.nil_append, env0, Nat.reduceAdd]
  have hlo := ho.lo
  have hi2 := ho.i2
  rcases hk with rfl | rfl
  · refine .sr (.assign (.assign (.z (.seq (.block (.sr (.move ?_)))))))
    refine .call (hc := Tryz.call86) (sp := inReady (n := p.n) (V0 := V0) (V := V) (D := D) (op := true)) (h := ?_)
    rintro _ _ ⟨rfl, rfl⟩
    simp only [List.cons_append, List.nil_append]
    refine .not ?_
    refine .assign (.z ?_)
    refine .condF rfl rfl ?_
    refine .sr (.move ?_)
    refine .nei ?_
    refine .move ?_
    refine .gF ?_
    refine .gF ?_
    refine .pickF ?_
    refine .assign (.z ?_)
    refine .condF rfl rfl ?_
    refine .skip (.blockNormal (.next (.sr (.move ?_))))
    refine .nilCheck ?_
    refine .fa ?_ fo158_1
    refine .ld ?_ sc25
    refine .call (hc := Tryz.call88) (sp := alTakeInode (p := p) (V0 := V0) (V := V) (D := D) ho (hdk.room (c := 0) hrm)) (h := ?_)
    rintro _ _ (⟨j, hj, hj0, hjb, rfl, rfl⟩ | ⟨hall, rfl, rfl⟩) <;> simp only [List.cons_append, List.nil_append]
    · refine .move ?_
      refine .extract ?_
      refine .extract ?_
      refine .assign (.assign (.z (.seq (.sr (.move ?_)))))
      refine .nei ?_
      refine .z ?_
      refine .condF rfl rfl ?_
      refine .skip (.next (.seq (.sr (.move (.move (.move ?_))))))
      refine .build ?_ (bdNdK 1)
      refine .call (hc := Tryz.call87) (sp := inSave (i := j) (x := ⟨1, 0, List.replicate 11 0⟩) (V0 := V0) (V := setD V p.im j true) (D := insD D (p.im + j / 4096)) ho hj (kFits (by decide)) ((hdk.ins (by omega) (by omega)).room (c := 0) (hrm.mono (by have := (wt_ins p D (p.im + j / 4096)).2.1 (by omega); omega)))) (h := ?_)
      rintro _ _ ⟨rfl, rfl⟩
      simp only [List.cons_append, List.nil_append]
      refine .assign (.x (.move ?_))
      refine .nei ?_
      refine .z ?_
      refine .condF rfl rfl ?_
      refine .skip (.next (.sr (.move (.assign (.assign (.z ?_))))))
      refine .ret (?_)
      exact .ret2 (h1 := .tmp (t := 4) rfl) (h2 := .tmp (t := 5) rfl) ⟨_, .inl ⟨j, hj, hj0, hjb, rfl, rfl⟩, Am.auto⟩
    · refine .move ?_
      refine .extract ?_
      refine .extract ?_
      refine .assign (.assign (.z (.seq (.sr (.move ?_)))))
      refine .nei ?_
      refine .z ?_
      refine .condT rfl rfl ?_
      refine .sr (.move (.assign (.assign (.z ?_))))
      refine .ret (.thenRet (?_))
      exact .ret2 (h1 := .tmp (t := 4) rfl) (h2 := .tmp (t := 5) rfl) ⟨_, .inr ⟨hall, rfl, rfl⟩, Am.auto⟩
  · refine .sr (.assign (.assign (.z (.seq (.block (.sr (.move ?_)))))))
    refine .call (hc := Tryz.call86) (sp := inReady (n := p.n) (V0 := V0) (V := V) (D := D) (op := true)) (h := ?_)
    rintro _ _ ⟨rfl, rfl⟩
    simp only [List.cons_append, List.nil_append]
    refine .not ?_
    refine .assign (.z ?_)
    refine .condF rfl rfl ?_
    refine .sr (.move ?_)
    refine .nei ?_
    refine .move ?_
    refine .gT ?_
    refine .move ?_
    refine .gT ?_
    refine .nei ?_
    refine .pickT ?_
    refine .assign (.z ?_)
    refine .condF rfl rfl ?_
    refine .skip (.blockNormal (.next (.sr (.move ?_))))
    refine .nilCheck ?_
    refine .fa ?_ fo158_1
    refine .ld ?_ sc25
    refine .call (hc := Tryz.call88) (sp := alTakeInode (p := p) (V0 := V0) (V := V) (D := D) ho (hdk.room (c := 0) hrm)) (h := ?_)
    rintro _ _ (⟨j, hj, hj0, hjb, rfl, rfl⟩ | ⟨hall, rfl, rfl⟩) <;> simp only [List.cons_append, List.nil_append]
    · refine .move ?_
      refine .extract ?_
      refine .extract ?_
      refine .assign (.assign (.z (.seq (.sr (.move ?_)))))
      refine .nei ?_
      refine .z ?_
      refine .condF rfl rfl ?_
      refine .skip (.next (.seq (.sr (.move (.move (.move ?_))))))
      refine .build ?_ (bdNdK 2)
      refine .call (hc := Tryz.call87) (sp := inSave (i := j) (x := ⟨2, 0, List.replicate 11 0⟩) (V0 := V0) (V := setD V p.im j true) (D := insD D (p.im + j / 4096)) ho hj (kFits (by decide)) ((hdk.ins (by omega) (by omega)).room (c := 0) (hrm.mono (by have := (wt_ins p D (p.im + j / 4096)).2.1 (by omega); omega)))) (h := ?_)
      rintro _ _ ⟨rfl, rfl⟩
      simp only [List.cons_append, List.nil_append]
      refine .assign (.x (.move ?_))
      refine .nei ?_
      refine .z ?_
      refine .condF rfl rfl ?_
      refine .skip (.next (.sr (.move (.assign (.assign (.z ?_))))))
      refine .ret (?_)
      exact .ret2 (h1 := .tmp (t := 4) rfl) (h2 := .tmp (t := 5) rfl) ⟨_, .inl ⟨j, hj, hj0, hjb, rfl, rfl⟩, Am.auto⟩
    · refine .move ?_
      refine .extract ?_
      refine .extract ?_
      refine .assign (.assign (.z (.seq (.sr (.move ?_)))))
      refine .nei ?_
      refine .z ?_
      refine .condT rfl rfl ?_
      refine .sr (.move (.assign (.assign (.z ?_))))
      refine .ret (.thenRet (?_))
      exact .ret2 (h1 := .tmp (t := 4) rfl) (h2 := .tmp (t := 5) rfl) ⟨_, .inr ⟨hall, rfl, rfl⟩, Am.auto⟩
theorem inBlock {s c a : Nat} {p : Pl} {V0 V : Nat → Bytes} {D : List Nat} {op : Bool} {x : Nd} {k : Nat} (hbl : x.bl.length = 11) (hk : k < 138) (hV : 10 ≤ k → 245 ≤ x.bl.getD 10 0 ∧ x.bl.getD 10 0 < p.n) : Spec Tryz.prog 121 #[.pointer (some ⟨s, 0, none⟩), ndV x, nI k] [pt s (stO c a p), TR c p.n V0 V D op] fun F v M => v = .tuple #[nI (ptr V x k), .int .i64 0] ∧ M = [pt s (stO c a p), TR c p.n V0 V D op] ++ F := by
  refine Spec.intro Tryz.func121 rfl rfl fun B F => ?_
  simp only [Tryz.ntmps121, List.cons_append, List.nil_append, env0, Nat.reduceAdd]
  by_cases h10 : k < 10
  · refine .sr ?_
    refine .boxL (us := ndL x) fun b4 => ?_
    refine .assign (.assign (.z (.seq (.sr (.move ?_)))))
    refine .lss ?_
    refine .z ?_
    refine .condT rfl (congrArg Value.bool (by first | (simp; done) | (simp; omega) | omega)) ?_
    refine .sr (.move ?_)
    refine .fa ?_ fo127_2
    refine .idxA ?_ ar125
    refine .ldL (xs := ndL x) (i := 0 + 2 + ((k : Nat) : Int).toNat * 1) (v := nI (x.bl.getD k 0)) ?_ sc3 (by rw [show 0 + 2 + ((k : Nat) : Int).toNat * 1 = 2 + k from by omega]; exact ndL_bl (by omega))
    refine .assign (.assign (.z ?_))
    refine .ret (.thenRet (?_))
    exact .ret2 (h1 := .tmp (t := 6) rfl) (h2 := .tmp (t := 7) rfl) ⟨_, ⟨by unfold ptr; rw [if_neg (by omega), if_pos h10], rfl⟩, Am.auto⟩
  · obtain ⟨hV1, hV2⟩ := hV (by omega)
    refine .sr ?_
    refine .boxL (us := ndL x) fun b4 => ?_
    refine .assign (.assign (.z (.seq (.sr (.move ?_)))))
    refine .lss ?_
    refine .z ?_
    refine .condF rfl (congrArg Value.bool (by first | (simp; done) | (simp; omega) | omega)) ?_
    refine .skip (.next (.seq ?_))
    refine .dr ([pt s (stO c a p), row b4 127 (ndL x)]) [] 13 mixed .autoJ ?_
    refine .tk 0 rfl .move ?_
    refine .tk 1 rfl .nilCheck ?_
    refine .tk 2 rfl (.fa fo158_0) ?_
    refine .tk 3 rfl (.ld sc24) ?_
    refine .tk 4 rfl (.fa fo127_2) ?_
    refine .tk 5 rfl (.idxA ar125) ?_
    refine .tk 6 rfl (Qt.ldL (xs := ndL x) (i := 12) (v := nI (x.bl.getD 10 0)) sc3 (ndL_bl (k := 10) (by omega))) ?_
    refine .on 7 rfl fun hnp => ?_
    refine .call (hc := Tryz.call107) (sp := tRead (n := p.n) (V0 := V0) (V := V) (D := D) (op := op) (k := x.bl.getD 10 0) hV1 hV2) (h := ?_)
    rintro _ _ ⟨gb, q, el, rfl, ⟨hq1, hq2, hl5⟩, rfl⟩
    refine .nil (.wa hnp ?_)
    refine .tk 8 rfl .move ?_
    refine .tk 9 rfl .extract ?_
    refine .tk 10 rfl .extract ?_
    refine .tk 11 rfl .assign ?_
    refine .tk 12 rfl .assign ?_
    refine .fin ?_
    refine .next (.sr (.move (.move ?_)))
    refine .sub ?_
    refine .mul ?_
    refine .cast (d := 30) (u := nI (4 * (k - 10))) rfl (congrArg (Value.int .i64) (by omega)) ?_
    refine .call (hc := Tryz.call111) (sp := inGet (q := 4 * (k - 10)) Reads.buf hl5 (by decide) (by omega)) (h := ?_)
    rintro _ _ ⟨rfl, rfl⟩
    refine .move (.assign (.assign (.z ?_)))
    refine .ret (?_)
    exact .ret2 (h1 := .tmp (t := 6) rfl) (h2 := .tmp (t := 7) rfl) ⟨_, ⟨by unfold ptr; rw [if_neg (by omega), if_neg h10]; rfl, rfl⟩, Am.auto⟩
def frD (p : Pl) (D : List Nat) (b : Nat) : List Nat := insD (insD D (p.bm + b / 4096)) (p.da + b)
theorem frD_ok {p : Pl} {D : List Nat} (ho : PlOk p) (hd : Dk p D) {b : Nat} (hb : b < p.dc) : Dk p (frD p D b) ∧ wt p (frD p D b) ≤ wt p D + 1 ∧ (∀ z ∈ D, z ∈ frD p D b) ∧ p.da + b ∈ frD p D b := by
  have h1 := ho.lo; have h2 := ho.mapAt hb; have h3 := ho.dat
  have e1 := (wt_ins p D (p.bm + b / 4096)).2.1 h2
  have e2 := wt_ins p (insD D (p.bm + b / 4096)) (p.da + b)
  refine ⟨(hd.ins (by omega) (by omega)).ins (by omega) (by omega), by unfold frD; omega, fun z hz => ?_, ?_⟩
  · exact mem_insD.2 (.inl (mem_insD.2 (.inl hz)))
  · exact mem_insD.2 (.inr rfl)
theorem inFresh {s c a : Nat} {p : Pl} {V0 V : Nat → Bytes} {D : List Nat} (ho : PlOk p) (hdk : Dk p D) (hrm : Rm p D 1) (hfree : cnt V p.bm p.dc < p.dc) : Spec Tryz.prog 148 #[.pointer (some ⟨s, 0, none⟩)] [pt s (stO c a p), pt a (alO c p), TR c p.n V0 V D true] fun F v M =>
    ∃ b, b < p.dc ∧ dig V p.bm b = false ∧ v = .tuple #[nI (p.da + b), .int .i64 0] ∧ M = [pt s (stO c a p), pt a (alO c p), TR c p.n V0 (frV p V b) (frD p D b) true] ++ F := by
  refine Spec.intro Tryz.func148 rfl rfl fun B F => ?_
  simp only [Tryz.ntmps148, List.cons_append, List.nil_append, env0, Nat.reduceAdd]
  have hlo := ho.lo
  have hdat := ho.dat
  refine .sr (.assign (.assign (.x (.move ?_))))
  refine .nilCheck ?_
  refine .fa ?_ fo158_1
  refine .ld ?_ sc25
  refine .call (hc := Tryz.call169) (sp := alTakeBlock (p := p) (V0 := V0) (V := V) (D := D) ho (hdk.room (c := 0) hrm)) (h := ?_)
  rintro _ _ (⟨k, hk, hk0, hkb, rfl, rfl⟩ | ⟨hall, rfl, rfl⟩) <;> simp only [List.cons_append, List.nil_append]
  · refine .move ?_
    refine .extract ?_
    refine .extract ?_
    refine .assign (.assign (.z (.seq (.sr (.move ?_)))))
    refine .nei ?_
    refine .z ?_
    refine .condF rfl rfl ?_
    refine .skip (.next (.seq ?_))
    have hmp := ho.mapAt hk
    have hroom2 : (insD D (p.bm + k / 4096)).length < 60 := (hdk.ins (by omega) (by omega)).room (c := 0) (hrm.mono (by have := (wt_ins p D (p.bm + k / 4096)).2.1 (by omega); omega))
    refine .dr ([pt s (stO c a p)]) [] 10 mixed .autoJ ?_
    refine .tk 0 rfl .move ?_
    refine .tk 1 rfl .move ?_
    refine .tk 2 rfl .nilCheck ?_
    refine .tk 3 rfl (.fa fo158_0) ?_
    refine .tk 4 rfl (.ld sc24) ?_
    refine .tk 5 rfl .move ?_
    refine .on 6 rfl fun hnp => ?_
    refine .mkSN 512 z5 so91 (by decide) (by decide) fun b23 => ?_
    refine .to (A := buf b23 5 512 (List.replicate 512 (.int .u8 0))) (A' := buf b23 5 512 (bvs zeros)) (fun h hh => by rw [zeros, bvs_replicate]; exact hh) ?_
    refine .nil (.wa hnp ?_)
    refine .on 7 rfl fun hnp => ?_
    refine .call (hc := Tryz.call85) (sp := tWrite (n := p.n) (V0 := V0) (V := setD V p.bm k true) (D := insD D (p.bm + k / 4096)) (k := p.da + k) (by omega) (by omega) Reads.buf zeros_length rfl (.inr hroom2)) (h := ?_)
    rintro _ _ ⟨rfl, rfl⟩
    refine .nil (.wa hnp ?_)
    refine .tk 8 rfl .assign ?_
    refine .tk 9 rfl .assign ?_
    refine .fin ?_
    refine .next ?_
    refine .ret (?_)
    exact .ret2 (h1 := .tmp (t := 2) rfl) (h2 := .tmp (t := 3) rfl) ⟨_, ⟨k, hk, hk0, rfl, rfl⟩, Am.auto⟩
  · exact absurd hfree (by rw [cnt_full hall]; omega)
end Go.Proofs.YtdmjkjeoamiedaaGreat
end
section
namespace Go.Proofs.YtdmjkjeoamiedaaGreat
open Go
structure TakeP (p : Pl) (V V' : Nat → Bytes) (nd : NF) (i : Nat) (x x' : Nd) (D D' : List Nat) (k : Nat) : Prop where
  stp : Stp p V V' nd i x x' (stdS k) (stdS (k + 1))
  cn : cnt V' p.bm p.dc = cnt V p.bm p.dc + (if k = 10 then 2 else 1)
  new : ∀ j, j < 512 → fb V' x' (512 * k + j) = 0
  dk : Dk p D'
  wt : wt p D' + (if 10 < k ∧ x.bl.getD 10 0 ∈ D then 1 else 0) ≤ wt p D + (if k = 10 then 2 else 1) + (if 10 < k then 1 else 0)
  ind : 10 ≤ k → x'.bl.getD 10 0 ∈ D'
theorem fb_new {V : Nat → Bytes} {x : Nd} {k v : Nat} (h : ptr V x k = v) (hv : V v = zeros) {j : Nat} (hj : j < 512) : fb V x (512 * k + j) = 0 := by
  unfold fb
  rw [show (512 * k + j) / 512 = k from by omega, h, hv]
  exact zeros_getD _
theorem takeA {p : Pl} {V : Nat → Bytes} {D : List Nat} {nd : NF} (h : Inv p V nd) (ho : PlOk p) (hdk : Dk p D) {i b k : Nat} {x : Nd} (hi : nd i = some (x, stdS k)) (hk : k < 10) (hb : b < p.dc) (hd : dig V p.bm b = false) :
    TakeP p V (frV p V b) nd i x ⟨x.kd, x.sz, x.bl.set k (p.da + b)⟩ D (frD p D b) k := by
  obtain ⟨h1, h2⟩ := takeDirect (S' := stdS (k + 1)) h ho hi hb hd (.inl ⟨hk, rfl⟩) (fun l => by simp only [stdS_iff]; omega) (by unfold stdS; simp; omega)
  have h3 := frD_ok ho hdk hb
  refine ⟨h1, ?_, fun j hj => fb_new h2 (frV_new p V b) hj, h3.1, ?_, fun hh => by omega⟩
  · rw [if_neg (by omega)]
    exact cnt_true hb hd fun l hl => frV_dig ho h.len hb hl
  · rw [if_neg (by omega), if_neg (by omega), if_neg (by omega)]
    omega
theorem inD_ok {p : Pl} {D : List Nat} (hd : Dk p D) {v : Nat} (h1 : 245 ≤ v) (h2 : v < p.n) : Dk p (insD D v) ∧ wt p (insD D v) ≤ wt p D + 1 ∧ (v ∈ D → wt p (insD D v) = wt p D) ∧ v ∈ insD D v := by
  have := wt_ins p D v
  exact ⟨hd.ins h1 h2, this.1, this.2.2, mem_insD.2 (.inr rfl)⟩
theorem takeFa {p : Pl} {V : Nat → Bytes} {D : List Nat} {nd : NF} (h : Inv p V nd) (ho : PlOk p) (hdk : Dk p D) {i b k : Nat} {x : Nd} (hi : nd i = some (x, stdS k)) (hk : 10 < k) (hk2 : k < 138) (hb : b < p.dc) (hd : dig V p.bm b = false) :
    TakeP p V (inV p V x b k) nd i x x D (insD (frD p D b) (x.bl.getD 10 0)) k := by
  have h200 : stdS k 200 = true := stdS_iff.2 (.inr ⟨rfl, hk⟩)
  obtain ⟨h1, h2, h3⟩ := takeFar (S' := stdS (k + 1)) h ho hi hb hd (by omega) hk2 h200 (fun l => by simp only [stdS_iff]; omega) (by unfold stdS; simp; omega)
  have hlo := ho.lo
  have hr := h.rng i x _ 200 hi h200
  rw [ptr_200] at hr
  have h4 := frD_ok ho hdk hb
  have h5 := inD_ok h4.1 (v := x.bl.getD 10 0) (by omega) hr.2
  refine ⟨h1, ?_, fun j hj => fb_new h2 h3 hj, h5.1, ?_, fun _ => h5.2.2.2⟩
  · rw [if_neg (by omega)]
    exact cnt_true hb hd fun l hl => inV_dig h ho hi hb h200 hl
  · rw [if_neg (show ¬ k = 10 by omega), if_pos hk]
    split
    · rename_i hc
      have := h5.2.2.1 (h4.2.2.1 _ hc.2)
      omega
    · omega
def sInd (k : Nat) : Nat → Bool := fun l => decide (l < k) || decide (l = 200)
theorem takeB {p : Pl} {V : Nat → Bytes} {D : List Nat} {nd : NF} (h : Inv p V nd) (ho : PlOk p) (hdk : Dk p D) {i b1 b2 : Nat} {x x1 : Nd} (hi : nd i = some (x, stdS 10)) (hx1 : x1 = ⟨x.kd, x.sz, x.bl.set 10 (p.da + b1)⟩) (hb : b1 < p.dc) (hd : dig V p.bm b1 = false)
    (hb2 : b2 < p.dc) (hd2 : dig (frV p V b1) p.bm b2 = false) :
    TakeP p V (inV p (frV p V b1) x1 b2 10) nd i x x1 D (insD (frD p (frD p D b1) b2) (x1.bl.getD 10 0)) 10 := by
  subst hx1
  have hfx := h.fits i x _ hi
  have hd10 : (x.bl.set 10 (p.da + b1)).getD 10 0 = p.da + b1 := getD_set_same (by rw [hfx.bl]; decide)
  obtain ⟨s1, s2⟩ := takeDirect (S' := sInd 10) (c := 200) (k := 10) h ho hi hb hd (.inr ⟨rfl, rfl, fun l hl => by have := stdS_iff.1 hl; omega⟩) (fun l => by simp only [stdS_iff, sInd, Bool.or_eq_true, decide_eq_true_eq]; omega) (by unfold stdS; simp)
  have hi1 : updF nd i (some (⟨x.kd, x.sz, x.bl.set 10 (p.da + b1)⟩, sInd 10)) i = some (⟨x.kd, x.sz, x.bl.set 10 (p.da + b1)⟩, sInd 10) := updF_same ..
  have h200 : sInd 10 200 = true := by unfold sInd; simp
  obtain ⟨t1, t2, t3⟩ := takeFar (S' := stdS 11) (k := 10) s1.inv ho hi1 hb2 hd2 (by omega) (by omega) h200 (fun l => by simp only [stdS_iff, sInd, Bool.or_eq_true, decide_eq_true_eq]; omega) (by unfold sInd; simp)
  have h4 := frD_ok ho hdk hb
  have h5 := frD_ok ho h4.1 hb2
  have hlo := ho.lo
  have hdat := ho.dat
  have h6 := inD_ok h5.1 (v := p.da + b1) (by omega) (by omega)
  refine ⟨Stp.trans h s1 t1 (fun l h1 _ => by have := stdS_iff.1 h1; unfold sInd; simp; omega), ?_, fun j hj => fb_new t2 t3 hj, ?_, ?_, fun _ => ?_⟩
  · rw [if_pos rfl]
    have e1 : cnt (frV p V b1) p.bm p.dc = cnt V p.bm p.dc + 1 := cnt_true hb hd fun l hl => frV_dig ho h.len hb hl
    have e2 : cnt (inV p (frV p V b1) ⟨x.kd, x.sz, x.bl.set 10 (p.da + b1)⟩ b2 10) p.bm p.dc = cnt (frV p V b1) p.bm p.dc + 1 := cnt_true hb2 hd2 fun l hl => inV_dig s1.inv ho hi1 hb2 h200 hl
    omega
  · show Dk p (insD (frD p (frD p D b1) b2) ((x.bl.set 10 (p.da + b1)).getD 10 0))
    rw [hd10]; exact h6.1
  · show Go.Proofs.YtdmjkjeoamiedaaGreat.wt p (insD (frD p (frD p D b1) b2) ((x.bl.set 10 (p.da + b1)).getD 10 0)) + _ ≤ _
    rw [hd10, if_neg (by omega), if_pos rfl, if_neg (by omega), h6.2.2.1 (h5.2.2.1 _ h4.2.2.2)]
    omega
  · show (x.bl.set 10 (p.da + b1)).getD 10 0 ∈ insD (frD p (frD p D b1) b2) ((x.bl.set 10 (p.da + b1)).getD 10 0)
    rw [hd10]; exact h6.2.2.2
theorem frV_cnt {p : Pl} {V : Nat → Bytes} (ho : PlOk p) (h5 : Len5 V) {b : Nat} (hb : b < p.dc) (hd : dig V p.bm b = false) : cnt (frV p V b) p.bm p.dc = cnt V p.bm p.dc + 1 := cnt_true hb hd fun l hl => frV_dig ho h5 hb hl
theorem inTake {s c a : Nat} {p : Pl} {V0 V : Nat → Bytes} {D : List Nat} {nd : NF} {i b k : Nat} {x : Nd} (h : Inv p V nd) (ho : PlOk p) (hi : nd i = some (x, stdS k)) (hk : k < 138) (hdk : Dk p D) (hrm : Rm p D 3) (hfree : cnt V p.bm p.dc + (if k = 10 then 2 else 1) ≤ p.dc) :
    Spec Tryz.prog 124 #[.pointer (some ⟨s, 0, none⟩), .pointer (some ⟨b, 0, none⟩), nI k] [pt s (stO c a p), pt a (alO c p), TR c p.n V0 V D true, row b 127 (ndL x)] fun F v M => ∃ x' V' D', TakeP p V V' nd i x x' D D' k ∧ v = okV ∧ M = [pt s (stO c a p), pt a (alO c p), TR c p.n V0 V' D' true, row b 127 (ndL x')] ++ F := by
  refine Spec.intro Tryz.func124 rfl rfl fun B F => ?_
  simp only [Tryz.ntmps124, List.cons_append, List.nil_append, env0, Nat.reduceAdd]
  have hlo := ho.lo
  have hdat := ho.dat
  have hfx := h.fits i x _ hi
  have hbl := hfx.bl
  rcases (show k < 10 ∨ k = 10 ∨ 10 < k from by omega) with hc | hc | hc
  · rw [if_neg (by omega)] at hfree
    refine .sr (.assign (.z (.seq (.sr (.move ?_)))))
    refine .eqi ?_
    refine .z ?_
    refine .condF rfl (congrArg Value.bool (by first | (simp; done) | (simp; omega) | omega)) ?_
    refine .skip (.next (.sr (.move ?_)))
    refine .call (hc := Tryz.call148) (sp := inFresh (V0 := V0) (V := V) (D := D) ho hdk (hrm.mono (by omega)) (by omega)) (h := ?_)
    rintro _ _ ⟨q, hq, hqd, rfl, rfl⟩
    simp only [List.cons_append, List.nil_append]
    refine .move ?_
    refine .extract ?_
    refine .extract ?_
    refine .assign (.assign (.z (.seq (.sr (.move ?_)))))
    refine .nei ?_
    refine .z ?_
    refine .condF rfl rfl ?_
    refine .skip (.next (.seq (.sr (.move ?_))))
    refine .lss ?_
    refine .z ?_
    refine .condT rfl (congrArg Value.bool (by first | (simp; done) | (simp; omega) | omega)) ?_
    refine .sr (.move (.move (.move ?_)))
    refine .nilCheck ?_
    refine .fa ?_ fo127_2
    refine .idxA ?_ ar125
    refine .stL (xs := ndL x) (i := 0 + 2 + ((k : Nat) : Int).toNat * 1) ?_ sc3 (by rw [ndL_length hbl]; omega)
    refine .to (A := row b 127 ((ndL x).set (0 + 2 + ((k : Nat) : Int).toNat * 1) (nI (p.da + q)))) (A' := row b 127 (ndL ⟨x.kd, x.sz, x.bl.set k (p.da + q)⟩)) (fun h hh => by rw [show 0 + 2 + ((k : Nat) : Int).toNat * 1 = 2 + k from by omega, ndL_set] at hh; exact hh) ?_
    refine .x (.assign (.z ?_))
    refine .ret (.thenRet (?_))
    exact .ret1 (h1 := .tmp (t := 6) rfl) ⟨_, ⟨_, _, _, takeA h ho hdk hi hc hq hqd, rfl, rfl⟩, Am.auto⟩
  · subst hc
    rw [if_pos rfl] at hfree
    refine .sr (.assign (.z (.seq (.sr (.move ?_)))))
    refine .eqi ?_
    refine .z ?_
    refine .condT rfl (congrArg Value.bool (by first | (simp; done) | (simp; omega) | omega)) ?_
    refine .sr (.move ?_)
    refine .call (hc := Tryz.call148) (sp := inFresh (V0 := V0) (V := V) (D := D) ho hdk (hrm.mono (by omega)) (by omega)) (h := ?_)
    rintro _ _ ⟨q, hq, hqd, rfl, rfl⟩
    simp only [List.cons_append, List.nil_append]
    refine .move ?_
    refine .extract ?_
    refine .extract ?_
    refine .assign (.assign (.z (.seq (.sr (.move ?_)))))
    refine .nei ?_
    refine .z ?_
    refine .condF rfl rfl ?_
    refine .skip (.next (.region (.move (.move ?_))))
    refine .nilCheck ?_
    refine .fa ?_ fo127_2
    refine .idxA ?_ ar125
    refine .stL (xs := ndL x) (i := 12) ?_ sc3 (by rw [ndL_length hbl]; omega)
    refine .to (A := row b 127 ((ndL x).set 12 (nI (p.da + q)))) (A' := row b 127 (ndL ⟨x.kd, x.sz, x.bl.set 10 (p.da + q)⟩)) (fun h hh => by rw [show 12 = 2 + 10 from rfl, ndL_set] at hh; exact hh) ?_
    refine .x (.move ?_)
    have hD1 := frD_ok ho hdk hq
    have hcn := frV_cnt ho h.len hq hqd
    refine .call (hc := Tryz.call148) (sp := inFresh (V0 := V0) (V := frV p V q) (D := frD p D q) ho hD1.1 (hrm.mono (by omega)) (by omega)) (h := ?_)
    rintro _ _ ⟨r, hr, hrd, rfl, rfl⟩
    simp only [List.cons_append, List.nil_append]
    refine .move ?_
    refine .extract ?_
    refine .extract ?_
    refine .assign (.assign (.z (.seq (.sr (.move ?_)))))
    refine .nei ?_
    refine .z ?_
    refine .condF rfl rfl ?_
    refine .skip (.next (.seq (.sr (.move ?_))))
    refine .lss ?_
    refine .z ?_
    refine .condF rfl (congrArg Value.bool (by first | (simp; done) | (simp; omega) | omega)) ?_
    refine .skip (.next (.seq ?_))
    have hD2 := frD_ok ho hD1.1 hr
    have hroom : Room (frD p (frD p D q) r) := hD2.1.room (c := 0) (hrm.mono (by omega))
    refine .dr ([pt s (stO c a p), row b 127 (ndL (⟨x.kd, x.sz, x.bl.set 10 (p.da + q)⟩ : Nd))]) [] 15 mixed .autoJ ?_
    refine .tk 0 rfl .move ?_
    refine .tk 1 rfl .nilCheck ?_
    refine .tk 2 rfl (.fa fo158_0) ?_
    refine .tk 3 rfl (.ld sc24) ?_
    refine .tk 4 rfl .move ?_
    refine .tk 5 rfl .nilCheck ?_
    refine .tk 6 rfl (.fa fo127_2) ?_
    refine .tk 7 rfl (.idxA ar125) ?_
    refine .tk 8 rfl (Qt.ldL (xs := ndL (⟨x.kd, x.sz, x.bl.set 10 (p.da + q)⟩ : Nd)) (i := 12) (v := nI (p.da + q)) sc3 (by have := ndL_bl (x := (⟨x.kd, x.sz, x.bl.set 10 (p.da + q)⟩ : Nd)) (k := 10) (by simp [hbl]); rw [show ((⟨x.kd, x.sz, x.bl.set 10 (p.da + q)⟩ : Nd)).bl.getD 10 0 = p.da + q from getD_set_same (by omega)] at this; exact this)) ?_
    refine .on 9 rfl fun hnp => ?_
    refine .call (hc := Tryz.call107) (sp := tRead (n := p.n) (V0 := V0) (V := frV p (frV p V q) r) (D := frD p (frD p D q) r) (op := true) (k := p.da + q) (by omega) (by omega)) (h := ?_)
    rintro _ _ ⟨gb, kb, el, rfl, ⟨hq1, hq2, hl5⟩, rfl⟩
    refine .nil (.wa hnp ?_)
    refine .tk 10 rfl .move ?_
    refine .tk 11 rfl .extract ?_
    refine .tk 12 rfl .extract ?_
    refine .tk 13 rfl .assign ?_
    refine .tk 14 rfl .assign ?_
    refine .fin ?_
    refine .next (.seq (.sr (.move ?_)))
    refine .nei ?_
    refine .z ?_
    refine .condF rfl rfl ?_
    refine .skip (.next (.seq ?_))
    refine .dr ([pt s (stO c a p), row b 127 (ndL (⟨x.kd, x.sz, x.bl.set 10 (p.da + q)⟩ : Nd))]) [] 17 mixed .autoJ ?_
    refine .tk 0 rfl .move ?_
    refine .tk 1 rfl .nilCheck ?_
    refine .tk 2 rfl (.fa fo158_0) ?_
    refine .tk 3 rfl (.ld sc24) ?_
    refine .tk 4 rfl .move ?_
    refine .tk 5 rfl .nilCheck ?_
    refine .tk 6 rfl (.fa fo127_2) ?_
    refine .tk 7 rfl (.idxA ar125) ?_
    refine .tk 8 rfl (Qt.ldL (xs := ndL (⟨x.kd, x.sz, x.bl.set 10 (p.da + q)⟩ : Nd)) (i := 12) (v := nI (p.da + q)) sc3 (by have := ndL_bl (x := (⟨x.kd, x.sz, x.bl.set 10 (p.da + q)⟩ : Nd)) (k := 10) (by simp [hbl]); rw [show ((⟨x.kd, x.sz, x.bl.set 10 (p.da + q)⟩ : Nd)).bl.getD 10 0 = p.da + q from getD_set_same (by omega)] at this; exact this)) ?_
    refine .tk 9 rfl .move ?_
    refine .tk 10 rfl .move ?_
    refine .tk 11 rfl .sub ?_
    refine .tk 12 rfl ((Qt.mul).eq (v' := nI (4 * (10 - 10))) (congrArg (Value.int .i64) (by omega))) ?_
    refine .tk 13 rfl .move ?_
    refine .on 14 rfl fun hnp => ?_
    refine .call (hc := Tryz.call118) (sp := inPut (q := 4 * (10 - 10)) (v := p.da + r) Reads.buf hl5 (by decide) (by omega) (by omega)) (h := ?_)
    rintro _ _ ⟨gc, kc, ⟨rfl, hc1, hc2⟩, rfl⟩
    refine .nil (.wa hnp ?_)
    refine .on 15 rfl fun hnp => ?_
    refine .call (hc := Tryz.call85) (sp := tWrite (n := p.n) (V0 := V0) (V := frV p (frV p V q) r) (D := frD p (frD p D q) r) (k := p.da + q) (by omega) (by omega) Reads.buf ((put4_length _ _ _).trans hl5) rfl (.inr hroom)) (h := ?_)
    rintro _ _ ⟨rfl, rfl⟩
    refine .nil (.wa hnp ?_)
    refine .tk 16 rfl .assign ?_
    refine .fin ?_
    refine .next ?_
    refine .ret (?_)
    have hd10 : (⟨x.kd, x.sz, x.bl.set 10 (p.da + q)⟩ : Nd).bl.getD 10 0 = p.da + q := getD_set_same (by omega)
    have hT := takeB h ho hdk hi rfl hq hqd hr hrd
    unfold inV at hT
    rw [hd10] at hT
    exact .ret1 (h1 := .tmp (t := 6) rfl) ⟨_, ⟨_, _, _, hT, rfl, rfl⟩, Am.auto⟩
  · rw [if_neg (by omega)] at hfree
    have hir := h.rng i x _ 200 hi (stdS_iff.2 (.inr ⟨rfl, hc⟩))
    rw [ptr_200] at hir
    refine .sr (.assign (.z (.seq (.sr (.move ?_)))))
    refine .eqi ?_
    refine .z ?_
    refine .condF rfl (congrArg Value.bool (by first | (simp; done) | (simp; omega) | omega)) ?_
    refine .skip (.next (.sr (.move ?_)))
    refine .call (hc := Tryz.call148) (sp := inFresh (V0 := V0) (V := V) (D := D) ho hdk (hrm.mono (by omega)) (by omega)) (h := ?_)
    rintro _ _ ⟨q, hq, hqd, rfl, rfl⟩
    simp only [List.cons_append, List.nil_append]
    refine .move ?_
    refine .extract ?_
    refine .extract ?_
    refine .assign (.assign (.z (.seq (.sr (.move ?_)))))
    refine .nei ?_
    refine .z ?_
    refine .condF rfl rfl ?_
    refine .skip (.next (.seq (.sr (.move ?_))))
    refine .lss ?_
    refine .z ?_
    refine .condF rfl (congrArg Value.bool (by first | (simp; done) | (simp; omega) | omega)) ?_
    refine .skip (.next (.seq ?_))
    have hD1 := frD_ok ho hdk hq
    have hroom : Room (frD p D q) := hD1.1.room (c := 0) (hrm.mono (by omega))
    refine .dr ([pt s (stO c a p), row b 127 (ndL x)]) [] 15 mixed .autoJ ?_
    refine .tk 0 rfl .move ?_
    refine .tk 1 rfl .nilCheck ?_
    refine .tk 2 rfl (.fa fo158_0) ?_
    refine .tk 3 rfl (.ld sc24) ?_
    refine .tk 4 rfl .move ?_
    refine .tk 5 rfl .nilCheck ?_
    refine .tk 6 rfl (.fa fo127_2) ?_
    refine .tk 7 rfl (.idxA ar125) ?_
    refine .tk 8 rfl (Qt.ldL (xs := ndL x) (i := 12) (v := nI (x.bl.getD 10 0)) sc3 (ndL_bl (k := 10) (by omega))) ?_
    refine .on 9 rfl fun hnp => ?_
    refine .call (hc := Tryz.call107) (sp := tRead (n := p.n) (V0 := V0) (V := frV p (V) q) (D := frD p (D) q) (op := true) (k := x.bl.getD 10 0) (by omega) (by omega)) (h := ?_)
    rintro _ _ ⟨gb, kb, el, rfl, ⟨hq1, hq2, hl5⟩, rfl⟩
    refine .nil (.wa hnp ?_)
    refine .tk 10 rfl .move ?_
    refine .tk 11 rfl .extract ?_
    refine .tk 12 rfl .extract ?_
    refine .tk 13 rfl .assign ?_
    refine .tk 14 rfl .assign ?_
    refine .fin ?_
    refine .next (.seq (.sr (.move ?_)))
    refine .nei ?_
    refine .z ?_
    refine .condF rfl rfl ?_
    refine .skip (.next (.seq ?_))
    refine .dr ([pt s (stO c a p), row b 127 (ndL x)]) [] 17 mixed .autoJ ?_
    refine .tk 0 rfl .move ?_
    refine .tk 1 rfl .nilCheck ?_
    refine .tk 2 rfl (.fa fo158_0) ?_
    refine .tk 3 rfl (.ld sc24) ?_
    refine .tk 4 rfl .move ?_
    refine .tk 5 rfl .nilCheck ?_
    refine .tk 6 rfl (.fa fo127_2) ?_
    refine .tk 7 rfl (.idxA ar125) ?_
    refine .tk 8 rfl (Qt.ldL (xs := ndL x) (i := 12) (v := nI (x.bl.getD 10 0)) sc3 (ndL_bl (k := 10) (by omega))) ?_
    refine .tk 9 rfl .move ?_
    refine .tk 10 rfl .move ?_
    refine .tk 11 rfl .sub ?_
    refine .tk 12 rfl ((Qt.mul).eq (v' := nI (4 * (k - 10))) (congrArg (Value.int .i64) (by omega))) ?_
    refine .tk 13 rfl .move ?_
    refine .on 14 rfl fun hnp => ?_
    refine .call (hc := Tryz.call118) (sp := inPut (q := 4 * (k - 10)) (v := p.da + q) Reads.buf hl5 (by decide) (by omega) (by omega)) (h := ?_)
    rintro _ _ ⟨gc, kc, ⟨rfl, hc1, hc2⟩, rfl⟩
    refine .nil (.wa hnp ?_)
    refine .on 15 rfl fun hnp => ?_
    refine .call (hc := Tryz.call85) (sp := tWrite (n := p.n) (V0 := V0) (V := frV p (V) q) (D := frD p (D) q) (k := x.bl.getD 10 0) (by omega) (by omega) Reads.buf ((put4_length _ _ _).trans hl5) rfl (.inr hroom)) (h := ?_)
    rintro _ _ ⟨rfl, rfl⟩
    refine .nil (.wa hnp ?_)
    refine .tk 16 rfl .assign ?_
    refine .fin ?_
    refine .next ?_
    refine .ret (?_)
    exact .ret1 (h1 := .tmp (t := 6) rfl) ⟨_, ⟨_, _, _, takeFa h ho hdk hi hc hk hq hqd, rfl, rfl⟩, Am.auto⟩
theorem inLay {s c a : Nat} {p : Pl} {V0 V : Nat → Bytes} {D : List Nat} {nd : NF} {i at' m cc : Nat} {x : Nd} {S : Nat → Bool} {R : HP} {A : Option Addr} {bs : Bytes} (h : Inv p V nd) (ho : PlOk p) (hi : nd i = some (x, S)) (hdk : Dk p D) (hrm : Rm p D ((bs.length + 511) / 512 + 2)) (hR : bs = [] ∨ Reads R A (bvs bs)) (hm : bs.length = m) (hcc : m ≤ cc) (hcb : cc ≤ maxLen)
    (hS : ∀ k, at' / 512 ≤ k → 512 * k < at' + m → S k = true ∧ k < 138) (hat : at' ≤ 70656) (hm2 : m ≤ 70656) :
    Spec Tryz.prog 97 #[.pointer (some ⟨s, 0, none⟩), ndV x, nI at', .slice A m cc] [R, pt s (stO c a p), TR c p.n V0 V D true] fun F v M => ∃ V' D', LayR p V V' x at' (at' + m) bs ∧ (Dk p D' ∧ wt p D' ≤ wt p D + (m + 511) / 512 + 1) ∧ v = okV ∧ M = [R, pt s (stO c a p), TR c p.n V0 V' D' true] ++ F := by
  refine Spec.intro Tryz.func97 rfl rfl fun B F => ?_
  simp only [Tryz.ntmps97, List.cons_append, List.nil_append, env0, Nat.reduceAdd]
  have hlo := ho.lo
  have hdat := ho.dat
  have hfx := h.fits i x _ hi
  have hbl := hfx.bl
  have hrng := fun k hk => h.rng i x S k hi hk
  have hsok := h.sok i x S hi
  have hmx : maxLen = 9223372036854775807 := rfl
  refine .sr ?_
  refine .boxL (us := ndL x) fun b5 => ?_
  refine .assign (.z (.seq (.block ?_)))
  refine .loopA (σ := Nat × Option Addr × Nat × (Nat → Bytes) × List Nat) (fun y => [(0, .pointer (some ⟨s, 0, none⟩)), (2, nI (at' + y.1)), (3, .slice y.2.1 (m - y.1) y.2.2.1), (5, .pointer (some ⟨b5, 0, none⟩))]) (fun y => [row b5 127 (ndL x), R, pt s (stO c a p), TR c p.n V0 y.2.2.2.1 y.2.2.2.2 true] ++ F) (fun y => y.1 ≤ m ∧ (bs.drop y.1 = [] ∨ Reads R y.2.1 (bvs (bs.drop y.1))) ∧ LayR p V y.2.2.2.1 x at' (at' + y.1) bs ∧ Dk p y.2.2.2.2 ∧ (∃ t, wt p y.2.2.2.2 ≤ wt p D + t ∧ ((y.1 = 0 ∧ t = 0) ∨ (y.1 = m ∧ t ≤ (m + 511) / 512 + 1) ∨ ((at' + y.1) % 512 = 0 ∧ t = (at' + y.1) / 512 - at' / 512))) ∧ m - y.1 ≤ y.2.2.1 ∧ y.2.2.1 ≤ maxLen) (fun y => m - y.1) (0, A, cc, V, D) ⟨Nat.zero_le _, by rw [List.drop_zero]; exact hR, LayR.nil h.len x at' bs, hdk, ⟨0, Nat.le_refl _, .inl ⟨rfl, rfl⟩⟩, by show m - 0 ≤ cc; omega, hcb⟩ ?_
  rintro ⟨dn, A1, c1, V1, D1⟩ hy
  obtain ⟨hdn, hA, hlay, hdk1, ⟨t, hw1, ht⟩, hc1, hc2⟩ := hy
  simp only at hdn hA hlay hdk1 hw1 ht hc1 hc2
  refine .seq (.sr (.move ?_))
  refine .lenS ?_ sl91
  refine .gtr ?_
  refine .z ?_
  refine .cond rfl (fun hb => ?_) (fun hb => ?_)
  · have hlt : dn < m := by have := of_decide_eq_true hb; omega
    obtain ⟨hSk, hk138⟩ := hS ((at' + dn) / 512) (by omega) (by omega)
    have hpr := hrng _ hSk
    have hst := hlay.stp h ho hi (by omega) (fun k h1 h2 => hS k h1 (by omega))
    have hpk := hst.2.2.2.1 _ hSk
    have hA0 := hA.resolve_left (by intro h0; have := congrArg List.length h0; simp at this; omega)
    rcases A1 with _ | ⟨ab, ao, asp⟩
    · exact absurd hA0 (fun h0 => by have h2 : bvs (bs.drop dn) = [] := h0; have := congrArg List.length h2; simp [bvs] at this; omega)
    have hsp : asp = none := hA0.1
    subst hsp
    have hV200 : 10 ≤ (at' + dn) / 512 → 245 ≤ x.bl.getD 10 0 ∧ x.bl.getD 10 0 < p.n := fun h10 => by
      have := hrng 200 (hsok.ind _ hSk h10)
      rw [ptr_200] at this
      omega
    obtain ⟨mm, hmm⟩ : ∃ mm, mm = min (m - dn) (512 - (at' + dn) % 512) := ⟨_, rfl⟩
    have hroom : Room D1 := hdk1.room (c := 0) (hrm.mono (by omega))
    have hinj : ∀ k l, at' / 512 ≤ k → 512 * k < at' + dn + mm → at' / 512 ≤ l → 512 * l < at' + dn + mm → ptr V x k = ptr V x l → k = l := fun k l h1 h2 h3 h4 he => (h.inj i x S k i x S l hi (hS k h1 (by omega)).1 hi (hS l h3 (by omega)).1 he).2
    have hstep := hlay.step (m := mm) (by omega) (by omega) (by omega) (by omega) hk138 hinj
    rw [show at' + dn - at' = dn from by omega] at hstep
    have hyl : (bs.drop dn).length = m - dn := by rw [List.length_drop]; omega
    have hpl : ((bs.drop dn).take mm).length = mm := by rw [List.length_take]; omega
    refine .skip (.next (.block (.sr (.move ?_))))
    refine .ldW (xs := ndL x) ?_ agg127 (ndL_length hbl)
    refine .move ?_
    refine .quo ?_
    refine .cast (d := 21) (u := nI ((at' + dn) / 512)) rfl (congrArg (Value.int .i64) (by omega)) ?_
    refine .call (hc := Tryz.call121) (sp := inBlock (x := x) (k := (at' + dn) / 512) (V0 := V0) (V := V1) (D := D1) (op := true) hbl hk138 hV200) (h := ?_)
    rintro _ _ ⟨rfl, rfl⟩
    rw [hpk]
    simp only [List.cons_append, List.nil_append]
    refine .move ?_
    refine .extract ?_
    refine .extract ?_
    refine .assign (.assign (.z (.seq (.sr (.move ?_)))))
    refine .nei ?_
    refine .z ?_
    refine .condF rfl rfl ?_
    refine .skip (.next (.sr (.move ?_)))
    refine .nilCheck ?_
    refine .fa ?_ fo158_0
    refine .ld ?_ sc24
    refine .move ?_
    refine .call (hc := Tryz.call107) (sp := tRead (n := p.n) (V0 := V0) (V := V1) (D := D1) (op := true) (k := ptr V x ((at' + dn) / 512)) (by omega) (by omega)) (h := ?_)
    rintro _ _ ⟨gb, q, el, rfl, ⟨hq1, hq2, hl5⟩, rfl⟩
    refine .move ?_
    refine .extract ?_
    refine .extract ?_
    refine .assign (.assign (.z (.seq (.sr (.move ?_)))))
    refine .nei ?_
    refine .z ?_
    refine .condF rfl rfl ?_
    refine .skip (.next (.sr (.move (.move ?_))))
    refine .rem ?_
    refine .cast (d := 42) (u := nI ((at' + dn) % 512)) rfl (congrArg (Value.int .i64) (by omega)) ?_
    refine .slcL ?_ so91
    refine .cast (d := 43) (u := .slice (some ⟨gb, (at' + dn) % 512, none⟩) (512 - (at' + dn) % 512) (q - (at' + dn) % 512)) rfl (by rw [show ((((at' + dn) % 512 : Nat)) : Int).toNat = (at' + dn) % 512 from Int.toNat_natCast _, if_neg (by omega), Nat.zero_add, Nat.mul_one]) ?_
    refine .move ?_
    refine .copy (m := m - dn) (xs := bvs (V1 (ptr V x ((at' + dn) / 512)))) (ys := bvs (bs.drop dn)) so91 hA0 (by rw [bvs_length]; exact hyl) (bvs_single _) ?_ (hdl := by rw [bvs_length, hl5]; omega)
    refine .cast (d := 45) (u := nI mm) rfl (by rw [hmm]; rfl) ?_
    refine .to (A := buf gb el q ((bvs (V1 (ptr V x ((at' + dn) / 512)))).take ((at' + dn) % 512) ++ (bvs (bs.drop dn)).take (min (m - dn) (512 - (at' + dn) % 512)) ++ (bvs (V1 (ptr V x ((at' + dn) / 512)))).drop ((at' + dn) % 512 + min (m - dn) (512 - (at' + dn) % 512)))) (A' := buf gb el q (bvs (splice (V1 (ptr V x ((at' + dn) / 512))) ((at' + dn) % 512) ((bs.drop dn).take mm)))) (fun h hh => by rw [← hmm] at hh; unfold splice; rw [bvs_append, bvs_append, bvs_take, bvs_take, bvs_drop (V1 (ptr V x ((at' + dn) / 512))), hpl]; exact hh) ?_
    refine .assign (.z (.seq (.sr (.move ?_))))
    refine .nilCheck ?_
    refine .fa ?_ fo158_0
    refine .ld ?_ sc24
    refine .move (.move ?_)
    refine .call (hc := Tryz.call85) (sp := tWrite (n := p.n) (V0 := V0) (V := V1) (D := D1) (k := ptr V x ((at' + dn) / 512)) (by omega) (by omega) Reads.buf ((splice_length (xs := V1 (ptr V x ((at' + dn) / 512))) (off := (at' + dn) % 512) (ys := (bs.drop dn).take mm) (by rw [hpl, hl5]; omega)).trans hl5) rfl (.inr hroom)) (h := ?_)
    rintro _ _ ⟨rfl, rfl⟩
    refine .assign (.x (.move ?_))
    refine .nei ?_
    refine .z ?_
    refine .condF rfl rfl ?_
    refine .skip (.next ?_)
    refine .dr ([]) [] 8 mixed .autoJ ?_
    refine .tk 0 rfl .move ?_
    refine .tk 1 rfl .move ?_
    refine .tk 2 rfl ((Qt.add).eq (v' := nI (at' + (dn + mm))) (congrArg (Value.int .i64) (by omega))) ?_
    refine .tk 3 rfl .move ?_
    refine .tk 4 rfl .move ?_
    refine .tk 5 rfl ((Qt.slcL so91).eq (v' := .slice (if c1 = mm then some ⟨ab, ao, none⟩ else some ⟨ab, ao + mm * 1, none⟩) (m - (dn + mm)) (c1 - mm)) (by rw [show ((mm : Nat) : Int).toNat = mm from Int.toNat_natCast _, Nat.sub_sub])) ?_
    refine .tk 6 rfl .assign ?_
    refine .tk 7 rfl .assign ?_
    refine .fin ?_
    refine .blockNormal ?_
    have hrest : bs.drop (dn + mm) = [] ∨ Reads R (if c1 = mm then some ⟨ab, ao, none⟩ else some ⟨ab, ao + mm * 1, none⟩) (bvs (bs.drop (dn + mm))) := by
      by_cases hcm : c1 = mm
      · exact .inl (List.drop_eq_nil_of_le (by omega))
      · rw [if_neg hcm, Nat.mul_one, ← List.drop_drop, bvs_drop]
        exact .inr (hA0.drop mm)
    have hin := inD_ok hdk1 (v := ptr V x ((at' + dn) / 512)) (by omega) (by omega)
    exact .back (dn + mm, if c1 = mm then some ⟨ab, ao, none⟩ else some ⟨ab, ao + mm * 1, none⟩, c1 - mm, _, insD D1 (ptr V x ((at' + dn) / 512))) ⟨by show dn + mm ≤ m; omega, hrest, by rw [show at' + (dn + mm) = at' + dn + mm from by omega]; exact hstep, hin.1, ⟨t + 1, by show wt p (insD D1 _) ≤ _; omega, by show (dn + mm = 0 ∧ _) ∨ (dn + mm = m ∧ _) ∨ ((at' + (dn + mm)) % 512 = 0 ∧ _); omega⟩, by show m - (dn + mm) ≤ c1 - mm; omega, by show c1 - mm ≤ maxLen; omega⟩ (by show m - (dn + mm) < m - dn; omega)
  · have hge : ¬ dn < m := by have := of_decide_eq_false hb; omega
    have hdm : dn = m := by omega
    subst hdm
    refine .exit (.thenExit (.thenExit (.blockExit (?_))))
    refine .next (.sr (.assign (.z ?_)))
    refine .ret (?_)
    exact .ret1 (h1 := .tmp (t := 8) rfl) ⟨_, ⟨_, _, hlay, ⟨hdk1, by omega⟩, rfl, rfl⟩, Am.auto⟩
end Go.Proofs.YtdmjkjeoamiedaaGreat
end
section
namespace Go.Proofs.YtdmjkjeoamiedaaGreat
open Go
def hs (k : Nat) : Nat := k + (if 10 < k then 1 else 0)
theorem has_hs (n : Nat) : has n = hs (dat n) := by
  unfold has hs
  split
  · rw [if_neg (by omega)]; rfl
  · rw [if_pos (by omega)]
theorem hs_succ (k : Nat) : hs (k + 1) = hs k + (if k = 10 then 2 else 1) := by
  unfold hs
  by_cases h : k = 10
  · subst h; rfl
  · rw [if_neg h]
    by_cases h2 : 10 < k
    · rw [if_pos h2, if_pos (by omega)]
    · rw [if_neg h2, if_neg (by omega)]
theorem hs_mono {j k : Nat} (h : j ≤ k) : hs j ≤ hs k := by
  unfold hs
  split <;> split <;> omega
theorem dat_mono {j k : Nat} (h : j ≤ k) : dat j ≤ dat k := by unfold dat; omega
structure GrI (p : Pl) (V V1 : Nat → Bytes) (nd : NF) (i : Nat) (x : Nd) (D D1 : List Nat) : Prop where
  inv : Inv p V1 nd
  kp : Kp p V V1 nd i
  cn : cnt V1 p.bm p.dc = cnt V p.bm p.dc
  old : ∀ q, q < x.sz → fb V1 x q = fb V x q
  new : ∀ q, x.sz ≤ q → q < 512 * dat x.sz → fb V1 x q = 0
  dk : Dk p D1
  wt : wt p D1 ≤ wt p D + 2
structure GrL (p : Pl) (V V1 : Nat → Bytes) (nd : NF) (i : Nat) (x x1 : Nd) (D D1 : List Nat) (k : Nat) : Prop where
  inv : Inv p V1 (updF nd i (some (x1, stdS k)))
  kp : Kp p V V1 nd i
  kd : x1.kd = x.kd
  sz : x1.sz = x.sz
  cn : cnt V1 p.bm p.dc + hs (dat x.sz) = cnt V p.bm p.dc + hs k
  old : ∀ q, q < x.sz → fb V1 x1 q = fb V x q
  new : ∀ q, x.sz ≤ q → q < 512 * k → fb V1 x1 q = 0
  dk : Dk p D1
  wt : wt p D1 + hs (dat x.sz) ≤ wt p D + 2 + hs k + (if 10 < k ∧ x1.bl.getD 10 0 ∈ D1 then 1 else 0)
structure GrowP (p : Pl) (V V1 : Nat → Bytes) (nd : NF) (i : Nat) (x x1 : Nd) (D D1 : List Nat) (size : Nat) : Prop where
  inv : Inv p V1 (updF nd i (some (x1, stdS (dat size))))
  kp : Kp p V V1 nd i
  kd : x1.kd = x.kd
  sz : x1.sz = size
  cn : cnt V1 p.bm p.dc + has x.sz = cnt V p.bm p.dc + has size
  byt : ∀ q, q < size → fb V1 x1 q = if q < x.sz then fb V x q else 0
  dk : Dk p D1
  wt : wt p D1 + has x.sz ≤ wt p D + 3 + has size
theorem updF_self {nd : NF} {i : Nat} {y : Option (Nd × (Nat → Bool))} (h : nd i = y) : updF nd i y = nd := by
  funext j
  unfold updF
  split
  · rename_i hj; rw [hj, h]
  · rfl
theorem GrI.refl {p : Pl} {V : Nat → Bytes} {nd : NF} {i : Nat} {x : Nd} {D : List Nat} (h : Inv p V nd) (hr : x.sz % 512 = 0) (hd : Dk p D) : GrI p V V nd i x D D :=
  ⟨h, Kp.refl _ _ _ _, rfl, fun _ _ => rfl, fun q h1 h2 => by unfold dat at h2; omega, hd, by omega⟩
theorem GrI.of {p : Pl} {V V1 : Nat → Bytes} {nd : NF} {i : Nat} {x : Nd} {D D1 : List Nat} (h : Inv p V nd) (ho : PlOk p) (hi : nd i = some (x, stdS (dat x.sz))) (hb : x.sz ≤ 70656) (hr : 0 < x.sz % 512)
    (hl : LayR p V V1 x x.sz (x.sz + (512 - x.sz % 512)) (List.replicate (512 - x.sz % 512) 0)) (hd : Dk p D1) (hw : Go.Proofs.YtdmjkjeoamiedaaGreat.wt p D1 ≤ Go.Proofs.YtdmjkjeoamiedaaGreat.wt p D + (512 - x.sz % 512 + 511) / 512 + 1) : GrI p V V1 nd i x D D1 := by
  have hm := dat_le hb
  have hdat : 512 * dat x.sz = x.sz + (512 - x.sz % 512) := by unfold dat; omega
  obtain ⟨h1, h2, h3, h4, h5⟩ := hl.stp h ho hi (by omega) (fun k k1 k2 => ⟨stdS_iff.2 (.inl (by unfold dat at *; omega)), by unfold dat at *; omega⟩)
  have hS : ∀ q, q < 512 * dat x.sz → q / 512 < 138 ∧ stdS (dat x.sz) (q / 512) = true := fun q hq => ⟨by omega, stdS_iff.2 (.inl (by omega))⟩
  refine ⟨h1, h2, cnt_same h3, fun q hq => ?_, fun q k1 k2 => ?_, hd, by omega⟩
  · obtain ⟨e1, e2⟩ := hS q (by omega)
    rw [h5 q e1 e2, if_neg (by omega)]
  · obtain ⟨e1, e2⟩ := hS q k2
    rw [h5 q e1 e2, if_pos ⟨k1, by omega⟩, List.getD_eq_getElem?_getD, List.getElem?_replicate]
    split <;> rfl
theorem GrI.begin {p : Pl} {V V1 : Nat → Bytes} {nd : NF} {i : Nat} {x : Nd} {D D1 : List Nat} (h : GrI p V V1 nd i x D D1) (hi : nd i = some (x, stdS (dat x.sz))) : GrL p V V1 nd i x x D D1 (dat x.sz) :=
  ⟨by rw [updF_self hi]; exact h.inv, h.kp, rfl, rfl, by rw [h.cn], h.old, h.new, h.dk, by have := h.wt; omega⟩
theorem GrL.step {p : Pl} {V V1 V2 : Nat → Bytes} {nd : NF} {i : Nat} {x x1 x2 : Nd} {D D1 D2 : List Nat} {k : Nat} (h0 : Inv p V nd) (h : GrL p V V1 nd i x x1 D D1 k) (hk : dat x.sz ≤ k) (hk2 : k < 138) (ht : TakeP p V1 V2 (updF nd i (some (x1, stdS k))) i x1 x2 D1 D2 k) : GrL p V V2 nd i x x2 D D2 (k + 1) := by
  have hfb : ∀ q, q < 512 * k → fb V2 x2 q = fb V1 x1 q := fun q hq => ht.stp.fb (by omega) (stdS_iff.2 (.inl (by omega))) (stdS_iff.2 (.inl (by omega)))
  have hsz : x.sz ≤ 512 * k := by unfold dat at hk; omega
  have e1 := hs_succ k
  have e2 := ht.wt
  have e3 := h.wt
  refine ⟨?_, ?_, ht.stp.kd.trans h.kd, ht.stp.sz.trans h.sz, ?_, fun q hq => ?_, fun q k1 k2 => ?_, ht.dk, ?_⟩
  · have := ht.stp.inv
    rwa [updF_updF] at this
  · exact h.kp.trans ht.stp.kp h0.sok (fun j hj => updF_other _ _ hj)
  · have := h.cn
    have := ht.cn
    omega
  · rw [hfb q (by omega), h.old q hq]
  · by_cases hq : q < 512 * k
    · rw [hfb q hq]; exact h.new q k1 hq
    · have := ht.new (q - 512 * k) (by omega)
      rwa [show 512 * k + (q - 512 * k) = q from by omega] at this
  · by_cases c : 10 ≤ k
    · have e4 := ht.ind c
      rw [if_pos ⟨by omega, e4⟩]
      by_cases c2 : 10 < k
      · rw [if_pos c2, if_neg (show ¬ k = 10 by omega)] at e2
        rw [if_neg (show ¬ k = 10 by omega)] at e1
        by_cases c3 : x1.bl.getD 10 0 ∈ D1
        · rw [if_pos ⟨c2, c3⟩] at e2 e3; omega
        · rw [if_neg (fun hh => c3 hh.2)] at e2 e3; omega
      · rw [if_neg c2, if_neg (fun hh => c2 hh.1)] at e2
        rw [if_neg (fun hh => c2 hh.1)] at e3
        omega
    · rw [if_neg (by omega), if_neg (by omega), if_neg (by omega)] at e2
      rw [if_neg (by omega)] at e3
      rw [if_neg (by omega)] at e1
      rw [if_neg (by omega)]
      omega
theorem GrL.done {p : Pl} {V V1 : Nat → Bytes} {nd : NF} {i : Nat} {x x1 : Nd} {D D1 : List Nat} {size : Nat} (h : GrL p V V1 nd i x x1 D D1 (dat size)) (hs1 : x.sz ≤ size) (hs2 : size ≤ 70656) : GrowP p V V1 nd i x ⟨x1.kd, size, x1.bl⟩ D D1 size := by
  have e3 := h.wt
  have hfx := h.inv.fits i x1 _ (updF_same ..)
  refine ⟨?_, h.kp, h.kd, rfl, by rw [has_hs, has_hs]; exact h.cn, fun q hq => ?_, h.dk, ?_⟩
  · refine h.inv.same h.inv.len (fun _ _ => rfl) (fun _ _ => rfl) fun j => ?_
    by_cases hj : j = i
    · subst hj
      refine .inr ⟨x1, _, stdS (dat size), updF_same .., updF_same .., ⟨hfx.bl, fun v hv => ?_⟩, fun _ _ => rfl⟩
      simp only [Nd.nums, List.mem_cons] at hv
      rcases hv with rfl | rfl | hv
      · exact hfx.lt _ (by simp [Nd.nums])
      · omega
      · exact hfx.lt _ (by simp [Nd.nums, hv])
    · rw [updF_other _ _ hj, updF_other _ _ hj]
      cases hn : nd j with
      | none => exact .inl ⟨rfl, rfl⟩
      | some y =>
        obtain ⟨y, T⟩ := y
        exact .inr ⟨y, y, T, rfl, rfl, h.inv.fits j y T (by rw [updF_other _ _ hj]; exact hn), fun _ _ => rfl⟩
  · show fb V1 x1 q = _
    split
    · rename_i hlt; exact h.old q hlt
    · rename_i hge; exact h.new q (by omega) (by unfold dat; omega)
  · rw [has_hs, has_hs]
    split at e3 <;> omega
theorem inGrow {s c a : Nat} {p : Pl} {V0 V : Nat → Bytes} {D : List Nat} {nd : NF} {i b size : Nat} {x : Nd} (h : Inv p V nd) (ho : PlOk p) (hi : nd i = some (x, stdS (dat x.sz))) (hdk : Dk p D) (hs1 : x.sz < size) (hs2 : size ≤ 70656) (hrm : Rm p D (has size - has x.sz + 6)) :
    Spec Tryz.prog 96 #[.pointer (some ⟨s, 0, none⟩), .pointer (some ⟨b, 0, none⟩), nI size] [pt s (stO c a p), pt a (alO c p), TR c p.n V0 V D true, row b 127 (ndL x)] fun F v M =>
      (p.dc + has x.sz < cnt V p.bm p.dc + has size ∧ v = .int .i64 3 ∧ M = [pt s (stO c a p), pt a (alO c p), TR c p.n V0 V D true, row b 127 (ndL x)] ++ F) ∨
      (cnt V p.bm p.dc + has size ≤ p.dc + has x.sz ∧ ∃ x' V' D', GrowP p V V' nd i x x' D D' size ∧ v = okV ∧ M = [pt s (stO c a p), pt a (alO c p), TR c p.n V0 V' D' true, row b 127 (ndL x')] ++ F) := by
  refine Spec.intro Tryz.func96 rfl rfl fun B F => ?_
  simp only [Tryz.ntmps96, List.cons_append, List.nil_append, env0, Nat.reduceAdd]
  have hlo := ho.lo
  have hdat := ho.dat
  have hfx := h.fits i x _ hi
  have hbl := hfx.bl
  have hnl := ndL_length hbl
  have hd1 := dat_le (show x.sz ≤ 70656 by omega)
  have hd2 := dat_le hs2
  have hdm := dat_mono (show x.sz ≤ size by omega)
  have hhm : has x.sz ≤ has size := by rw [has_hs, has_hs]; exact hs_mono hdm
  have hcl := cnt_le V p.bm p.dc
  have hhb : has size ≤ 139 := by rw [has_hs]; unfold hs; split <;> omega
  have hhb2 : has x.sz ≤ 139 := by omega
  have hszg : (ndL x)[1]? = some (nI x.sz) := rfl
  refine .sr (.assign (.z (.seq (.sr (.move ?_)))))
  refine .nilCheck ?_
  refine .fa ?_ fo158_1
  refine .ld ?_ sc25
  refine .call (hc := Tryz.call21) (sp := alFree (V0 := V0) (V := V) (D := D) (op := true) ho) (h := ?_)
  rintro _ _ ⟨rfl, rfl⟩
  simp only [List.cons_append, List.nil_append]
  refine .move ?_
  refine .extract ?_
  refine .extract ?_
  refine .assign (.assign (.z (.seq ?_)))
  refine .dr ([row b 127 (ndL x)]) [] 10 mixed .autoJ ?_
  refine .tk 0 rfl .move ?_
  refine .tk 2 rfl .move ?_
  refine .tk 3 rfl .nilCheck ?_
  refine .tk 4 rfl (.fa fo127_1) ?_
  refine .tk 5 rfl (Qt.ldL (xs := ndL x) (i := 1) sc3 hszg) ?_
  refine .tk 8 rfl .move ?_
  refine .on 1 rfl fun hnp => ?_
  refine .call (hc := Tryz.call122) (sp := inHas (k := size) (by omega)) (h := ?_)
  rintro _ _ ⟨rfl, rfl⟩
  refine .nil (.wa hnp ?_)
  refine .on 6 rfl fun hnp => ?_
  refine .call (hc := Tryz.call122) (sp := inHas (k := x.sz) (by omega)) (h := ?_)
  rintro _ _ ⟨rfl, rfl⟩
  refine .nil (.wa hnp ?_)
  refine .tk 7 rfl .sub ?_
  refine .tk 9 rfl .gtr ?_
  refine .fin ?_
  by_cases hfull : p.dc + has x.sz < cnt V p.bm p.dc + has size
  · refine .next ?_
    refine .condT rfl (congrArg Value.bool (by first | (simp; done) | (simp; omega) | omega)) ?_
    refine .sr (.assign (.z ?_))
    refine .ret (.thenRet (?_))
    exact .ret1 (h1 := .tmp (t := 6) rfl) ⟨_, .inl ⟨hfull, rfl, rfl⟩, Am.auto⟩
  · refine .next ?_
    refine .condF rfl (congrArg Value.bool (by first | (simp; done) | (simp; omega) | omega)) ?_
    refine .skip (.next (.seq (.sr (.move ?_))))
    refine .nilCheck ?_
    refine .fa ?_ fo127_1
    refine .ldL (xs := ndL x) (i := 1) ?_ sc3 hszg
    refine .rem ?_
    refine .cast (d := 35) (u := nI (x.sz % 512)) rfl (congrArg (Value.int .i64) (by omega)) ?_
    refine .assign (.x (.move ?_))
    refine .gtr ?_
    refine .z ?_
    refine .join (σ := (Nat → Bytes) × List Nat) (fun y => [(0, .pointer (some ⟨s, 0, none⟩)), (1, .pointer (some ⟨b, 0, none⟩)), (2, nI size)]) (fun y => [pt s (stO c a p), pt a (alO c p), TR c p.n V0 y.1 y.2 true, row b 127 (ndL x)] ++ F) (fun y => GrI p V y.1 nd i x D y.2) ?_ ?_
    · by_cases hr : 0 < x.sz % 512
      · refine .condT rfl (congrArg Value.bool (by first | (simp; done) | (simp; omega) | omega)) ?_
        refine .seq ?_
        refine .dr ([row b 127 (ndL x)]) [] 13 mixed .autoJ ?_
        refine .tk 0 rfl .move ?_
        refine .tk 1 rfl .move ?_
        refine .tk 2 rfl .nilCheck ?_
        refine .tk 3 rfl (Qt.ldW (xs := ndL x) agg127 hnl) ?_
        refine .tk 4 rfl .move ?_
        refine .tk 5 rfl .nilCheck ?_
        refine .tk 6 rfl (.fa fo127_1) ?_
        refine .tk 7 rfl (Qt.ldL (xs := ndL x) (i := 1) sc3 hszg) ?_
        refine .tk 8 rfl .move ?_
        refine .tk 9 rfl ((Qt.sub).eq (v' := .int .i64 ((512 - x.sz % 512 : Nat) : Int)) (congrArg (Value.int .i64) (by omega))) ?_
        refine .on 10 rfl fun hnp => ?_
        refine .mkS (k := ((512 - x.sz % 512 : Nat) : Int)) z5 (fun b48 => ?_) so91 (by omega) (by omega) (by omega)
        refine .to (A := buf b48 5 ((512 - x.sz % 512 : Nat) : Int).toNat (List.replicate ((512 - x.sz % 512 : Nat) : Int).toNat (.int .u8 0))) (A' := buf b48 5 (512 - x.sz % 512) (bvs (List.replicate (512 - x.sz % 512) 0))) (fun h hh => by rw [bvs_replicate]; rw [Int.toNat_natCast] at hh; exact hh) ?_
        refine .nil (.wa hnp ?_)
        refine .on 11 rfl fun hnp => ?_
        refine .call (hc := Tryz.call97) (sp := inLay (x := x) (at' := x.sz) (bs := List.replicate (512 - x.sz % 512) 0) (V0 := V0) (V := V) (D := D) h ho hi hdk (hrm.mono (by rw [List.length_replicate]; omega)) (.inr Reads.buf) List.length_replicate (Nat.le_refl _) (by unfold maxLen; omega) (fun k k1 k2 => ⟨stdS_iff.2 (.inl (by unfold dat at *; omega)), by unfold dat at *; omega⟩) (by omega) (by omega)) (h := ?_)
        rintro _ _ ⟨V1, D1, hlay, ⟨hdk1, hw1⟩, rfl, rfl⟩
        simp only [List.cons_append, List.nil_append]
        refine .nil (.wa hnp ?_)
        refine .tk 12 rfl .assign ?_
        refine .fin ?_
        refine .next (.sr (.move ?_))
        refine .nei ?_
        refine .z ?_
        refine .condF rfl rfl ?_
        refine .skip ?_
        exact .joined (V1, D1) (GrI.of h ho hi (by omega) hr hlay hdk1 hw1)
      · refine .condF rfl (congrArg Value.bool (by first | (simp; done) | (simp; omega) | omega)) ?_
        refine .skip ?_
        exact .joined (V, D) (GrI.refl h (by omega) hdk)
    · rintro ⟨V1, D1⟩ hI
      have hinv1 := hI.inv
      refine .next (.seq (.sr (.move ?_)))
      refine .nilCheck ?_
      refine .fa ?_ fo127_1
      refine .ldL (xs := ndL x) (i := 1) ?_ sc3 hszg
      refine .call (hc := Tryz.call123) (sp := inData (k := x.sz) (by omega)) (h := ?_)
      rintro _ _ ⟨rfl, rfl⟩
      refine .assign (.z (.block ?_))
      refine .loopA (σ := Nat × Nd × (Nat → Bytes) × List Nat) (fun y => [(0, .pointer (some ⟨s, 0, none⟩)), (1, .pointer (some ⟨b, 0, none⟩)), (2, nI size), (11, nI y.1)]) (fun y => [pt s (stO c a p), pt a (alO c p), TR c p.n V0 y.2.2.1 y.2.2.2 true, row b 127 (ndL y.2.1)] ++ F) (fun y => dat x.sz ≤ y.1 ∧ y.1 ≤ dat size ∧ GrL p V y.2.2.1 nd i x y.2.1 D y.2.2.2 y.1) (fun y => dat size - y.1) (dat x.sz, x, V1, D1) ⟨Nat.le_refl _, hdm, hI.begin hi⟩ ?_
      rintro ⟨k, x1, V1, D1⟩ hy
      obtain ⟨hk1, hk2, hL⟩ := hy
      simp only at hk1 hk2 hL
      refine .seq (.sr (.move (.move ?_)))
      refine .call (hc := Tryz.call123) (sp := inData (k := size) (by omega)) (h := ?_)
      rintro _ _ ⟨rfl, rfl⟩
      refine .lss ?_
      refine .z ?_
      refine .cond rfl (fun hb => ?_) (fun hb => ?_)
      · have hlt : k < dat size := by have := of_decide_eq_true hb; omega
        have hcnl := hL.cn
        have hwtl := hL.wt
        have hss := hs_succ k
        have hss2 : hs (k + 1) ≤ hs (dat size) := hs_mono hlt
        have hhs1 := has_hs x.sz
        have hhs2 := has_hs size
        refine .skip (.next (.seq (.block (.sr (.move (.move (.move ?_)))))))
        refine .call (hc := Tryz.call124) (sp := inTake (i := i) (b := b) (k := k) (x := x1) (V0 := V0) (V := V1) (D := D1) hL.inv ho (updF_same ..) (by omega) hL.dk (hrm.mono (by split at hwtl <;> omega)) (by omega)) (h := ?_)
        rintro _ _ ⟨x2, V2, D2, hT, rfl, rfl⟩
        simp only [List.cons_append, List.nil_append]
        refine .assign (.x (.move ?_))
        refine .nei ?_
        refine .z ?_
        refine .condF rfl rfl ?_
        refine .skip (.blockNormal (.next (.region (.move ?_))))
        refine .add ?_
        refine .assign (.nil ?_)
        refine .cast (d := 11) (u := nI (k + 1)) rfl (congrArg (Value.int .i64) (by omega)) ?_
        exact .back (k + 1, x2, V2, D2) ⟨by show dat x.sz ≤ k + 1; omega, by show k + 1 ≤ dat size; omega, hL.step h hk1 (by omega) hT⟩ (by show dat size - (k + 1) < dat size - k; omega)
      · have hge : ¬ k < dat size := by have := of_decide_eq_false hb; omega
        have hke : k = dat size := by omega
        subst hke
        have hfx1 := hL.inv.fits i x1 _ (updF_same ..)
        refine .exit (.thenExit (.thenExit (.blockExit (?_))))
        refine .next (.sr (.move (.move ?_)))
        refine .nilCheck ?_
        refine .fa ?_ fo127_1
        refine .stL (xs := ndL x1) (i := 1) ?_ sc3 (by rw [ndL_length hfx1.bl]; decide)
        refine .to (A := row b 127 ((ndL x1).set 1 (nI size))) (A' := row b 127 (ndL ⟨x1.kd, size, x1.bl⟩)) (fun h hh => hh) ?_
        refine .x (.assign (.z ?_))
        refine .ret (?_)
        exact .ret1 (h1 := .tmp (t := 6) rfl) ⟨_, .inr ⟨by omega, _, _, _, hL.done (by omega) hs2, rfl, rfl⟩, Am.auto⟩
end Go.Proofs.YtdmjkjeoamiedaaGreat
end
section
namespace Go.Proofs.YtdmjkjeoamiedaaGreat
open Go
theorem Inv.inode {p : Pl} {V V' : Nat → Bytes} {nd : NF} (h : Inv p V nd) (ho : PlOk p) {i : Nat} (hi : i < p.ino) (y : Option (Nd × (Nat → Bool))) (hold : ∀ x S, nd i = some (x, S) → ∀ k, S k = false) (hy : ∀ x S, y = some (x, S) → Fits x ∧ ∀ k, S k = false)
    (h5 : Len5 V') (hV : ∀ v, p.bm ≤ v → V' v = V v) (hd : ∀ j, j < p.ino → dig V' p.im j = if j = i then y.isSome else dig V p.im j) : Inv p V' (updF nd i y) := by
  have hlo := ho.lo
  have get : ∀ j z T k, updF nd i y j = some (z, T) → T k = true → nd j = some (z, T) ∧ ptr V' z k = ptr V z k := by
    intro j z T k hj hk
    by_cases hji : j = i
    · subst hji
      rw [updF_same] at hj
      have := (hy z T hj).2 k
      rw [hk] at this; cases this
    · rw [updF_other _ _ hji] at hj
      exact ⟨hj, ptrs_congr (h.sok j z T hj) (fun h2 => hV _ (by have := h.rng j z T 200 hj h2; rw [ptr_200] at this; omega)) hk⟩
  refine ⟨h5, ?_, ?_, ?_, ?_, ?_, ?_, ?_⟩
  · intro j z T hj
    by_cases hji : j = i
    · subst hji; rw [updF_same] at hj; exact (hy z T hj).1
    · rw [updF_other _ _ hji] at hj; exact h.fits j z T hj
  · intro j z T hj
    by_cases hji : j = i
    · subst hji; rw [updF_same] at hj
      have := (hy z T hj).2
      exact ⟨fun k hk => (by rw [this k] at hk; cases hk), fun k hk => (by rw [this k] at hk; cases hk)⟩
    · rw [updF_other _ _ hji] at hj; exact h.sok j z T hj
  · intro j z T hj
    by_cases hji : j = i
    · subst hji; exact hi
    · rw [updF_other _ _ hji] at hj; exact h.lt j z T hj
  · intro j z T k hj hk
    obtain ⟨h1, h2⟩ := get j z T k hj hk
    rw [h2]; exact h.rng j z T k h1 hk
  · intro j z T k j' z' T' k' hj hk hj' hk' he
    obtain ⟨h1, h2⟩ := get j z T k hj hk
    obtain ⟨h1', h2'⟩ := get j' z' T' k' hj' hk'
    rw [h2, h2'] at he
    exact h.inj _ _ _ _ _ _ _ _ h1 hk h1' hk' he
  · intro k hk
    have e1 : dig V' p.bm k = dig V p.bm k := by unfold dig; rw [hV _ (by omega)]
    rw [e1, h.map k hk]
    constructor
    · rintro ⟨j, z, T, l, hj, hl, he⟩
      by_cases hji : j = i
      · subst hji
        have := hold z T hj l
        rw [hl] at this; cases this
      · have hj' : updF nd i y j = some (z, T) := by rw [updF_other _ _ hji]; exact hj
        exact ⟨j, z, T, l, hj', hl, by rw [(get j z T l hj' hl).2]; exact he⟩
    · rintro ⟨j, z, T, l, hj, hl, he⟩
      obtain ⟨h1, h2⟩ := get j z T l hj hl
      exact ⟨j, z, T, l, h1, hl, by rw [← h2]; exact he⟩
  · intro j hj
    rw [hd j hj]
    by_cases hji : j = i
    · subst hji; rw [if_pos rfl, updF_same]
    · rw [if_neg hji, updF_other _ _ hji]; exact h.imap j hj
theorem stdS_zero (k : Nat) : stdS 0 k = false := by unfold stdS; simp
theorem repNd {p : Pl} {V : Nat → Bytes} {F : FM} {i : Nat} {f : Nat × Bytes} (hi : F i = some f) : ndOf p V F i = some (ldN p V i, stdS (dat f.2.length)) := by unfold ndOf; rw [hi]; rfl
theorem Rep.ndX {p : Pl} {V : Nat → Bytes} {F : FM} (h : Rep p V F) {i : Nat} {f : Nat × Bytes} (hi : F i = some f) : ndOf p V F i = some (ldN p V i, stdS (dat (ldN p V i).sz)) := by rw [(h.ok i f hi).sz]; exact repNd hi
theorem Rep.digI {p : Pl} {V : Nat → Bytes} {F : FM} (h : Rep p V F) {i : Nat} {f : Nat × Bytes} (hi : F i = some f) : i = 0 ∨ Go.Proofs.YtdmjkjeoamiedaaGreat.dig V p.im i = true := by
  refine .inr ?_
  rw [h.inv.imap i (h.lt hi), repNd hi]; rfl
def fileAt (F : FM) (i : Int) : Option (Nat × Bytes) := if 0 ≤ i then F i.toNat else none
theorem Rep.nope {p : Pl} {V : Nat → Bytes} {F : FM} (h : Rep p V F) {i : Int} (hi : fileAt F i = none) : ¬ (0 ≤ i ∧ i < p.ino ∧ (i = 0 ∨ Go.Proofs.YtdmjkjeoamiedaaGreat.dig V p.im i.toNat = true)) := by
  rintro ⟨h1, h2, h3⟩
  unfold fileAt at hi
  rw [if_pos h1] at hi
  have h4 := h.inv.imap i.toNat (by omega)
  have h5 : ndOf p V F i.toNat = none := by unfold ndOf; rw [hi]; rfl
  rw [h5] at h4
  rcases h3 with h3 | h3
  · subst h3
    have := h.root
    rw [show (0 : Int).toNat = 0 from rfl] at hi
    rw [hi] at this; cases this
  · rw [h4] at h3; cases h3
theorem kp_others {p : Pl} {V V' : Nat → Bytes} {F : FM} (h : Rep p V F) (ho : PlOk p) {i : Nat} (hk : Kp p V V' (ndOf p V F) i) : ∀ j g, j ≠ i → F j = some g → ldN p V' j = ldN p V j ∧ ∀ k, stdS (dat g.2.length) k = true → V' (ptr V (ldN p V j) k) = V (ptr V (ldN p V j) k) :=
  fun j g hji hj => ⟨hk.ldN ho.tab (h.lt hj), fun k hk' => hk.oth j _ _ k hji (repNd hj) hk'⟩
theorem Rep.cntle {p : Pl} {V : Nat → Bytes} {F : FM} (h : Rep p V F) : tot F p.ino ≤ p.dc := by rw [← h.cn]; exact cnt_le _ _ _
def ext (old : Bytes) (n : Nat) : Bytes := old ++ List.replicate (n - old.length) 0
theorem ext_length (old : Bytes) (n : Nat) : (ext old n).length = max old.length n := by unfold ext; rw [List.length_append, List.length_replicate]; omega
theorem ext_getD (old : Bytes) (n q : Nat) : (ext old n).getD q 0 = old.getD q 0 := by
  unfold ext
  simp only [List.getD_eq_getElem?_getD, List.getElem?_append, List.getElem?_replicate]
  by_cases h : q < old.length
  · rw [if_pos h]
  · rw [if_neg h, List.getElem?_eq_none (by omega)]
    split <;> rfl
theorem ext_self {old : Bytes} {n : Nat} (h : n ≤ old.length) : ext old n = old := by unfold ext; rw [show n - old.length = 0 from by omega]; simp
def wrB (old : Bytes) (at' : Nat) (bs : Bytes) : Bytes := splice (ext old (at' + bs.length)) at' bs
theorem wrB_length (old : Bytes) (at' : Nat) (bs : Bytes) : (wrB old at' bs).length = max old.length (at' + bs.length) := by
  unfold wrB
  rw [splice_length (by rw [ext_length]; omega), ext_length]
theorem wrB_getD (old : Bytes) (at' : Nat) (bs : Bytes) (q : Nat) : (wrB old at' bs).getD q 0 = if at' ≤ q ∧ q < at' + bs.length then bs.getD (q - at') 0 else old.getD q 0 := by
  unfold wrB
  rw [splice_getD (by rw [ext_length]; omega), ext_getD]
theorem FM_twice (F : FM) (i : Nat) (y z : Option (Nat × Bytes)) : updM (updM F i y) i z = updM F i z := by
  funext j
  unfold updM
  split <;> rfl
theorem Rep.wrote {p : Pl} {V V' : Nat → Bytes} {F : FM} (h : Rep p V F) (ho : PlOk p) {i at' : Nat} {f : Nat × Bytes} {bs : Bytes} (hi : F i = some f) (hl : at' + bs.length ≤ f.2.length) (hy : LayR p V V' (ldN p V i) at' (at' + bs.length) bs) :
    Rep p V' (updM F i (some (f.1, wrB f.2 at' bs))) := by
  have hf := h.ok i f hi
  have hd := dat_le hf.big
  have hwl : (wrB f.2 at' bs).length = f.2.length := by rw [wrB_length]; omega
  obtain ⟨h1, h2, h3, h4, h5⟩ := hy.stp h.inv ho (repNd hi) (by omega) (fun k k1 k2 => ⟨stdS_iff.2 (.inl (by unfold dat; omega)), by unfold dat at hd; omega⟩)
  refine h.laid ho hi hwl h1 h2 h3 fun q hq => ?_
  rw [hwl] at hq
  have hq1 : q / 512 < dat f.2.length := by unfold dat; omega
  rw [h5 q (by omega) (stdS_iff.2 (.inl hq1)), wrB_getD]
  split
  · rfl
  · exact hf.byt q hq
theorem Rep.grown {p : Pl} {V V' : Nat → Bytes} {F : FM} (h : Rep p V F) (ho : PlOk p) {i size : Nat} {f : Nat × Bytes} {x : Nd} {D D' : List Nat} (hi : F i = some f) (hs1 : f.2.length ≤ size) (hs2 : size ≤ 70656) (hg : GrowP p V V' (ndOf p V F) i (ldN p V i) x D D' size) :
    Rep p (svV p V' i x) (updM F i (some (f.1, ext f.2 size))) := by
  have hf := h.ok i f hi
  have hel : (ext f.2 size).length = size := by rw [ext_length]; omega
  refine h.save ho (f := (f.1, ext f.2 size)) (h.lt hi) (.inl (by rw [hi]; simp)) (by show Inv p V' (updF _ i (some (x, stdS (dat (ext f.2 size).length)))); rw [hel]; exact hg.inv) (kp_others h ho hg.kp) ?_ ?_
  · refine ⟨hg.kd.trans hf.kd, hf.k12, by show x.sz = (ext f.2 size).length; rw [hel]; exact hg.sz, by show (ext f.2 size).length ≤ 70656; omega, fun q hq => ?_⟩
    have hq' : q < size := by rw [← hel]; exact hq
    show fb V' x q = (ext f.2 size).getD q 0
    rw [hg.byt q hq', ext_getD, hf.sz]
    split
    · rename_i hlt; exact hf.byt q hlt
    · rename_i hge; rw [List.getD_eq_getElem?_getD, List.getElem?_eq_none (by omega)]; rfl
  · have := hg.cn
    rw [hf.sz] at this
    rw [hi]
    show cnt V' p.bm p.dc + has f.2.length = cnt V p.bm p.dc + has (ext f.2 size).length
    rw [hel]; exact this
theorem cnt_imap {p : Pl} {V : Nat → Bytes} (ho : PlOk p) {i : Nat} (hi : i < p.ino) (on : Bool) : cnt (setD V p.im i on) p.bm p.dc = cnt V p.bm p.dc := by
  have h1 := ho.apart
  have h2 := ho.i2
  exact cnt_same fun k hk => dig_setD_other _ _ _ _ _ (by omega)
theorem imap_other {p : Pl} {V : Nat → Bytes} (ho : PlOk p) {i : Nat} (hi : i < p.ino) (on : Bool) {v : Nat} (hv : p.bm ≤ v) : setD V p.im i on v = V v := by
  have h1 := ho.apart
  have h2 := ho.i2
  exact wr_other _ _ (by omega)
theorem Rep.made {p : Pl} {V : Nat → Bytes} {F : FM} (h : Rep p V F) (ho : PlOk p) {i k : Nat} (hi : i < p.ino) (hd : Go.Proofs.YtdmjkjeoamiedaaGreat.dig V p.im i = false) (hk : k = 1 ∨ k = 2) : Rep p (svV p (setD V p.im i true) i ⟨k, 0, List.replicate 11 0⟩) (updM F i (some (k, []))) := by
  have hlo := ho.lo
  have htd := ho.tbda
  have hn : ndOf p V F i = none := by
    have := h.inv.imap i hi
    rw [hd] at this
    cases hh : ndOf p V F i with
    | none => rfl
    | some y => rw [hh] at this; cases this
  have hF : F i = none := by
    unfold ndOf at hn
    cases hh : F i with
    | none => rfl
    | some y => rw [hh] at hn; cases hn
  have hi0 : i ≠ 0 := fun hh => by
    subst hh
    have := h.root
    rw [hF] at this; cases this
  have hfx : Fits ⟨k, 0, List.replicate 11 0⟩ := kFits (by omega)
  have hinv : Inv p (setD V p.im i true) (updF (ndOf p V F) i (some (⟨k, 0, List.replicate 11 0⟩, stdS (dat ([] : Bytes).length)))) := by
    refine h.inv.inode ho hi _ (fun x S hx => by rw [hn] at hx; cases hx) (fun x S hx => by cases hx; exact ⟨hfx, fun k => stdS_zero k⟩) (setD_len h.inv.len _ _ _) (fun v hv => imap_other ho hi true hv) (fun j hj => ?_)
    rw [dig_setD h.inv.len]; rfl
  refine h.save ho (f := (k, [])) hi (.inr hi0) hinv (fun j g hji hj => ⟨?_, fun l hl => ?_⟩) ⟨rfl, hk, rfl, Nat.zero_le _, fun q hq => by cases hq⟩ ?_
  · unfold ldN
    rw [imap_other ho hi true (by omega)]
  · have := h.inv.rng j _ _ l (repNd hj) hl
    exact imap_other ho hi true (by omega)
  · rw [hF, cnt_imap ho hi]
    show cnt V p.bm p.dc + 0 = cnt V p.bm p.dc + has 0
    rfl
theorem Rep.mono {p : Pl} {V V' : Nat → Bytes} {F : FM} (h : Rep p V F) (ho : PlOk p) (h5 : Len5 V') (hV : ∀ v, p.im ≤ v → V' v = V v) : Rep p V' F := by
  have hlo := ho.lo
  have hap := ho.apart
  have htbl := ho.tbl
  have htab := ho.tab
  have hb : ∀ k, k < p.dc → dig V' p.bm k = dig V p.bm k := fun k _ => by unfold dig; rw [hV _ (by omega)]
  have hi : ∀ k, k < p.ino → dig V' p.im k = dig V p.im k := fun k _ => by unfold dig; rw [hV _ (by omega)]
  have hl : ∀ j, ldN p V' j = ldN p V j := fun j => by unfold ldN; rw [hV _ (by omega)]
  have hpt : ∀ j f, F j = some f → ∀ k, stdS (dat f.2.length) k = true → ptr V' (ldN p V j) k = ptr V (ldN p V j) k := fun j f hj k hk =>
    ptrs_congr (stdS_ok (dat_le (h.ok j f hj).big)) (fun h2 => hV _ (by have := h.inv.rng j _ _ 200 (repNd hj) h2; rw [ptr_200] at this; omega)) hk
  refine ⟨h.inv.same h5 hb hi fun j => ?_, fun i f hf => ?_, ?_, h.root⟩
  · cases hj : F j with
    | none => exact .inl ⟨by unfold ndOf; rw [hj]; rfl, by unfold ndOf; rw [hj]; rfl⟩
    | some f =>
      refine .inr ⟨ldN p V j, ldN p V j, stdS (dat f.2.length), repNd hj, by rw [repNd hj, hl], h.inv.fits j _ _ (repNd hj), hpt j f hj⟩
  · have h1 := h.ok i f hf
    rw [hl]
    refine ⟨h1.kd, h1.k12, h1.sz, h1.big, fun q hq => ?_⟩
    rw [← h1.byt q hq]
    have hS : stdS (dat f.2.length) (q / 512) = true := stdS_iff.2 (.inl (by unfold dat; omega))
    exact fb_congr (hpt i f hf _ hS) (hV _ (by have := h.inv.rng i _ _ _ (repNd hf) hS; omega))
  · rw [cnt_same hb]; exact h.cn
theorem cm0_len {V : Nat → Bytes} (h : Len5 V) : Len5 (cm0 V) := fun k => by
  unfold cm0
  split
  · exact zeros_length
  · exact h k
theorem Rep.cm {p : Pl} {V : Nat → Bytes} {F : FM} (h : Rep p V F) (ho : PlOk p) : Rep p (cm0 V) F := h.mono ho (cm0_len h.inv.len) (fun v hv => cm0_home V (by have := ho.aI.lo; omega))
end Go.Proofs.YtdmjkjeoamiedaaGreat
end
section
namespace Go.Proofs.YtdmjkjeoamiedaaGreat
open Go
theorem inChg {s c a : Nat} {p : Pl} {V0 V : Nat → Bytes} {D : List Nat} {i : Nat} (ho : PlOk p) (hi : i < p.ino) (hd : i = 0 ∨ dig V p.im i = true) : Spec Tryz.prog 95 #[.pointer (some ⟨s, 0, none⟩), nI i] [pt s (stO c a p), pt a (alO c p), TR c p.n V0 V D true] fun F v M => v = .tuple #[ndV (ldN p V i), .int .i64 0] ∧ M = [pt s (stO c a p), pt a (alO c p), TR c p.n V0 V D true] ++ F := by
  refine Spec.intro Tryz.func95 rfl rfl fun B F => ?_
  simp only [Tryz.ntmps95, List.cons_append, List.nil_append, env0, Nat.reduceAdd]
  refine .sr ?_
  refine .allocL zNd rfl fun b4 => ?_
  refine .assign (.z (.seq (.sr (.move ?_))))
  refine .call (hc := Tryz.call86) (sp := inReady (n := p.n) (V0 := V0) (V := V) (D := D) (op := true)) (h := ?_)
  rintro _ _ ⟨rfl, rfl⟩
  simp only [List.cons_append, List.nil_append]
  refine .not ?_
  refine .z ?_
  refine .condF rfl rfl ?_
  refine .skip (.next (.sr (.move (.move ?_))))
  refine .call (hc := Tryz.call65) (sp := inLoad (i := i) (V0 := V0) (V := V) (D := D) (op := true) ho hi hd) (h := ?_)
  rintro _ _ ⟨rfl, rfl⟩
  simp only [List.cons_append, List.nil_append]
  refine .extract ?_
  refine .extract ?_
  refine .stLA (xs := ndL nd0) (us := ndL (ldN p V i)) ?_ agg127 (ndL_length (ldB_fits _ _).bl) rfl (ndL_single _)
  refine .assign (.z ?_)
  refine .ret (?_)
  exact .ret2 (h1 := RV.aggL rfl agg127 (by repeat (first | exact .here | apply Rem.there | apply Repl.there | apply Mem.there)) (ndL_length (ldB_fits _ _).bl)) (h2 := .tmp rfl) ⟨_, ⟨rfl, rfl⟩, Am.auto⟩
theorem inWrite {s c a : Nat} {p : Pl} {V0 V : Nat → Bytes} {D : List Nat} {F0 : FM} {i at' m cc : Nat} {f : Nat × Bytes} {R : HP} {A : Option Addr} {bs : Bytes} (h : Rep p V F0) (ho : PlOk p) (hi : F0 i = some f) (hdk : Dk p D) (hrm : Rm p D (has (max f.2.length (at' + m)) - has f.2.length + (m + 511) / 512 + 10)) (hR : bs = [] ∨ Reads R A (bvs bs)) (hm : bs.length = m) (hcc : m ≤ cc) (hcb : cc ≤ maxLen) (hat : at' ≤ f.2.length) (hbg : at' + m ≤ 70656) :
    Spec Tryz.prog 49 #[.pointer (some ⟨s, 0, none⟩), nI i, nI at', .slice A m cc] [R, pt s (stO c a p), pt a (alO c p), TR c p.n V0 V D true] fun F v M =>
      (p.dc + has f.2.length < tot F0 p.ino + has (max f.2.length (at' + m)) ∧ v = .int .i64 3 ∧ M = [R, pt s (stO c a p), pt a (alO c p), TR c p.n V0 V D true] ++ F) ∨
      (tot F0 p.ino + has (max f.2.length (at' + m)) ≤ p.dc + has f.2.length ∧ ∃ V' D', Rep p V' (updM F0 i (some (f.1, wrB f.2 at' bs))) ∧ (Dk p D' ∧ wt p D' ≤ wt p D + (has (max f.2.length (at' + m)) - has f.2.length) + (m + 511) / 512 + 5) ∧ v = okV ∧ M = [R, pt s (stO c a p), pt a (alO c p), TR c p.n V0 V' D' true] ++ F) := by
  refine Spec.intro Tryz.func49 rfl rfl fun B F => ?_
  simp only [Tryz.ntmps49, List.cons_append, List.nil_append, env0, Nat.reduceAdd]
  have hf := h.ok i f hi
  have hsz := hf.sz
  have hbig := hf.big
  have hlt := h.lt hi
  have hi2 := ho.i2
  have hlo := ho.lo
  have htab := ho.tab
  have hnd := repNd (p := p) (V := V) hi
  have hfx := h.inv.fits i _ _ hnd
  have hbl := hfx.bl
  have hnl := ndL_length hbl
  have hcl := h.cntle
  have hszg : (ndL (ldN p V i))[1]? = some (nI f.2.length) := by rw [← hsz]; rfl
  by_cases hgr : f.2.length < at' + m
  · have hmx : max f.2.length (at' + m) = at' + m := by omega
    rw [hmx] at hrm ⊢
    have hndx := h.ndX hi
    refine .sr (.assign (.x (.move (.move ?_))))
    refine .call (hc := Tryz.call95) (sp := inChg (i := i) (V0 := V0) (V := V) (D := D) ho (h.lt hi) (h.digI hi)) (h := ?_)
    rintro _ _ ⟨rfl, rfl⟩
    simp only [List.cons_append, List.nil_append]
    refine .move ?_
    refine .extract ?_
    refine .extract ?_
    refine .allocL zNd rfl fun b9 => ?_
    refine .stLA (xs := ndL nd0) (us := ndL (ldN p V i)) ?_ agg127 hnl rfl (ndL_single _)
    refine .assign (.z (.seq (.block (.sr (.move ?_)))))
    refine .nei ?_
    refine .assign (.z ?_)
    refine .condF rfl rfl ?_
    refine .sr (.move ?_)
    refine .lss ?_
    refine .move ?_
    refine .cast (d := 26) (u := .bool false) rfl (congrArg Value.bool (by first | (simp; done) | (simp; omega) | (unfold nI; simp; omega) | omega)) ?_
    refine .gT ?_
    refine .move ?_
    refine .gT ?_
    refine .fa ?_ fo127_1
    refine .gT ?_
    refine .ldL (xs := ndL (ldN p V i)) (i := 1) ?_ sc3 hszg
    refine .gT ?_
    refine .gtr ?_
    refine .pickF ?_
    refine .assign (.z ?_)
    refine .condF rfl (congrArg Value.bool (by first | (simp; done) | (simp; omega) | (unfold nI; simp; omega) | omega)) ?_
    refine .sr (.move ?_)
    refine .lenS ?_ sl91
    refine .move ?_
    refine .sub ?_
    refine .gtr ?_
    refine .assign (.z ?_)
    refine .condF rfl (congrArg Value.bool (by first | (simp; done) | (simp; omega) | (unfold nI; simp; omega) | omega)) ?_
    refine .skip (.blockNormal (.next (.seq (.sr (.move (.move ?_))))))
    refine .lenS ?_ sl91
    refine .add ?_
    refine .fa ?_ fo127_1
    refine .ldL (xs := ndL (ldN p V i)) (i := 1) ?_ sc3 hszg
    refine .gtr ?_
    refine .z ?_
    refine .condT rfl (congrArg Value.bool (by first | (simp; done) | (simp; omega) | (unfold nI; simp; omega) | omega)) ?_
    refine .seq (.sr (.move (.move (.move ?_))))
    refine .lenS ?_ sl91
    refine .add ?_
    refine .cast (d := 49) (u := nI (at' + m)) rfl (congrArg (Value.int .i64) (by omega)) ?_
    refine .call (hc := Tryz.call96) (sp := inGrow (i := i) (b := b9) (size := at' + m) (x := ldN p V i) (V0 := V0) (V := V) (D := D) h.inv ho hndx hdk (by rw [hsz]; omega) (by omega) (hrm.mono (by rw [hsz]; omega))) (h := ?_)
    rintro _ _ (⟨hfull, rfl, rfl⟩ | ⟨hle, x1, V1, D1, hG, rfl, rfl⟩) <;> simp only [List.cons_append, List.nil_append]
    · rw [h.cn, hsz] at hfull
      refine .assign (.x (.move ?_))
      refine .nei ?_
      refine .z ?_
      refine .condT rfl rfl ?_
      refine .sr (.move (.assign (.z ?_)))
      refine .ret (.thenRet (.thenRet (?_)))
      exact .ret1 (h1 := .tmp (t := 8) rfl) ⟨_, .inl ⟨hfull, rfl, rfl⟩, Am.auto⟩
    · rw [h.cn, hsz] at hle
      have hfx1 := hG.inv.fits i x1 _ (updF_same ..)
      have hbl1 := hfx1.bl
      have hwg := hG.wt
      rw [hsz] at hwg
      have hhm : has f.2.length ≤ has (at' + m) := by rw [has_hs, has_hs]; exact hs_mono (dat_mono (by omega))
      have hrep := h.grown ho hi (by omega) (by omega) hG
      have hsd := inD_ok (p := p) hG.dk (v := p.tb + i / 8) (by omega) (by omega)
      have hld2 : ldN p (svV p V1 i x1) i = x1 := ldN_svV hG.inv.len hfx1
      have hel : (ext f.2 (at' + m)).length = at' + m := by rw [ext_length]; omega
      have hnd2 := repNd (p := p) (V := svV p V1 i x1) (updM_same F0 i (some (f.1, ext f.2 (at' + m))))
      rw [hld2] at hnd2
      simp only [hel] at hnd2
      refine .assign (.x (.move ?_))
      refine .nei ?_
      refine .z ?_
      refine .condF rfl rfl ?_
      refine .skip (.next (.sr (.move (.move ?_))))
      refine .ldW (xs := ndL x1) ?_ agg127 (ndL_length hbl1)
      refine .call (hc := Tryz.call87) (sp := inSave (i := i) (x := x1) (V0 := V0) (V := V1) (D := D1) ho hlt hfx1 (hG.dk.room (c := 0) (hrm.mono (by omega)))) (h := ?_)
      rintro _ _ ⟨rfl, rfl⟩
      simp only [List.cons_append, List.nil_append]
      refine .assign (.x (.move ?_))
      refine .nei ?_
      refine .z ?_
      refine .condF rfl rfl ?_
      refine .skip (.next (.sr (.move ?_)))
      refine .ldW (xs := ndL x1) ?_ agg127 (ndL_length hbl1)
      refine .move (.move ?_)
      refine .call (hc := Tryz.call97) (sp := inLay (x := x1) (at' := at') (bs := bs) (R := R) (V0 := V0) (V := svV p V1 i x1) (D := insD D1 (p.tb + i / 8)) hrep.inv ho hnd2 hsd.1 (hrm.mono (by rw [hm]; omega)) hR hm hcc hcb (fun k k1 k2 => ⟨stdS_iff.2 (.inl (by unfold dat; omega)), by omega⟩) (by omega) (by omega)) (h := ?_)
      rintro _ _ ⟨V2, D2, hlay, ⟨hdk2, hw2⟩, rfl, rfl⟩
      simp only [List.cons_append, List.nil_append]
      refine .assign (.z ?_)
      refine .ret (?_)
      rw [← hm] at hlay hel
      have hfin := hrep.wrote ho (at' := at') (bs := bs) (updM_same ..) (by show at' + bs.length ≤ (ext f.2 (at' + m)).length; rw [← hm]; omega) (by rw [hld2]; exact hlay)
      rw [FM_twice] at hfin
      have hwe : wrB (ext f.2 (at' + m)) at' bs = wrB f.2 at' bs := by
        unfold wrB
        rw [← hm, ext_self (old := ext f.2 (at' + bs.length)) (by omega)]
      simp only [hwe] at hfin
      exact .ret1 (h1 := .tmp (t := 8) rfl) ⟨_, .inr ⟨hle, _, _, hfin, ⟨hdk2, by omega⟩, rfl, rfl⟩, Am.auto⟩
  · have hmx : max f.2.length (at' + m) = f.2.length := by omega
    rw [hmx] at hrm ⊢
    refine .sr (.assign (.x (.move (.move ?_))))
    refine .call (hc := Tryz.call95) (sp := inChg (i := i) (V0 := V0) (V := V) (D := D) ho (h.lt hi) (h.digI hi)) (h := ?_)
    rintro _ _ ⟨rfl, rfl⟩
    simp only [List.cons_append, List.nil_append]
    refine .move ?_
    refine .extract ?_
    refine .extract ?_
    refine .allocL zNd rfl fun b9 => ?_
    refine .stLA (xs := ndL nd0) (us := ndL (ldN p V i)) ?_ agg127 hnl rfl (ndL_single _)
    refine .assign (.z (.seq (.block (.sr (.move ?_)))))
    refine .nei ?_
    refine .assign (.z ?_)
    refine .condF rfl rfl ?_
    refine .sr (.move ?_)
    refine .lss ?_
    refine .move ?_
    refine .cast (d := 26) (u := .bool false) rfl (congrArg Value.bool (by first | (simp; done) | (simp; omega) | (unfold nI; simp; omega) | omega)) ?_
    refine .gT ?_
    refine .move ?_
    refine .gT ?_
    refine .fa ?_ fo127_1
    refine .gT ?_
    refine .ldL (xs := ndL (ldN p V i)) (i := 1) ?_ sc3 hszg
    refine .gT ?_
    refine .gtr ?_
    refine .pickF ?_
    refine .assign (.z ?_)
    refine .condF rfl (congrArg Value.bool (by first | (simp; done) | (simp; omega) | (unfold nI; simp; omega) | omega)) ?_
    refine .sr (.move ?_)
    refine .lenS ?_ sl91
    refine .move ?_
    refine .sub ?_
    refine .gtr ?_
    refine .assign (.z ?_)
    refine .condF rfl (congrArg Value.bool (by first | (simp; done) | (simp; omega) | (unfold nI; simp; omega) | omega)) ?_
    refine .skip (.blockNormal (.next (.seq (.sr (.move (.move ?_))))))
    refine .lenS ?_ sl91
    refine .add ?_
    refine .fa ?_ fo127_1
    refine .ldL (xs := ndL (ldN p V i)) (i := 1) ?_ sc3 hszg
    refine .gtr ?_
    refine .z ?_
    refine .condF rfl (congrArg Value.bool (by first | (simp; done) | (simp; omega) | (unfold nI; simp; omega) | omega)) ?_
    refine .skip (.next (.sr (.move ?_)))
    refine .ldW (xs := ndL (ldN p V i)) ?_ agg127 hnl
    refine .move (.move ?_)
    refine .call (hc := Tryz.call97) (sp := inLay (x := ldN p V i) (at' := at') (bs := bs) (R := R) (V0 := V0) (V := V) (D := D) h.inv ho hnd hdk (hrm.mono (by rw [hm]; omega)) hR hm hcc hcb (fun k k1 k2 => ⟨stdS_iff.2 (.inl (by unfold dat; omega)), by omega⟩) (by omega) (by omega)) (h := ?_)
    rintro _ _ ⟨V2, D2, hlay, ⟨hdk2, hw2⟩, rfl, rfl⟩
    simp only [List.cons_append, List.nil_append]
    refine .assign (.z ?_)
    refine .ret (?_)
    rw [← hm] at hlay
    have hfin := h.wrote ho hi (by omega) hlay
    exact .ret1 (h1 := .tmp (t := 8) rfl) ⟨_, .inr ⟨by omega, _, _, hfin, ⟨hdk2, by omega⟩, rfl, rfl⟩, Am.auto⟩
end Go.Proofs.YtdmjkjeoamiedaaGreat
end
section
namespace Go.Proofs.YtdmjkjeoamiedaaGreat
open Go
theorem read_step {V : Nat → Bytes} {x : Nd} {bs : Bytes} {cur mm at' : Nat} (hb : ∀ q, q < bs.length → fb V x q = bs.getD q 0) (h1 : cur % 512 + mm ≤ 512) (h2 : cur + mm ≤ bs.length) (h3 : at' ≤ cur) (h5 : (V (ptr V x (cur / 512))).length = 512) :
    (bs.drop at').take (cur + mm - at') = (bs.drop at').take (cur - at') ++ ((V (ptr V x (cur / 512))).drop (cur % 512)).take mm := by
  rw [show cur + mm - at' = (cur - at') + mm from by omega, List.take_add, List.drop_drop, show at' + (cur - at') = cur from by omega]
  congr 1
  apply List.ext_getElem?
  intro j
  simp only [List.getElem?_take, List.getElem?_drop]
  by_cases hj : j < mm
  · rw [if_pos hj, if_pos hj]
    have := hb (cur + j) (by omega)
    unfold fb at this
    rw [show (cur + j) / 512 = cur / 512 from by omega, show (cur + j) % 512 = cur % 512 + j from by omega, List.getD_eq_getElem?_getD, List.getD_eq_getElem?_getD, List.getElem?_eq_getElem (by omega), List.getElem?_eq_getElem (by omega)] at this
    rw [List.getElem?_eq_getElem (by omega), List.getElem?_eq_getElem (by omega)]
    exact congrArg some this.symm
  · rw [if_neg hj, if_neg hj]
theorem inRead {s c a : Nat} {p : Pl} {V0 V : Nat → Bytes} {D : List Nat} {op : Bool} {F0 : FM} {i at' k : Nat} {f : Nat × Bytes} (h : Rep p V F0) (ho : PlOk p) (hi : F0 i = some f) (hat : at' ≤ 9223372036854775807) (hk : k ≤ 9223372036854775807) :
    Spec Tryz.prog 93 #[.pointer (some ⟨s, 0, none⟩), nI i, nI at', nI k] [pt s (stO c a p), pt a (alO c p), TR c p.n V0 V D op] fun F v M => ∃ u, v = .tuple #[u, .int .i64 0] ∧ M = rowR 5 1 u ((f.2.drop at').take k).length (bvs ((f.2.drop at').take k)) :: [pt s (stO c a p), pt a (alO c p), TR c p.n V0 V D op] ++ F := by
  refine Spec.intro Tryz.func93 rfl rfl fun B F => ?_
  simp only [Tryz.ntmps93, List.cons_append, List.nil_append, env0, Nat.reduceAdd]
  have hf := h.ok i f hi
  have hsz := hf.sz
  have hbig := hf.big
  have hlt := h.lt hi
  have hi2 := ho.i2
  have hlo := ho.lo
  have htab := ho.tab
  have hnd := repNd (p := p) (V := V) hi
  have hfx := h.inv.fits i _ _ hnd
  have hbl := hfx.bl
  have hnl := ndL_length hbl
  have hcl := h.cntle
  have hszg : (ndL (ldN p V i))[1]? = some (nI f.2.length) := by rw [← hsz]; rfl
  have hmxl : maxLen = 9223372036854775807 := rfl
  have hd138 := dat_le hbig
  rcases (show ¬ at' < f.2.length ∨ (at' < f.2.length ∧ k < f.2.length - at') ∨ (at' < f.2.length ∧ ¬ k < f.2.length - at') from by omega) with hc | ⟨hc, hc2⟩ | ⟨hc, hc2⟩
  · obtain ⟨en, hen, hen1, hen2⟩ : ∃ en, en = f.2.length ∧ en ≤ f.2.length ∧ (f.2.drop at').take k = (f.2.drop at').take (en - at') := ⟨_, rfl, by omega, by rw [List.drop_eq_nil_of_le (by omega), List.take_nil, List.take_nil]⟩
    refine .sr (.assign (.assign (.x (.move (.move ?_)))))
    refine .call (hc := Tryz.call65) (sp := inLoad (i := i) (V0 := V0) (V := V) (D := D) (op := op) ho (h.lt hi) (h.digI hi)) (h := ?_)
    rintro _ _ ⟨rfl, rfl⟩
    simp only [List.cons_append, List.nil_append]
    refine .move ?_
    refine .extract ?_
    refine .extract ?_
    refine .allocL zNd rfl fun b10 => ?_
    refine .stLA (xs := ndL nd0) (us := ndL (ldN p V i)) ?_ agg127 hnl rfl (ndL_single _)
    refine .assign (.z (.seq (.sr (.move ?_))))
    refine .nei ?_
    refine .z ?_
    refine .condF rfl rfl ?_
    refine .skip (.next (.seq (.sr (.move ?_))))
    refine .lss ?_
    refine .move ?_
    refine .cast (d := 30) (u := .bool false) rfl (congrArg Value.bool (by first | (simp; done) | (simp; omega) | (unfold nI; simp; omega) | omega)) ?_
    refine .gT ?_
    refine .move ?_
    refine .gT ?_
    refine .lss ?_
    refine .pickF ?_
    refine .z ?_
    refine .condF rfl (congrArg Value.bool (by first | (simp; done) | (simp; omega) | (unfold nI; simp; omega) | omega)) ?_
    refine .skip (.next (.sr ?_))
    refine .fa ?_ fo127_1
    refine .ldL (xs := ndL (ldN p V i)) (i := 1) ?_ sc3 hszg
    refine .cast (d := 35) (u := nI en) rfl (congrArg nI hen.symm) ?_
    refine .assign (.z (.seq (.sr (.move (.move ?_)))))
    refine .lss ?_
    refine .move ?_
    refine .cast (d := 39) (u := .bool false) rfl (congrArg Value.bool (by first | (simp; done) | (simp; omega) | (unfold nI; simp; omega) | omega)) ?_
    refine .gF ?_
    refine .gF ?_
    refine .gF ?_
    refine .gF ?_
    refine .gF ?_
    refine .pickF ?_
    refine .z ?_
    refine .condF rfl rfl ?_
    refine .skip (.next (.sr (.assign ?_)))
    refine .emp (A := rowR 5 1 (.slice none 0 0) (at' - at') (bvs ((f.2.drop at').take (at' - at')))) (by rw [Nat.sub_self]; exact rowR.nil _) ?_
    refine .z (.seq (.block ?_))
    refine .loopA (σ := Nat × Value) (fun y => [(0, .pointer (some ⟨s, 0, none⟩)), (2, nI y.1), (10, .pointer (some ⟨b10, 0, none⟩)), (12, nI en), (13, y.2)]) (fun y => [rowR 5 1 y.2 (y.1 - at') (bvs ((f.2.drop at').take (y.1 - at'))), row b10 127 (ndL (ldN p V i)), pt s (stO c a p), pt a (alO c p), TR c p.n V0 V D op] ++ F) (fun y => at' ≤ y.1 ∧ (y.1 ≤ en ∨ y.1 = at')) (fun y => en - y.1) (at', .slice none 0 0) ⟨Nat.le_refl _, .inr rfl⟩ ?_
    rintro ⟨cur, u⟩ hy
    obtain ⟨hc1, hc2⟩ := hy
    simp only at hc1 hc2
    refine .seq (.sr (.move (.move ?_)))
    refine .lss ?_
    refine .z ?_
    refine .cond rfl (fun hb => ?_) (fun hb => ?_)
    · have hlt2 : cur < en := by have := of_decide_eq_true hb; omega
      obtain ⟨mm, hmm⟩ : ∃ mm, mm = min (512 - cur % 512) (en - cur) := ⟨_, rfl⟩
      have hSk : stdS (dat f.2.length) (cur / 512) = true := stdS_iff.2 (.inl (by unfold dat; omega))
      have hrk := h.inv.rng i _ _ _ hnd hSk
      have hV200 : 10 ≤ cur / 512 → 245 ≤ (ldN p V i).bl.getD 10 0 ∧ (ldN p V i).bl.getD 10 0 < p.n := fun h10 => by
        have := h.inv.rng i _ _ 200 hnd (stdS_iff.2 (.inr ⟨rfl, by unfold dat; omega⟩))
        rw [ptr_200] at this
        omega
      have hrs := read_step (cur := cur) (mm := mm) (at' := at') hf.byt (by omega) (by omega) hc1 (h.inv.len _)
      refine .skip (.next (.block (.sr (.move ?_))))
      refine .ldW (xs := ndL (ldN p V i)) ?_ agg127 hnl
      refine .move ?_
      refine .quo ?_
      refine .cast (d := 56) (u := nI (cur / 512)) rfl (congrArg (Value.int .i64) (by omega)) ?_
      refine .call (hc := Tryz.call121) (sp := inBlock (x := ldN p V i) (k := cur / 512) (V0 := V0) (V := V) (D := D) (op := op) hbl (by omega) hV200) (h := ?_)
      rintro _ _ ⟨rfl, rfl⟩
      simp only [List.cons_append, List.nil_append]
      refine .move ?_
      refine .extract ?_
      refine .extract ?_
      refine .assign (.assign (.z (.seq (.sr (.move ?_)))))
      refine .nei ?_
      refine .z ?_
      refine .condF rfl rfl ?_
      refine .skip (.next (.sr (.move ?_)))
      refine .nilCheck ?_
      refine .fa ?_ fo158_0
      refine .ld ?_ sc24
      refine .move ?_
      refine .call (hc := Tryz.call107) (sp := tRead (n := p.n) (V0 := V0) (V := V) (D := D) (op := op) (k := ptr V (ldN p V i) (cur / 512)) (by omega) (by omega)) (h := ?_)
      rintro _ _ ⟨gb, q, el, rfl, ⟨hq1, hq2, hl5⟩, rfl⟩
      refine .move ?_
      refine .extract ?_
      refine .extract ?_
      refine .assign (.assign (.z (.seq (.sr (.move ?_)))))
      refine .nei ?_
      refine .z ?_
      refine .condF rfl rfl ?_
      refine .skip (.next (.sr (.move ?_)))
      refine .rem ?_
      refine .cast (d := 76) (u := nI (cur % 512)) rfl (congrArg (Value.int .i64) (by omega)) ?_
      refine .assign (.x (.move (.move ?_)))
      refine .add ?_
      refine .move ?_
      refine .sub ?_
      refine .minI ?_
      refine .cast (d := 82) (u := nI (cur % 512 + mm)) rfl (congrArg (Value.int .i64) (by split <;> omega)) ?_
      refine .assign (.x (.move (.move (.move (.move ?_)))))
      refine .slcLH ?_ so91
      refine .cast (d := 87) (u := .slice (some ⟨gb, cur % 512, none⟩) mm (q - cur % 512)) rfl (by rw [show ((cur % 512 : Nat) : Int).toNat = cur % 512 from Int.toNat_natCast _, show ((cur % 512 + mm : Nat) : Int).toNat = cur % 512 + mm from Int.toNat_natCast _, if_neg (by omega), Nat.zero_add, Nat.mul_one, show cur % 512 + mm - cur % 512 = mm from by omega]) ?_
      have hnews : Reads (buf gb el q (bvs (V (ptr V (ldN p V i) (cur / 512))))) (some ⟨gb, cur % 512, none⟩) (bvs (((V (ptr V (ldN p V i) (cur / 512))).drop (cur % 512)).take mm)) := by
        have := (Reads.buf (g := gb) (e := el) (k := q) (xs := bvs (V (ptr V (ldN p V i) (cur / 512))))).drop (cur % 512)
        rw [Nat.zero_add] at this
        rw [bvs_take, bvs_drop]
        exact this.take mm
      refine .appendAny (m := mm) so91 (by decide) (by repeat (first | exact .here | apply Rem.there | apply Repl.there | apply Mem.there)) hnews (by repeat (first | exact .here | apply Rem.there | apply Repl.there | apply Mem.there)) (by rw [bvs_length, List.length_take, List.length_drop, hl5]; omega) (bvs_single _) (by omega) (by omega) ⟨_, z5, rfl⟩ (fun vB hvB => ?_)
      refine .assign (.y (.move (.move (.move ?_))))
      refine .sub ?_
      refine .add ?_
      refine .cast (d := 93) (u := nI (cur + mm)) rfl (congrArg (Value.int .i64) (by omega)) ?_
      refine .assign (.nil (.blockNormal ?_))
      refine .to (A := rowR 5 1 vB (cur - at' + mm) (bvs ((f.2.drop at').take (cur - at')) ++ bvs (((V (ptr V (ldN p V i) (cur / 512))).drop (cur % 512)).take mm))) (A' := rowR 5 1 vB (cur + mm - at') (bvs ((f.2.drop at').take (cur + mm - at')))) (fun h hh => by rw [hrs, bvs_append, show cur + mm - at' = cur - at' + mm from by omega]; exact hh) ?_
      exact .back (cur + mm, vB) ⟨by show at' ≤ cur + mm; omega, by show cur + mm ≤ en ∨ cur + mm = at'; omega⟩ (by show en - (cur + mm) < en - cur; omega)
    · have hge : ¬ cur < en := by have := of_decide_eq_false hb; omega
      have hfe : (f.2.drop at').take (cur - at') = (f.2.drop at').take k := by
        rw [hen2]
        rcases hc2 with h1 | h1
        · rw [show cur = en from by omega]
        · rw [show cur - at' = 0 from by omega, show en - at' = 0 from by omega]
      have hfl : ((f.2.drop at').take k).length = cur - at' := by
        rw [← hfe, List.length_take, List.length_drop]
        omega
      refine .exit (.thenExit (.thenExit (.blockExit (?_))))
      refine .next (.sr (.move (.assign (.assign (.z ?_)))))
      refine .ret (?_)
      refine .to (A := rowR 5 1 u (cur - at') (bvs ((f.2.drop at').take (cur - at')))) (A' := rowR 5 1 u ((f.2.drop at').take k).length (bvs ((f.2.drop at').take k))) (fun h hh => by rw [hfl, ← hfe]; exact hh) ?_
      exact .ret2 (h1 := .tmp (t := 8) rfl) (h2 := .tmp (t := 9) rfl) ⟨_, ⟨u, rfl, rfl⟩, Am.auto⟩
  · obtain ⟨en, hen, hen1, hen2⟩ : ∃ en, en = at' + k ∧ en ≤ f.2.length ∧ (f.2.drop at').take k = (f.2.drop at').take (en - at') := ⟨_, rfl, by omega, by congr 1; omega⟩
    refine .sr (.assign (.assign (.x (.move (.move ?_)))))
    refine .call (hc := Tryz.call65) (sp := inLoad (i := i) (V0 := V0) (V := V) (D := D) (op := op) ho (h.lt hi) (h.digI hi)) (h := ?_)
    rintro _ _ ⟨rfl, rfl⟩
    simp only [List.cons_append, List.nil_append]
    refine .move ?_
    refine .extract ?_
    refine .extract ?_
    refine .allocL zNd rfl fun b10 => ?_
    refine .stLA (xs := ndL nd0) (us := ndL (ldN p V i)) ?_ agg127 hnl rfl (ndL_single _)
    refine .assign (.z (.seq (.sr (.move ?_))))
    refine .nei ?_
    refine .z ?_
    refine .condF rfl rfl ?_
    refine .skip (.next (.seq (.sr (.move ?_))))
    refine .lss ?_
    refine .move ?_
    refine .cast (d := 30) (u := .bool false) rfl (congrArg Value.bool (by first | (simp; done) | (simp; omega) | (unfold nI; simp; omega) | omega)) ?_
    refine .gT ?_
    refine .move ?_
    refine .gT ?_
    refine .lss ?_
    refine .pickF ?_
    refine .z ?_
    refine .condF rfl (congrArg Value.bool (by first | (simp; done) | (simp; omega) | (unfold nI; simp; omega) | omega)) ?_
    refine .skip (.next (.sr ?_))
    refine .fa ?_ fo127_1
    refine .ldL (xs := ndL (ldN p V i)) (i := 1) ?_ sc3 hszg
    refine .assign (.z (.seq (.sr (.move (.move ?_)))))
    refine .lss ?_
    refine .move ?_
    refine .cast (d := 39) (u := .bool true) rfl (congrArg Value.bool (by first | (simp; done) | (simp; omega) | (unfold nI; simp; omega) | omega)) ?_
    refine .gT ?_
    refine .move ?_
    refine .gT ?_
    refine .move ?_
    refine .gT ?_
    refine .move ?_
    refine .gT ?_
    refine .sub ?_
    refine .gT ?_
    refine .lss ?_
    refine .pickT ?_
    refine .z ?_
    refine .condT rfl (congrArg Value.bool (by first | (simp; done) | (simp; omega) | (unfold nI; simp; omega) | omega)) ?_
    refine .region (.move (.move ?_))
    refine .add ?_
    refine .cast (d := 48) (u := nI en) rfl (congrArg (Value.int .i64) (by omega)) ?_
    refine .assign (.x (.assign ?_))
    refine .emp (A := rowR 5 1 (.slice none 0 0) (at' - at') (bvs ((f.2.drop at').take (at' - at')))) (by rw [Nat.sub_self]; exact rowR.nil _) ?_
    refine .z (.seq (.block ?_))
    refine .loopA (σ := Nat × Value) (fun y => [(0, .pointer (some ⟨s, 0, none⟩)), (2, nI y.1), (10, .pointer (some ⟨b10, 0, none⟩)), (12, nI en), (13, y.2)]) (fun y => [rowR 5 1 y.2 (y.1 - at') (bvs ((f.2.drop at').take (y.1 - at'))), row b10 127 (ndL (ldN p V i)), pt s (stO c a p), pt a (alO c p), TR c p.n V0 V D op] ++ F) (fun y => at' ≤ y.1 ∧ (y.1 ≤ en ∨ y.1 = at')) (fun y => en - y.1) (at', .slice none 0 0) ⟨Nat.le_refl _, .inr rfl⟩ ?_
    rintro ⟨cur, u⟩ hy
    obtain ⟨hc1, hc2⟩ := hy
    simp only at hc1 hc2
    refine .seq (.sr (.move (.move ?_)))
    refine .lss ?_
    refine .z ?_
    refine .cond rfl (fun hb => ?_) (fun hb => ?_)
    · have hlt2 : cur < en := by have := of_decide_eq_true hb; omega
      obtain ⟨mm, hmm⟩ : ∃ mm, mm = min (512 - cur % 512) (en - cur) := ⟨_, rfl⟩
      have hSk : stdS (dat f.2.length) (cur / 512) = true := stdS_iff.2 (.inl (by unfold dat; omega))
      have hrk := h.inv.rng i _ _ _ hnd hSk
      have hV200 : 10 ≤ cur / 512 → 245 ≤ (ldN p V i).bl.getD 10 0 ∧ (ldN p V i).bl.getD 10 0 < p.n := fun h10 => by
        have := h.inv.rng i _ _ 200 hnd (stdS_iff.2 (.inr ⟨rfl, by unfold dat; omega⟩))
        rw [ptr_200] at this
        omega
      have hrs := read_step (cur := cur) (mm := mm) (at' := at') hf.byt (by omega) (by omega) hc1 (h.inv.len _)
      refine .skip (.next (.block (.sr (.move ?_))))
      refine .ldW (xs := ndL (ldN p V i)) ?_ agg127 hnl
      refine .move ?_
      refine .quo ?_
      refine .cast (d := 56) (u := nI (cur / 512)) rfl (congrArg (Value.int .i64) (by omega)) ?_
      refine .call (hc := Tryz.call121) (sp := inBlock (x := ldN p V i) (k := cur / 512) (V0 := V0) (V := V) (D := D) (op := op) hbl (by omega) hV200) (h := ?_)
      rintro _ _ ⟨rfl, rfl⟩
      simp only [List.cons_append, List.nil_append]
      refine .move ?_
      refine .extract ?_
      refine .extract ?_
      refine .assign (.assign (.z (.seq (.sr (.move ?_)))))
      refine .nei ?_
      refine .z ?_
      refine .condF rfl rfl ?_
      refine .skip (.next (.sr (.move ?_)))
      refine .nilCheck ?_
      refine .fa ?_ fo158_0
      refine .ld ?_ sc24
      refine .move ?_
      refine .call (hc := Tryz.call107) (sp := tRead (n := p.n) (V0 := V0) (V := V) (D := D) (op := op) (k := ptr V (ldN p V i) (cur / 512)) (by omega) (by omega)) (h := ?_)
      rintro _ _ ⟨gb, q, el, rfl, ⟨hq1, hq2, hl5⟩, rfl⟩
      refine .move ?_
      refine .extract ?_
      refine .extract ?_
      refine .assign (.assign (.z (.seq (.sr (.move ?_)))))
      refine .nei ?_
      refine .z ?_
      refine .condF rfl rfl ?_
      refine .skip (.next (.sr (.move ?_)))
      refine .rem ?_
      refine .cast (d := 76) (u := nI (cur % 512)) rfl (congrArg (Value.int .i64) (by omega)) ?_
      refine .assign (.x (.move (.move ?_)))
      refine .add ?_
      refine .move ?_
      refine .sub ?_
      refine .minI ?_
      refine .cast (d := 82) (u := nI (cur % 512 + mm)) rfl (congrArg (Value.int .i64) (by split <;> omega)) ?_
      refine .assign (.x (.move (.move (.move (.move ?_)))))
      refine .slcLH ?_ so91
      refine .cast (d := 87) (u := .slice (some ⟨gb, cur % 512, none⟩) mm (q - cur % 512)) rfl (by rw [show ((cur % 512 : Nat) : Int).toNat = cur % 512 from Int.toNat_natCast _, show ((cur % 512 + mm : Nat) : Int).toNat = cur % 512 + mm from Int.toNat_natCast _, if_neg (by omega), Nat.zero_add, Nat.mul_one, show cur % 512 + mm - cur % 512 = mm from by omega]) ?_
      have hnews : Reads (buf gb el q (bvs (V (ptr V (ldN p V i) (cur / 512))))) (some ⟨gb, cur % 512, none⟩) (bvs (((V (ptr V (ldN p V i) (cur / 512))).drop (cur % 512)).take mm)) := by
        have := (Reads.buf (g := gb) (e := el) (k := q) (xs := bvs (V (ptr V (ldN p V i) (cur / 512))))).drop (cur % 512)
        rw [Nat.zero_add] at this
        rw [bvs_take, bvs_drop]
        exact this.take mm
      refine .appendAny (m := mm) so91 (by decide) (by repeat (first | exact .here | apply Rem.there | apply Repl.there | apply Mem.there)) hnews (by repeat (first | exact .here | apply Rem.there | apply Repl.there | apply Mem.there)) (by rw [bvs_length, List.length_take, List.length_drop, hl5]; omega) (bvs_single _) (by omega) (by omega) ⟨_, z5, rfl⟩ (fun vB hvB => ?_)
      refine .assign (.y (.move (.move (.move ?_))))
      refine .sub ?_
      refine .add ?_
      refine .cast (d := 93) (u := nI (cur + mm)) rfl (congrArg (Value.int .i64) (by omega)) ?_
      refine .assign (.nil (.blockNormal ?_))
      refine .to (A := rowR 5 1 vB (cur - at' + mm) (bvs ((f.2.drop at').take (cur - at')) ++ bvs (((V (ptr V (ldN p V i) (cur / 512))).drop (cur % 512)).take mm))) (A' := rowR 5 1 vB (cur + mm - at') (bvs ((f.2.drop at').take (cur + mm - at')))) (fun h hh => by rw [hrs, bvs_append, show cur + mm - at' = cur - at' + mm from by omega]; exact hh) ?_
      exact .back (cur + mm, vB) ⟨by show at' ≤ cur + mm; omega, by show cur + mm ≤ en ∨ cur + mm = at'; omega⟩ (by show en - (cur + mm) < en - cur; omega)
    · have hge : ¬ cur < en := by have := of_decide_eq_false hb; omega
      have hfe : (f.2.drop at').take (cur - at') = (f.2.drop at').take k := by
        rw [hen2]
        rcases hc2 with h1 | h1
        · rw [show cur = en from by omega]
        · rw [show cur - at' = 0 from by omega, show en - at' = 0 from by omega]
      have hfl : ((f.2.drop at').take k).length = cur - at' := by
        rw [← hfe, List.length_take, List.length_drop]
        omega
      refine .exit (.thenExit (.thenExit (.blockExit (?_))))
      refine .next (.sr (.move (.assign (.assign (.z ?_)))))
      refine .ret (?_)
      refine .to (A := rowR 5 1 u (cur - at') (bvs ((f.2.drop at').take (cur - at')))) (A' := rowR 5 1 u ((f.2.drop at').take k).length (bvs ((f.2.drop at').take k))) (fun h hh => by rw [hfl, ← hfe]; exact hh) ?_
      exact .ret2 (h1 := .tmp (t := 8) rfl) (h2 := .tmp (t := 9) rfl) ⟨_, ⟨u, rfl, rfl⟩, Am.auto⟩
  · obtain ⟨en, hen, hen1, hen2⟩ : ∃ en, en = f.2.length ∧ en ≤ f.2.length ∧ (f.2.drop at').take k = (f.2.drop at').take (en - at') := ⟨_, rfl, by omega, by rw [List.take_of_length_le (by rw [List.length_drop]; omega), List.take_of_length_le (by rw [List.length_drop]; omega)]⟩
    refine .sr (.assign (.assign (.x (.move (.move ?_)))))
    refine .call (hc := Tryz.call65) (sp := inLoad (i := i) (V0 := V0) (V := V) (D := D) (op := op) ho (h.lt hi) (h.digI hi)) (h := ?_)
    rintro _ _ ⟨rfl, rfl⟩
    simp only [List.cons_append, List.nil_append]
    refine .move ?_
    refine .extract ?_
    refine .extract ?_
    refine .allocL zNd rfl fun b10 => ?_
    refine .stLA (xs := ndL nd0) (us := ndL (ldN p V i)) ?_ agg127 hnl rfl (ndL_single _)
    refine .assign (.z (.seq (.sr (.move ?_))))
    refine .nei ?_
    refine .z ?_
    refine .condF rfl rfl ?_
    refine .skip (.next (.seq (.sr (.move ?_))))
    refine .lss ?_
    refine .move ?_
    refine .cast (d := 30) (u := .bool false) rfl (congrArg Value.bool (by first | (simp; done) | (simp; omega) | (unfold nI; simp; omega) | omega)) ?_
    refine .gT ?_
    refine .move ?_
    refine .gT ?_
    refine .lss ?_
    refine .pickF ?_
    refine .z ?_
    refine .condF rfl (congrArg Value.bool (by first | (simp; done) | (simp; omega) | (unfold nI; simp; omega) | omega)) ?_
    refine .skip (.next (.sr ?_))
    refine .fa ?_ fo127_1
    refine .ldL (xs := ndL (ldN p V i)) (i := 1) ?_ sc3 hszg
    refine .cast (d := 35) (u := nI en) rfl (congrArg nI hen.symm) ?_
    refine .assign (.z (.seq (.sr (.move (.move ?_)))))
    refine .lss ?_
    refine .move ?_
    refine .cast (d := 39) (u := .bool true) rfl (congrArg Value.bool (by first | (simp; done) | (simp; omega) | (unfold nI; simp; omega) | omega)) ?_
    refine .gT ?_
    refine .move ?_
    refine .gT ?_
    refine .move ?_
    refine .gT ?_
    refine .move ?_
    refine .gT ?_
    refine .sub ?_
    refine .gT ?_
    refine .lss ?_
    refine .pickT ?_
    refine .z ?_
    refine .condF rfl (congrArg Value.bool (by first | (simp; done) | (simp; omega) | (unfold nI; simp; omega) | omega)) ?_
    refine .skip (.next (.sr (.assign ?_)))
    refine .emp (A := rowR 5 1 (.slice none 0 0) (at' - at') (bvs ((f.2.drop at').take (at' - at')))) (by rw [Nat.sub_self]; exact rowR.nil _) ?_
    refine .z (.seq (.block ?_))
    refine .loopA (σ := Nat × Value) (fun y => [(0, .pointer (some ⟨s, 0, none⟩)), (2, nI y.1), (10, .pointer (some ⟨b10, 0, none⟩)), (12, nI en), (13, y.2)]) (fun y => [rowR 5 1 y.2 (y.1 - at') (bvs ((f.2.drop at').take (y.1 - at'))), row b10 127 (ndL (ldN p V i)), pt s (stO c a p), pt a (alO c p), TR c p.n V0 V D op] ++ F) (fun y => at' ≤ y.1 ∧ (y.1 ≤ en ∨ y.1 = at')) (fun y => en - y.1) (at', .slice none 0 0) ⟨Nat.le_refl _, .inr rfl⟩ ?_
    rintro ⟨cur, u⟩ hy
    obtain ⟨hc1, hc2⟩ := hy
    simp only at hc1 hc2
    refine .seq (.sr (.move (.move ?_)))
    refine .lss ?_
    refine .z ?_
    refine .cond rfl (fun hb => ?_) (fun hb => ?_)
    · have hlt2 : cur < en := by have := of_decide_eq_true hb; omega
      obtain ⟨mm, hmm⟩ : ∃ mm, mm = min (512 - cur % 512) (en - cur) := ⟨_, rfl⟩
      have hSk : stdS (dat f.2.length) (cur / 512) = true := stdS_iff.2 (.inl (by unfold dat; omega))
      have hrk := h.inv.rng i _ _ _ hnd hSk
      have hV200 : 10 ≤ cur / 512 → 245 ≤ (ldN p V i).bl.getD 10 0 ∧ (ldN p V i).bl.getD 10 0 < p.n := fun h10 => by
        have := h.inv.rng i _ _ 200 hnd (stdS_iff.2 (.inr ⟨rfl, by unfold dat; omega⟩))
        rw [ptr_200] at this
        omega
      have hrs := read_step (cur := cur) (mm := mm) (at' := at') hf.byt (by omega) (by omega) hc1 (h.inv.len _)
      refine .skip (.next (.block (.sr (.move ?_))))
      refine .ldW (xs := ndL (ldN p V i)) ?_ agg127 hnl
      refine .move ?_
      refine .quo ?_
      refine .cast (d := 56) (u := nI (cur / 512)) rfl (congrArg (Value.int .i64) (by omega)) ?_
      refine .call (hc := Tryz.call121) (sp := inBlock (x := ldN p V i) (k := cur / 512) (V0 := V0) (V := V) (D := D) (op := op) hbl (by omega) hV200) (h := ?_)
      rintro _ _ ⟨rfl, rfl⟩
      simp only [List.cons_append, List.nil_append]
      refine .move ?_
      refine .extract ?_
      refine .extract ?_
      refine .assign (.assign (.z (.seq (.sr (.move ?_)))))
      refine .nei ?_
      refine .z ?_
      refine .condF rfl rfl ?_
      refine .skip (.next (.sr (.move ?_)))
      refine .nilCheck ?_
      refine .fa ?_ fo158_0
      refine .ld ?_ sc24
      refine .move ?_
      refine .call (hc := Tryz.call107) (sp := tRead (n := p.n) (V0 := V0) (V := V) (D := D) (op := op) (k := ptr V (ldN p V i) (cur / 512)) (by omega) (by omega)) (h := ?_)
      rintro _ _ ⟨gb, q, el, rfl, ⟨hq1, hq2, hl5⟩, rfl⟩
      refine .move ?_
      refine .extract ?_
      refine .extract ?_
      refine .assign (.assign (.z (.seq (.sr (.move ?_)))))
      refine .nei ?_
      refine .z ?_
      refine .condF rfl rfl ?_
      refine .skip (.next (.sr (.move ?_)))
      refine .rem ?_
      refine .cast (d := 76) (u := nI (cur % 512)) rfl (congrArg (Value.int .i64) (by omega)) ?_
      refine .assign (.x (.move (.move ?_)))
      refine .add ?_
      refine .move ?_
      refine .sub ?_
      refine .minI ?_
      refine .cast (d := 82) (u := nI (cur % 512 + mm)) rfl (congrArg (Value.int .i64) (by split <;> omega)) ?_
      refine .assign (.x (.move (.move (.move (.move ?_)))))
      refine .slcLH ?_ so91
      refine .cast (d := 87) (u := .slice (some ⟨gb, cur % 512, none⟩) mm (q - cur % 512)) rfl (by rw [show ((cur % 512 : Nat) : Int).toNat = cur % 512 from Int.toNat_natCast _, show ((cur % 512 + mm : Nat) : Int).toNat = cur % 512 + mm from Int.toNat_natCast _, if_neg (by omega), Nat.zero_add, Nat.mul_one, show cur % 512 + mm - cur % 512 = mm from by omega]) ?_
      have hnews : Reads (buf gb el q (bvs (V (ptr V (ldN p V i) (cur / 512))))) (some ⟨gb, cur % 512, none⟩) (bvs (((V (ptr V (ldN p V i) (cur / 512))).drop (cur % 512)).take mm)) := by
        have := (Reads.buf (g := gb) (e := el) (k := q) (xs := bvs (V (ptr V (ldN p V i) (cur / 512))))).drop (cur % 512)
        rw [Nat.zero_add] at this
        rw [bvs_take, bvs_drop]
        exact this.take mm
      refine .appendAny (m := mm) so91 (by decide) (by repeat (first | exact .here | apply Rem.there | apply Repl.there | apply Mem.there)) hnews (by repeat (first | exact .here | apply Rem.there | apply Repl.there | apply Mem.there)) (by rw [bvs_length, List.length_take, List.length_drop, hl5]; omega) (bvs_single _) (by omega) (by omega) ⟨_, z5, rfl⟩ (fun vB hvB => ?_)
      refine .assign (.y (.move (.move (.move ?_))))
      refine .sub ?_
      refine .add ?_
      refine .cast (d := 93) (u := nI (cur + mm)) rfl (congrArg (Value.int .i64) (by omega)) ?_
      refine .assign (.nil (.blockNormal ?_))
      refine .to (A := rowR 5 1 vB (cur - at' + mm) (bvs ((f.2.drop at').take (cur - at')) ++ bvs (((V (ptr V (ldN p V i) (cur / 512))).drop (cur % 512)).take mm))) (A' := rowR 5 1 vB (cur + mm - at') (bvs ((f.2.drop at').take (cur + mm - at')))) (fun h hh => by rw [hrs, bvs_append, show cur + mm - at' = cur - at' + mm from by omega]; exact hh) ?_
      exact .back (cur + mm, vB) ⟨by show at' ≤ cur + mm; omega, by show cur + mm ≤ en ∨ cur + mm = at'; omega⟩ (by show en - (cur + mm) < en - cur; omega)
    · have hge : ¬ cur < en := by have := of_decide_eq_false hb; omega
      have hfe : (f.2.drop at').take (cur - at') = (f.2.drop at').take k := by
        rw [hen2]
        rcases hc2 with h1 | h1
        · rw [show cur = en from by omega]
        · rw [show cur - at' = 0 from by omega, show en - at' = 0 from by omega]
      have hfl : ((f.2.drop at').take k).length = cur - at' := by
        rw [← hfe, List.length_take, List.length_drop]
        omega
      refine .exit (.thenExit (.thenExit (.blockExit (?_))))
      refine .next (.sr (.move (.assign (.assign (.z ?_)))))
      refine .ret (?_)
      refine .to (A := rowR 5 1 u (cur - at') (bvs ((f.2.drop at').take (cur - at')))) (A' := rowR 5 1 u ((f.2.drop at').take k).length (bvs ((f.2.drop at').take k))) (fun h hh => by rw [hfl, ← hfe]; exact hh) ?_
      exact .ret2 (h1 := .tmp (t := 8) rfl) (h2 := .tmp (t := 9) rfl) ⟨_, ⟨u, rfl, rfl⟩, Am.auto⟩
end Go.Proofs.YtdmjkjeoamiedaaGreat
end
section
namespace Go.Proofs.YtdmjkjeoamiedaaGreat
open Go
theorem Spec.later {P : Program} {f : FuncId} {args : Array Value} {X Y Z : HP} {R : List HP → Value → List HP → Prop} (h : Spec P f args [Y, Z] R) : Spec P f args [X, Y, Z] fun F v M => R (X :: F) v M := fun B F w hs => h B (X :: F) w (Am.wk Am.auto B w hs)
theorem Spec.last {P : Program} {f : FuncId} {args : Array Value} {X Y Z : HP} {R : List HP → Value → List HP → Prop} (h : Spec P f args [Z] R) : Spec P f args [X, Y, Z] fun F v M => R (X :: Y :: F) v M := fun B F w hs => h B (X :: Y :: F) w (Am.wk Am.auto B w hs)
theorem Spec.mid {P : Program} {f : FuncId} {args : Array Value} {X Y Z : HP} {R : List HP → Value → List HP → Prop} (h : Spec P f args [X, Z] R) : Spec P f args [X, Y, Z] fun F v M => R (Y :: F) v M := fun B F w hs => h B (Y :: F) w (Am.wk Am.auto B w hs)
structure IP (p : Pl) (F0 F : FM) (W : Nat) (y : (Nat → Bytes) × (Nat → Bytes) × List Nat) : Prop where
  r0 : Rep p y.1 F0
  r : Rep p y.2.1 F
  dk : Dk p y.2.2
  wt : wt p y.2.2 ≤ W
def inLs (s a c : Nat) (p : Pl) (op : Bool) (y : (Nat → Bytes) × (Nat → Bytes) × List Nat) : List HP := [pt s (stO c a p), pt a (alO c p), TR c p.n y.1 y.2.1 y.2.2 op]
def IN (s a c : Nat) (p : Pl) (F0 F : FM) (W : Nat) (op : Bool) : HP := fun h => ∃ y, IP p F0 F W y ∧ star (inLs s a c p op y) h
theorem IN.opens (s a c : Nat) (p : Pl) (F0 F : FM) (W : Nat) (op : Bool) : Opens (IN s a c p F0 F W op) (IP p F0 F W) (inLs s a c p op) := ⟨fun h hh => hh, fun x hp h hh => ⟨x, hp, hh⟩⟩
attribute [irreducible] IN
def Rw (p : Pl) (W c : Nat) : Prop := p.n ≤ 304 ∨ (p.tb - 245) + W + c ≤ 60
theorem Rw.rm {p : Pl} {W c : Nat} {D : List Nat} (h : Rw p W c) (hw : wt p D ≤ W) : Rm p D c := by
  unfold Rw at h; unfold Rm
  rcases h with h | h
  · exact .inl h
  · exact .inr (by omega)
theorem Spec.re {P : Program} {f : FuncId} {args : Array Value} {L L' : List HP} {R : List HP → Value → List HP → Prop} (h : Spec P f args L R) (hk : ∀ F, Wk (L' ++ F) (L ++ F)) : Spec P f args L' R := fun B F w hs => h B F w (hk F B w hs)
def cntF (F : FM) (n : Nat) : Nat := cntB (fun i => (F i).isSome) n
theorem Rep.cntI {p : Pl} {V : Nat → Bytes} {F : FM} (h : Rep p V F) : cnt V p.im p.ino = cntF F p.ino := by
  unfold cntF
  refine cnt_cntB fun k hk => ?_
  rw [h.inv.imap k hk]
  unfold ndOf
  cases F k <;> rfl
theorem Rep.imapF {p : Pl} {V : Nat → Bytes} {F : FM} (h : Rep p V F) {j : Nat} (hj : j < p.ino) : dig V p.im j = (F j).isSome := by
  rw [h.inv.imap j hj]
  unfold ndOf
  cases F j <;> rfl
variable {s a c : Nat} {p : Pl} {F0 F : FM} {W : Nat} {op : Bool}
theorem nStat {i : Nat} {f : Nat × Bytes} (ho : PlOk p) (hi : F i = some f) : Spec Tryz.prog 24 #[.pointer (some ⟨s, 0, none⟩), nI i] [IN s a c p F0 F W op] fun G v M => v = .tuple #[.agg #[nI f.1, nI f.2.length], .int .i64 0] ∧ M = IN s a c p F0 F W op :: G := by
  refine Spec.opens (IN.opens s a c p F0 F W op) fun y hy => (inStat (s := s) (c := c) (a := a) (V0 := y.1) (V := y.2.1) (D := y.2.2) (op := op) (i := i) ho (hy.r.lt hi) (hy.r.digI hi)).post ?_
  rintro G v M ⟨rfl, rfl⟩
  have hf := hy.r.ok i f hi
  rw [hf.kd, hf.sz]
  exact ⟨_, ⟨rfl, rfl⟩, Wk.shutR (M := G) (IN.opens s a c p F0 F W op) y hy⟩
theorem nStatNo {i : Int} (ho : PlOk p) (hi : fileAt F i = none) : Spec Tryz.prog 24 #[.pointer (some ⟨s, 0, none⟩), .int .i64 i] [IN s a c p F0 F W op] fun G v M => v = .tuple #[.agg #[nI 0, nI 0], .int .i64 4] ∧ M = IN s a c p F0 F W op :: G := by
  refine Spec.opens (IN.opens s a c p F0 F W op) fun y hy => (inStatNo (s := s) (c := c) (a := a) (V0 := y.1) (V := y.2.1) (D := y.2.2) (op := op) (i := i) ho (hy.r.nope hi)).post ?_
  rintro G v M ⟨rfl, rfl⟩
  exact ⟨_, ⟨rfl, rfl⟩, Wk.shutR (M := G) (IN.opens s a c p F0 F W op) y hy⟩
theorem nRead {i at' k : Nat} {f : Nat × Bytes} (ho : PlOk p) (hi : F i = some f) (hat : at' ≤ 9223372036854775807) (hk : k ≤ 9223372036854775807) : Spec Tryz.prog 93 #[.pointer (some ⟨s, 0, none⟩), nI i, nI at', nI k] [IN s a c p F0 F W op] fun G v M => ∃ u, v = .tuple #[u, .int .i64 0] ∧ M = rowR 5 1 u ((f.2.drop at').take k).length (bvs ((f.2.drop at').take k)) :: IN s a c p F0 F W op :: G := by
  refine Spec.opens (IN.opens s a c p F0 F W op) fun y hy => (inRead (s := s) (c := c) (a := a) (V0 := y.1) (V := y.2.1) (D := y.2.2) (op := op) hy.r ho hi hat hk).post ?_
  rintro G v M ⟨u, rfl, rfl⟩
  exact ⟨_, ⟨u, rfl, rfl⟩, fun B w hs => Sat.front (.there .here) (Sat.shuts (M := rowR _ _ _ _ _ :: G) (IN.opens s a c p F0 F W op) hy (Am.wk Am.auto B w hs))⟩
theorem nWrite {i at' m cc : Nat} {f : Nat × Bytes} {R : HP} {A : Option Addr} {bs : Bytes} (ho : PlOk p) (hi : F i = some f) (hw : Rw p W (has (max f.2.length (at' + m)) - has f.2.length + (m + 511) / 512 + 10)) (hR : bs = [] ∨ Reads R A (bvs bs)) (hm : bs.length = m) (hcc : m ≤ cc) (hcb : cc ≤ maxLen) (hat : at' ≤ f.2.length) (hbg : at' + m ≤ 70656) (hfit : tot F p.ino + has (max f.2.length (at' + m)) ≤ p.dc + has f.2.length) :
    Spec Tryz.prog 49 #[.pointer (some ⟨s, 0, none⟩), nI i, nI at', .slice A m cc] [IN s a c p F0 F W true, R] fun G v M => v = okV ∧ M = IN s a c p F0 (updM F i (some (f.1, wrB f.2 at' bs))) (W + (has (max f.2.length (at' + m)) - has f.2.length) + (m + 511) / 512 + 5) true :: R :: G := by
  refine Spec.opens (IN.opens s a c p F0 F W true) fun y hy => ((inWrite (s := s) (c := c) (a := a) (V0 := y.1) (V := y.2.1) (D := y.2.2) (cc := cc) hy.r ho hi hy.dk (hw.rm hy.wt) hR hm hcc hcb hat hbg).re (fun G B w hs => Sat.front (.there (.there (.there .here))) hs)).post ?_
  rintro G v M (⟨hfull, rfl, rfl⟩ | ⟨hle, V1, D1, hrep, ⟨hdk, hwt⟩, rfl, rfl⟩)
  · omega
  · have hw1 := hy.wt
    exact ⟨_, ⟨rfl, rfl⟩, Wk.trans (Am.wk Am.auto) (Wk.shutR (M := R :: G) (IN.opens s a c p F0 (updM F i (some (f.1, wrB f.2 at' bs))) (W + (has (max f.2.length (at' + m)) - has f.2.length) + (m + 511) / 512 + 5) true) (y.1, V1, D1) ⟨hy.r0, hrep, hdk, by show wt p D1 ≤ _; omega⟩)⟩
theorem nWriteFull {i at' m cc : Nat} {f : Nat × Bytes} {R : HP} {A : Option Addr} {bs : Bytes} (ho : PlOk p) (hi : F i = some f) (hw : Rw p W (has (max f.2.length (at' + m)) - has f.2.length + (m + 511) / 512 + 10)) (hR : bs = [] ∨ Reads R A (bvs bs)) (hm : bs.length = m) (hcc : m ≤ cc) (hcb : cc ≤ maxLen) (hat : at' ≤ f.2.length) (hbg : at' + m ≤ 70656) (hfit : p.dc + has f.2.length < tot F p.ino + has (max f.2.length (at' + m))) :
    Spec Tryz.prog 49 #[.pointer (some ⟨s, 0, none⟩), nI i, nI at', .slice A m cc] [IN s a c p F0 F W true, R] fun G v M => v = .int .i64 3 ∧ M = IN s a c p F0 F W true :: R :: G := by
  refine Spec.opens (IN.opens s a c p F0 F W true) fun y hy => ((inWrite (s := s) (c := c) (a := a) (V0 := y.1) (V := y.2.1) (D := y.2.2) (cc := cc) hy.r ho hi hy.dk (hw.rm hy.wt) hR hm hcc hcb hat hbg).re (fun G B w hs => Sat.front (.there (.there (.there .here))) hs)).post ?_
  rintro G v M (⟨hfull, rfl, rfl⟩ | ⟨hle, V1, D1, hrep, ⟨hdk, hwt⟩, rfl, rfl⟩)
  · exact ⟨_, ⟨rfl, rfl⟩, Wk.trans (Am.wk Am.auto) (Wk.shutR (M := R :: G) (IN.opens s a c p F0 F W true) y hy)⟩
  · omega
theorem nFree (ho : PlOk p) : Spec Tryz.prog 21 #[.pointer (some ⟨a, 0, none⟩)] [IN s a c p F0 F W op] fun G v M => v = .tuple #[.int .i64 ((p.dc : Int) - tot F p.ino), .int .i64 ((p.ino : Int) - cntF F p.ino)] ∧ M = IN s a c p F0 F W op :: G := by
  refine Spec.opens (IN.opens s a c p F0 F W op) fun y hy => ((alFree (a := a) (c := c) (V0 := y.1) (V := y.2.1) (D := y.2.2) (op := op) ho).later).post ?_
  rintro G v M ⟨rfl, rfl⟩
  rw [hy.r.cn, hy.r.cntI]
  exact ⟨_, ⟨rfl, rfl⟩, Wk.trans (Am.wk Am.auto) (Wk.shutR (M := G) (IN.opens s a c p F0 F W op) y hy)⟩
theorem nCommit (ho : PlOk p := by assumption) : Spec Tryz.prog 16 #[.pointer (some ⟨c, 0, none⟩)] [IN s a c p F0 F W true] fun G v M => v = okV ∧ M = IN s a c p F F 0 false :: G := by
  refine Spec.opens (IN.opens s a c p F0 F W true) fun y hy => ((tCommit (c := c) (n := p.n) (V0 := y.1) (V := y.2.1) (D := y.2.2)).last).post ?_
  rintro G v M ⟨rfl, rfl⟩
  exact ⟨_, ⟨rfl, rfl⟩, Wk.trans (Am.wk Am.auto) (Wk.shutR (M := G) (IN.opens s a c p F F 0 false) (cm0 y.2.1, y.2.1, []) ⟨hy.r.cm ho, hy.r, Dk.nil p, Nat.zero_le _⟩)⟩
theorem nAbort  : Spec Tryz.prog 18 #[.pointer (some ⟨c, 0, none⟩)] [IN s a c p F0 F W true] fun G v M => v = okV ∧ M = IN s a c p F0 F0 0 false :: G := by
  refine Spec.opens (IN.opens s a c p F0 F W true) fun y hy => ((tAbort (c := c) (n := p.n) (V0 := y.1) (V := y.2.1) (D := y.2.2)).last).post ?_
  rintro G v M ⟨rfl, rfl⟩
  exact ⟨_, ⟨rfl, rfl⟩, Wk.trans (Am.wk Am.auto) (Wk.shutR (M := G) (IN.opens s a c p F0 F0 0 false) (y.1, y.1, []) ⟨hy.r0, hy.r0, Dk.nil p, Nat.zero_le _⟩)⟩
theorem nBegin  : Spec Tryz.prog 17 #[.pointer (some ⟨c, 0, none⟩)] [IN s a c p F0 F W false] fun G v M => v = okV ∧ M = IN s a c p F0 F W true :: G := by
  refine Spec.opens (IN.opens s a c p F0 F W false) fun y hy => ((tBegin (c := c) (n := p.n) (V0 := y.1) (V := y.2.1) (D := y.2.2)).last).post ?_
  rintro G v M ⟨rfl, rfl⟩
  exact ⟨_, ⟨rfl, rfl⟩, Wk.trans (Am.wk Am.auto) (Wk.shutR (M := G) (IN.opens s a c p F0 F W true) y hy)⟩
def rootM : FM := fun i => if i = 0 then some (2, []) else none
def freshW (p : Pl) : Nat → Bytes := svV p (freshV p) 0 ⟨2, 0, List.replicate 11 0⟩
theorem fresh_len5 {p : Pl} : Len5 (freshV p) := fun k => by
  unfold freshV fmtA
  rw [fmtV_at]
  split
  · exact fmtZ_length _ _ _
  · rw [fmtV_at]
    split
    · exact fmtZ_length _ _ _
    · exact zeros_length
theorem fresh_rep {p : Pl} (h : PlIs p) : Rep p (freshW p) rootM := by
  have ho := h.ok
  have hlo := ho.lo
  have htd := ho.tbda
  have hi1 := ho.i1
  have hi2 := ho.i2
  have htab := ho.tab
  have hfx : Fits ⟨2, 0, List.replicate 11 0⟩ := kFits (by decide)
  have hld : ldN p (freshW p) 0 = ⟨2, 0, List.replicate 11 0⟩ := ldN_svV fresh_len5 hfx
  have hnd : ∀ i x S, ndOf p (freshW p) rootM i = some (x, S) → i = 0 ∧ x = ⟨2, 0, List.replicate 11 0⟩ ∧ ∀ k, S k = false := by
    intro i x S hi
    unfold ndOf rootM at hi
    by_cases h0 : i = 0
    · subst h0
      rw [if_pos rfl] at hi
      have hi' : some (ldN p (freshW p) 0, stdS (dat ([] : Bytes).length)) = some (x, S) := hi
      injection hi' with hi'
      injection hi' with e1 e2
      exact ⟨rfl, by rw [← e1, hld], fun k => by rw [← e2]; exact stdS_zero k⟩
    · rw [if_neg h0] at hi; cases hi
  have hV : ∀ v, v < p.tb → freshW p v = freshV p v := fun v hv => wr_other _ _ (by omega)
  have hbm : ∀ k, k < p.dc → dig (freshW p) p.bm k = false := fun k hk => by
    have := ho.mapAt hk
    rw [← fresh_bm h hk]
    unfold dig
    rw [hV _ (by omega)]
  refine ⟨⟨svV_len fresh_len5 _ _, ?_, ?_, ?_, ?_, ?_, ?_, ?_⟩, ?_, ?_, rfl⟩
  · intro i x S hi; obtain ⟨_, h2, _⟩ := hnd i x S hi; rw [h2]; exact hfx
  · intro i x S hi; obtain ⟨_, _, h3⟩ := hnd i x S hi; exact ⟨fun k hk => (by rw [h3 k] at hk; cases hk), fun k hk => (by rw [h3 k] at hk; cases hk)⟩
  · intro i x S hi; obtain ⟨h1, _, _⟩ := hnd i x S hi; omega
  · intro i x S k hi hk; obtain ⟨_, _, h3⟩ := hnd i x S hi; rw [h3 k] at hk; cases hk
  · intro i x S k j y T l hi hk; obtain ⟨_, _, h3⟩ := hnd i x S hi; rw [h3 k] at hk; cases hk
  · intro b hb
    rw [hbm b hb]
    refine ⟨fun hh => (by cases hh), ?_⟩
    rintro ⟨i, x, S, k, hi, hk, _⟩
    obtain ⟨_, _, h3⟩ := hnd i x S hi
    rw [h3 k] at hk; cases hk
  · intro i hi
    have h1 : dig (freshW p) p.im i = decide (i = 0) := by
      rw [← fresh_im h hi]
      unfold dig
      rw [hV _ (by omega)]
    rw [h1]
    unfold ndOf rootM
    by_cases h0 : i = 0
    · rw [if_pos h0, decide_eq_true h0]; rfl
    · rw [if_neg h0, decide_eq_false h0]; rfl
  · intro i f hi
    unfold rootM at hi
    by_cases h0 : i = 0
    · subst h0
      rw [if_pos rfl] at hi
      cases hi
      rw [hld]
      exact ⟨rfl, .inr rfl, rfl, Nat.zero_le _, fun q hq => by cases hq⟩
    · rw [if_neg h0] at hi; cases hi
  · have h1 : ∀ n, tot rootM n = 0 := by
      intro n
      induction n with
      | zero => rfl
      | succ n ih =>
        unfold tot
        rw [ih]
        unfold rootM
        by_cases h0 : n = 0
        · rw [if_pos h0]; rfl
        · rw [if_neg h0]; rfl
    rw [h1]
    unfold cnt
    rw [List.filter_eq_nil_iff.2 (fun k hk => by rw [hbm k (List.mem_range.1 hk)]; decide)]
    rfl
theorem tot_root (n : Nat) : tot rootM n = 0 := by
  induction n with
  | zero => rfl
  | succ n ih =>
    unfold tot
    rw [ih]
    unfold rootM
    by_cases h0 : n = 0
    · rw [if_pos h0]; rfl
    · rw [if_neg h0]; rfl
theorem fmtB_few {p : Pl} (h : PlIs p) : (fmtB p []).length + 1 ≤ 60 := by
  have h1 := fmtD_length (fmtD [] p.im ((p.ino + 4095) / 4096)) p.bm ((p.dc + 4095) / 4096)
  have h2 := fmtD_length [] p.im ((p.ino + 4095) / 4096)
  have h3 := h.i2
  have h4 := h.n2
  have h5 := h.dc
  have h6 := h.i1
  have h7 := h.da
  have h8 := h.m1
  have h9 := h.bm
  unfold fmtB
  have : ([] : List Nat).length = 0 := rfl
  omega
end Go.Proofs.YtdmjkjeoamiedaaGreat
end
section
namespace Go.Proofs.YtdmjkjeoamiedaaGreat
open Go
section
variable {P : Program} {B : Base} {n : Fr} {Q Q' : Exit → Act → World → Prop} {e : Env} {L : List HP} {ops : Array Oper} {l : List Oper}
variable {d : Nat} {ty : TypeId} {pos : String} {af : Array Edge} {x y z : Operand} {gd : Option (Nat × Bool)}
theorem Qt.maxI {p q : Int} {tys : Array TypeId} (hx : evo e x = some (.int .i64 p) := by rfl) (hy : evo e y = some (.int .i64 q) := by rfl) :
    Qt P B n e L ⟨some d, .call ⟨.builtin .max, #[x, y], tys⟩, ty, pos, af, gd⟩ (.int .i64 (if p < q then q else p)) :=
  fun a w ha hs => by
    simp [execOp, resolve, invoke, builtin, ha.eval hx, ha.eval hy, Builtin.max_, Builtin.max2]
theorem WL.maxI {p q : Int} {tys : Array TypeId} (h : WL P B n ops l Q ((d, .int .i64 (if p < q then q else p)) :: e) L) (hx : evo e x = some (.int .i64 p) := by rfl) (hy : evo e y = some (.int .i64 q) := by rfl) (hd : Nat.ble (d + 1) n.k = true := by rfl) :
    WL P B n ops (⟨some d, .call ⟨.builtin .max, #[x, y], tys⟩, ty, pos, af, none⟩ :: l) Q e L := WL.pure h hd (Qt.maxI (hx := hx) (hy := hy))
end
end Go.Proofs.YtdmjkjeoamiedaaGreat
end
section
namespace Go.Proofs.YtdmjkjeoamiedaaGreat
open Go
section
variable {P : Program}
def arrIntOk (P : Program) (t el k : Nat) : Bool := arrOk P t el k 1 && intAny P el
theorem arrInt_of {t el k : Nat} (h : arrIntOk P t el k = true) : P.underlying t = some (.array k el) ∧ (∃ i, P.info? el = some i ∧ i.size = 1) ∧ intAny P el = true := by
  unfold arrIntOk at h
  rw [Bool.and_eq_true] at h
  obtain ⟨h1, h2⟩ := arr_of h.1
  exact ⟨h1, h2, h.2⟩
theorem cellsOf_of {el : Nat} {i : TypeInfo} (hi : P.info? el = some i) : P.cellsOf el = i.size := by
  unfold Program.cellsOf
  simp [hi]
theorem bvs_at {xs : Bytes} {i : Nat} (h : i < xs.length) : (bvs xs).toArray[i]? = some (bv xs[i]) := by
  simp [bvs, h]
theorem run_eqItems_bytes {el : Nat} (hk : intAny P el = true) (d : Nat) (xs ys : Bytes) (w : World) : ∀ (is : List Nat), (∀ i ∈ is, i < xs.length ∧ i < ys.length) →
    (Op.eqItems (d + 1) el 1 (bvs xs).toArray (bvs ys).toArray is).run P w = .ok (decide (∀ i ∈ is, xs[i]? = ys[i]?)) w
  | [], _ => by simp [Op.eqItems]
  | i :: is, h => by
    obtain ⟨hx, hy⟩ := h i (List.mem_cons_self ..)
    have px := run_part_int (P := P) hk (cs := (bvs xs).toArray) (i := i) (bvs_at hx) w
    have py := run_part_int (P := P) hk (cs := (bvs ys).toArray) (i := i) (bvs_at hy) w
    obtain ⟨k, hu⟩ := int_any hk
    have pe := run_equalIn_int (P := P) w d el .u8 k (xs[i].toNat : Int) (ys[i].toNat : Int) hu
    have ih := run_eqItems_bytes hk d xs ys w is (fun j hj => h j (List.mem_cons_of_mem _ hj))
    rw [Op.eqItems, Nat.mul_one]
    simp only [Sem.run_bind, px, py, Result.andThen_ok]
    rw [show bv xs[i] = .int .u8 (xs[i].toNat : Int) from rfl, show bv ys[i] = .int .u8 (ys[i].toNat : Int) from rfl, pe]
    simp only [Result.andThen_ok]
    by_cases hxy : xs[i] = ys[i]
    · rw [hxy]
      simp only [beq_self_eq_true, decide_true, Bool.not_true, Bool.false_eq_true, if_false]
      rw [ih]
      congr 1
      rw [decide_eq_decide]
      simp [hx, hy, hxy]
    · have hne : ¬ ((xs[i].toNat : Int) = (ys[i].toNat : Int)) := fun hh => hxy (UInt8.toNat_inj.1 (by omega))
      have : ¬ (∀ j ∈ i :: is, xs[j]? = ys[j]?) := fun hh => hxy (by
        have := hh i (List.mem_cons_self ..)
        rwa [List.getElem?_eq_getElem hx, List.getElem?_eq_getElem hy, Option.some.injEq] at this)
      rw [decide_eq_false this]
      simp [hne]
theorem run_equal_bytes {t el n : Nat} (h : arrIntOk P t el n = true) (d : Nat) {xs ys : Bytes} (hx : xs.length = n) (hy : ys.length = n) (w : World) :
    (Op.equalIn (d + 2) t (.agg (bvs xs).toArray) (.agg (bvs ys).toArray)).run P w = .ok (decide (xs = ys)) w := by
  obtain ⟨hu, ⟨i, hi, hs⟩, hk⟩ := arrInt_of h
  rw [run_equalIn_array w (d + 1) _ _ hu hi, cellsOf_of hi, hs, run_eqItems_bytes hk d xs ys w _ (fun j hj => by have := List.mem_range.1 hj; omega)]
  congr 1
  rw [decide_eq_decide]
  constructor
  · intro hh
    apply List.ext_getElem?
    intro j
    by_cases hj : j < n
    · exact hh j (List.mem_range.2 hj)
    · rw [List.getElem?_eq_none (by omega), List.getElem?_eq_none (by omega)]
  · intro hh j _
    rw [hh]
theorem run_check_items (emp : Bool) (m : Nat) {el : Nat} {i : TypeInfo} (hi : P.info? el = some i) (hs : i.size = 1) (hk : intAny P el = true) (xs : Bytes) (w : World) : ∀ (is : List Nat), (∀ j ∈ is, j < xs.length) →
    (forIn (m := Sem) is PUnit.unit (fun i _ => do
      Instr.checkKey emp (m + 1) el (← part el (bvs xs).toArray (i * (← sizeOf el)))
      pure (ForInStep.yield PUnit.unit))).run P w = .ok PUnit.unit w
  | [], _ => by simp
  | j :: is, h => by
    have px := run_part_int (P := P) hk (cs := (bvs xs).toArray) (i := j) (bvs_at (h j (List.mem_cons_self ..))) w
    obtain ⟨k, hu⟩ := int_any hk
    have pc := checkKey_int hu emp m .u8 (xs[j]'(h j (List.mem_cons_self ..))).toNat w
    have ih := run_check_items emp m hi hs hk xs w is (fun q hq => h q (List.mem_cons_of_mem _ hq))
    simp only [List.forIn_cons, Sem.run_bind, run_sizeOf w hi, Result.andThen_ok, cellsOf_of hi, hs, Nat.mul_one, px]
    rw [show bv (xs[j]'(h j (List.mem_cons_self ..))) = .int .u8 ((xs[j]'(h j (List.mem_cons_self ..))).toNat : Int) from rfl, pc]
    simp only [Result.andThen_ok, Sem.run_pure]
    exact ih
theorem run_check_bytes {t el n : Nat} (h : arrIntOk P t el n = true) (emp : Bool) (m : Nat) {xs : Bytes} (hx : xs.length = n) (w : World) : (Instr.checkKey emp (m + 2) t (.agg (bvs xs).toArray)).run P w = .ok () w := by
  obtain ⟨hu, ⟨i, hi, hs⟩, hk⟩ := arrInt_of h
  have := run_check_items (P := P) emp m hi hs hk xs w (List.range' 0 n) (fun j hj => by have := List.mem_range'.1 hj; omega)
  rw [Instr.checkKey]
  simp only [Sem.run_bind, run_underlying hu, Result.andThen_ok]
  simp only [Std.Legacy.Range.forIn_eq_forIn_range', Std.Legacy.Range.size, Nat.sub_zero, Nat.add_one_sub_one, Nat.div_one]
  rw [this]
  rfl
theorem sameBits_bytes (n : Nat) (xs : Bytes) : Instr.sameBits (n + 1) (.agg (bvs xs).toArray) (.agg (bvs xs).toArray) = true := by
  simp only [Instr.sameBits, beq_self_eq_true, Bool.true_and, List.all_eq_true]
  intro p hp
  have : ∀ (l : List Value), p ∈ l.zip l → p.1 = p.2 ∧ p.1 ∈ l := by
    intro l
    induction l with
    | nil => intro h; cases h
    | cons a l ih =>
      intro h
      simp only [List.zip_cons_cons, List.mem_cons] at h
      rcases h with rfl | h
      · simp
      · have := ih h
        exact ⟨this.1, List.mem_cons_of_mem _ this.2⟩
  obtain ⟨h1, h2⟩ := this _ hp
  simp only [List.toList_toArray, bvs, List.mem_map] at h2
  obtain ⟨a, _, ha⟩ := h2
  obtain ⟨x, y⟩ := p
  simp only at h1 ha ⊢
  subst h1
  rw [← ha]
  exact sameBits_int _ _ _
theorem arrKeys {κ : Type} [DecidableEq κ] (f : κ → Bytes) {kt el n : Nat} (h : arrIntOk P kt el n = true) (hf : ∀ k, (f k).length = n) (inj : ∀ a b, f a = f b → a = b) : KeyLaw P kt (fun k => Value.agg (bvs (f k)).toArray) where
  check emp k w := run_check_bytes h emp 9998 (hf k) w
  find k ks es w hk := by
    obtain ⟨h1, _⟩ := arrInt_of h
    have hask : ∀ (ks : List κ) (es : List MapEntry) (i : Nat) (w : World), es.map (·.key) = ks.map (fun k => Value.agg (bvs (f k)).toArray) →
        (Instr.findAsking kt (Value.agg (bvs (f k)).toArray) es i).run P w = .ok (findPure k ks es i) w := by
      intro ks
      induction ks with
      | nil =>
        intro es i w h
        have : es = [] := by simpa using h
        subst this
        simp [Instr.findAsking, findPure]
      | cons k' ks ih =>
        intro es i w h'
        cases es with
        | nil => simp at h'
        | cons e es =>
          simp only [List.map_cons, List.cons.injEq] at h'
          have he : (Op.equal kt (Value.agg (bvs (f k)).toArray) e.key).run P w = .ok (decide (f k = f k')) w := by
            rw [h'.1]
            exact run_equal_bytes h 9998 (hf k) (hf k') w
          simp only [Instr.findAsking, Sem.run_bind, he, Result.andThen_ok, findPure]
          by_cases hkk : k = k'
          · subst hkk; simp
          · have : ¬ f k = f k' := fun e => hkk (inj _ _ e)
            simp only [this, decide_false, Bool.false_eq_true, if_false, hkk]
            exact ih es (i + 1) w h'.2
    rw [run_findKey_eq w (by rw [h1])]
    exact hask ks es 0 w hk
  stays k := sameBits_bytes _ _
end
end Go.Proofs.YtdmjkjeoamiedaaGreat
end
section
namespace Go.Proofs.YtdmjkjeoamiedaaGreat
open Go
def bstr (xs : Bytes) : ByteArray := ⟨xs.toArray⟩
theorem bstr_size (xs : Bytes) : (bstr xs).size = xs.length := by simp [bstr, ByteArray.size]
theorem bstr_get {xs : Bytes} {i : Nat} (h : i < (bstr xs).size) : (bstr xs)[i] = xs[i]'(by rw [bstr_size] at h; exact h) := by
  have h1 := Lib.data_getElem? (bstr xs) i h
  have h2 : (bstr xs).data.toList = xs := rfl
  rw [h2, List.getElem?_eq_getElem (by rw [bstr_size] at h; exact h), Option.some.injEq] at h1
  exact h1.symm
theorem sv_bstr (xs : Bytes) : sv xs = .string (bstr xs) := rfl
section
variable {P : Program} {B : Base} {n : Fr} {Q Q' : Exit → Act → World → Prop} {e : Env} {L : List HP} {ops : Array Oper} {l : List Oper}
variable {d : Nat} {ty : TypeId} {pos : String} {af : Array Edge} {x y z : Operand} {gd : Option (Nat × Bool)}
theorem Qt.lenT {t : TypeId} (xs : Bytes) (ht : strOk P t = true) (hx : evo e x = some (sv xs) := by rfl) :
    Qt P B n e L ⟨some d, .call ⟨.builtin .len, #[x], #[t]⟩, ty, pos, af, gd⟩ (.int .i64 (xs.length : Int)) :=
  fun a w ha hs => by
    simp [execOp, resolve, invoke, builtin, ha.eval hx, Builtin.len_, run_underlying (str_of ht), sv_bstr, bstr_size, goInt]
theorem WL.lenT {t : TypeId} (xs : Bytes) (h : WL P B n ops l Q ((d, .int .i64 (xs.length : Int)) :: e) L) (ht : strOk P t = true) (hx : evo e x = some (sv xs) := by rfl) (hd : Nat.ble (d + 1) n.k = true := by rfl) :
    WL P B n ops (⟨some d, .call ⟨.builtin .len, #[x], #[t]⟩, ty, pos, af, none⟩ :: l) Q e L := WL.pure h hd (Qt.lenT xs ht hx)
theorem Qt.ixT {t : Nat} {p : Int} {kk : IntKind} {v : UInt8} (xs : Bytes) (ht : strOk P t = true) (hv : xs[p.toNat]? = some v) (hx : evo e x = some (sv xs) := by rfl) (hy : evo e y = some (.int kk p) := by rfl) (hp : 0 ≤ p := by omega) :
    Qt P B n e L ⟨some d, .index t x y, ty, pos, af, gd⟩ (.int .u8 (v.toNat : Int)) :=
  fun a w ha hs => by
    have h1 : (bstr xs)[p.toNat]? = some v := by
      have hlt : p.toNat < xs.length := (List.getElem?_eq_some_iff.1 hv).1
      rw [getElem?_pos (bstr xs) p.toNat (by rw [bstr_size]; exact hlt), bstr_get]
      rw [List.getElem?_eq_getElem hlt] at hv
      exact hv
    simp [execOp, ha.eval hx, ha.eval hy, Instr.index, asIntOf, run_underlying (str_of ht), sv_bstr, hp, h1]
theorem WL.ixT {t : Nat} {p : Int} {kk : IntKind} {v : UInt8} (xs : Bytes) (h : WL P B n ops l Q ((d, .int .u8 (v.toNat : Int)) :: e) L) (ht : strOk P t = true) (hv : xs[p.toNat]? = some v) (hx : evo e x = some (sv xs) := by rfl) (hy : evo e y = some (.int kk p) := by rfl) (hp : 0 ≤ p := by omega) (hd : Nat.ble (d + 1) n.k = true := by rfl) :
    WL P B n ops (⟨some d, .index t x y, ty, pos, af, none⟩ :: l) Q e L := WL.pure h hd (Qt.ixT xs ht hv hx hy hp)
def strIt (it : Nat) (xs : Bytes) (k : Nat) : HP := pt it (.stringIter (bstr xs) k)
theorem WL.rangeT {t : Nat} (xs : Bytes) (ht : strOk P t = true) (h : ∀ it, WL P B n ops l Q ((d, .pointer (some ⟨it, 0, none⟩)) :: e) (strIt it xs 0 :: L)) (hx : evo e x = some (sv xs) := by rfl) (hd : Nat.ble (d + 1) n.k = true := by rfl) :
    WL P B n ops (⟨some d, .range t x, ty, pos, af, none⟩ :: l) Q e L :=
  WL.step rfl fun a w ha hs => by
    refine ⟨_, w.alloc (.stringIter (bstr xs) 0), _, _, ?_, ha.put hd _, hs.new _, h w.heap.size⟩
    simp [execOp, ha.eval hx, Instr.range, run_underlying (str_of ht), newObj, Sem.run, sv_bstr]
def rune (xs : Bytes) (k : Nat) : Nat × Nat := Utf8.decode (bstr xs) k
theorem WL.nextT {it k : Nat} (xs : Bytes) {M : List HP}
    (h0 : ¬ k < xs.length → WL P B n ops l Q ((d, .tuple #[.bool false]) :: e) (strIt it xs k :: M))
    (h1 : k < xs.length → WL P B n ops l Q ((d, .tuple #[.bool true, .int .i64 (k : Int), .int .i32 ((rune xs k).1 : Int)]) :: e) (strIt it xs (k + (rune xs k).2) :: M))
    (hx : evo e x = some (.pointer (some ⟨it, 0, none⟩)) := by rfl) (r : Rem L (strIt it xs k) M := by repeat (first | exact .here | apply Rem.there)) (hd : Nat.ble (d + 1) n.k = true := by rfl) :
    WL P B n ops (⟨some d, .next x true, ty, pos, af, none⟩ :: l) Q e L :=
  WL.step rfl fun a w ha hs => by
    have hs1 := hs.front r
    have hb := hs1.get .here
    by_cases hk : k < xs.length
    · refine ⟨_, _, _, _, ?_, ha.put hd _, hs1.set (o' := .stringIter (bstr xs) (k + (rune xs k).2)) .here, h1 hk⟩
      have := Lib.run_next_any_at (P := P) w it (bstr xs) k ty hb (by rw [bstr_size]; exact hk)
      simp only [execOp, ha.eval hx, Sem.run_bind, this, Result.andThen_ok, Sem.run_pure]
      rfl
    · refine ⟨_, w, _, _, ?_, ha.put hd _, hs1, h0 hk⟩
      have := Lib.run_next_end_at (P := P) w it (bstr xs) k ty hb (by rw [bstr_size]; exact hk)
      simp only [execOp, ha.eval hx, Sem.run_bind, this, Result.andThen_ok, Sem.run_pure]
theorem WL.callX {f : FuncId} {xs : List Operand} {tys : Array TypeId} {vs : List Value} {v : Value} (hx : evos e xs = some vs := by rfl)
    (hc : ∀ w, (callFunc f vs.toArray).run P w = .ok (.value v) w) (h : WL P B n ops l Q ((d, v) :: e) L) (hd : Nat.ble (d + 1) n.k = true := by rfl) :
    WL P B n ops (⟨some d, .call ⟨.value (.func f), xs.toArray, tys⟩, ty, pos, af, none⟩ :: l) Q e L := by
  intro a w ha hs
  refine wpList_plain rfl fun K hK => ?_
  have hargs : xs.map a.eval = vs := evos_eval ha hx
  have hrun : (execOp a.eval ⟨some d, .call ⟨.value (.func f), xs.toArray, tys⟩, ty, pos, af, none⟩).run P w = .ok (.value v) w := by
    have he : a.eval (.func f) = .func (.func f) #[] #[] := rfl
    simp [execOp, resolve, Deferred.ofValue, he, invoke, hargs, hc]
  unfold Oper.wp
  rw [hrun]
  simp only [Oper.upon_value]
  exact hK _ _ (h _ w (ha.put hd v) hs)
theorem Qt.subT {t : Nat} {p : Int} (xs : Bytes) (ht : strOk P t = true) (hx : evo e x = some (sv xs) := by rfl) (hy : evo e y = some (.int .i64 p) := by rfl) (hp : 0 ≤ p ∧ p ≤ xs.length := by omega) :
    Qt P B n e L ⟨some d, .slice t x (some y) none none, ty, pos, af, gd⟩ (sv (xs.drop p.toNat)) :=
  fun a w ha hs => by
    have h1 : (bstr xs).extract p.toNat xs.length = bstr (xs.drop p.toNat) := by
      apply ByteArray.ext
      simp [bstr, ByteArray.data_extract, List.take_of_length_le]
    simp [execOp, ha.eval hx, ha.eval hy, Instr.sliceAt, Instr.sureAddr, Instr.slice, Instr.sliceBounds, Instr.sliceBound, asIntOf, run_underlying (str_of ht), sv_bstr, hp, h1, bstr_size]
theorem WC.scope {c : Code} (h : WC P B n c (Exit.noGoto Q) e L) : WC P B n (.scope c) Q e L := fun a w ha hs => wp_scope_straight (h a w ha hs)
theorem WQ.scopeRet (h : WQ B n Q .ret e L) : WQ B n (Exit.noGoto Q) .ret e L := fun a w ha hs => h a w ha hs
theorem NoPanic.scope (h : NoPanic Q) : NoPanic (Exit.noGoto Q) := h
theorem NoPanic.autoS (h : NoPanic Q := by repeat (first | exact NoPanic.body | refine NoPanic.then ?_ | refine NoPanic.block ?_ | refine NoPanic.join ?_ | refine NoPanic.scope ?_)) : NoPanic Q := h
theorem Qt.cvtRT {s t : Nat} {k kk : IntKind} {p : Int} (hs : P.underlying s = some (.int k)) (ht : strOk P t = true) (hx : evo e x = some (.int kk p) := by rfl) :
    Qt P B n e L ⟨some d, .convert s t x, ty, pos, af, gd⟩ (sv (Utf8.encode p).data.toList) :=
  fun a w ha hs' => by
    have : (convert s t (.int kk p)).run P w = .ok (.string (Utf8.encode p)) w := by
      simp [convert, run_underlying hs, run_underlying (str_of ht), Conv.intToString]
    simp only [execOp, ha.eval hx, Sem.run_bind, this, Result.andThen_ok, Sem.run_pure]
    rfl
end
section
variable {P : Program} {B : Base} {n : Fr} {Q Q' : Exit → Act → World → Prop} {e : Env} {L : List HP} {ops : Array Oper} {l : List Oper}
variable {d : Nat} {ty : TypeId} {pos : String} {af : Array Edge} {x y z : Operand} {gd : Option (Nat × Bool)}
theorem Qt.slcArrL {t el k b : Nat} {q : Int} (ht : arrOk P t el k 1 = true) (hx : evo e x = some (.pointer (some ⟨b, 0, none⟩)) := by rfl) (hy : evo e y = some (.int .i64 q) := by rfl) (hq : 0 ≤ q ∧ q < k := by omega) :
    Qt P B n e L ⟨some d, .slice t x (some y) none none, ty, pos, af, gd⟩ (.slice (some ⟨b, q.toNat, none⟩) (k - q.toNat) (k - q.toNat)) :=
  fun a w ha hs => by
    obtain ⟨hu, i, hi, hsz⟩ := arr_of ht
    have h1 : ¬ k = q.toNat := by omega
    have h2 : q ≤ (k : Int) := by omega
    simp [execOp, ha.eval hx, ha.eval hy, Instr.sliceAt, run_underlying hu, Instr.sureAddr, Instr.sliceBounds, Instr.sliceBound, asIntOf, sizeOf, typeInfo, hi, hsz, add_plain', hq.1, h2, h1]
theorem WL.slcArrL {t el k b : Nat} {q : Int} (h : WL P B n ops l Q ((d, .slice (some ⟨b, q.toNat, none⟩) (k - q.toNat) (k - q.toNat)) :: e) L) (ht : arrOk P t el k 1 = true) (hx : evo e x = some (.pointer (some ⟨b, 0, none⟩)) := by rfl) (hy : evo e y = some (.int .i64 q) := by rfl) (hq : 0 ≤ q ∧ q < k := by omega) (hd : Nat.ble (d + 1) n.k = true := by rfl) :
    WL P B n ops (⟨some d, .slice t x (some y) none none, ty, pos, af, none⟩ :: l) Q e L := WL.pure h hd (Qt.slcArrL ht hx hy hq)
theorem buf_of_row {b el k : Nat} {xs : List Value} (hk : xs.length = k) : ∀ h, row b el xs h → buf b el k xs h := by
  intro h hh
  subst hk
  unfold row at hh
  exact buf_of_pt (cs := xs.toArray) rfl h hh
theorem row_of_buf {b el k : Nat} {xs : List Value} (hk : xs.length = k) : ∀ h, buf b el k xs h → row b el xs h := by
  intro h hh
  obtain ⟨cs, ⟨h1, h2, _⟩, h3⟩ := pt_of_buf h hh
  have h4 : cs = xs.toArray := by
    rw [List.take_of_length_le (by rw [Array.length_toList]; omega)] at h2
    rw [← h2]
  unfold row
  rw [← h4]
  exact h3
end
theorem rune_low {xs : Bytes} {k : Nat} (h : k < xs.length) (hb : xs[k].toNat < 128) : rune xs k = (xs[k].toNat, 1) := by
  unfold rune
  have hk : k < (bstr xs).size := by rw [bstr_size]; exact h
  have := decode_ascii (bstr xs) k hk (by rw [bstr_get hk]; exact hb)
  rw [this, bstr_get hk]
theorem bget {xs : Bytes} {k : Nat} (h : k < xs.length) : (bstr xs).get! k = xs[k] := by
  have hk : k < (bstr xs).size := by rw [bstr_size]; exact h
  have := get_at (bstr xs) k hk
  rw [Nat.add_zero] at this
  rw [this, bstr_get hk]
theorem rune_high {xs : Bytes} {k : Nat} (h : k < xs.length) (hb : 128 ≤ xs[k].toNat) :
    128 ≤ (rune xs k).1 ∧ 1 ≤ (rune xs k).2 ∧ ∀ j, k ≤ j → j < k + (rune xs k).2 → ∀ (hj : j < xs.length), 128 ≤ xs[j].toNat := by
  have hk : k < (bstr xs).size := by rw [bstr_size]; exact h
  have h1 := decode_high (bstr xs) k hk (by rw [bstr_get hk]; exact hb)
  refine ⟨h1.1, h1.2, ?_⟩
  intro j hj1 hj2 hj
  by_cases hjk : j = k
  · subst hjk; exact hb
  unfold rune at hj2
  have key : ∀ q, 1 ≤ q → (decide (k + q < (bstr xs).size) && ((bstr xs).get! (k + q)).toNat / 64 == 2) = true → ∀ (hq : k + q < xs.length), 128 ≤ xs[k + q].toNat := by
    intro q _ hq hlt
    rw [Bool.and_eq_true] at hq
    have := hq.2
    rw [bget hlt] at this
    have : xs[k + q].toNat / 64 = 2 := by simpa using this
    omega
  have b0 : ((bstr xs).get! (k + 0)).toNat = xs[k].toNat := congrArg UInt8.toNat (bget h)
  simp only [Utf8.decode, b0] at hj2
  rw [if_neg (by omega)] at hj2
  obtain ⟨q, rfl⟩ : ∃ q, j = k + q := ⟨j - k, by omega⟩
  have hq1 : 1 ≤ q := by omega
  split at hj2
  · rename_i hc
    rw [Bool.and_eq_true] at hc
    have : q < 2 := by split at hj2 <;> simp only at hj2 <;> omega
    obtain rfl : q = 1 := by omega
    exact key 1 (by omega) hc.2 hj
  · split at hj2
    · rename_i hc
      rw [Bool.and_eq_true, Bool.and_eq_true] at hc
      have : q < 3 := by split at hj2 <;> simp only at hj2 <;> omega
      rcases (show q = 1 ∨ q = 2 by omega) with rfl | rfl
      · exact key 1 (by omega) hc.1.2 hj
      · exact key 2 (by omega) hc.2 hj
    · split at hj2
      · rename_i hc
        rw [Bool.and_eq_true, Bool.and_eq_true, Bool.and_eq_true] at hc
        have : q < 4 := by split at hj2 <;> simp only at hj2 <;> omega
        rcases (show q = 1 ∨ q = 2 ∨ q = 3 by omega) with rfl | rfl | rfl
        · exact key 1 (by omega) hc.1.1.2 hj
        · exact key 2 (by omega) hc.1.2 hj
        · exact key 3 (by omega) hc.2 hj
      · simp only at hj2
        omega
theorem rune_pos {xs : Bytes} {k : Nat} (h : k < xs.length) : 1 ≤ (rune xs k).2 := by
  by_cases hb : xs[k].toNat < 128
  · rw [rune_low h hb]; exact Nat.le_refl _
  · exact (rune_high h (by omega)).2.1
theorem rune_le (xs : Bytes) (k : Nat) : (rune xs k).1 ≤ 2147483647 := decode_le _ _
theorem encode_high {c : Nat} (h : 128 ≤ c) : ∃ l : Bytes, (Utf8.encode (c : Int)).data.toList = l ∧ 2 ≤ l.length ∧ l.length ≤ 4 ∧ (∀ x, l.getLast? = some x → 128 ≤ x.toNat) := by
  refine ⟨_, rfl, ?_⟩
  have hmod : ∀ m : Nat, 128 ≤ (UInt8.ofNat (128 + m % 64)).toNat := by
    intro m
    rw [UInt8.toNat_ofNat']
    omega
  unfold Utf8.encode
  have hc : ∃ q : Nat, (if Utf8.valid (c : Int) then (c : Int).toNat else Utf8.runeError) = q ∧ 128 ≤ q := by
    split
    · exact ⟨c, Int.toNat_natCast c, h⟩
    · exact ⟨_, rfl, by decide⟩
  obtain ⟨q, hq, hq8⟩ := hc
  simp only [hq]
  rw [if_neg (by omega)]
  split
  · simp; omega
  · split
    · simp; omega
    · simp; omega
end Go.Proofs.YtdmjkjeoamiedaaGreat
end
section
namespace Go.Proofs.YtdmjkjeoamiedaaGreat
open Go
theorem un21 : Tryz.prog.underlying 21 = some (.int .i32) := by kernel_rfl
def sepIn (xs : Bytes) : Bool := xs.any fun b => b == 47 || b == 0
theorem sepIn_no {xs : Bytes} (h : ∀ (j : Nat) (hj : j < xs.length), xs[j] ≠ 47 ∧ xs[j] ≠ 0) : sepIn xs = false := by
  unfold sepIn
  rw [List.any_eq_false]
  intro b hb
  obtain ⟨j, hj, rfl⟩ := List.mem_iff_getElem.1 hb
  obtain ⟨h1, h2⟩ := h j hj
  simp [h1, h2]
theorem sepIn_yes {xs : Bytes} {j : Nat} (hj : j < xs.length) (h : xs[j] = 47 ∨ xs[j] = 0) : sepIn xs = true := by
  unfold sepIn
  rw [List.any_eq_true]
  exact ⟨xs[j], List.getElem_mem hj, by rcases h with h | h <;> simp [h]⟩
theorem idxByteX (xs : Bytes) (c : Int) (w : World) : (callFunc 177 #[sv xs, .int .u8 c]).run Tryz.prog w = .ok (.value (.int .i64 (Lib.indexByte xs c.toNat.toUInt8))) w := by
  rw [run_callFunc_extern Tryz.func177 (by kernel_rfl) (by kernel_rfl) (by kernel_rfl) (e := Extern.BytealgIndexByte.indexByte) (by kernel_rfl), sv_bstr, Lib.run_indexByteString]
  rfl
theorem sep_low : ∀ c : Nat, c < 128 → decide ((0 : Int) ≤ Lib.indexByte [47, 0] (c : Int).toNat.toUInt8) = decide (c = 47 ∨ c = 0) := by decide +kernel
theorem rune_sep0 : rune [47, 0] 0 = (47, 1) := rune_low (by decide) (by decide)
theorem rune_sep1 : rune [47, 0] 1 = (0, 1) := rune_low (by decide) (by decide)
def validR (c : Nat) : Bool := decide (c < 55296) || (decide (57343 < c) && decide (c ≤ 1114111))
theorem idxByteL {xs : Bytes} {c : Int} : Spec Tryz.prog 175 #[sv xs, .int .u8 c] [] fun F v M => v = .int .i64 (Lib.indexByte xs c.toNat.toUInt8) ∧ M = F := by
  refine Spec.intro Tryz.func175 rfl rfl fun B F => ?_
  simp only [Tryz.ntmps175, List.cons_append, List.nil_append, env0, Nat.reduceAdd]
  refine .sr (.assign (.x (.move (.move ?_))))
  refine .callX (hc := idxByteX xs c) (h := ?_)
  refine .assign (.z ?_)
  refine .ret (?_)
  exact .ret1 (h1 := .tmp (t := 4) rfl) ⟨_, ⟨rfl, rfl⟩, Am.auto⟩
theorem idxByte {xs : Bytes} {c : Int} : Spec Tryz.prog 165 #[sv xs, .int .u8 c] [] fun F v M => v = .int .i64 (Lib.indexByte xs c.toNat.toUInt8) ∧ M = F := by
  refine Spec.intro Tryz.func165 rfl rfl fun B F => ?_
  simp only [Tryz.ntmps165, List.cons_append, List.nil_append, env0, Nat.reduceAdd]
  refine .sr (.assign (.x (.move (.move ?_))))
  refine .call (hc := Tryz.call175) (sp := idxByteL) (h := ?_)
  rintro _ _ ⟨rfl, rfl⟩
  refine .assign (.z ?_)
  refine .ret (?_)
  exact .ret1 (h1 := .tmp (t := 4) rfl) ⟨_, ⟨rfl, rfl⟩, Am.auto⟩
theorem validRune {c : Nat} : Spec Tryz.prog 166 #[.int .i32 (c : Int)] [] fun F v M => v = .bool (validR c) ∧ M = F := by
  refine Spec.intro Tryz.func166 rfl rfl fun B F => ?_
  simp only [Tryz.ntmps166, List.cons_append, List.nil_append, env0, Nat.reduceAdd]
  unfold validR
  rcases (show c < 55296 ∨ (¬ c < 55296 ∧ 57343 < c ∧ c ≤ 1114111) ∨ (¬ c < 55296 ∧ ¬ 57343 < c) ∨ (¬ c < 55296 ∧ 57343 < c ∧ ¬ c ≤ 1114111) from by omega) with hc | hc | hc | hc
  · refine .sr (.assign (.z (.seq (.block (.sr (.move ?_))))))
    refine .leq ?_
    refine .move ?_
    refine .cast (d := 6) (u := .bool true) rfl (congrArg Value.bool (by first | (simp; done) | (simp; omega) | omega)) ?_
    refine .gT ?_
    refine .move ?_
    refine .gT ?_
    refine .lss ?_
    refine .pickT ?_
    refine .assign (.z ?_)
    refine .condT rfl (congrArg Value.bool (by first | (simp; done) | (simp; omega) | omega)) ?_
    refine .sr (.assign (.z ?_))
    refine .ret (.blockRet (.thenRet (?_)))
    exact .ret1 (h1 := .tmp (t := 2) rfl) ⟨_, ⟨by simp [hc], rfl⟩, Am.auto⟩
  · refine .sr (.assign (.z (.seq (.block (.sr (.move ?_))))))
    refine .leq ?_
    refine .move ?_
    refine .cast (d := 6) (u := .bool true) rfl (congrArg Value.bool (by first | (simp; done) | (simp; omega) | omega)) ?_
    refine .gT ?_
    refine .move ?_
    refine .gT ?_
    refine .lss ?_
    refine .pickT ?_
    refine .assign (.z ?_)
    refine .condF rfl (congrArg Value.bool (by first | (simp; done) | (simp; omega) | omega)) ?_
    refine .sr (.move ?_)
    refine .lss ?_
    refine .move ?_
    refine .cast (d := 13) (u := .bool true) rfl (congrArg Value.bool (by first | (simp; done) | (simp; omega) | omega)) ?_
    refine .gT ?_
    refine .move ?_
    refine .gT ?_
    refine .leq ?_
    refine .pickT ?_
    refine .assign (.z ?_)
    refine .condT rfl (congrArg Value.bool (by first | (simp; done) | (simp; omega) | omega)) ?_
    refine .sr (.assign (.z ?_))
    refine .ret (.blockRet (.thenRet (?_)))
    exact .ret1 (h1 := .tmp (t := 2) rfl) ⟨_, ⟨by simp [hc], rfl⟩, Am.auto⟩
  · refine .sr (.assign (.z (.seq (.block (.sr (.move ?_))))))
    refine .leq ?_
    refine .move ?_
    refine .cast (d := 6) (u := .bool true) rfl (congrArg Value.bool (by first | (simp; done) | (simp; omega) | omega)) ?_
    refine .gT ?_
    refine .move ?_
    refine .gT ?_
    refine .lss ?_
    refine .pickT ?_
    refine .assign (.z ?_)
    refine .condF rfl (congrArg Value.bool (by first | (simp; done) | (simp; omega) | omega)) ?_
    refine .sr (.move ?_)
    refine .lss ?_
    refine .move ?_
    refine .cast (d := 13) (u := .bool false) rfl (congrArg Value.bool (by first | (simp; done) | (simp; omega) | omega)) ?_
    refine .gF ?_
    refine .gF ?_
    refine .pickF ?_
    refine .assign (.z ?_)
    refine .condF rfl rfl ?_
    refine .skip (.blockNormal (.next (.sr (.assign (.z ?_)))))
    refine .ret (?_)
    exact .ret1 (h1 := .tmp (t := 2) rfl) ⟨_, ⟨by simp [hc], rfl⟩, Am.auto⟩
  · refine .sr (.assign (.z (.seq (.block (.sr (.move ?_))))))
    refine .leq ?_
    refine .move ?_
    refine .cast (d := 6) (u := .bool true) rfl (congrArg Value.bool (by first | (simp; done) | (simp; omega) | omega)) ?_
    refine .gT ?_
    refine .move ?_
    refine .gT ?_
    refine .lss ?_
    refine .pickT ?_
    refine .assign (.z ?_)
    refine .condF rfl (congrArg Value.bool (by first | (simp; done) | (simp; omega) | omega)) ?_
    refine .sr (.move ?_)
    refine .lss ?_
    refine .move ?_
    refine .cast (d := 13) (u := .bool true) rfl (congrArg Value.bool (by first | (simp; done) | (simp; omega) | omega)) ?_
    refine .gT ?_
    refine .move ?_
    refine .gT ?_
    refine .leq ?_
    refine .pickT ?_
    refine .assign (.z ?_)
    refine .condF rfl (congrArg Value.bool (by first | (simp; done) | (simp; omega) | omega)) ?_
    refine .skip (.blockNormal (.next (.sr (.assign (.z ?_)))))
    refine .ret (?_)
    exact .ret1 (h1 := .tmp (t := 2) rfl) ⟨_, ⟨by simp [hc], rfl⟩, Am.auto⟩
theorem idxRune {c : Nat} : Spec Tryz.prog 140 #[sv [47, 0], .int .i32 (c : Int)] [] fun F v M => ∃ r : Int, v = .int .i64 r ∧ decide (0 ≤ r) = decide (c = 47 ∨ c = 0) ∧ M = F := by
  refine Spec.intro Tryz.func140 rfl rfl fun B F => ?_
  simp only [Tryz.ntmps140, List.cons_append, List.nil_append, env0, Nat.reduceAdd]
  rcases (show c < 128 ∨ c = 65533 ∨ (¬ c < 128 ∧ c ≠ 65533) from by omega) with hc | hc | hc
  · refine .sr (.assign (.z (.block (.sr (.move ?_)))))
    refine .leq ?_
    refine .move ?_
    refine .cast (d := 163) (u := .bool true) rfl (congrArg Value.bool (by first | (simp; done) | (simp; omega) | omega)) ?_
    refine .gT ?_
    refine .move ?_
    refine .gT ?_
    refine .lss ?_
    refine .pickT ?_
    refine .assign (.z ?_)
    refine .condT rfl (congrArg Value.bool (by first | (simp; done) | (simp; omega) | omega)) ?_
    refine .sr (.move (.move ?_))
    refine .cvt ?_ un21 un5
    refine .cast (d := 169) (u := .int .u8 (c : Int)) rfl (congrArg (Value.int .u8) (IntWalk.u8_in _ (by omega))) ?_
    refine .call (hc := Tryz.call165) (sp := idxByte (xs := [47, 0]) (c := (c : Int))) (h := ?_)
    rintro _ _ ⟨rfl, rfl⟩
    refine .assign (.z ?_)
    refine .ret (.blockRet (?_))
    exact .ret1 (h1 := .tmp (t := 4) rfl) ⟨_, ⟨_, rfl, sep_low c hc, rfl⟩, Am.auto⟩
  · subst hc
    refine .sr (.assign (.z (.block (.sr (.move ?_)))))
    refine .leq ?_
    refine .move ?_
    refine .cast (d := 163) (u := .bool true) rfl (congrArg Value.bool (by first | (simp; done) | (simp; omega) | omega)) ?_
    refine .gT ?_
    refine .move ?_
    refine .gT ?_
    refine .lss ?_
    refine .pickT ?_
    refine .assign (.z ?_)
    refine .condF rfl (congrArg Value.bool (by first | (simp; done) | (simp; omega) | omega)) ?_
    refine .sr (.move ?_)
    refine .eqi ?_
    refine .assign (.z ?_)
    refine .condT rfl rfl ?_
    refine .seq (.sr (.move ?_))
    refine .rangeT [47, 0] st9 (fun it => ?_)
    refine .z (.block ?_)
    refine .loopN 3 (RC.succ ?_)
    refine .sr ?_
    refine .nextT (k := 0) [47, 0] (fun hk => absurd (by decide) hk) (fun _ => ?_)
    rw [rune_sep0]
    refine .extract ?_
    refine .z (.seq ?_)
    refine .condT rfl rfl ?_
    refine .skip (.next (.block (.sr ?_)))
    refine .extract ?_
    refine .extract ?_
    refine .assign (.assign (.x (.move ?_)))
    refine .eqi ?_
    refine .z ?_
    refine .condF rfl rfl ?_
    refine .skip (.blockNormal ?_)
    refine .again (RC.succ ?_)
    refine .sr ?_
    refine .nextT (k := 1) [47, 0] (fun hk => absurd (by decide) hk) (fun _ => ?_)
    rw [rune_sep1]
    refine .extract ?_
    refine .z (.seq ?_)
    refine .condT rfl rfl ?_
    refine .skip (.next (.block (.sr ?_)))
    refine .extract ?_
    refine .extract ?_
    refine .assign (.assign (.x (.move ?_)))
    refine .eqi ?_
    refine .z ?_
    refine .condF rfl rfl ?_
    refine .skip (.blockNormal ?_)
    refine .again (RC.succ ?_)
    refine .sr ?_
    refine .nextT (k := 2) [47, 0] (fun _ => ?_) (fun hk => absurd hk (by decide))
    refine .extract ?_
    refine .z (.seq ?_)
    refine .condF rfl rfl ?_
    refine .exit (.thenExit (.thenExit (.blockExit (?_))))
    refine .next (.sr (.assign (.z ?_)))
    refine .ret (.blockRet (?_))
    exact .ret1 (h1 := .tmp (t := 4) rfl) ⟨_, ⟨_, rfl, by decide, rfl⟩, Am.auto⟩
  · obtain ⟨l, hl, hl2, hl4, hlast⟩ := encode_high (c := c) (by omega)
    refine .sr (.assign (.z (.block (.sr (.move ?_)))))
    refine .leq ?_
    refine .move ?_
    refine .cast (d := 163) (u := .bool true) rfl (congrArg Value.bool (by first | (simp; done) | (simp; omega) | omega)) ?_
    refine .gT ?_
    refine .move ?_
    refine .gT ?_
    refine .lss ?_
    refine .pickT ?_
    refine .assign (.z ?_)
    refine .condF rfl (congrArg Value.bool (by first | (simp; done) | (simp; omega) | omega)) ?_
    refine .sr (.move ?_)
    refine .eqi ?_
    refine .assign (.z ?_)
    refine .condF rfl (congrArg Value.bool (by first | (simp; done) | (simp; omega) | omega)) ?_
    refine .sr (.move ?_)
    refine .call (hc := Tryz.call166) (sp := validRune (c := c)) (h := ?_)
    rintro _ _ ⟨rfl, rfl⟩
    refine .not ?_
    refine .assign (.z ?_)
    cases hv : validR c
    · refine .condT rfl rfl ?_
      refine .sr (.assign (.z ?_))
      refine .ret (.blockRet (?_))
      exact .ret1 (h1 := .tmp (t := 4) rfl) ⟨_, ⟨_, rfl, by rw [decide_eq_false (by decide), decide_eq_false (by omega)], rfl⟩, Am.auto⟩
    · refine .condF rfl rfl ?_
      refine .scope (.sr (.move ?_))
      refine .pure ?_ rfl (Qt.cvtRT un21 st9)
      rw [hl]
      refine .assign (.x (.move ?_))
      refine .lenT _ ?_ st9
      refine .sub ?_
      refine .assign (.x (.move (.assign (.x (.assign (.z (.seq (.block ?_))))))))
      rcases (show l.length = 2 ∨ 3 ≤ l.length from by omega) with hl3 | hl3
      · obtain ⟨x, hx⟩ : ∃ x, l[1]? = some x := ⟨_, List.getElem?_eq_getElem (by omega)⟩
        have hx8 : 128 ≤ x.toNat := hlast x (by rw [List.getLast?_eq_getElem?, hl3]; exact hx)
        rw [hl3]
        refine .loopN 2 (RC.succ ?_)
        refine .seq (.sr (.move (.move ?_)))
        refine .lenT _ ?_ st9
        refine .lss ?_
        refine .z ?_
        refine .condT rfl rfl ?_
        refine .skip (.next (.block (.scope (.seq (.seq ?_)))))
        refine .dr ([]) [] 7 mixed .autoS ?_
        refine .tk 0 rfl .move ?_
        refine .tk 1 rfl .move ?_
        refine .tk 2 rfl (Qt.ixT (p := 1) (v := 0) [47, 0] st9 rfl) ?_
        refine .tk 3 rfl .move ?_
        refine .tk 4 rfl .move ?_
        refine .tk 5 rfl (Qt.ixT (p := 1) (v := x) l st9 hx) ?_
        refine .tk 6 rfl ((Qt.nei).eq (v' := .bool true) (congrArg Value.bool (show (!decide ((0 : Int) = (x.toNat : Int))) = true from by rw [decide_eq_false (by omega)]; rfl))) ?_
        refine .fin ?_
        refine .next ?_
        refine .condT rfl rfl ?_
        refine .seq ?_
        refine .dr ([]) [] 9 mixed .autoS ?_
        refine .tk 0 rfl .move ?_
        refine .tk 1 rfl .move ?_
        refine .tk 2 rfl .add ?_
        refine .tk 3 rfl (Qt.subT (p := 1 + 1) [47, 0] st9 (hp := ⟨by decide, by decide⟩)) ?_
        refine .tk 4 rfl .move ?_
        refine .tk 5 rfl .move ?_
        refine .tk 6 rfl (Qt.ixT (p := 1) (v := x) l st9 hx) ?_
        refine .on 7 rfl fun hnp => ?_
        refine .call (hc := Tryz.call165) (sp := idxByte (xs := []) (c := (x.toNat : Int))) (h := ?_)
        rintro _ _ ⟨rfl, rfl⟩
        refine .nil (.wa hnp ?_)
        refine .tk 8 rfl .assign ?_
        refine .fin ?_
        refine .next (.seq (.sr (.move ?_)))
        refine .lss ?_
        refine .z ?_
        refine .condT rfl rfl ?_
        refine .sr (.assign (.z ?_))
        refine .ret (.thenRet (.thenRet (.scopeRet (.blockRet (.thenRet (.blockRet (.thenRet (.scopeRet (.blockRet (?_))))))))))
        exact .ret1 (h1 := .tmp (t := 4) rfl) ⟨_, ⟨_, rfl, by rw [decide_eq_false (by decide), decide_eq_false (by omega)], rfl⟩, Am.auto⟩
      · refine .loopN 1 (RC.succ ?_)
        refine .seq (.sr (.move (.move ?_)))
        refine .lenT _ ?_ st9
        refine .lss ?_
        refine .z ?_
        refine .condF rfl (congrArg Value.bool (by first | (simp; done) | (simp; omega) | omega)) ?_
        refine .exit (.thenExit (.thenExit (.blockExit (?_))))
        refine .next (.seq (.sr (.assign (.z ?_))))
        refine .ret (.thenRet (.scopeRet (.blockRet (?_))))
        exact .ret1 (h1 := .tmp (t := 4) rfl) ⟨_, ⟨_, rfl, by rw [decide_eq_false (by decide), decide_eq_false (by omega)], rfl⟩, Am.auto⟩
end Go.Proofs.YtdmjkjeoamiedaaGreat
end
section
namespace Go.Proofs.YtdmjkjeoamiedaaGreat
open Go
theorem agg208 : aggOk Tryz.prog 208 256 = true := by kernel_rfl
theorem z208 : zeroOf Tryz.prog 208 = some (Array.replicate 256 (.bool false)) := by kernel_rfl
theorem ar208 : arrOk Tryz.prog 208 4 256 1 = true := by kernel_rfl
def sepA : List Value := ((List.replicate 256 (Value.bool false)).set 47 (.bool true)).set 0 (.bool true)
theorem sepA_length : sepA.length = 256 := by unfold sepA; rw [List.length_set, List.length_set, List.length_replicate]
theorem sepA_single : ∀ v ∈ sepA, Value.single v = true := by
  intro v hv
  unfold sepA at hv
  rcases List.mem_or_eq_of_mem_set hv with hv | rfl
  · rcases List.mem_or_eq_of_mem_set hv with hv | rfl
    · rw [List.eq_of_mem_replicate hv]; rfl
    · rfl
  · rfl
theorem bool_arr : Array.replicate 256 (Value.bool false) = (List.replicate 256 (Value.bool false)).toArray := (List.toArray_replicate ..).symm
theorem sepA_get (x : UInt8) : sepA[x.toNat]? = some (.bool (x == 47 || x == 0)) := by
  have hx : x.toNat < 256 := x.toNat_lt
  unfold sepA
  by_cases h0 : x = 0
  · subst h0
    exact List.getElem?_set_self (by rw [List.length_set, List.length_replicate]; decide)
  · have h0' : 0 ≠ x.toNat := fun h => h0 (UInt8.toNat_inj.1 h.symm)
    rw [List.getElem?_set_ne h0']
    by_cases h47 : x = 47
    · subst h47
      exact List.getElem?_set_self (by rw [List.length_replicate]; decide)
    · have h47' : 47 ≠ x.toNat := fun h => h47 (UInt8.toNat_inj.1 h.symm)
      rw [List.getElem?_set_ne h47', List.getElem?_replicate, if_pos hx]
      simp [h0, h47]
def nameOk (xs : Bytes) : Bool := !decide (xs = []) && (decide (xs.length ≤ 50) && (!sepIn xs && (!decide (xs = [46]) && !decide (xs = [46, 46]))))
theorem mkSet : Spec Tryz.prog 142 #[sv [47, 0]] [] fun F v M => v = .tuple #[.agg sepA.toArray, .bool true] ∧ M = F := by
  refine Spec.intro Tryz.func142 rfl rfl fun B F => ?_
  simp only [Tryz.ntmps142, List.cons_append, List.nil_append, env0, Nat.reduceAdd]
  refine .sr ?_
  refine .allocL (us := List.replicate 256 (Value.bool false)) z208 bool_arr fun b2 => ?_
  refine .assign (.z (.seq (.sr (.assign (.z (.block ?_))))))
  refine .loopN 3 (RC.succ ?_)
  refine .seq (.sr (.move (.move ?_)))
  refine .lenT _ ?_ st9
  refine .lss ?_
  refine .z ?_
  refine .condT rfl rfl ?_
  refine .skip (.next (.seq (.block (.sr (.move (.move ?_))))))
  refine .ixT (p := 0) (v := 47) [47, 0] ?_ st9 rfl
  refine .cast (d := 14) (u := .int .u8 47) rfl rfl ?_
  refine .assign (.z (.seq (.sr (.move ?_))))
  refine .geq ?_
  refine .z ?_
  refine .condF rfl rfl ?_
  refine .skip (.next (.region (.move ?_)))
  refine .idxA ?_ ar208
  refine .stL (xs := (List.replicate 256 (Value.bool false))) (i := 47) ?_ sc4 (by first | (rw [List.length_set, List.length_replicate]; decide) | (rw [List.length_replicate]; decide))
  refine .nil (.blockNormal (.next (.region (.move ?_))))
  refine .add ?_
  refine .assign (.nil ?_)
  refine .again (RC.succ ?_)
  refine .seq (.sr (.move (.move ?_)))
  refine .lenT _ ?_ st9
  refine .lss ?_
  refine .z ?_
  refine .condT rfl rfl ?_
  refine .skip (.next (.seq (.block (.sr (.move (.move ?_))))))
  refine .ixT (p := 1) (v := 0) [47, 0] ?_ st9 rfl
  refine .cast (d := 14) (u := .int .u8 0) rfl rfl ?_
  refine .assign (.z (.seq (.sr (.move ?_))))
  refine .geq ?_
  refine .z ?_
  refine .condF rfl rfl ?_
  refine .skip (.next (.region (.move ?_)))
  refine .idxA ?_ ar208
  refine .stL (xs := ((List.replicate 256 (Value.bool false)).set 47 (.bool true))) (i := 0) ?_ sc4 (by first | (rw [List.length_set, List.length_replicate]; decide) | (rw [List.length_replicate]; decide))
  refine .nil (.blockNormal (.next (.region (.move ?_))))
  refine .add ?_
  refine .assign (.nil ?_)
  refine .again (RC.succ ?_)
  refine .seq (.sr (.move (.move ?_)))
  refine .lenT _ ?_ st9
  refine .lss ?_
  refine .z ?_
  refine .condF rfl rfl ?_
  refine .exit (.thenExit (.thenExit (.blockExit (?_))))
  refine .next (.sr ?_)
  refine .ldW (xs := sepA) ?_ agg208 sepA_length
  refine .stLA (xs := sepA) (us := sepA) ?_ agg208 sepA_length sepA_length sepA_single
  refine .assign (.z ?_)
  refine .ret (?_)
  exact .ret2 (h1 := RV.aggL rfl agg208 (by repeat (first | exact .here | apply Rem.there | apply Repl.there | apply Mem.there)) sepA_length) (h2 := .tmp rfl) ⟨_, ⟨rfl, rfl⟩, Am.auto⟩
theorem setHas {b : Nat} {x : UInt8} : Spec Tryz.prog 143 #[.pointer (some ⟨b, 0, none⟩), .int .u8 (x.toNat : Int)] [row b 208 sepA] fun F v M => v = .bool (x == 47 || x == 0) ∧ M = row b 208 sepA :: F := by
  refine Spec.intro Tryz.func143 rfl rfl fun B F => ?_
  simp only [Tryz.ntmps143, List.cons_append, List.nil_append, env0, Nat.reduceAdd]
  have hx : x.toNat < 256 := x.toNat_lt
  refine .sr (.assign (.x (.move (.move ?_))))
  refine .nilCheck ?_
  refine .idxA ?_ ar208
  refine .ldL (xs := sepA) (i := 0 + ((x.toNat : Nat) : Int).toNat * 1) ?_ sc4 (by rw [Nat.zero_add, Nat.mul_one, Int.toNat_natCast]; exact sepA_get x)
  refine .assign (.z ?_)
  refine .ret (?_)
  exact .ret1 (h1 := .tmp (t := 4) rfl) ⟨_, ⟨rfl, rfl⟩, Am.auto⟩
theorem useSet {k : Int} : Spec Tryz.prog 141 #[.int .i64 k] [] fun F v M => v = .bool (decide (8 < k)) ∧ M = F := by
  refine Spec.intro Tryz.func141 rfl rfl fun B F => ?_
  simp only [Tryz.ntmps141, List.cons_append, List.nil_append, env0, Nat.reduceAdd]
  refine .sr (.assign (.x (.move ?_)))
  refine .gtr ?_
  refine .assign (.z ?_)
  refine .ret (?_)
  exact .ret1 (h1 := .tmp (t := 2) rfl) ⟨_, ⟨rfl, rfl⟩, Am.auto⟩
theorem idxAny {xs : Bytes} (hl : xs.length ≤ 65536) : Spec Tryz.prog 112 #[sv xs, sv [47, 0]] [] fun F v M => ∃ r : Int, v = .int .i64 r ∧ decide (0 ≤ r) = sepIn xs ∧ M = F := by
  refine Spec.intro Tryz.func112 rfl rfl fun B F => ?_
  simp only [Tryz.ntmps112, List.cons_append, List.nil_append, env0, Nat.reduceAdd]
  refine .sr (.assign (.z (.seq (.sr (.move ?_)))))
  refine .eqS _ _ ?_
  refine .z ?_
  refine .condF rfl rfl ?_
  refine .skip (.next (.seq (.sr (.move ?_))))
  refine .lenT _ ?_ st9
  refine .eqi ?_
  refine .z ?_
  refine .condF rfl rfl ?_
  refine .skip (.next (.seq (.sr (.move ?_))))
  refine .lenT _ ?_ st9
  refine .call (hc := Tryz.call141) (sp := useSet (k := (xs.length : Int))) (h := ?_)
  rintro _ _ ⟨rfl, hM⟩
  obtain rfl := hM.symm
  refine .z ?_
  refine .cond rfl (fun h8 => ?_) (fun h8 => ?_)
  · refine .sr (.move ?_)
    refine .call (hc := Tryz.call142) (sp := mkSet) (h := ?_)
    rintro _ _ ⟨rfl, hM2⟩
    obtain rfl := hM2.symm
    refine .move ?_
    refine .extract ?_
    refine .extract ?_
    refine .allocL (us := List.replicate 256 (Value.bool false)) z208 bool_arr fun b6 => ?_
    refine .stLA (xs := List.replicate 256 (Value.bool false)) (us := sepA) ?_ agg208 sepA_length List.length_replicate sepA_single
    refine .assign (.x (.move (.z ?_)))
    refine .condT rfl rfl ?_
    refine .seq (.sr (.assign (.z (.block ?_))))
    refine .loopA (σ := Nat) (fun i => [(0, sv xs), (6, .pointer (some ⟨b6, 0, none⟩)), (8, .int .i64 (i : Int))]) (fun i => row b6 208 sepA :: F) (fun i => i ≤ xs.length ∧ ∀ (j : Nat), j < i → ∀ (hj : j < xs.length), xs[j] ≠ 47 ∧ xs[j] ≠ 0) (fun i => xs.length - i) 0 ⟨Nat.zero_le _, fun j hj => by omega⟩ ?_
    rintro i hi
    refine .seq (.sr (.move (.move ?_)))
    refine .lenT _ ?_ st9
    refine .lss ?_
    refine .z ?_
    refine .cond rfl (fun hb => ?_) (fun hb => ?_)
    · have hlt : i < xs.length := by have h : (i : Int) < (xs.length : Int) := of_decide_eq_true hb; omega
      have hx : xs[((i : Nat) : Int).toNat]? = some xs[i] := by rw [Int.toNat_natCast]; exact List.getElem?_eq_getElem hlt
      refine .skip (.next (.seq (.block (.sr (.move (.move ?_))))))
      refine .ixT (p := (i : Int)) (v := xs[i]) xs ?_ st9 hx
      refine .call (hc := Tryz.call143) (sp := setHas (b := b6) (x := xs[i])) (h := ?_)
      rintro _ _ ⟨rfl, rfl⟩
      refine .z ?_
      refine .cond rfl (fun hq => ?_) (fun hq => ?_)
      · refine .sr (.move (.assign (.z ?_)))
        refine .ret (.blockRet (.thenRet (.thenRet (.blockRet (.thenRet (.thenRet (?_)))))))
        exact .ret1 (h1 := .tmp (t := 4) rfl) ⟨_, ⟨_, rfl, by rw [decide_eq_true (by omega), sepIn_yes hlt (by simpa using hq)], rfl⟩, Am.auto⟩
      · refine .skip (.blockNormal (.next (.region (.move ?_))))
        refine .add ?_
        refine .assign (.nil ?_)
        refine .cast (d := 8) (u := .int .i64 ((i + 1 : Nat) : Int)) rfl (congrArg (Value.int .i64) (by omega)) ?_
        exact .back (i + 1) ⟨by omega, fun j hj hl => by by_cases hji : j = i; (subst hji; simpa using hq); exact hi.2 j (by omega) hl⟩ (by omega)
    · have hge : ¬ i < xs.length := by have h : ¬ (i : Int) < (xs.length : Int) := of_decide_eq_false hb; omega
      refine .exit (.thenExit (.thenExit (.blockExit (?_))))
      refine .next (.sr (.assign (.z ?_)))
      refine .ret (.thenRet (?_))
      exact .ret1 (h1 := .tmp (t := 4) rfl) ⟨_, ⟨_, rfl, by rw [decide_eq_false (by decide), sepIn_no (fun j hj => hi.2 j (by omega) hj)], rfl⟩, Am.auto⟩
  · refine .skip (.next (.seq (.sr (.move ?_))))
    refine .rangeT xs st9 (fun it => ?_)
    refine .z (.block ?_)
    refine .loopA (σ := Nat) (fun k => [(0, sv xs), (1, sv [47, 0]), (45, .pointer (some ⟨it, 0, none⟩))]) (fun k => strIt it xs k :: F) (fun k => ∀ (j : Nat), j < k → ∀ (hj : j < xs.length), xs[j] ≠ 47 ∧ xs[j] ≠ 0) (fun k => xs.length - k) 0 (fun j hj => by omega) ?_
    rintro k hi
    refine .sr ?_
    refine .nextT (k := k) xs (fun hk => ?_) (fun hk => ?_)
    · refine .extract ?_
      refine .z (.seq ?_)
      refine .condF rfl rfl ?_
      refine .exit (.thenExit (.thenExit (.blockExit (?_))))
      refine .next (.sr (.assign (.z ?_)))
      refine .ret (?_)
      exact .ret1 (h1 := .tmp (t := 4) rfl) ⟨_, ⟨_, rfl, by rw [decide_eq_false (by decide), sepIn_no (fun j hj => hi j (by omega) hj)], rfl⟩, Am.auto⟩
    · have hpos := rune_pos hk
      have hle := rune_le xs k
      obtain ⟨c, hc⟩ : ∃ c, (rune xs k).1 = c := ⟨_, rfl⟩
      obtain ⟨d, hd⟩ : ∃ d, (rune xs k).2 = d := ⟨_, rfl⟩
      rw [hc, hd]
      rw [hd] at hpos
      have hyes : c = 47 ∨ c = 0 → sepIn xs = true := by
        intro h
        by_cases hb : xs[k].toNat < 128
        · rw [rune_low hk hb] at hc
          refine sepIn_yes hk ?_
          have hc : xs[k].toNat = c := hc
          rcases h with h | h
          · exact .inl (UInt8.toNat_inj.1 (by rw [hc, h]; rfl))
          · exact .inr (UInt8.toNat_inj.1 (by rw [hc, h]; rfl))
        · have := (rune_high hk (by omega)).1
          omega
      have hno : ¬ (c = 47 ∨ c = 0) → ∀ (j : Nat), j < k + d → ∀ (hj : j < xs.length), xs[j] ≠ 47 ∧ xs[j] ≠ 0 := by
        intro h j hj hjl
        by_cases hjk : j < k
        · exact hi j hjk hjl
        by_cases hb : xs[k].toNat < 128
        · rw [rune_low hk hb] at hc hd
          have hc : xs[k].toNat = c := hc
          have hd : 1 = d := hd
          obtain rfl : j = k := by omega
          refine ⟨fun h2 => h (.inl ?_), fun h2 => h (.inr ?_)⟩
          · rw [← hc, h2]; rfl
          · rw [← hc, h2]; rfl
        · have h3 := (rune_high hk (by omega)).2.2 j (by omega) (by rw [hd]; exact hj) hjl
          refine ⟨fun h2 => ?_, fun h2 => ?_⟩
          · rw [h2] at h3; exact absurd h3 (by decide)
          · rw [h2] at h3; exact absurd h3 (by decide)
      refine .extract ?_
      refine .z (.seq ?_)
      refine .condT rfl rfl ?_
      refine .skip (.next (.block (.sr ?_)))
      refine .extract ?_
      refine .extract ?_
      refine .assign (.assign (.x (.move (.move ?_))))
      refine .call (hc := Tryz.call140) (sp := idxRune (c := c)) (h := ?_)
      rintro _ _ ⟨r, rfl, hr, rfl⟩
      by_cases hq : c = 47 ∨ c = 0
      · have hr0 : 0 ≤ r := of_decide_eq_true (by rw [hr]; exact decide_eq_true hq)
        refine .geq ?_
        refine .z ?_
        refine .condT rfl (congrArg Value.bool (by first | (simp; done) | (simp; omega) | omega)) ?_
        refine .sr (.move (.assign (.z ?_)))
        refine .ret (.blockRet (.thenRet (.blockRet (.thenRet (?_)))))
        exact .ret1 (h1 := .tmp (t := 4) rfl) ⟨_, ⟨_, rfl, by rw [decide_eq_true (by omega), hyes hq], rfl⟩, Am.auto⟩
      · have hr0 : ¬ 0 ≤ r := of_decide_eq_false (by rw [hr]; exact decide_eq_false hq)
        refine .geq ?_
        refine .z ?_
        refine .condF rfl (congrArg Value.bool (by first | (simp; done) | (simp; omega) | omega)) ?_
        refine .skip (.blockNormal ?_)
        exact .back (k + d) (hno hq) (by show xs.length - (k + d) < xs.length - k; omega)
theorem hasAny {xs : Bytes} (hl : xs.length ≤ 65536) : Spec Tryz.prog 66 #[sv xs, sv [47, 0]] [] fun F v M => v = .bool (sepIn xs) ∧ M = F := by
  refine Spec.intro Tryz.func66 rfl rfl fun B F => ?_
  simp only [Tryz.ntmps66, List.cons_append, List.nil_append, env0, Nat.reduceAdd]
  refine .sr (.assign (.x (.move (.move ?_))))
  refine .call (hc := Tryz.call112) (sp := idxAny hl) (h := ?_)
  rintro _ _ ⟨r, rfl, hr, rfl⟩
  refine .geq ?_
  refine .assign (.z ?_)
  refine .ret (?_)
  exact .ret1 (h1 := .tmp (t := 4) rfl) ⟨_, ⟨congrArg Value.bool hr, rfl⟩, Am.auto⟩
theorem dName {xs : Bytes} : Spec Tryz.prog 25 #[sv xs] [] fun F v M => v = .bool (nameOk xs) ∧ M = F := by
  refine Spec.intro Tryz.func25 rfl rfl fun B F => ?_
  simp only [Tryz.ntmps25, List.cons_append, List.nil_append, env0, Nat.reduceAdd]
  unfold nameOk
  by_cases h1 : xs = []
  · refine .sr (.assign (.x (.move ?_)))
    refine .neS _ _ ?_
    refine .cast (d := 4) (u := .bool false) rfl (congrArg Value.bool (by simp [h1])) ?_
    refine .move ?_
    refine .gF ?_
    refine .gF ?_
    refine .gF ?_
    refine .pickF ?_
    refine .move ?_
    refine .gF ?_
    refine .gF ?_
    refine .gF ?_
    refine .pickF ?_
    refine .move ?_
    refine .gF ?_
    refine .gF ?_
    refine .pickF ?_
    refine .move ?_
    refine .gF ?_
    refine .gF ?_
    refine .pickF ?_
    refine .assign (.z ?_)
    refine .ret (?_)
    exact .ret1 (h1 := .tmp (t := 2) rfl) ⟨_, ⟨by simp [h1], rfl⟩, Am.auto⟩
  · by_cases h2 : xs.length ≤ 50
    · cases h3 : sepIn xs
      · by_cases h4 : xs = [46]
        · refine .sr (.assign (.x (.move ?_)))
          refine .neS _ _ ?_
          refine .cast (d := 4) (u := .bool true) rfl (congrArg Value.bool (by simp [h1])) ?_
          refine .move ?_
          refine .gT ?_
          refine .move ?_
          refine .gT ?_
          refine .lenT _ ?_ st9
          refine .gT ?_
          refine .leq ?_
          refine .pickT ?_
          refine .move ?_
          refine .cast (d := 10) (u := .bool true) rfl (congrArg Value.bool (by first | (simp; done) | (simp; omega) | omega)) ?_
          refine .gT ?_
          refine .move ?_
          refine .gT ?_
          refine .call (hc := Tryz.call66) (sp := hasAny (xs := xs) (by omega)) (h := ?_)
          rintro _ _ ⟨rfl, rfl⟩
          refine .gT ?_
          refine .not ?_
          refine .cast (d := 13) (u := .bool true) rfl (congrArg Value.bool (by rw [h3]; rfl)) ?_
          refine .pickT ?_
          refine .move ?_
          refine .gT ?_
          refine .move ?_
          refine .gT ?_
          refine .neS _ _ ?_
          refine .cast (d := 17) (u := .bool false) rfl (congrArg Value.bool (by simp [h4])) ?_
          refine .pickT ?_
          refine .move ?_
          refine .gF ?_
          refine .gF ?_
          refine .pickF ?_
          refine .assign (.z ?_)
          refine .ret (?_)
          exact .ret1 (h1 := .tmp (t := 2) rfl) ⟨_, ⟨by subst h4; rfl, rfl⟩, Am.auto⟩
        · refine .sr (.assign (.x (.move ?_)))
          refine .neS _ _ ?_
          refine .cast (d := 4) (u := .bool true) rfl (congrArg Value.bool (by simp [h1])) ?_
          refine .move ?_
          refine .gT ?_
          refine .move ?_
          refine .gT ?_
          refine .lenT _ ?_ st9
          refine .gT ?_
          refine .leq ?_
          refine .pickT ?_
          refine .move ?_
          refine .cast (d := 10) (u := .bool true) rfl (congrArg Value.bool (by first | (simp; done) | (simp; omega) | omega)) ?_
          refine .gT ?_
          refine .move ?_
          refine .gT ?_
          refine .call (hc := Tryz.call66) (sp := hasAny (xs := xs) (by omega)) (h := ?_)
          rintro _ _ ⟨rfl, rfl⟩
          refine .gT ?_
          refine .not ?_
          refine .cast (d := 13) (u := .bool true) rfl (congrArg Value.bool (by rw [h3]; rfl)) ?_
          refine .pickT ?_
          refine .move ?_
          refine .gT ?_
          refine .move ?_
          refine .gT ?_
          refine .neS _ _ ?_
          refine .cast (d := 17) (u := .bool true) rfl (congrArg Value.bool (by simp [h4])) ?_
          refine .pickT ?_
          refine .move ?_
          refine .gT ?_
          refine .move ?_
          refine .gT ?_
          refine .neS _ _ ?_
          refine .pickT ?_
          refine .assign (.z ?_)
          refine .ret (?_)
          exact .ret1 (h1 := .tmp (t := 2) rfl) ⟨_, ⟨by simp [*], rfl⟩, Am.auto⟩
      · refine .sr (.assign (.x (.move ?_)))
        refine .neS _ _ ?_
        refine .cast (d := 4) (u := .bool true) rfl (congrArg Value.bool (by simp [h1])) ?_
        refine .move ?_
        refine .gT ?_
        refine .move ?_
        refine .gT ?_
        refine .lenT _ ?_ st9
        refine .gT ?_
        refine .leq ?_
        refine .pickT ?_
        refine .move ?_
        refine .cast (d := 10) (u := .bool true) rfl (congrArg Value.bool (by first | (simp; done) | (simp; omega) | omega)) ?_
        refine .gT ?_
        refine .move ?_
        refine .gT ?_
        refine .call (hc := Tryz.call66) (sp := hasAny (xs := xs) (by omega)) (h := ?_)
        rintro _ _ ⟨rfl, rfl⟩
        refine .gT ?_
        refine .not ?_
        refine .cast (d := 13) (u := .bool false) rfl (congrArg Value.bool (by rw [h3]; rfl)) ?_
        refine .pickT ?_
        refine .move ?_
        refine .gF ?_
        refine .gF ?_
        refine .pickF ?_
        refine .move ?_
        refine .gF ?_
        refine .gF ?_
        refine .pickF ?_
        refine .assign (.z ?_)
        refine .ret (?_)
        exact .ret1 (h1 := .tmp (t := 2) rfl) ⟨_, ⟨by simp [*], rfl⟩, Am.auto⟩
    · refine .sr (.assign (.x (.move ?_)))
      refine .neS _ _ ?_
      refine .cast (d := 4) (u := .bool true) rfl (congrArg Value.bool (by simp [h1])) ?_
      refine .move ?_
      refine .gT ?_
      refine .move ?_
      refine .gT ?_
      refine .lenT _ ?_ st9
      refine .gT ?_
      refine .leq ?_
      refine .pickT ?_
      refine .move ?_
      refine .cast (d := 10) (u := .bool false) rfl (congrArg Value.bool (by first | (simp; done) | (simp; omega) | omega)) ?_
      refine .gF ?_
      refine .gF ?_
      refine .gF ?_
      refine .pickF ?_
      refine .move ?_
      refine .gF ?_
      refine .gF ?_
      refine .pickF ?_
      refine .move ?_
      refine .gF ?_
      refine .gF ?_
      refine .pickF ?_
      refine .assign (.z ?_)
      refine .ret (?_)
      exact .ret1 (h1 := .tmp (t := 2) rfl) ⟨_, ⟨by simp [*], rfl⟩, Am.auto⟩
end Go.Proofs.YtdmjkjeoamiedaaGreat
end
section
namespace Go.Proofs.YtdmjkjeoamiedaaGreat
open Go
abbrev Slot := Option (Bytes × Nat)
def keyB (nm : Bytes) : Bytes := (UInt8.ofNat nm.length :: (nm ++ List.replicate 50 0)).take 51
theorem keyB_length (nm : Bytes) : (keyB nm).length = 51 := by
  unfold keyB
  rw [List.length_take, List.length_cons, List.length_append, List.length_replicate]
  omega
abbrev K51 := {xs : Bytes // xs.length = 51}
def keyK (nm : Bytes) : K51 := ⟨keyB nm, keyB_length nm⟩
theorem keyB_head (nm : Bytes) : (keyB nm)[0]? = some (UInt8.ofNat nm.length) := by
  unfold keyB; rfl
theorem keyB_inj {a b : Bytes} (ha : a.length ≤ 50) (hb : b.length ≤ 50) (h : keyB a = keyB b) : a = b := by
  have h0 : UInt8.ofNat a.length = UInt8.ofNat b.length := by
    have := congrArg (fun l : Bytes => l[0]?) h
    simp only [keyB_head, Option.some.injEq] at this
    exact this
  have hl : a.length = b.length := by
    have := congrArg UInt8.toNat h0
    rw [UInt8.toNat_ofNat', UInt8.toNat_ofNat'] at this
    omega
  have h1 : (a ++ List.replicate 50 0).take 50 = (b ++ List.replicate 50 0).take 50 := by
    unfold keyB at h
    rw [List.take_succ_cons, List.take_succ_cons] at h
    exact (List.cons.inj h).2
  have h2 := congrArg (List.take a.length) h1
  rw [List.take_take, List.take_take, Nat.min_eq_left ha, List.take_append_of_le_length (Nat.le_refl _), List.take_length, hl, List.take_append_of_le_length (Nat.le_refl _), List.take_length] at h2
  exact h2
theorem put4_append {a b : Bytes} (h : 4 ≤ a.length) (v : Nat) : put4 (a ++ b) 0 v = put4 a 0 v ++ b := by
  simp only [put4, put, putN, Bool.false_eq_true, if_false]
  rw [List.set_append_left _ _ (by omega), List.set_append_left _ _ (by rw [List.length_set]; omega), List.set_append_left _ _ (by rw [List.length_set, List.length_set]; omega), List.set_append_left _ _ (by rw [List.length_set, List.length_set, List.length_set]; omega)]
def slotB : Slot → Bytes
  | none => List.replicate 64 0
  | some (nm, i) => put4 (List.replicate 4 0) 0 i ++ (keyB nm ++ List.replicate 9 0)
theorem slotB_made {nm : Bytes} (i : Nat) : (put4 (List.replicate 64 0) 0 i).take 4 ++ keyB nm ++ (put4 (List.replicate 64 0) 0 i).drop 55 = slotB (some (nm, i)) := by
  have h1 : (List.replicate 64 (0 : UInt8)) = List.replicate 4 0 ++ List.replicate 60 0 := rfl
  have h4 : (put4 (List.replicate 4 0) 0 i).length = 4 := by rw [put4_length]; rfl
  rw [h1, put4_append (by rw [List.length_replicate]; decide), List.take_left' h4, show 55 = 4 + 51 from rfl, ← List.drop_drop, List.drop_left' h4, List.append_assoc]
  rfl
theorem keyB_made {nm : Bytes} (h : nm.length ≤ 50) : (UInt8.ofNat nm.length :: List.replicate 50 0).take 1 ++ nm.take (min nm.length 50) ++ (UInt8.ofNat nm.length :: List.replicate 50 0).drop (1 + min nm.length 50) = keyB nm := by
  rw [Nat.min_eq_left h, List.take_length, show 1 + nm.length = nm.length + 1 from by omega, List.drop_succ_cons, List.drop_replicate]
  have h1 : (nm ++ List.replicate 50 (0 : UInt8)).take 50 = nm ++ List.replicate (50 - nm.length) 0 := by
    rw [List.take_append, List.take_of_length_le h, List.take_replicate, Nat.min_eq_left (by omega)]
  show _ = UInt8.ofNat nm.length :: ((nm ++ List.replicate 50 0).take 50)
  rw [h1]
  rfl
theorem slotB_length (s : Slot) : (slotB s).length = 64 := by
  cases s with
  | none => exact List.length_replicate
  | some x => rw [slotB, List.length_append, put4_length, List.length_append, keyB_length, List.length_replicate, List.length_replicate]
def dirB (sl : List Slot) : Bytes := sl.flatMap slotB
theorem dirB_nil : dirB [] = [] := rfl
theorem dirB_append (a b : List Slot) : dirB (a ++ b) = dirB a ++ dirB b := List.flatMap_append
theorem dirB_length : ∀ sl : List Slot, (dirB sl).length = 64 * sl.length
  | [] => rfl
  | s :: sl => by
    have := dirB_length sl
    unfold dirB at this ⊢
    rw [List.flatMap_cons, List.length_append, slotB_length, this, List.length_cons]; omega
theorem dirB_split {sl : List Slot} {q : Nat} (h : q < sl.length) : dirB sl = dirB (sl.take q) ++ (slotB sl[q] ++ dirB (sl.drop (q + 1))) := by
  have h1 : dirB [sl[q]] = slotB sl[q] := by unfold dirB; rw [List.flatMap_cons, List.flatMap_nil, List.append_nil]
  rw [← h1, ← dirB_append, ← dirB_append]
  congr 1
  rw [List.singleton_append, List.getElem_cons_drop, List.take_append_drop]
theorem dirB_at {sl : List Slot} {q r k : Nat} (h : q < sl.length) (hk : r + k ≤ 64) : ((dirB sl).drop (64 * q + r)).take k = ((slotB sl[q]).drop r).take k := by
  have hl : (dirB (sl.take q)).length = 64 * q := by rw [dirB_length, List.length_take]; omega
  rw [dirB_split h, ← hl, ← List.drop_drop, List.drop_left, List.drop_append_of_le_length (by rw [slotB_length]; omega), List.take_append_of_le_length (by rw [List.length_drop, slotB_length]; omega)]
def keyOf : Slot → Bytes
  | none => List.replicate 51 0
  | some (nm, _) => keyB nm
theorem slotB_key (s : Slot) : ((slotB s).drop 4).take 51 = keyOf s := by
  cases s with
  | none => rfl
  | some x =>
    obtain ⟨nm, i⟩ := x
    have h4 : (put4 (List.replicate 4 0) 0 i).length = 4 := by rw [put4_length]; rfl
    show ((put4 (List.replicate 4 0) 0 i ++ (keyB nm ++ List.replicate 9 0)).drop 4).take 51 = keyB nm
    rw [List.drop_left' h4, List.take_left' (keyB_length nm)]
theorem dirB_key {sl : List Slot} {q : Nat} (h : q < sl.length) : ((dirB sl).drop (64 * q + 4)).take 51 = keyOf sl[q] := by
  rw [dirB_at h (by decide), slotB_key]
theorem keyOf_length (s : Slot) : (keyOf s).length = 51 := by
  cases s with
  | none => exact List.length_replicate
  | some x => exact keyB_length x.1
theorem num_take {xs : Bytes} {q : Nat} : num xs q = num ((xs.drop q).take 4) 0 := by
  unfold num
  simp only [List.getD_eq_getElem?_getD, List.getElem?_take, List.getElem?_drop, Nat.add_zero, Nat.zero_add]
  rfl
theorem dirB_num {sl : List Slot} {q : Nat} {nm : Bytes} {i : Nat} (h : q < sl.length) (hs : sl[q] = some (nm, i)) (hi : i < 4294967296) : num (dirB sl) (64 * q) = i := by
  have h1 := dirB_at (r := 0) (k := 4) h (by decide)
  have h4 : (put4 (List.replicate 4 0) 0 i).length = 4 := by rw [put4_length]; rfl
  rw [num_take, show 64 * q = 64 * q + 0 from rfl, h1, hs, List.drop_zero]
  show num ((put4 (List.replicate 4 0) 0 i ++ (keyB nm ++ List.replicate 9 0)).take 4) 0 = i
  rw [List.take_left' h4]
  exact num_put4 (by rw [List.length_replicate]; decide) hi
def setS (sl : List Slot) (q : Nat) (s : Slot) : List Slot := sl.take q ++ s :: sl.drop (q + 1)
theorem setS_length {sl : List Slot} {q : Nat} (h : q ≤ sl.length) (s : Slot) : (setS sl q s).length = max sl.length (q + 1) := by
  unfold setS
  rw [List.length_append, List.length_take, List.length_cons, List.length_drop]; omega
theorem setS_same {sl : List Slot} {q : Nat} (h : q ≤ sl.length) (s : Slot) : (setS sl q s)[q]? = some s := by
  unfold setS
  rw [List.getElem?_append_right (by rw [List.length_take]; omega), List.length_take, Nat.min_eq_left h, Nat.sub_self]
  rfl
theorem setS_other {sl : List Slot} {q j : Nat} (h : q ≤ sl.length) (hj : j ≠ q) (s : Slot) : (setS sl q s)[j]? = sl[j]? := by
  unfold setS
  rcases Nat.lt_or_gt_of_ne hj with hlt | hgt
  · rw [List.getElem?_append_left (by rw [List.length_take]; omega), List.getElem?_take, if_pos hlt]
  · rw [List.getElem?_append_right (by rw [List.length_take]; omega), List.length_take, Nat.min_eq_left h, show j - q = (j - q - 1) + 1 from by omega, List.getElem?_cons_succ, List.getElem?_drop]
    congr 1; omega
theorem setS_wr {sl : List Slot} {q : Nat} (h : q ≤ sl.length) (s : Slot) : wrB (dirB sl) (64 * q) (slotB s) = dirB (setS sl q s) := by
  have hl := dirB_length sl
  have ht : (dirB (sl.take q)).length = 64 * q := by rw [dirB_length, List.length_take]; omega
  have h1 : dirB (s :: sl.drop (q + 1)) = slotB s ++ dirB (sl.drop (q + 1)) := by unfold dirB; rw [List.flatMap_cons]
  unfold setS
  rw [dirB_append, h1]
  unfold wrB splice
  by_cases hq : q < sl.length
  · have hx : ext (dirB sl) (64 * q + (slotB s).length) = dirB sl := by
      unfold ext
      rw [slotB_length, show 64 * q + 64 - (dirB sl).length = 0 from by omega, List.replicate_zero, List.append_nil]
    have e1 : (dirB sl).take (64 * q) = dirB (sl.take q) := by
      rw [dirB_split hq, List.take_left' ht]
    have e2 : (dirB sl).drop (64 * q + (slotB s).length) = dirB (sl.drop (q + 1)) := by
      rw [dirB_split hq, ← List.append_assoc, List.drop_left' (by rw [List.length_append, ht, slotB_length, slotB_length])]
    simp only [hx, e1, e2, List.append_assoc]
  · have hqe : q = sl.length := by omega
    have e0 : sl.take q = sl := by rw [hqe, List.take_length]
    have e3 : sl.drop (q + 1) = [] := List.drop_eq_nil_of_le (by omega)
    rw [e0, e3, dirB_nil, List.append_nil]
    have e1 : (ext (dirB sl) (64 * q + (slotB s).length)).take (64 * q) = dirB sl := by
      unfold ext
      rw [List.take_left' (by omega)]
    have e2 : (ext (dirB sl) (64 * q + (slotB s).length)).drop (64 * q + (slotB s).length) = [] := by
      refine List.drop_eq_nil_of_le ?_
      unfold ext
      rw [List.length_append, List.length_replicate, slotB_length]; omega
    simp only [e1, e2, List.append_nil]
def foundV (at' i : Nat) : Value := .agg #[nI at', nI i]
def stepK (kv : List (K51 × Value)) (q : Nat) : Slot → List (K51 × Value)
  | none => kv
  | some (nm, i) => kput kv (keyK nm) (foundV (64 * q) i)
def kvF (sl : List Slot) : Nat → List (K51 × Value)
  | 0 => []
  | q + 1 => match sl[q]? with
    | some s => stepK (kvF sl q) q s
    | none => kvF sl q
def freeF (sl : List Slot) : Nat → Option Nat
  | 0 => none
  | q + 1 => match freeF sl q with
    | some r => some r
    | none => if sl[q]? = some none then some q else none
def freeS (sl : List Slot) : Nat := (freeF sl sl.length).getD sl.length
theorem freeF_some {sl : List Slot} : ∀ {n r : Nat}, freeF sl n = some r → r < n ∧ sl[r]? = some none ∧ ∀ j, j < r → sl[j]? ≠ some none
  | n + 1, r, h => by
    rw [freeF] at h
    cases hf : freeF sl n with
    | some r' =>
      rw [hf] at h
      obtain rfl : r' = r := by simpa using h
      obtain ⟨h1, h2⟩ := freeF_some hf
      exact ⟨by omega, h2⟩
    | none =>
      rw [hf] at h
      simp only at h
      split at h
      · rename_i hs
        obtain rfl : n = r := by simpa using h
        refine ⟨by omega, hs, fun j hj hh => ?_⟩
        have := freeF_none (sl := sl) hf j hj
        exact this hh
      · cases h
where
  freeF_none {sl : List Slot} : ∀ {n : Nat}, freeF sl n = none → ∀ j, j < n → sl[j]? ≠ some none
  | n + 1, h, j, hj => by
    rw [freeF] at h
    cases hf : freeF sl n with
    | some r' => rw [hf] at h; cases h
    | none =>
      rw [hf] at h
      simp only at h
      split at h
      · cases h
      · rename_i hs
        by_cases hjn : j = n
        · subst hjn; exact hs
        · exact freeF_none hf j (by omega)
theorem freeS_le (sl : List Slot) : freeS sl ≤ sl.length := by
  unfold freeS
  cases h : freeF sl sl.length with
  | none => exact Nat.le_refl _
  | some r => exact Nat.le_of_lt (freeF_some h).1
structure DirOk (sl : List Slot) : Prop where
  nm : ∀ (q : Nat) (n : Bytes) (i : Nat), sl[q]? = some (some (n, i)) → (1 ≤ n.length ∧ n.length ≤ 50) ∧ i < 4294967296
  one : ∀ (q r : Nat) (n : Bytes) (i j : Nat), sl[q]? = some (some (n, i)) → sl[r]? = some (some (n, j)) → q = r
theorem DirOk.nil : DirOk [] := ⟨fun q n i h => (by cases h), fun q r n i j h => (by cases h)⟩
theorem keyK_inj {a b : Bytes} (ha : a.length ≤ 50) (hb : b.length ≤ 50) (h : keyK a = keyK b) : a = b := keyB_inj ha hb (congrArg Subtype.val h)
theorem kvF_has {sl : List Slot} (hd : DirOk sl) {q i : Nat} {n : Bytes} (h : sl[q]? = some (some (n, i))) : ∀ m, q < m → kget (kvF sl m) (keyK n) = some (foundV (64 * q) i)
  | m + 1, hm => by
    rw [kvF]
    by_cases hq : q = m
    · subst hq
      rw [h]
      show kget (kput (kvF sl q) (keyK n) (foundV (64 * q) i)) (keyK n) = _
      rw [kget_put, if_pos rfl]
    · have ih := kvF_has hd h m (by omega)
      cases hs : sl[m]? with
      | none => exact ih
      | some s =>
        cases s with
        | none => exact ih
        | some x =>
          obtain ⟨n', i'⟩ := x
          show kget (kput (kvF sl m) (keyK n') (foundV (64 * m) i')) (keyK n) = _
          rw [kget_put, if_neg, ih]
          intro hk
          have := keyK_inj (hd.nm _ _ _ h).1.2 (hd.nm _ _ _ hs).1.2 hk
          subst this
          exact hq (hd.one _ _ _ _ _ h hs)
theorem kvF_no {sl : List Slot} (hd : DirOk sl) {n : Bytes} (hn : n.length ≤ 50) (h : ∀ (q i : Nat), sl[q]? ≠ some (some (n, i))) : ∀ m, kget (kvF sl m) (keyK n) = none
  | 0 => rfl
  | m + 1 => by
    rw [kvF]
    have ih := kvF_no hd hn h m
    cases hs : sl[m]? with
    | none => exact ih
    | some s =>
      cases s with
      | none => exact ih
      | some x =>
        obtain ⟨n', i'⟩ := x
        show kget (kput (kvF sl m) (keyK n') (foundV (64 * m) i')) (keyK n) = _
        rw [kget_put, if_neg, ih]
        intro hk
        have := keyK_inj hn (hd.nm _ _ _ hs).1.2 hk
        subst this
        exact h _ _ hs
theorem DirOk.set {sl : List Slot} (hd : DirOk sl) {q : Nat} (hq : q ≤ sl.length) {n : Bytes} {i : Nat} (hn : 1 ≤ n.length ∧ n.length ≤ 50) (hi : i < 4294967296)
    (h : ∀ (r j : Nat), r ≠ q → sl[r]? ≠ some (some (n, j))) : DirOk (setS sl q (some (n, i))) := by
  have get : ∀ (r : Nat) (n' : Bytes) (i' : Nat), (setS sl q (some (n, i)))[r]? = some (some (n', i')) → (r = q ∧ n' = n ∧ i' = i) ∨ (r ≠ q ∧ sl[r]? = some (some (n', i'))) := by
    intro r n' i' hr
    by_cases hrq : r = q
    · subst hrq
      rw [setS_same hq] at hr
      injection hr with hr
      injection hr with hr
      injection hr with h1 h2
      exact .inl ⟨rfl, h1.symm, h2.symm⟩
    · rw [setS_other hq hrq] at hr
      exact .inr ⟨hrq, hr⟩
  refine ⟨fun r n' i' hr => ?_, fun r t n' i' j' hr ht => ?_⟩
  · rcases get _ _ _ hr with ⟨_, rfl, rfl⟩ | ⟨_, hr⟩
    · exact ⟨hn, hi⟩
    · exact hd.nm _ _ _ hr
  · rcases get _ _ _ hr with ⟨h1, h2, h3⟩ | ⟨hrq, hr2⟩
    · rcases get _ _ _ ht with ⟨h4, _, _⟩ | ⟨htq, ht2⟩
      · rw [h1, h4]
      · rw [h2] at ht2
        exact absurd ht2 (h _ _ htq)
    · rcases get _ _ _ ht with ⟨h4, h5, h6⟩ | ⟨htq, ht2⟩
      · rw [h5] at hr2
        exact absurd hr2 (h _ _ hrq)
      · exact hd.one _ _ _ _ _ hr2 ht2
theorem DirOk.gone {sl : List Slot} (hd : DirOk sl) {q : Nat} (hq : q ≤ sl.length) : DirOk (setS sl q none) := by
  have get : ∀ (r : Nat) (n' : Bytes) (i' : Nat), (setS sl q none)[r]? = some (some (n', i')) → sl[r]? = some (some (n', i')) := by
    intro r n' i' hr
    by_cases hrq : r = q
    · subst hrq; rw [setS_same hq] at hr; injection hr with hr; cases hr
    · rwa [setS_other hq hrq] at hr
  exact ⟨fun r n i hr => hd.nm _ _ _ (get _ _ _ hr), fun r t n i j hr ht => hd.one _ _ _ _ _ (get _ _ _ hr) (get _ _ _ ht)⟩
end Go.Proofs.YtdmjkjeoamiedaaGreat
end
section
namespace Go.Proofs.YtdmjkjeoamiedaaGreat
open Go
theorem agg88 : aggOk Tryz.prog 88 51 = true := by kernel_rfl
theorem ar88 : arrOk Tryz.prog 88 5 51 1 = true := by kernel_rfl
theorem un88 : Tryz.prog.underlying 88 = some (.array 51 5) := by kernel_rfl
theorem fo54_0 : fieldOk Tryz.prog 54 0 0 = true := by kernel_rfl
theorem fo54_1 : fieldOk Tryz.prog 54 1 1 = true := by kernel_rfl
theorem mp81 : mapOk Tryz.prog 81 88 85 = true := by kernel_rfl
theorem key0 : zeroOf Tryz.prog 88 = some (bvs (List.replicate 51 0)).toArray := by kernel_rfl
theorem keyB_single (nm : Bytes) : ∀ v ∈ bvs (keyB nm), Value.single v = true := bvs_single _
theorem bvsK_length (nm : Bytes) : (bvs (keyB nm)).length = 51 := by rw [bvs_length, keyB_length]
theorem dOf {nm : Bytes} (hn : nm.length ≤ 50) : Spec Tryz.prog 41 #[sv nm] [] fun F v M => v = arrV (keyB nm) ∧ M = F := by
  refine Spec.intro Tryz.func41 rfl rfl fun B F => ?_
  simp only [Tryz.ntmps41, List.cons_append, List.nil_append, env0, Nat.reduceAdd]
  refine .sr ?_
  refine .allocL (us := bvs (List.replicate 51 0)) key0 rfl fun b2 => ?_
  refine .x (.move ?_)
  refine .lenT _ ?_ st9
  refine .cvt ?_ un3 un5
  refine .cast (d := 5) (u := bv (UInt8.ofNat nm.length)) rfl (congrArg (Value.int .u8) (by rw [UInt8.toNat_ofNat', IntWalk.u8_in _ (by omega)]; omega)) ?_
  refine .idxA ?_ ar88
  refine .stL (xs := bvs (List.replicate 51 0)) (i := 0) ?_ sc5 (by rw [bvs_length, List.length_replicate]; decide)
  refine .to (A := row b2 88 ((bvs (List.replicate 51 0)).set 0 (bv (UInt8.ofNat nm.length)))) (A' := buf b2 88 51 (bvs (UInt8.ofNat nm.length :: List.replicate 50 0))) (fun h hh => buf_of_row (by rw [bvs_length]; rfl) h hh) ?_
  refine .x ?_
  refine .slcArrL ?_ ar88
  refine .move ?_
  refine .copyS nm so91 ?_ (hdl := by rw [bvs_length]; exact Nat.le_refl _)
  refine .to (A := buf b2 88 51 ((bvs (UInt8.ofNat nm.length :: List.replicate 50 0)).take 1 ++ (bvs nm).take (min nm.length 50) ++ (bvs (UInt8.ofNat nm.length :: List.replicate 50 0)).drop (1 + min nm.length 50))) (A' := row b2 88 (bvs (keyB nm))) (fun h hh => row_of_buf (bvsK_length nm) h (by rw [← keyB_made hn, bvs_append, bvs_append, bvs_take, bvs_take, bvs_drop]; exact hh)) ?_
  refine .x ?_
  refine .ldW (xs := bvs (keyB nm)) ?_ agg88 (bvsK_length nm)
  refine .stLA (xs := bvs (keyB nm)) (us := bvs (keyB nm)) ?_ agg88 (bvsK_length nm) (bvsK_length nm) (keyB_single nm)
  refine .z ?_
  refine .ret (?_)
  exact .ret1 (h1 := RV.aggL rfl agg88 (by repeat (first | exact .here | apply Rem.there | apply Repl.there | apply Mem.there)) (bvsK_length nm)) ⟨_, ⟨rfl, rfl⟩, Am.auto⟩
theorem IN.more {s a c : Nat} {p : Pl} {F0 F : FM} {W W' : Nat} {op : Bool} (h : W ≤ W') : ∀ k, IN s a c p F0 F W op k → IN s a c p F0 F W' op k := by
  intro k hk
  obtain ⟨y, hy, hs⟩ := (IN.opens s a c p F0 F W op).to k hk
  exact (IN.opens s a c p F0 F W' op).of y ⟨hy.r0, hy.r, hy.dk, Nat.le_trans hy.wt h⟩ k hs
theorem Rw.less {p : Pl} {W c c' : Nat} (h : Rw p W c) (hc : c' ≤ c) : Rw p W c' := by
  unfold Rw at h ⊢
  omega
theorem has_slot (n q : Nat) (h : 64 * q ≤ 64 * n) : has (max (64 * n) (64 * q + 64)) - has (64 * n) ≤ 2 := by
  have h1 : dat (max (64 * n) (64 * q + 64)) ≤ dat (64 * n) + 1 := by unfold dat; omega
  unfold has
  split <;> split <;> omega
theorem slotP {nm : Bytes} (i : Nat) : (bvs (put4 (List.replicate 64 0) 0 i)).take 4 ++ (bvs (keyB nm)).take 51 ++ (bvs (put4 (List.replicate 64 0) 0 i)).drop 55 = bvs (slotB (some (nm, i))) := by
  rw [← slotB_made, bvs_append, bvs_append, bvs_take, bvs_drop, List.take_of_length_le (Nat.le_of_eq (bvsK_length nm))]
theorem bdFound (v0 v1 : Int) : BuildOk Tryz.prog 85 [(0, .int .i64 v0), (1, .int .i64 v1)] #[.int .i64 v0, .int .i64 v1] := fun w => by kernel_rfl
theorem arrOkK : arrIntOk Tryz.prog 88 5 51 = true := by kernel_rfl
def encK : K51 → Value := fun k => Value.agg (bvs k.1).toArray
theorem klN : KeyLaw Tryz.prog 88 encK := arrKeys (fun k : K51 => k.1) arrOkK (fun k => k.2) (fun a b h => Subtype.ext h)
def freeI (sl : List Slot) (q : Nat) : Int := match freeF sl q with
  | some r => ((64 * r : Nat) : Int)
  | none => -1
theorem dLay {s a c : Nat} {p : Pl} {F0 Fm : FM} {W d q i : Nat} {nm : Bytes} {sl : List Slot} (ho : PlOk p) (hF : Fm d = some (2, dirB sl)) (hq : q ≤ sl.length) (hq2 : q < 1104) (hn : nm.length ≤ 50) (hi : i < 4294967296) (hw : Rw p W 13) (hfit : tot Fm p.ino + has (max (64 * sl.length) (64 * q + 64)) ≤ p.dc + has (64 * sl.length)) :
    Spec Tryz.prog 42 #[.pointer (some ⟨s, 0, none⟩), nI d, nI (64 * q), sv nm, nI i] [IN s a c p F0 Fm W true] fun G v M => v = okV ∧ M = IN s a c p F0 (updM Fm d (some (2, dirB (setS sl q (some (nm, i)))))) (W + 8) true :: G := by
  refine Spec.intro Tryz.func42 rfl rfl fun B F => ?_
  simp only [Tryz.ntmps42, List.cons_append, List.nil_append, env0, Nat.reduceAdd]
  have hdl := dirB_length sl
  have hsl := slotB_length (some (nm, i))
  have hhs := has_slot sl.length q (by omega)
  refine .sr (.assign (.x ?_))
  refine .mkSN 64 z5 so91 (by decide) (by decide) fun b15 => ?_
  refine .to (A' := buf b15 5 64 (bvs (List.replicate 64 0))) (fun h hh => by rw [bvs_replicate]; exact hh) ?_
  refine .move ?_
  refine .cvt ?_ un3 un138
  refine .cast (d := 17) (u := .int .u64 (i : Int)) rfl (congrArg (Value.int .u64) (IntWalk.u64_in _ (by omega))) ?_
  refine .call (hc := Tryz.call90) (sp := bitsPut (n := 64) (xs := List.replicate 64 0) (p := 0) (size := 4) (big := false) (v := i) Reads.buf List.length_replicate (by decide) (by decide) (by decide) (by decide) (by omega)) (h := ?_)
  rintro _ _ ⟨gb, qq, ⟨rfl, h1, h2⟩, rfl⟩
  refine .move ?_
  refine .extract ?_
  refine .extract ?_
  refine .assign (.assign (.x (.move ?_)))
  refine .call (hc := Tryz.call41) (sp := dOf hn) (h := ?_)
  rintro _ _ ⟨rfl, rfl⟩
  refine .allocL (us := bvs (List.replicate 51 0)) key0 rfl fun b13 => ?_
  refine .stLA (xs := bvs (List.replicate 51 0)) (us := bvs (keyB nm)) ?_ agg88 (bvsK_length nm) rfl (keyB_single nm)
  refine .to (A := row b13 88 (bvs (keyB nm))) (A' := buf b13 88 51 (bvs (keyB nm))) (fun h hh => buf_of_row (bvsK_length nm) h hh) ?_
  refine .z (.seq ?_)
  refine .dr ([]) [] 4 mixed .autoJ ?_
  refine .tk 0 rfl .move ?_
  refine .tk 1 rfl ((Qt.slcL so91).eq (v' := .slice (some ⟨gb, 4, none⟩) 60 (qq - 4)) (by rw [if_neg (by show ¬ qq = 4; omega)]; rfl)) ?_
  refine .tk 2 rfl (Qt.slcArr un88 (by kernel_rfl)) ?_
  refine .on 3 rfl fun hnp => ?_
  refine .copy (R := buf b13 88 51 (bvs (keyB nm))) (m := 51) (g := gb) (off := 4) (dl := 60) (k := qq) (xs := bvs (put4 (List.replicate 64 0) 0 i)) (ys := bvs (keyB nm)) so91 Reads.buf (bvsK_length nm) (bvs_single _) ?_ (hdl := by rw [bvs_length, put4_length, List.length_replicate]; decide)
  refine .to (A' := buf gb 5 qq (bvs (slotB (some (nm, i))))) (fun h hh => by rw [← slotP]; exact hh) ?_
  refine .nil (.wa hnp ?_)
  refine .fin ?_
  refine .next (.sr (.move (.move (.move (.move ?_)))))
  refine .call (hc := Tryz.call49) (sp := nWrite (s := s) (a := a) (c := c) (p := p) (F0 := F0) (F := Fm) (W := W) (i := d) (at' := 64 * q) (f := (2, dirB sl)) (bs := slotB (some (nm, i))) (m := 64) ho hF (hw.less (by show has (max (dirB sl).length (64 * q + 64)) - has (dirB sl).length + (64 + 511) / 512 + 10 ≤ 13; rw [hdl]; omega)) (.inr Reads.buf) hsl (by omega) h2 (by show 64 * q ≤ (dirB sl).length; omega) (by omega) (by show tot Fm p.ino + has (max (dirB sl).length (64 * q + 64)) ≤ p.dc + has (dirB sl).length; rw [hdl]; exact hfit)) (h := ?_)
  rintro _ _ ⟨rfl, rfl⟩
  refine .assign (.z ?_)
  refine .ret (?_)
  simp only [setS_wr hq]
  refine .to (A' := IN s a c p F0 (updM Fm d (some (2, dirB (setS sl q (some (nm, i)))))) (W + 8) true) (fun h hh => IN.more (by show W + (has (max (dirB sl).length (64 * q + 64)) - has (dirB sl).length) + (64 + 511) / 512 + 5 ≤ W + 8; rw [hdl]; omega) h hh) ?_
  exact .ret1 (h1 := .tmp (t := 10) rfl) ⟨_, ⟨rfl, rfl⟩, Am.auto⟩
theorem freeI_pos {sl : List Slot} {q r : Nat} (h : freeF sl q = some r) : freeI sl q = ((64 * r : Nat) : Int) := by unfold freeI; rw [h]
theorem freeI_neg {sl : List Slot} {q : Nat} (h : freeF sl q = none) : freeI sl q = -1 := by unfold freeI; rw [h]
theorem freeI_keep {sl : List Slot} {q r : Nat} (h : freeF sl q = some r) : freeI sl (q + 1) = ((64 * r : Nat) : Int) := freeI_pos (by rw [freeF, h])
theorem freeI_new {sl : List Slot} {q : Nat} (h : freeF sl q = none) (hs : sl[q]? = some none) : freeI sl (q + 1) = ((64 * q : Nat) : Int) := freeI_pos (by rw [freeF, h]; simp [hs])
theorem freeI_full {sl : List Slot} {q : Nat} {x : Bytes × Nat} (hs : sl[q]? = some (some x)) : freeI sl (q + 1) = freeI sl q := by
  unfold freeI
  rw [freeF]
  cases h : freeF sl q with
  | some r => rfl
  | none => simp [hs]
theorem keyOf_single (s : Slot) : ∀ v ∈ bvs (keyOf s), Value.single v = true := bvs_single _
theorem bvsO_length (s : Slot) : (bvs (keyOf s)).length = 51 := by rw [bvs_length, keyOf_length]
theorem dNames {s a c : Nat} {p : Pl} {F0 Fm : FM} {W d : Nat} {op : Bool} {sl : List Slot} (ho : PlOk p) (hF : Fm d = some (2, dirB sl)) (hd : DirOk sl) (hsz : sl.length ≤ 1104) :
    Spec Tryz.prog 47 #[.pointer (some ⟨s, 0, none⟩), nI d] [IN s a c p F0 Fm W op] fun G v M => ∃ mp es cl, v = .tuple #[.map (some mp), nI (64 * freeS sl), .int .i64 0] ∧ MapIs encK es cl (kvF sl sl.length) ∧ M = pt mp (.map es cl) :: IN s a c p F0 Fm W op :: G := by
  refine Spec.intro Tryz.func47 rfl rfl fun B F => ?_
  simp only [Tryz.ntmps47, List.cons_append, List.nil_append, env0, Nat.reduceAdd]
  have hdl := dirB_length sl
  refine .sr (.assign (.assign (.assign (.x (.move (.move ?_))))))
  refine .call (hc := Tryz.call24) (sp := nStat (s := s) (a := a) (c := c) (p := p) (F0 := F0) (F := Fm) (W := W) (op := op) (i := d) (f := (2, dirB sl)) ho hF) (h := ?_)
  rintro _ _ ⟨rfl, rfl⟩
  refine .move ?_
  refine .extract ?_
  refine .extract ?_
  refine .alloc z54 fun b7 => ?_
  refine .stV ?_ agg54
  refine .assign (.z (.seq (.sr (.move ?_))))
  refine .nei ?_
  refine .z ?_
  refine .condF rfl rfl ?_
  refine .skip (.next (.seq (.sr ?_)))
  refine .fa ?_ fo54_0
  refine .ld ?_ sc3
  refine .nei ?_
  refine .z ?_
  refine .condF rfl rfl ?_
  refine .skip (.next (.sr (.move (.move ?_))))
  refine .fa ?_ fo54_1
  refine .ld ?_ sc3
  refine .call (hc := Tryz.call93) (sp := nRead (s := s) (a := a) (c := c) (p := p) (F0 := F0) (F := Fm) (W := W) (op := op) (i := d) (at' := 0) (k := (dirB sl).length) (f := (2, dirB sl)) ho hF (by decide) (by omega)) (h := ?_)
  rintro _ _ ⟨u, rfl, rfl⟩
  simp only [List.drop_zero, List.take_length]
  refine .move ?_
  refine .extract ?_
  refine .extract ?_
  refine .assign (.assign (.z (.seq (.sr (.move ?_)))))
  refine .nei ?_
  refine .z ?_
  refine .condF rfl rfl ?_
  refine .skip (.next (.sr ?_))
  refine .mkMap fun m36 => ?_
  refine .assign (.assign (.z (.seq (.sr (.assign (.z (.block ?_)))))))
  refine .fact (rowR_shape (el := 5) (size := 1) (v := u) (k := (dirB sl).length) (xs := bvs (dirB sl))) (fun ⟨A2, c2, hv2, hR2, hk2, hc2, hl2⟩ => ?_)
  subst hv2
  refine .loopA (σ := Nat × Array MapEntry × Nat) (fun y => [(4, .map (some m36)), (5, .int .i64 (freeI sl y.1)), (8, .slice A2 (dirB sl).length c2), (9, nI (64 * y.1))]) (fun y => [pt m36 (.map y.2.1 y.2.2), rowR 5 1 (.slice A2 (dirB sl).length c2) (dirB sl).length (bvs (dirB sl)), IN s a c p F0 Fm W op] ++ F) (fun y => y.1 ≤ sl.length ∧ MapIs encK y.2.1 y.2.2 (kvF sl y.1)) (fun y => sl.length - y.1) (0, #[], 0) ⟨Nat.zero_le _, MapIs.empty _ _⟩ ?_
  rintro y hy
  obtain ⟨q, es, cl⟩ := y
  obtain ⟨hq, hm⟩ := hy
  simp only at hq hm
  refine .seq (.sr (.move (.move ?_)))
  refine .lenS ?_ sl91
  refine .lss ?_
  refine .z ?_
  refine .cond rfl (fun hb => ?_) (fun hb => ?_)
  · have hlt : q < sl.length := by have h : ((64 * q : Nat) : Int) < ((dirB sl).length : Int) := of_decide_eq_true hb; omega
    rcases A2 with _ | ⟨ab, ao, asp⟩
    · exact absurd hR2 (fun h => by have h2 : bvs (dirB sl) = [] := h; have h3 : (dirB sl).length = 0 := (by have := congrArg List.length h2; rwa [bvs_length] at this); omega)
    have hsp : asp = none := hR2.1
    subst hsp
    have hp1 : (((64 * q : Nat) : Int) + 4).toNat = 64 * q + 4 := by omega
    have hp2 : (((64 * q : Nat) : Int) + 4 + 51).toNat = 64 * q + 55 := by omega
    have hgs : sl[q]? = some sl[q] := List.getElem?_eq_getElem hlt
    obtain ⟨sq, hsq⟩ : ∃ sq, sl[q] = sq := ⟨_, rfl⟩
    have hkq := dirB_key hlt
    rw [hsq] at hgs hkq
    have hkv : kvF sl (q + 1) = stepK (kvF sl q) q sq := by rw [kvF, hgs]
    refine .skip (.next (.seq (.block (.sr (.move (.move ?_))))))
    refine .add ?_
    refine .move ?_
    refine .add ?_
    refine .add ?_
    refine .slcLH ?_ so91
    refine .cast (d := 49) (u := .slice (some ⟨ab, ao + (64 * q + 4), none⟩) 51 (c2 - (64 * q + 4))) rfl (by rw [hp1, hp2, if_neg (show ¬ c2 = 64 * q + 4 by omega), Nat.mul_one, show 64 * q + 55 - (64 * q + 4) = 51 from by omega]) ?_
    refine .toArr ?_ un88
    refine .ldAR (i := 64 * q + 4) (xs := bvs (dirB sl)) (us := bvs (keyOf sq)) ?_ agg88 hR2 (by rw [← bvs_drop, ← bvs_take, hkq]) (by rw [bvs_length]; omega)
    refine .allocL (us := bvs (List.replicate 51 0)) key0 rfl fun b10 => ?_
    refine .stLA (xs := bvs (List.replicate 51 0)) (us := bvs (keyOf sq)) ?_ agg88 (bvsO_length sq) rfl (keyOf_single sq)
    refine .z (.seq (.sr ?_))
    refine .idxA ?_ ar88
    cases sq
    · refine .ldL (xs := bvs (keyOf none)) (i := 0) (v := .int .u8 0) ?_ sc5 rfl
      refine .eqi ?_
      refine .z ?_
      refine .condT rfl rfl ?_
      refine .seq (.sr (.move ?_))
      refine .lss ?_
      refine .z ?_
      cases hfr : freeF sl q
      · rw [freeI_neg hfr]
        refine .condT rfl rfl ?_
        refine .region (.move (.assign (.z ?_)))
        refine .exit (.thenExit (.blockExit (?_)))
        refine .next (.region (.move ?_))
        refine .add ?_
        refine .assign (.nil ?_)
        refine .cast (d := 9) (u := nI (64 * (q + 1))) rfl (congrArg (Value.int .i64) (by omega)) ?_
        refine .cast (d := 5) (u := .int .i64 (freeI sl (q + 1))) rfl (congrArg (Value.int .i64) (by rw [freeI_new hfr hgs])) ?_
        exact .back (q + 1, es, cl) ⟨by show q + 1 ≤ sl.length; omega, (by rw [hkv]; exact hm)⟩ (by show sl.length - (q + 1) < sl.length - q; omega)
      · rename_i r
        rw [freeI_pos hfr]
        refine .condF rfl (congrArg Value.bool (by first | (simp; done) | (simp; omega) | omega)) ?_
        refine .skip (.next ?_)
        refine .exit (.thenExit (.blockExit (?_)))
        refine .next (.region (.move ?_))
        refine .add ?_
        refine .assign (.nil ?_)
        refine .cast (d := 9) (u := nI (64 * (q + 1))) rfl (congrArg (Value.int .i64) (by omega)) ?_
        refine .cast (d := 5) (u := .int .i64 (freeI sl (q + 1))) rfl (congrArg (Value.int .i64) (by rw [freeI_keep hfr])) ?_
        exact .back (q + 1, es, cl) ⟨by show q + 1 ≤ sl.length; omega, (by rw [hkv]; exact hm)⟩ (by show sl.length - (q + 1) < sl.length - q; omega)
    · rename_i x
      obtain ⟨nm, i⟩ := x
      have hnm := hd.nm q nm i hgs
      have hnum := dirB_num hlt hsq hnm.2
      have hx0 : (bvs (keyOf (some (nm, i))))[0]? = some (bv (UInt8.ofNat nm.length)) := by show (bvs (keyB nm))[0]? = _; unfold bvs; rw [List.getElem?_map, keyB_head]; rfl
      have hxn : ((UInt8.ofNat nm.length).toNat : Int) ≠ 0 := by rw [UInt8.toNat_ofNat']; omega
      refine .ldL (xs := bvs (keyOf (some (nm, i)))) (i := 0) (v := bv (UInt8.ofNat nm.length)) ?_ sc5 hx0
      refine .eqi ?_
      refine .cast (d := 54) (u := .bool false) rfl (congrArg Value.bool (decide_eq_false hxn)) ?_
      refine .z ?_
      refine .condF rfl rfl ?_
      refine .skip (.next (.sr (.move (.move ?_))))
      refine .call (hc := Tryz.call94) (sp := bitsGet (A := ⟨ab, ao, none⟩) (n := (dirB sl).length) (c := c2) (xs := dirB sl) (p := ((64 * q : Nat) : Int)) (size := 4) (big := false) hR2 rfl (by omega) (by decide) (by omega) (by omega)) (h := ?_)
      rintro _ _ ⟨rfl, rfl⟩
      refine .cast (d := 61) (u := .tuple #[.int .u64 (i : Int), .bool true]) rfl (by rw [show (((64 * q : Nat) : Int)).toNat = 64 * q from by omega, show (4 : Int).toNat = 4 from rfl, num_seg (by omega), hnum]) ?_
      refine .move ?_
      refine .extract ?_
      refine .extract ?_
      refine .assign (.assign (.y (.move ?_)))
      refine .ldW (xs := bvs (keyOf (some (nm, i)))) ?_ agg88 (bvsO_length _)
      refine .move (.move ?_)
      refine .cvt ?_ un138 un3
      refine .cast (d := 68) (u := nI i) rfl (congrArg (Value.int .i64) (IntWalk.i64_in _ (by omega))) ?_
      refine .build ?_ (bdFound _ _)
      refine .upd (k := keyK nm) (v := foundV (64 * q) i) klN hm mp81 fun es_1 c_1 hm_1 => ?_
      refine .nil (.blockNormal (.next (.region (.move ?_))))
      refine .add ?_
      refine .assign (.nil ?_)
      refine .cast (d := 9) (u := nI (64 * (q + 1))) rfl (congrArg (Value.int .i64) (by omega)) ?_
      refine .cast (d := 5) (u := .int .i64 (freeI sl (q + 1))) rfl (congrArg (Value.int .i64) (by rw [freeI_full hgs])) ?_
      exact .back (q + 1, es_1, c_1) ⟨by show q + 1 ≤ sl.length; omega, (by rw [hkv]; exact hm_1)⟩ (by show sl.length - (q + 1) < sl.length - q; omega)
  · have hge : ¬ q < sl.length := by have h : ¬ ((64 * q : Nat) : Int) < ((dirB sl).length : Int) := of_decide_eq_false hb; omega
    have hqe : q = sl.length := by omega
    subst hqe
    refine .exit (.thenExit (.thenExit (.blockExit (?_))))
    refine .next (.seq (.sr (.move ?_)))
    refine .lss ?_
    refine .z ?_
    cases hfr : freeF sl sl.length
    · have hfs : freeS sl = sl.length := by unfold freeS; rw [hfr]; rfl
      rw [freeI_neg hfr]
      refine .condT rfl rfl ?_
      refine .region (.move ?_)
      refine .lenS ?_ sl91
      refine .assign (.x (.move (.move (.assign (.assign (.assign (.z ?_)))))))
      refine .ret (?_)
      exact .ret3 (h1 := .tmp (t := 4) rfl) (h2 := .tmp (t := 5) rfl) (h3 := .tmp (t := 6) rfl) ⟨_, ⟨m36, es, cl, by rw [hfs, ← hdl]; rfl, hm, rfl⟩, Am.auto⟩
    · rename_i r
      have hfs : freeS sl = r := by unfold freeS; rw [hfr]; rfl
      rw [freeI_pos hfr]
      refine .condF rfl (congrArg Value.bool (by first | (simp; done) | (simp; omega) | omega)) ?_
      refine .skip (.next (.sr (.move (.move (.assign (.assign (.assign (.z ?_))))))))
      refine .ret (?_)
      exact .ret3 (h1 := .tmp (t := 4) rfl) (h2 := .tmp (t := 5) rfl) (h3 := .tmp (t := 6) rfl) ⟨_, ⟨m36, es, cl, by rw [hfs]; rfl, hm, rfl⟩, Am.auto⟩
end Go.Proofs.YtdmjkjeoamiedaaGreat
end
