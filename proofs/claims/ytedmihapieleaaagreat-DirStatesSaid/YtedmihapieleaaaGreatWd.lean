/- Walks of the smaller functions of package journal. -/
import Derived.Test.YtedmihapieleaaaGreatFa
import Derived.Test.YtedmihapieleaaaGreatWc
import Derived.Test.YtedmihapieleaaaGreatSs
import Derived.Test.YtedmihapieleaaaGreatSe
import Derived.KernelRfl
set_option linter.unusedVariables false
set_option linter.unusedSimpArgs false
namespace Go.Proofs.YtedmihapieleaaaGreat
open Go

theorem bdPlace (a b : Int) : BuildOk Tryz.prog 144 [(0, .int .i64 a), (1, .int .i64 b)] #[.int .i64 a, .int .i64 b] := fun w => by kernel_rfl
def plV (a b : Int) : Value := .agg #[.int .i64 a, .int .i64 b]
def u64s (l : List Nat) : List Value := l.map fun v => .int .u64 ((v : Nat) : Int)
theorem u64s_get {l : List Nat} {i : Nat} (h : i < l.length) : (u64s l)[i]? = some (.int .u64 (l.getD i 0 : Nat)) := by
  unfold u64s
  rw [List.getElem?_map, List.getElem?_eq_getElem h, List.getD_eq_getElem?_getD, List.getElem?_eq_getElem h]
  rfl
theorem u64_wrap1 (a : Nat) : IntKind.u64.wrap ((a : Int) + 1) = (((a + 1) % 2 ^ 64 : Nat) : Int) := by
  have : IntKind.u64.wrap ((a : Int) + 1) = ((a : Int) + 1) % 2 ^ 64 := by simp [IntKind.wrap, IntKind.bits, IntKind.signed]
  rw [this]; omega
def laidN (ys : Bytes) (nums : List Nat) : Nat → Bytes
  | 0 => ys ++ List.replicate (512 - ys.length) 0
  | i + 1 => put (laidN ys nums i) (8 * (i + 1)) 8 false (nums.getD i 0)
def laidB (ys : Bytes) (nums : List Nat) : Bytes := laidN ys nums nums.length
theorem laidN_length {ys : Bytes} (h : ys.length ≤ 512) (nums : List Nat) : ∀ i, (laidN ys nums i).length = 512
  | 0 => by rw [laidN, List.length_append, List.length_replicate]; omega
  | i + 1 => by rw [laidN, put_length]; exact laidN_length h nums i
def slotAt (a b : Nat) : Nat := 1 + a * 61 + b
def magicJ : Bytes := [66, 79, 76, 76, 65, 82, 68, 74]
def markH : Bytes := [66, 79, 76, 76, 65, 82, 68, 72]

theorem bs141_1 (f0 : Fn) (u0 c0 : Array Value) : BuildSOk Tryz.prog 141 1 [(0, .func f0 u0 c0)] 41 #[.func f0 u0 c0] := fun w => by kernel_rfl

theorem bs141_2 (f0 : Fn) (u0 c0 : Array Value) (f1 : Fn) (u1 c1 : Array Value) : BuildSOk Tryz.prog 141 2 [(0, .func f0 u0 c0), (1, .func f1 u1 c1)] 41 #[.func f0 u0 c0, .func f1 u1 c1] := fun w => by kernel_rfl

theorem bs141_3 (f0 : Fn) (u0 c0 : Array Value) (f1 : Fn) (u1 c1 : Array Value) (f2 : Fn) (u2 c2 : Array Value) : BuildSOk Tryz.prog 141 3 [(0, .func f0 u0 c0), (1, .func f1 u1 c1), (2, .func f2 u2 c2)] 41 #[.func f0 u0 c0, .func f1 u1 c1, .func f2 u2 c2] := fun w => by kernel_rfl

theorem bs181_1 (v0 : Int) : BuildSOk Tryz.prog 181 1 [(0, .int .u64 v0)] 138 #[.int .u64 v0] := fun w => by kernel_rfl

theorem bs181_3 (v0 : Int) (v1 : Int) (v2 : Int) : BuildSOk Tryz.prog 181 3 [(0, .int .u64 v0), (1, .int .u64 v1), (2, .int .u64 v2)] 138 #[.int .u64 v0, .int .u64 v1, .int .u64 v2] := fun w => by kernel_rfl

theorem placeAt {a b : Nat} (h : a ≤ 3 ∧ b ≤ 60) : Spec Tryz.prog 84 #[.agg #[.int .i64 (a : Int), .int .i64 (b : Int)]] [] fun F v M => v = .int .i64 ((slotAt a b : Nat) : Int) ∧ M = F := by
  refine Spec.intro Tryz.func84 rfl rfl fun B F => ?_
  simp only [Tryz.ntmps84, List.cons_append, List.nil_append, env0, Nat.reduceAdd]
  refine WC.seq ?_
  refine WC.region ?_
  refine WL.box fun b1 => ?_
  refine WL.assign ?_
  refine WL.nil ?_
  refine WQ.next ?_
  refine WC.seq ?_
  refine WC.region ?_
  refine WL.fa ?_ fo144_0
  refine WL.ld ?_ sc3
  refine WL.mul ?_
  refine WL.add ?_
  refine WL.fa ?_ fo144_1
  refine WL.ld ?_ sc3
  refine WL.add ?_
  refine WL.assign ?_
  refine WL.nil ?_
  refine WQ.next ?_
  refine WC.ret (?_)
  exact WQ.ret1 (h1 := .tmp (t := 2) rfl) ⟨_, ⟨congrArg (Value.int .i64) (by unfold slotAt; omega), rfl⟩, Am.auto⟩

theorem slotN {a : Nat} : Spec Tryz.prog 90 #[.int .u64 (a : Int)] [] fun F v M => v = .int .i64 ((a % 4 : Nat) : Int) ∧ M = F := by
  refine Spec.intro Tryz.func90 rfl rfl fun B F => ?_
  simp only [Tryz.ntmps90, List.cons_append, List.nil_append, env0, Nat.reduceAdd]
  refine WC.seq ?_
  refine WC.region ?_
  refine WL.assign ?_
  refine WL.nil ?_
  refine WQ.next ?_
  refine WC.seq ?_
  refine WC.region ?_
  refine WL.move ?_
  refine WL.bin (r := .int .u64 ((a : Int) % 4)) ?_ (run_ints fun w => by simp [binOp_ints, Op.intDiv, Int.tmod_eq_emod_of_nonneg (Int.natCast_nonneg a)]) rfl rfl rfl
  refine WL.cvt ?_ un138 un3
  refine WL.cast (d := 5) (u := .int .i64 ((a % 4 : Nat) : Int)) rfl (congrArg (Value.int .i64) (by rw [IntWalk.i64_in _ (by omega)]; omega)) ?_
  refine WL.assign ?_
  refine WL.nil ?_
  refine WQ.next ?_
  refine WC.ret (?_)
  exact WQ.ret1 (h1 := .tmp (t := 2) rfl) ⟨_, ⟨rfl, rfl⟩, Am.auto⟩

theorem jGet {R : HP} {A : Addr} {n c : Nat} {xs : Bytes} {k : Int} (hR : Reads R (some A) (bvs xs)) (hn : xs.length = n) (hl : n ≤ 1073741824) (hk : 0 ≤ k) (hk2 : 8 * k + 8 ≤ n) : Spec Tryz.prog 121 #[.slice (some A) n c, .int .i64 k] [R] fun F v M => v = .int .u64 (beNat (seg xs (8 * k).toNat 8 false) : Int) ∧ M = R :: F := by
  refine Spec.intro Tryz.func121 rfl rfl fun B F => ?_
  simp only [Tryz.ntmps121, List.cons_append, List.nil_append, env0, Nat.reduceAdd]
  refine WC.seq ?_
  refine WC.region ?_
  refine WL.assign ?_
  refine WL.nil ?_
  refine WQ.next ?_
  refine WC.seq ?_
  refine WC.region ?_
  refine WL.move ?_
  refine WL.move ?_
  refine WL.mul ?_
  refine WL.call (hc := Tryz.call117) (sp := bitsGet hR hn hl (by omega) (by omega) (by omega)) (h := ?_)
  rintro _ _ ⟨rfl, rfl⟩
  refine WL.move ?_
  refine WL.extract ?_
  refine WL.extract ?_
  refine WL.assign ?_
  refine WL.assign ?_
  refine WL.nil ?_
  refine WQ.next ?_
  refine WC.seq ?_
  refine WC.region ?_
  refine WL.move ?_
  refine WL.assign ?_
  refine WL.nil ?_
  refine WQ.next ?_
  refine WC.ret (?_)
  exact WQ.ret1 (h1 := .tmp (t := 4) rfl) ⟨_, ⟨rfl, rfl⟩, Am.auto⟩

theorem jLaid {R : HP} {A : Addr} {n c : Nat} {ys : Bytes} {nums : List Nat} (hy : ys.length ≤ 512) (hR : Reads R (some A) (u64s nums)) (hn : nums.length = n) (hl : n ≤ 60) (hv : ∀ v ∈ nums, v < 2 ^ 64) : Spec Tryz.prog 88 #[sv ys, .slice (some A) n c] [R] fun F v M => ∃ g q, (v = .slice (some ⟨g, 0, none⟩) 512 q ∧ 512 ≤ q ∧ q ≤ maxLen) ∧ M = buf g 5 q (bvs (laidB ys nums)) :: R :: F := by
  refine Spec.intro Tryz.func88 rfl rfl fun B F => ?_
  simp only [Tryz.ntmps88, List.cons_append, List.nil_append, env0, Nat.reduceAdd]
  obtain ⟨ab, ao, asp⟩ := A
  have hsp : asp = none := hR.1
  subst hsp
  refine WC.seq ?_
  refine WC.region ?_
  refine WL.assign ?_
  refine WL.nil ?_
  refine WQ.next ?_
  refine WC.seq ?_
  refine WC.region ?_
  refine WL.mkSN 512 z5 so33 (by decide) (by decide) fun b8 => ?_
  refine WL.assign ?_
  refine WL.nil ?_
  refine WQ.next ?_
  refine WC.seq ?_
  refine WC.region ?_
  refine WL.move ?_
  refine WL.move ?_
  refine WL.copyS ys so33 ?_ (hdl := by rw [List.length_replicate]; decide)
  refine WL.to (r := .here) (A' := buf b8 5 512 (bvs (laidN ys nums 0))) (fun h hh => by
    have e1 : (List.replicate 512 (Value.int .u8 0)).take 0 ++ (bvs ys).take (min ys.length 512) ++ (List.replicate 512 (Value.int .u8 0)).drop (0 + min ys.length 512) = bvs (laidN ys nums 0) := by
      rw [laidN, bvs_append, bvs_replicate, List.take_zero, List.nil_append, List.drop_replicate, List.take_of_length_le (by rw [bvs_length]; omega), show 512 - (0 + min ys.length 512) = 512 - ys.length from by omega]
    rw [← e1]; exact hh) ?_
  refine WL.nil ?_
  refine WQ.next ?_
  refine WC.seq ?_
  refine WC.seq ?_
  refine WC.region ?_
  refine WL.move ?_
  refine WL.lenS ?_ sl181
  refine WL.move ?_
  refine WL.nil ?_
  refine WQ.next ?_
  refine WC.block ?_
  refine WC.loopA (σ := Int × Nat × Nat) (fun s => [(5, .slice (some ⟨s.2.1, 0, none⟩) 512 s.2.2), (12, .slice (some ⟨ab, ao, none⟩) n c), (13, .int .i64 (n : Int)), (14, .int .i64 s.1)]) (fun s => buf s.2.1 5 s.2.2 (bvs (laidN ys nums s.1.toNat)) :: R :: F) (fun s => (0 ≤ s.1 ∧ s.1 ≤ n) ∧ 512 ≤ s.2.2 ∧ s.2.2 ≤ maxLen) (fun s => ((n : Int) - s.1).toNat) (0, b8, 512) ⟨by omega, Nat.le_refl 512, (by decide : 512 ≤ maxLen)⟩ ?_
  rintro ⟨i, g, q⟩ ⟨hi, hq1, hq2⟩
  refine WC.seq ?_
  refine WC.region ?_
  refine WL.lss ?_
  refine WL.nil ?_
  refine WQ.next ?_
  refine WC.seq ?_
  refine WC.cond rfl (fun hb => ?_) (fun hb => ?_)
  · have hlt : i < (n : Int) := of_decide_eq_true hb
    have hvv : nums.getD i.toNat 0 < 2 ^ 64 := by
      rw [List.getD_eq_getElem?_getD, List.getElem?_eq_getElem (show i.toNat < nums.length by omega)]
      exact hv _ (List.getElem_mem _)
    refine WC.skip ?_
    refine WQ.next ?_
    refine WC.seq ?_
    refine WC.block ?_
    refine WC.seq ?_
    refine WC.region ?_
    refine WL.move ?_
    refine WL.idx1 ?_ so181
    refine WL.ldR ?_ sc138 hR (u64s_get (show i.toNat < nums.length by omega))
    refine WL.assign ?_
    refine WL.assign ?_
    refine WL.nil ?_
    refine WQ.next ?_
    refine WC.region ?_
    refine WL.move ?_
    refine WL.move ?_
    refine WL.add ?_
    refine WL.mul ?_
    refine WL.move ?_
    refine WL.call (hc := Tryz.call116) (sp := bitsPut (xs := laidN ys nums i.toNat) Reads.buf (laidN_length hy nums _) (by decide) (by omega) (by omega) (by omega) hvv) (h := ?_)
    rintro _ _ ⟨g', q', ⟨rfl, h1, h2⟩, rfl⟩
    refine WL.move ?_
    refine WL.extract ?_
    refine WL.extract ?_
    refine WL.assign ?_
    refine WL.nil ?_
    refine WQ.blockNormal ?_
    refine WQ.next ?_
    refine WC.region ?_
    refine WL.add ?_
    refine WL.move ?_
    refine WL.nil ?_
    refine WQ.to (r := .here) (A' := buf g' 5 q' (bvs (laidN ys nums (i + 1).toNat))) (fun h hh => by
      rw [show (i + 1).toNat = i.toNat + 1 from by omega, laidN, show 8 * (i.toNat + 1) = (8 * (i + 1)).toNat from by omega]; exact hh) ?_
    exact WQ.back (i + 1, g', q') ⟨by omega, h1, h2⟩ (by show ((n : Int) - (i + 1)).toNat < ((n : Int) - i).toNat; omega)
  · have hge : ¬ i < (n : Int) := of_decide_eq_false hb
    have hin : i.toNat = nums.length := by omega
    refine WC.exit (WQ.thenExit (WQ.thenExit (WQ.blockExit (?_))))
    refine WQ.next ?_
    refine WC.seq ?_
    refine WC.region ?_
    refine WL.move ?_
    refine WL.assign ?_
    refine WL.nil ?_
    refine WQ.next ?_
    refine WC.ret (?_)
    refine WQ.to (r := .here) (A' := buf g 5 q (bvs (laidB ys nums))) (fun h hh => by unfold laidB; rw [← hin]; exact hh) ?_
    exact WQ.ret1 (h1 := .tmp (t := 4) rfl) ⟨_, ⟨g, q, ⟨rfl, hq1, hq2⟩, rfl⟩, Am.auto⟩

theorem jFirst {d n t : Nat} {cur : Nat → Bytes} (hn : 1 ≤ n) : Spec Tryz.prog 81 #[.pointer (some ⟨d, 0, none⟩)] [DevR d n cur t] fun F v M => v = .tuple #[.int .u64 (beNat (seg (cur 0) 8 8 false) : Int), .bool (decide ((cur 0).take 8 = magicJ))] ∧ M = DevR d n cur t :: F := by
  refine Spec.intro Tryz.func81 rfl rfl fun B F => ?_
  simp only [Tryz.ntmps81, List.cons_append, List.nil_append, env0, Nat.reduceAdd]
  refine WC.seq ?_
  refine WC.region ?_
  refine WL.assign ?_
  refine WL.assign ?_
  refine WL.nil ?_
  refine WQ.next ?_
  refine WC.seq ?_
  refine WC.region ?_
  refine WL.move ?_
  refine WL.call (hc := Tryz.call91) (sp := devRead (n := n) (t := t) (k := 0) (cur := cur) (by omega)) (h := ?_)
  rintro _ _ ⟨gb, q, rfl, ⟨hq1, hq2, hlen⟩, rfl⟩
  refine WL.move ?_
  refine WL.extract ?_
  refine WL.extract ?_
  refine WL.assign ?_
  refine WL.assign ?_
  refine WL.nil ?_
  refine WQ.next ?_
  refine WC.seq ?_
  refine WC.draw ([buf gb 5 q (bvs (cur 0))]) [] 12 #[false, false, false, false, false, false, false, false, false, false, false, false] mixed (by kernel_rfl) NoPanic.autoJ ?_
  refine WD.take (i := 0) #[true, false, false, false, false, false, false, false, false, false, false, false] rfl (by kernel_rfl) (Qt.move ) ?_
  refine WD.take (i := 2) #[true, false, true, false, false, false, false, false, false, false, false, false] rfl (by kernel_rfl) (Qt.move ) ?_
  refine WD.take (i := 3) #[true, false, true, true, false, false, false, false, false, false, false, false] rfl (by kernel_rfl) (Qt.eqi ) ?_
  refine WD.one (i := 1) #[true, true, true, true, false, false, false, false, false, false, false, false] rfl (by kernel_rfl) fun hnp => ?_
  refine WL.call (hc := Tryz.call121) (sp := jGet (k := 1) Reads.buf hlen (by decide) (by decide) (by decide)) (h := ?_)
  rintro _ _ ⟨rfl, rfl⟩
  refine WL.nil (WQ.wd hnp (.inl Am.auto) ?_)
  refine WD.take (i := 4) #[true, true, true, true, true, false, false, false, false, false, false, false] rfl (by kernel_rfl) (Qt.move ) ?_
  refine WD.takeOn (i := 5) #[true, true, true, true, true, true, false, false, false, false, false, false] rfl (by kernel_rfl) (Qt.move ) ?_
  refine WD.takeOn (i := 6) #[true, true, true, true, true, true, true, false, false, false, false, false] rfl (by kernel_rfl) (Qt.slcH so33) ?_
  refine WD.takeOn (i := 7) #[true, true, true, true, true, true, true, true, false, false, false, false] rfl (by kernel_rfl) (Qt.cvtBS (R := buf gb 5 q (bvs (cur 0))) (xs := (cur 0).take 8) by33 st9 (by rw [bvs_take]; exact Reads.buf.take 8) (by rw [List.length_take, hlen])) ?_
  refine WD.takeOn (i := 8) #[true, true, true, true, true, true, true, true, true, false, false, false] rfl (by kernel_rfl) (Qt.eqS ((cur 0).take 8) magicJ) ?_
  refine WD.take (i := 9) #[true, true, true, true, true, true, true, true, true, true, false, false] rfl (by kernel_rfl) (Qt.pickT ) ?_
  refine WD.take (i := 10) #[true, true, true, true, true, true, true, true, true, true, true, false] rfl (by kernel_rfl) (Qt.assign ) ?_
  refine WD.take (i := 11) #[true, true, true, true, true, true, true, true, true, true, true, true] rfl (by kernel_rfl) (Qt.assign ) ?_
  refine WD.done (by kernel_rfl) ?_
  refine WQ.next ?_
  refine WC.ret (?_)
  exact WQ.ret2 (h1 := .tmp (t := 2) rfl) (h2 := .tmp (t := 3) rfl) ⟨_, ⟨rfl, rfl⟩, Am.auto⟩


def okV : Value := .int .i64 0
/-- A function value that goes from one state of memory to another, and answers 0. -/
def Goes (fv : Value) (I J : List HP) : Prop := ∃ f us cap, fv = .func (.func f) us cap ∧ (∀ args w, (callFunc f args).run Tryz.prog w = .ok (.enter f args) w) ∧ Spec Tryz.prog f (us ++ cap) I fun F v M => v = okV ∧ M = J ++ F

theorem jTries {R : HP} {A : Addr} {m c : Nat} {fs : List Value} (I : Nat → List HP) (hR : Reads R (some A) fs) (hm : fs.length = m) (hl : m ≤ 1000) (hfs : ∀ i (h : i < fs.length), Goes fs[i] (I i) (I (i + 1))) :
    Spec Tryz.prog 85 #[.slice (some A) m c] (I 0 ++ [R]) fun F v M => v = .int .i64 0 ∧ M = I m ++ (R :: F) := by
  refine Spec.intro Tryz.func85 rfl rfl fun B F => ?_
  simp only [Tryz.ntmps85, List.cons_append, List.nil_append, env0, Nat.reduceAdd]
  obtain ⟨ab, ao, asp⟩ := A
  have hsp : asp = none := hR.1
  subst hsp
  rw [List.append_assoc]
  simp only [List.cons_append, List.nil_append]
  refine WC.seq ?_
  refine WC.region ?_
  refine WL.assign ?_
  refine WL.nil ?_
  refine WQ.next ?_
  refine WC.seq ?_
  refine WC.seq ?_
  refine WC.region ?_
  refine WL.move ?_
  refine WL.lenS ?_ sl141
  refine WL.move ?_
  refine WL.nil ?_
  refine WQ.next ?_
  refine WC.block ?_
  refine WC.loopA (σ := Int) (fun i => [(6, .slice (some ⟨ab, ao, none⟩) m c), (7, .int .i64 (m : Int)), (8, .int .i64 i)]) (fun i => I i.toNat ++ (R :: F)) (fun i => 0 ≤ i ∧ i ≤ m) (fun i => ((m : Int) - i).toNat) 0 (by omega) ?_
  rintro i hi
  refine WC.seq ?_
  refine WC.region ?_
  refine WL.lss ?_
  refine WL.nil ?_
  refine WQ.next ?_
  refine WC.seq ?_
  refine WC.cond rfl (fun hb => ?_) (fun hb => ?_)
  · have hlt : i < (m : Int) := of_decide_eq_true hb
    have hil : i.toNat < fs.length := by omega
    obtain ⟨f, us, cap, hf, hc, hsp⟩ := hfs i.toNat hil
    refine WC.skip ?_
    refine WQ.next ?_
    refine WC.seq ?_
    refine WC.block ?_
    refine WC.seq ?_
    refine WC.region ?_
    refine WL.idx1 ?_ so141
    refine WL.ldR ?_ sc41 hR ((List.getElem?_eq_getElem hil).trans (congrArg some hf)) (hm := Mem.mid)
    refine WL.assign ?_
    refine WL.nil ?_
    refine WQ.next ?_
    refine WC.seq ?_
    refine WC.region ?_
    refine WL.move ?_
    refine WL.callF (vs := []) rfl rfl hc (by simpa using hsp) ?_ Tk.app
    rintro _ _ ⟨rfl, rfl⟩
    refine WL.assign ?_
    refine WL.nil ?_
    refine WQ.next ?_
    refine WC.seq ?_
    refine WC.region ?_
    refine WL.move ?_
    refine WL.nei ?_
    refine WL.nil ?_
    refine WQ.next ?_
    refine WC.condF rfl rfl ?_
    refine WC.skip ?_
    refine WQ.blockNormal ?_
    refine WQ.next ?_
    refine WC.region ?_
    refine WL.add ?_
    refine WL.move ?_
    refine WL.nil ?_
    exact WQ.back (i + 1) (by omega) (by omega) (hI := by rw [show (i + 1).toNat = i.toNat + 1 from by omega]; exact .refl)
  · have hge : ¬ i < (m : Int) := of_decide_eq_false hb
    have him : i.toNat = m := by omega
    rw [him]
    refine WC.exit (WQ.thenExit (WQ.thenExit (WQ.blockExit (?_))))
    refine WQ.next ?_
    refine WC.seq ?_
    refine WC.region ?_
    refine WL.assign ?_
    refine WL.nil ?_
    refine WQ.next ?_
    refine WC.ret (?_)
    exact WQ.ret1 (h1 := .tmp (t := 2) rfl) ⟨_, ⟨rfl, rfl⟩, .refl⟩


inductive Chain : List Value → List HP → List HP → Prop
  | nil {I} : Chain [] I I
  | cons {f fs I J K} : Goes f I J → Chain fs J K → Chain (f :: fs) I K
theorem Chain.append {fs gs : List Value} {I J K : List HP} (h : Chain fs I J) (h2 : Chain gs J K) : Chain (fs ++ gs) I K := by
  induction h with
  | nil => exact h2
  | cons g _ ih => exact .cons g (ih h2)
theorem Chain.states {fs : List Value} {I K : List HP} (h : Chain fs I K) : ∃ S : Nat → List HP, S 0 = I ∧ S fs.length = K ∧ ∀ i (hi : i < fs.length), Goes fs[i] (S i) (S (i + 1)) := by
  induction h with
  | @nil I => exact ⟨fun _ => I, rfl, rfl, fun i hi => by cases hi⟩
  | @cons f fs I J K g _ ih =>
    obtain ⟨S, h0, h1, h2⟩ := ih
    refine ⟨fun i => if i = 0 then I else S (i - 1), rfl, by simpa using h1, fun i hi => ?_⟩
    cases i with
    | zero =>
      simp only [if_true, List.getElem_cons_zero, Nat.zero_add, Nat.succ_ne_zero, if_false, Nat.sub_self, h0]
      exact g
    | succ i =>
      have := h2 i (by simpa using hi)
      simpa using this
theorem jTriesC {R : HP} {A : Addr} {m c : Nat} {fs : List Value} {I K : List HP} (ch : Chain fs I K) (hR : Reads R (some A) fs) (hm : fs.length = m) (hl : m ≤ 1000) :
    Spec Tryz.prog 85 #[.slice (some A) m c] (I ++ [R]) fun F v M => v = .int .i64 0 ∧ M = K ++ (R :: F) := by
  obtain ⟨S, h0, h1, h2⟩ := ch.states
  have := jTries (c := c) S hR hm hl h2
  rw [h0, ← hm, h1] at this
  rw [← hm]
  exact this
theorem Goes.sub {fv : Value} {I J L M K : List HP} (h : Goes fv I J) (t : Tk L I K := by repeat (first | exact .nil | (apply Tk.cons; (focus ((repeat (first | exact .here | apply Rem.there)); done)))))
    (m : Am (J ++ K) M := by repeat (first | exact .refl | exact .nil | (apply Am.take; (focus ((repeat (first | exact .here | apply Rem.there)); done))) | refine .skip ?_)) : Goes fv L M := by
  obtain ⟨f, us, cap, hf, hc, hs⟩ := h
  refine ⟨f, us, cap, hf, hc, fun B F w hsat => ?_⟩
  have h1 := hsat.take (Tk.right t)
  rw [← List.append_assoc] at h1
  have h2 := hs B (K ++ F) w (by rw [← List.append_assoc]; exact h1)
  refine h2.mono ?_
  rintro e w' ⟨v, M', rfl, ⟨rfl, rfl⟩, h3⟩
  refine ⟨_, _, rfl, ⟨rfl, rfl⟩, ?_⟩
  rw [← List.append_assoc] at h3
  exact (Am.right m).wk B w' h3


theorem goesFlush {d n t : Nat} {cur : Nat → Bytes} : Goes (.func (.func 86) #[.pointer (some ⟨d, 0, none⟩)] #[]) [DevR d n cur t] [DevR d n cur 0] := ⟨_, _, _, rfl, Tryz.call86, devFlush⟩
def boxD (b d : Nat) : HP := pt b (.cells #[.pointer (some ⟨d, 0, none⟩)] 76 (0, 0))
def cellI (b : Nat) (i : Nat) : HP := pt b (.cells #[.int .i64 (i : Int)] 3 (0, 0))
def cellU (b : Nat) (i : Nat) : HP := pt b (.cells #[.int .u64 (i : Int)] 138 (0, 0))

theorem jFormat1 {d n t b c i : Nat} {cur : Nat → Bytes} (hi : i ≤ 3) (hn : 246 ≤ n) (ht : t ≤ 1000) : Spec Tryz.prog 82 #[.pointer (some ⟨b, 0, none⟩), .pointer (some ⟨c, 0, none⟩)] [boxD b d, cellI c i, DevR d n cur t] fun F v M => v = okV ∧ M = [boxD b d, cellI c i, DevR d n (wr cur (slotAt i 0) zeros) (t + 1)] ++ F := by
  refine Spec.intro Tryz.func82 rfl rfl fun B F => ?_
  simp only [Tryz.ntmps82, List.cons_append, List.nil_append, env0, Nat.reduceAdd]
  simp only [boxD, cellI]
  refine WC.seq ?_
  refine WC.region ?_
  refine WL.assign ?_
  refine WL.nil ?_
  refine WQ.next ?_
  refine WC.seq ?_
  refine WC.draw ([pt b (.cells #[.pointer (some ⟨d, 0, none⟩)] 76 (0, 0)), pt c (.cells #[.int .i64 (i : Int)] 3 (0, 0))]) [] 7 #[false, false, false, false, false, false, false] mixed (by kernel_rfl) NoPanic.autoJ ?_
  refine WD.take (i := 0) #[true, false, false, false, false, false, false] rfl (by kernel_rfl) (Qt.ld sc76) ?_
  refine WD.take (i := 1) #[true, true, false, false, false, false, false] rfl (by kernel_rfl) (Qt.ld sc3) ?_
  refine WD.take (i := 2) #[true, true, true, false, false, false, false] rfl (by kernel_rfl) (Qt.build (bdPlace _ _)) ?_
  refine WD.two (i := 3) (j := 4) #[true, true, true, true, false, false, false] #[true, true, true, false, true, false, false] rfl rfl (by kernel_rfl) (fun hnp => ?_) (fun hnp => ?_)
  · refine WL.call (hc := Tryz.call84) (sp := placeAt (a := i) (b := 0) (by omega)) (h := ?_)
    rintro _ _ ⟨rfl, rfl⟩
    refine WL.nil (WQ.wd hnp (.inl Am.auto) ?_)
    refine WD.one (i := 4) #[true, true, true, true, true, false, false] rfl (by kernel_rfl) fun hnp => ?_
    refine WL.mkSN 512 z5 so33 (by decide) (by decide) fun b7 => ?_
    refine WL.to (r := .here) (A' := buf b7 5 512 (bvs zeros)) (fun h hh => by unfold zeros; rw [bvs_replicate]; exact hh) ?_
    refine WL.nil (WQ.wd hnp (.inl Am.auto) ?_)
    refine WD.one (i := 5) #[true, true, true, true, true, true, false] rfl (by kernel_rfl) fun hnp => ?_
    refine WL.call (hc := Tryz.call83) (sp := devWrite (n := n) (t := t) (cur := cur) (k := slotAt i 0) Reads.buf zeros_length rfl (by unfold slotAt; omega) (by omega)) (h := ?_)
    rintro _ _ ⟨rfl, rfl⟩
    refine WL.nil (WQ.wd hnp (.inl Am.auto) ?_)
    refine WD.take (i := 6) #[true, true, true, true, true, true, true] rfl (by kernel_rfl) (Qt.assign ) ?_
    refine WD.done (by kernel_rfl) ?_
    refine WQ.next ?_
    refine WC.ret (?_)
    exact WQ.ret1 (h1 := .tmp (t := 2) rfl) ⟨_, ⟨rfl, rfl⟩, Am.auto⟩
  · refine WL.mkSN 512 z5 so33 (by decide) (by decide) fun b7 => ?_
    refine WL.to (r := .here) (A' := buf b7 5 512 (bvs zeros)) (fun h hh => by unfold zeros; rw [bvs_replicate]; exact hh) ?_
    refine WL.nil (WQ.wd hnp (.inl Am.auto) ?_)
    refine WD.one (i := 3) #[true, true, true, true, true, false, false] rfl (by kernel_rfl) fun hnp => ?_
    refine WL.call (hc := Tryz.call84) (sp := placeAt (a := i) (b := 0) (by omega)) (h := ?_)
    rintro _ _ ⟨rfl, rfl⟩
    refine WL.nil (WQ.wd hnp (.inl Am.auto) ?_)
    refine WD.one (i := 5) #[true, true, true, true, true, true, false] rfl (by kernel_rfl) fun hnp => ?_
    refine WL.call (hc := Tryz.call83) (sp := devWrite (n := n) (t := t) (cur := cur) (k := slotAt i 0) Reads.buf zeros_length rfl (by unfold slotAt; omega) (by omega)) (h := ?_)
    rintro _ _ ⟨rfl, rfl⟩
    refine WL.nil (WQ.wd hnp (.inl Am.auto) ?_)
    refine WD.take (i := 6) #[true, true, true, true, true, true, true] rfl (by kernel_rfl) (Qt.assign ) ?_
    refine WD.done (by kernel_rfl) ?_
    refine WQ.next ?_
    refine WC.ret (?_)
    exact WQ.ret1 (h1 := .tmp (t := 2) rfl) ⟨_, ⟨rfl, rfl⟩, Am.auto⟩

theorem jFormat2 {d n t b c gen : Nat} {cur : Nat → Bytes} (hn : 246 ≤ n) (ht : t ≤ 1000) : Spec Tryz.prog 87 #[.pointer (some ⟨b, 0, none⟩), .pointer (some ⟨c, 0, none⟩)] [boxD b d, cellU c gen, DevR d n cur t] fun F v M => v = okV ∧ M = [boxD b d, cellU c gen, DevR d n (wr cur 0 (laidB magicJ [(gen + 1) % 2 ^ 64])) (t + 1)] ++ F := by
  refine Spec.intro Tryz.func87 rfl rfl fun B F => ?_
  simp only [Tryz.ntmps87, List.cons_append, List.nil_append, env0, Nat.reduceAdd]
  simp only [boxD, cellU]
  refine WC.seq ?_
  refine WC.region ?_
  refine WL.assign ?_
  refine WL.nil ?_
  refine WQ.next ?_
  refine WC.seq ?_
  refine WC.draw ([pt b (.cells #[.pointer (some ⟨d, 0, none⟩)] 76 (0, 0)), pt c (.cells #[.int .u64 (gen : Int)] 138 (0, 0))]) [] 7 #[false, false, false, false, false, false, false] mixed (by kernel_rfl) NoPanic.autoJ ?_
  refine WD.take (i := 0) #[true, false, false, false, false, false, false] rfl (by kernel_rfl) (Qt.ld sc76) ?_
  refine WD.take (i := 1) #[true, true, false, false, false, false, false] rfl (by kernel_rfl) (Qt.ld sc138) ?_
  refine WD.take (i := 2) #[true, true, true, false, false, false, false] rfl (by kernel_rfl) ((Qt.addw).eq (v' := .int .u64 (((gen + 1) % 2 ^ 64 : Nat) : Int)) (congrArg (Value.int .u64) (u64_wrap1 gen))) ?_
  refine WD.one (i := 3) #[true, true, true, true, false, false, false] rfl (by kernel_rfl) fun hnp => ?_
  refine WL.buildS (fun b6 => ?_) (bs181_1 _)
  refine WL.nil (WQ.wd hnp (.inl Am.auto) ?_)
  refine WD.one (i := 4) #[true, true, true, true, true, false, false] rfl (by kernel_rfl) fun hnp => ?_
  refine WL.call (hc := Tryz.call88) (sp := jLaid (ys := magicJ) (nums := [(gen + 1) % 2 ^ 64]) (by decide) Reads.pt rfl (Nat.le_of_ble_eq_true rfl) (by intro v hv; rw [List.mem_singleton] at hv; subst hv; exact Nat.mod_lt _ (by decide))) (h := ?_)
  rintro _ _ ⟨gl, ql, ⟨rfl, hl1, hl2⟩, rfl⟩
  refine WL.nil (WQ.wd hnp (.inl Am.auto) ?_)
  refine WD.one (i := 5) #[true, true, true, true, true, true, false] rfl (by kernel_rfl) fun hnp => ?_
  refine WL.call (hc := Tryz.call83) (sp := devWrite (n := n) (t := t) (cur := cur) (k := 0) Reads.buf (laidN_length (ys := magicJ) (by decide) _ _) rfl (by omega) (by omega)) (h := ?_)
  rintro _ _ ⟨rfl, rfl⟩
  refine WL.nil (WQ.wd hnp (.inl Am.auto) ?_)
  refine WD.take (i := 6) #[true, true, true, true, true, true, true] rfl (by kernel_rfl) (Qt.assign ) ?_
  refine WD.done (by kernel_rfl) ?_
  refine WQ.next ?_
  refine WC.ret (?_)
  exact WQ.ret1 (h1 := .tmp (t := 2) rfl) ⟨_, ⟨rfl, rfl⟩, Am.auto⟩


def clearH (cur : Nat → Bytes) : Nat → Nat → Bytes
  | 0 => cur
  | i + 1 => wr (clearH cur i) (slotAt i 0) zeros
/-- What Format makes of a device. -/
def formatted (cur : Nat → Bytes) : Nat → Bytes := wr (if (cur 0).take 8 = magicJ then cur else clearH cur 4) 0 (laidB magicJ [(beNat (seg (cur 0) 8 8 false) + 1) % 2 ^ 64])
def fmt1V (b c : Nat) : Value := .func (.func 82) #[] #[.pointer (some ⟨b, 0, none⟩), .pointer (some ⟨c, 0, none⟩)]
def fmt2V (b c : Nat) : Value := .func (.func 87) #[] #[.pointer (some ⟨b, 0, none⟩), .pointer (some ⟨c, 0, none⟩)]
theorem goesFmt1 {d n t b c : Nat} {cur : Nat → Bytes} (i : Nat) (hi : i ≤ 3) (hn : 246 ≤ n) (ht : t ≤ 1000) : Goes (fmt1V b c) [boxD b d, cellI c i, DevR d n cur t] [boxD b d, cellI c i, DevR d n (wr cur (slotAt i 0) zeros) (t + 1)] := ⟨_, _, _, rfl, Tryz.call82, jFormat1 hi hn ht⟩
theorem goesFmt2 {d n t b c gen : Nat} {cur : Nat → Bytes} (hn : 246 ≤ n) (ht : t ≤ 1000) : Goes (fmt2V b c) [boxD b d, cellU c gen, DevR d n cur t] [boxD b d, cellU c gen, DevR d n (wr cur 0 (laidB magicJ [(gen + 1) % 2 ^ 64])) (t + 1)] := ⟨_, _, _, rfl, Tryz.call87, jFormat2 hn ht⟩

theorem jFormat {d n t : Nat} {cur : Nat → Bytes} (hn : 246 ≤ n) (ht : t ≤ 100) : Spec Tryz.prog 42 #[.pointer (some ⟨d, 0, none⟩)] [DevR d n cur t] fun F v M => v = .int .i64 0 ∧ M = DevR d n (formatted cur) 0 :: F := by
  refine Spec.intro Tryz.func42 rfl rfl fun B F => ?_
  simp only [Tryz.ntmps42, List.cons_append, List.nil_append, env0, Nat.reduceAdd]
  refine WC.seq ?_
  refine WC.region ?_
  refine WL.box fun b1 => ?_
  refine WL.assign ?_
  refine WL.nil ?_
  refine WQ.next ?_
  refine WC.seq ?_
  refine WC.seq ?_
  refine WC.region ?_
  refine WL.ld ?_ sc76
  refine WL.call (hc := Tryz.call80) (sp := devBlocksR (n := n) (t := t) (cur := cur)) (h := ?_)
  rintro _ _ ⟨rfl, rfl⟩
  refine WL.lss ?_
  refine WL.nil ?_
  refine WQ.next ?_
  refine WC.condF rfl (congrArg Value.bool (by first | (simp; done) | (simp; omega) | omega)) ?_
  refine WC.skip ?_
  refine WQ.next ?_
  refine WC.seq ?_
  refine WC.region ?_
  refine WL.ld ?_ sc76
  refine WL.call (hc := Tryz.call81) (sp := jFirst (n := n) (t := t) (cur := cur) (by omega)) (h := ?_)
  rintro _ _ ⟨rfl, rfl⟩
  refine WL.move ?_
  refine WL.extract ?_
  refine WL.extract ?_
  refine WL.alloc z138 fun b3 => ?_
  refine WL.st ?_ sc138
  refine WL.assign ?_
  refine WL.nil ?_
  refine WQ.next ?_
  refine WC.seq ?_
  refine WC.region ?_
  refine WL.assign ?_
  refine WL.emp (rowR.nil (e := 41) (size := 1) _) ?_
  refine WL.nil ?_
  refine WQ.next ?_
  refine WC.seq ?_
  refine WC.seq ?_
  refine WC.region ?_
  refine WL.move ?_
  refine WL.not ?_
  refine WL.nil ?_
  refine WQ.next ?_
  refine WC.cond rfl (fun hb => ?_) (fun hb => ?_)
  · have hno : ¬ (cur 0).take 8 = magicJ := by simpa using hb
    refine WC.seq ?_
    refine WC.region ?_
    refine WL.move ?_
    refine WL.nil ?_
    refine WQ.next ?_
    refine WC.block ?_
    refine WC.loopN 5 (RC.succ ?_)
    refine WC.seq ?_
    refine WC.region ?_
    refine WL.lss ?_
    refine WL.nil ?_
    refine WQ.next ?_
    refine WC.seq ?_
    refine WC.condT rfl rfl ?_
    refine WC.skip ?_
    refine WQ.next ?_
    refine WC.seq ?_
    refine WC.block ?_
    refine WC.seq ?_
    refine WC.region ?_
    refine WL.move ?_
    refine WL.alloc z3 fun b6_0 => ?_
    refine WL.st ?_ sc3
    refine WL.nil ?_
    refine WQ.next ?_
    refine WC.region ?_
    refine WL.move ?_
    refine WL.makeFuncB ?_
    refine WL.buildS (fun b22 => ?_) (bs141_1 _ _ _)
    refine WL.append (m := 1) so141 (by decide) (by repeat (first | exact .here | apply Rem.there | apply Repl.there | apply Mem.there)) Reads.pt (by repeat (first | exact .here | apply Rem.there | apply Repl.there | apply Mem.there)) rfl (by simp [Value.single]) (by decide) (by decide) ⟨_, z41, rfl⟩ (fun v_0 hv_0 => ?_)
    refine WL.assign ?_
    refine WL.nil ?_
    refine WQ.blockNormal ?_
    refine WQ.next ?_
    refine WC.region ?_
    refine WL.add ?_
    refine WL.move ?_
    refine WL.nil ?_
    refine WQ.again (RC.succ ?_)
    refine WC.seq ?_
    refine WC.region ?_
    refine WL.lss ?_
    refine WL.nil ?_
    refine WQ.next ?_
    refine WC.seq ?_
    refine WC.condT rfl rfl ?_
    refine WC.skip ?_
    refine WQ.next ?_
    refine WC.seq ?_
    refine WC.block ?_
    refine WC.seq ?_
    refine WC.region ?_
    refine WL.move ?_
    refine WL.alloc z3 fun b6_1 => ?_
    refine WL.st ?_ sc3
    refine WL.nil ?_
    refine WQ.next ?_
    refine WC.region ?_
    refine WL.move ?_
    refine WL.makeFuncB ?_
    refine WL.buildS (fun b22 => ?_) (bs141_1 _ _ _)
    refine WL.append (m := 1) so141 (by decide) (by repeat (first | exact .here | apply Rem.there | apply Repl.there | apply Mem.there)) Reads.pt (by repeat (first | exact .here | apply Rem.there | apply Repl.there | apply Mem.there)) rfl (by simp [Value.single]) (by decide) (by decide) ⟨_, z41, rfl⟩ (fun v_1 hv_1 => ?_)
    refine WL.assign ?_
    refine WL.nil ?_
    refine WQ.blockNormal ?_
    refine WQ.next ?_
    refine WC.region ?_
    refine WL.add ?_
    refine WL.move ?_
    refine WL.nil ?_
    refine WQ.again (RC.succ ?_)
    refine WC.seq ?_
    refine WC.region ?_
    refine WL.lss ?_
    refine WL.nil ?_
    refine WQ.next ?_
    refine WC.seq ?_
    refine WC.condT rfl rfl ?_
    refine WC.skip ?_
    refine WQ.next ?_
    refine WC.seq ?_
    refine WC.block ?_
    refine WC.seq ?_
    refine WC.region ?_
    refine WL.move ?_
    refine WL.alloc z3 fun b6_2 => ?_
    refine WL.st ?_ sc3
    refine WL.nil ?_
    refine WQ.next ?_
    refine WC.region ?_
    refine WL.move ?_
    refine WL.makeFuncB ?_
    refine WL.buildS (fun b22 => ?_) (bs141_1 _ _ _)
    refine WL.append (m := 1) so141 (by decide) (by repeat (first | exact .here | apply Rem.there | apply Repl.there | apply Mem.there)) Reads.pt (by repeat (first | exact .here | apply Rem.there | apply Repl.there | apply Mem.there)) rfl (by simp [Value.single]) (by decide) (by decide) ⟨_, z41, rfl⟩ (fun v_2 hv_2 => ?_)
    refine WL.assign ?_
    refine WL.nil ?_
    refine WQ.blockNormal ?_
    refine WQ.next ?_
    refine WC.region ?_
    refine WL.add ?_
    refine WL.move ?_
    refine WL.nil ?_
    refine WQ.again (RC.succ ?_)
    refine WC.seq ?_
    refine WC.region ?_
    refine WL.lss ?_
    refine WL.nil ?_
    refine WQ.next ?_
    refine WC.seq ?_
    refine WC.condT rfl rfl ?_
    refine WC.skip ?_
    refine WQ.next ?_
    refine WC.seq ?_
    refine WC.block ?_
    refine WC.seq ?_
    refine WC.region ?_
    refine WL.move ?_
    refine WL.alloc z3 fun b6_3 => ?_
    refine WL.st ?_ sc3
    refine WL.nil ?_
    refine WQ.next ?_
    refine WC.region ?_
    refine WL.move ?_
    refine WL.makeFuncB ?_
    refine WL.buildS (fun b22 => ?_) (bs141_1 _ _ _)
    refine WL.append (m := 1) so141 (by decide) (by repeat (first | exact .here | apply Rem.there | apply Repl.there | apply Mem.there)) Reads.pt (by repeat (first | exact .here | apply Rem.there | apply Repl.there | apply Mem.there)) rfl (by simp [Value.single]) (by decide) (by decide) ⟨_, z41, rfl⟩ (fun v_3 hv_3 => ?_)
    refine WL.assign ?_
    refine WL.nil ?_
    refine WQ.blockNormal ?_
    refine WQ.next ?_
    refine WC.region ?_
    refine WL.add ?_
    refine WL.move ?_
    refine WL.nil ?_
    refine WQ.again (RC.succ ?_)
    refine WC.seq ?_
    refine WC.region ?_
    refine WL.lss ?_
    refine WL.nil ?_
    refine WQ.next ?_
    refine WC.seq ?_
    refine WC.condF rfl rfl ?_
    refine WC.exit (WQ.thenExit (WQ.thenExit (WQ.blockExit (?_))))
    refine WQ.next ?_
    refine WC.seq ?_
    refine WC.region ?_
    refine WL.move ?_
    refine WL.ld ?_ sc76
    refine WL.makeFuncB ?_
    refine WL.makeFuncB ?_
    refine WL.ld ?_ sc76
    refine WL.makeFuncB ?_
    refine WL.buildS (fun b31 => ?_) (bs141_3 _ _ _ _ _ _ _ _ _)
    refine WL.append (m := 3) so141 (by decide) (by repeat (first | exact .here | apply Rem.there | apply Repl.there | apply Mem.there)) Reads.pt (by repeat (first | exact .here | apply Rem.there | apply Repl.there | apply Mem.there)) rfl (by simp [Value.single]) (by decide) (by decide) ⟨_, z41, rfl⟩ (fun vT hvT => ?_)
    refine WL.rowOpen (v := vT) fun A c hv hR hc1 hc2 => ?_
    subst hv
    refine WL.call (hc := Tryz.call85) (sp := jTriesC ((.cons (I := [boxD b1 d, cellI b6_0 0, cellI b6_1 1, cellI b6_2 2, cellI b6_3 3, cellU b3 (beNat (seg (cur 0) 8 8 false)), DevR d n cur t]) (goesFmt1 (d := d) (n := n) (t := t + 0) (cur := clearH cur 0) 0 (by decide) hn (by omega)).sub (.cons (goesFmt1 (d := d) (n := n) (t := t + 1) (cur := clearH cur 1) 1 (by decide) hn (by omega)).sub (.cons (goesFmt1 (d := d) (n := n) (t := t + 2) (cur := clearH cur 2) 2 (by decide) hn (by omega)).sub (.cons (goesFmt1 (d := d) (n := n) (t := t + 3) (cur := clearH cur 3) 3 (by decide) hn (by omega)).sub (.cons (goesFlush (d := d) (n := n) (t := t + 4) (cur := (clearH cur 4))).sub (.cons (goesFmt2 (d := d) (n := n) (t := 0) (cur := (clearH cur 4)) (gen := beNat (seg (cur 0) 8 8 false)) hn (by decide)).sub (.cons goesFlush.sub .nil)))))))) hR rfl (Nat.le_of_ble_eq_true rfl)) (h := ?_)
    rintro _ _ ⟨rfl, rfl⟩
    simp only [List.cons_append, List.nil_append]
    refine WL.assign ?_
    refine WL.nil ?_
    refine WQ.next ?_
    refine WC.ret (?_)
    have hfin : formatted cur = wr (clearH cur 4) 0 (laidB magicJ [(beNat (seg (cur 0) 8 8 false) + 1) % 2 ^ 64]) := by unfold formatted; rw [if_neg hno]
    rw [hfin]
    exact WQ.ret1 (h1 := .tmp (t := 2) rfl) ⟨_, ⟨rfl, rfl⟩, Am.auto⟩
  · have hyes : (cur 0).take 8 = magicJ := by simpa using hb
    refine WC.skip ?_
    refine WQ.next ?_
    refine WC.seq ?_
    refine WC.region ?_
    refine WL.move ?_
    refine WL.ld ?_ sc76
    refine WL.makeFuncB ?_
    refine WL.makeFuncB ?_
    refine WL.ld ?_ sc76
    refine WL.makeFuncB ?_
    refine WL.buildS (fun b31 => ?_) (bs141_3 _ _ _ _ _ _ _ _ _)
    refine WL.append (m := 3) so141 (by decide) (by repeat (first | exact .here | apply Rem.there | apply Repl.there | apply Mem.there)) Reads.pt (by repeat (first | exact .here | apply Rem.there | apply Repl.there | apply Mem.there)) rfl (by simp [Value.single]) (by decide) (by decide) ⟨_, z41, rfl⟩ (fun vT hvT => ?_)
    refine WL.rowOpen (v := vT) fun A c hv hR hc1 hc2 => ?_
    subst hv
    refine WL.call (hc := Tryz.call85) (sp := jTriesC ((.cons (I := [boxD b1 d, cellU b3 (beNat (seg (cur 0) 8 8 false)), DevR d n cur t]) (goesFlush (d := d) (n := n) (t := t) (cur := cur)).sub (.cons (goesFmt2 (d := d) (n := n) (t := 0) (cur := cur) (gen := beNat (seg (cur 0) 8 8 false)) hn (by decide)).sub (.cons goesFlush.sub .nil)))) hR rfl (Nat.le_of_ble_eq_true rfl)) (h := ?_)
    rintro _ _ ⟨rfl, rfl⟩
    simp only [List.cons_append, List.nil_append]
    refine WL.assign ?_
    refine WL.nil ?_
    refine WQ.next ?_
    refine WC.ret (?_)
    have hfin : formatted cur = wr cur 0 (laidB magicJ [(beNat (seg (cur 0) 8 8 false) + 1) % 2 ^ 64]) := by unfold formatted; rw [if_pos hyes]
    rw [hfin]
    exact WQ.ret1 (h1 := .tmp (t := 2) rfl) ⟨_, ⟨rfl, rfl⟩, Am.auto⟩

end Go.Proofs.YtedmihapieleaaaGreat
