/- A part of the proof of lawFGone: texts of this work put together. -/
import Derived.Test.YtdmjkjeoamiedaaGreatDoorQh4
import Derived.KernelRfl
set_option linter.unusedVariables false
set_option linter.unusedSimpArgs false
set_option linter.unusedSectionVars false
section
namespace Go.Proofs.YtdmjkjeoamiedaaGreatDoor
open Go
theorem un303 : Tryz.prog.underlying 303 = some (.int .u32) := by kernel_rfl
theorem fo199_0 : fieldOk Tryz.prog 199 0 0 = true := by kernel_rfl
def crcBit (c : Int) : Int := bxor .u32 (c.fdiv (2 ^ (min (1 : Int).toNat IntKind.u32.bits))) (band .u32 2197175160 (IntKind.u32.wrap (0 - band .u32 c 1)))
def crc8 (c : Int) : Nat → Int
  | 0 => c
  | j + 1 => crcBit (crc8 c j)
def crcK (xs : Bytes) (c : Int) : Nat → Int
  | 0 => c
  | k + 1 => crc8 (bxor .u32 (crcK xs c k) (IntKind.u32.wrap ((xs.getD k 0).toNat : Int))) 8
def crcI (xs : Bytes) : Int := icomp .u32 (crcK xs (icomp .u32 0) xs.length)
theorem crcI_range (xs : Bytes) : 0 ≤ crcI xs ∧ crcI xs < 4294967296 := by
  have : ∀ x, 0 ≤ IntKind.u32.wrap x ∧ IntKind.u32.wrap x < 4294967296 := fun x => by
    have : IntKind.u32.wrap x = x % 2 ^ 32 := by simp [IntKind.wrap, IntKind.bits, IntKind.signed]
    rw [this]; omega
  exact this _
theorem crcMore {R : HP} {A : Addr} {m c : Nat} {xs : Bytes} (hR : Reads R (some A) (bvs xs)) (hm : xs.length = m) (hl : m ≤ 1073741824) : Spec Tryz.prog 263 #[.int .u32 0, .slice (some A) m c] [R] fun F v M => v = .int .u32 (crcI xs) ∧ M = R :: F := by
  refine Spec.intro Tryz.func263 rfl rfl fun B F => ?_
  simp only [Tryz.ntmps263, List.cons_append, List.nil_append, env0, Nat.reduceAdd]
  subst hm
  obtain ⟨ab, ao, asp⟩ := A
  have hsp : asp = none := hR.1
  subst hsp
  refine .sr (.assign (.x (.move ?_)))
  refine .comp ?_
  refine .assign (.z (.seq (.sr (.move ?_))))
  refine .lenS ?_ sl33
  refine .move (.z (.block ?_))
  refine .loopA (σ := Nat) (fun k => [(0, .int .u32 (crcK xs (icomp .u32 0) k)), (9, .slice (some ⟨ab, ao, none⟩) xs.length c), (10, .int .i64 ((xs.length : Nat) : Int)), (11, .int .i64 ((k : Nat) : Int))]) (fun _ => R :: F) (fun k => k ≤ xs.length) (fun k => xs.length - k) 0 (Nat.zero_le _) ?_
  rintro k hk
  refine .sr ?_
  refine .lss ?_
  refine .z (.seq ?_)
  refine .cond rfl (fun hb => ?_) (fun hb => ?_)
  · have hlt : k < xs.length := by have h : (k : Int) < (xs.length : Int) := of_decide_eq_true hb; omega
    have hgk : (bvs xs)[((k : Nat) : Int).toNat]? = some (.int .u8 ((xs.getD k 0).toNat : Int)) := by rw [Int.toNat_natCast]; simp [bvs, hlt]; rfl
    refine .skip (.next (.seq (.block (.sr ?_))))
    refine .idx1 ?_ so33
    refine .ldR (i := ((k : Nat) : Int).toNat) ?_ sc5 hR hgk
    refine .assign (.x (.move (.move ?_)))
    refine .cvt ?_ un5 un303
    refine .xor ?_
    refine .assign (.x (.move (.z (.block ?_))))
    refine .loopA (σ := Nat) (fun j => [(0, .int .u32 (crc8 (bxor .u32 (crcK xs (icomp .u32 0) k) (IntKind.u32.wrap ((xs.getD k 0).toNat : Int))) j)), (9, .slice (some ⟨ab, ao, none⟩) xs.length c), (10, .int .i64 ((xs.length : Nat) : Int)), (11, .int .i64 ((k : Nat) : Int)), (19, .int .i64 ((j : Nat) : Int))]) (fun _ => R :: F) (fun j => j ≤ 8) (fun j => 8 - j) 0 (Nat.zero_le _) ?_
    rintro j hj
    refine .sr ?_
    refine .lss ?_
    refine .z (.seq ?_)
    refine .cond rfl (fun hb2 => ?_) (fun hb2 => ?_)
    · have hlt2 : j < 8 := by have h : (j : Int) < 8 := of_decide_eq_true hb2; omega
      refine .skip (.next (.seq (.block (.region (.move ?_)))))
      refine .shr ?_
      refine .move ?_
      refine .and ?_
      refine .negw ?_
      refine .and ?_
      refine .xor ?_
      refine .assign (.nil (.blockNormal (.next (.region ?_))))
      refine .add ?_
      refine .move (.nil ?_)
      refine .cast (d := 19) (u := .int .i64 ((j + 1 : Nat) : Int)) rfl (congrArg (Value.int .i64) (by omega)) ?_
      exact .back (j + 1) (by show j + 1 ≤ 8; omega) (by show 8 - (j + 1) < 8 - j; omega)
    · have hge2 : j = 8 := by have h : ¬ (j : Int) < 8 := of_decide_eq_false hb2; omega
      subst hge2
      refine .exit (.thenExit (.thenExit (.blockExit (?_))))
      refine .blockNormal (.next (.region ?_))
      refine .add ?_
      refine .move (.nil ?_)
      refine .cast (d := 11) (u := .int .i64 ((k + 1 : Nat) : Int)) rfl (congrArg (Value.int .i64) (by omega)) ?_
      exact .back (k + 1) (by show k + 1 ≤ xs.length; omega) (by show xs.length - (k + 1) < xs.length - k; omega)
  · have hge : k = xs.length := by have h : ¬ (k : Int) < (xs.length : Int) := of_decide_eq_false hb; omega
    subst hge
    refine .exit (.thenExit (.thenExit (.blockExit (?_))))
    refine .next (.sr (.move ?_))
    refine .comp ?_
    refine .assign (.z ?_)
    refine .ret (?_)
    exact .ret1 (h1 := .tmp (t := 4) rfl) ⟨_, ⟨rfl, rfl⟩, Am.auto⟩
theorem crcSum {R : HP} {A : Addr} {m c : Nat} {xs : Bytes} (hR : Reads R (some A) (bvs xs)) (hm : xs.length = m) (hl : m ≤ 1073741824) : Spec Tryz.prog 206 #[.slice (some A) m c] [R] fun F v M => v = .int .u32 (crcI xs) ∧ M = R :: F := by
  refine Spec.intro Tryz.func206 rfl rfl fun B F => ?_
  simp only [Tryz.ntmps206, List.cons_append, List.nil_append, env0, Nat.reduceAdd]
  refine .sr (.assign (.x (.move ?_)))
  refine .call (hc := Tryz.call263) (sp := crcMore hR hm hl) (h := ?_)
  rintro _ _ ⟨rfl, rfl⟩
  refine .assign (.z ?_)
  refine .ret (?_)
  exact .ret1 (h1 := .tmp (t := 2) rfl) ⟨_, ⟨rfl, rfl⟩, Am.auto⟩
theorem u64_wrap0 {a : Nat} (h : a < 2 ^ 64) : IntKind.u64.wrap ((a : Nat) : Int) = (a : Int) := by
  have : IntKind.u64.wrap ((a : Nat) : Int) = (a : Int) % 2 ^ 64 := by simp [IntKind.wrap, IntKind.bits, IntKind.signed]
  rw [this]; omega
theorem bsI7 (a b c d e f h : Int) : BuildSOk Tryz.prog 80 7 [(0, .int .i64 a), (1, .int .i64 b), (2, .int .i64 c), (3, .int .i64 d), (4, .int .i64 e), (5, .int .i64 f), (6, .int .i64 h)] 3 #[.int .i64 a, .int .i64 b, .int .i64 c, .int .i64 d, .int .i64 e, .int .i64 f, .int .i64 h] := fun w => by kernel_rfl
def plN (p : Pl) : List Nat := [p.n, p.ino, p.im, p.bm, p.tb, p.da, p.dc]
def magicS : Bytes := [66, 79, 76, 76, 65, 82, 68, 83]
def encN (nums : List Nat) : Nat → Bytes
  | 0 => magicS ++ List.replicate 504 0
  | i + 1 => put (encN nums i) (8 + 4 * i) 4 false (nums.getD i 0)
theorem encN_length (nums : List Nat) : ∀ i, (encN nums i).length = 512
  | 0 => by rw [encN, List.length_append, List.length_replicate]; rfl
  | i + 1 => by rw [encN, put_length]; exact encN_length nums i
theorem encN_seg (nums : List Nat) {k : Nat} (hk : k < 100) (hv : nums.getD k 0 < 2 ^ 32) : ∀ i, k < i → i ≤ 100 → beNat (seg (encN nums i) (8 + 4 * k) 4 false) = nums.getD k 0
  | i + 1, h1, h2 => by
    rw [encN]
    have hlen := encN_length nums i
    by_cases hki : k = i
    · subst hki
      exact seg_put (by omega) (by rw [show (256 : Nat) ^ 4 = 2 ^ 32 from by decide]; exact hv)
    · rw [seg_put_other (by omega)]
      exact encN_seg nums hk hv i (by omega) (by omega)
def supB (p : Pl) : Bytes := put (encN (plN p) 7) 36 4 false (crcI ((encN (plN p) 7).take 36)).toNat
theorem supB_length (p : Pl) : (supB p).length = 512 := by unfold supB; rw [put_length]; exact encN_length _ _
theorem plN_small {p : Pl} (h : PlIs p) : ∀ v ∈ plN p, v < 2 ^ 32 := by
  have h1 := h.im; have h2 := h.bm; have h3 := h.m1; have h4 := h.da; have h5 := h.dc; have h8 := h.n2; have h10 := h.i2
  intro v hv
  unfold plN at hv
  simp only [List.mem_cons, List.not_mem_nil, or_false] at hv
  rcases hv with rfl | rfl | rfl | rfl | rfl | rfl | rfl <;> omega
theorem supB_n {p : Pl} (h : PlIs p) : beNat (seg (supB p) 8 4 false) = p.n := by
  unfold supB
  rw [seg_put_other (by omega)]
  exact encN_seg (plN p) (k := 0) (by omega) (plN_small h _ (List.getElem_mem (l := plN p) (n := 0) (by show 0 < 7; decide))) 7 (by omega) (by omega)
theorem supB_ino {p : Pl} (h : PlIs p) : beNat (seg (supB p) 12 4 false) = p.ino := by
  unfold supB
  rw [seg_put_other (by omega)]
  exact encN_seg (plN p) (k := 1) (by omega) (plN_small h _ (List.getElem_mem (l := plN p) (n := 1) (by show 1 < 7; decide))) 7 (by omega) (by omega)
theorem layEnc {p : Pl} (h : PlIs p) : Spec Tryz.prog 136 #[.agg p.cells] [] fun F v M => ∃ g q, v = .slice (some ⟨g, 0, none⟩) 512 q ∧ (512 ≤ q ∧ q ≤ maxLen) ∧ M = buf g 5 q (bvs (supB p)) :: F := by
  refine Spec.intro Tryz.func136 rfl rfl fun B F => ?_
  simp only [Tryz.ntmps136, List.cons_append, List.nil_append, env0, Nat.reduceAdd]
  refine .sr ?_
  refine .box fun b1 => ?_
  refine .to (A := pt b1 (.cells p.cells 199 (0, 0))) (A' := pt b1 (.cells p.cells 199 (0, 0))) (fun h hh => hh) ?_
  refine .assign (.x ?_)
  refine .mkSN 512 z5 so33 (by decide) (by decide) fun b6 => ?_
  refine .assign (.x (.move ?_))
  refine .copyS magicS so33 ?_ (hdl := by rw [List.length_replicate]; decide)
  refine .to (r := .here) (A' := buf b6 5 512 (bvs (encN (plN p) 0))) (fun h hh => by
    have e1 : (List.replicate 512 (Value.int .u8 0)).take 0 ++ (bvs magicS).take (min magicS.length 512) ++ (List.replicate 512 (Value.int .u8 0)).drop (0 + min magicS.length 512) = bvs (encN (plN p) 0) := by
      rw [encN, bvs_append, bvs_replicate, List.take_zero, List.nil_append, List.drop_replicate]
      rfl
    rw [← e1]; exact hh) ?_
  refine .z (.seq (.sr ?_))
  refine .fa ?_ fo199_0
  refine .ld ?_ sc3
  refine .fa ?_ fo199_1
  refine .ld ?_ sc3
  refine .fa ?_ fo199_2
  refine .ld ?_ sc3
  refine .fa ?_ fo199_3
  refine .ld ?_ sc3
  refine .fa ?_ fo199_4
  refine .ld ?_ sc3
  refine .fa ?_ fo199_5
  refine .ld ?_ sc3
  refine .fa ?_ fo199_6
  refine .ld ?_ sc3
  refine .buildS (fun b23 => ?_) (bsI7 _ _ _ _ _ _ _)
  refine .lenS ?_ sl80
  refine .move (.z (.block ?_))
  refine .to (A := pt b23 (.cells #[.int .i64 (p.n : Int), .int .i64 (p.ino : Int), .int .i64 (p.im : Int), .int .i64 (p.bm : Int), .int .i64 (p.tb : Int), .int .i64 (p.da : Int), .int .i64 (p.dc : Int)] 3 (0, 0))) (A' := pt b23 (.cells (natsV (plN p)).toArray 3 (0, 0))) (fun h hh => hh) ?_
  refine .loopA (σ := Nat × Nat × Nat) (fun y => [(3, .slice (some ⟨y.2.1, 0, none⟩) 512 y.2.2), (23, .slice (some ⟨b23, 0, none⟩) 7 7), (24, .int .i64 7), (25, .int .i64 ((y.1 : Nat) : Int))]) (fun y => buf y.2.1 5 y.2.2 (bvs (encN (plN p) y.1)) :: pt b23 (.cells (natsV (plN p)).toArray 3 (0, 0)) :: F) (fun y => y.1 ≤ 7 ∧ 512 ≤ y.2.2 ∧ y.2.2 ≤ maxLen) (fun y => 7 - y.1) (0, b6, 512) ⟨Nat.zero_le _, Nat.le_refl _, by show 512 ≤ maxLen; decide⟩ ?_
  rintro y hy
  obtain ⟨k, gb, q⟩ := y
  obtain ⟨hk, hq1, hq2⟩ := hy
  simp only at hk hq1 hq2 ⊢
  refine .sr ?_
  refine .lss ?_
  refine .z (.seq ?_)
  refine .cond rfl (fun hb => ?_) (fun hb => ?_)
  · have hlt : k < 7 := by have h : (k : Int) < 7 := of_decide_eq_true hb; omega
    have hgk : (natsV (plN p))[((k : Nat) : Int).toNat]? = some (.int .i64 (((plN p).getD k 0 : Nat) : Int)) := by
      have hl7 : k < (plN p).length := hlt
      rw [Int.toNat_natCast, List.getD_eq_getElem?_getD, List.getElem?_eq_getElem hl7]
      unfold natsV ints
      simp [hl7]
    have hv : (plN p).getD k 0 < 2 ^ 32 := by
      have hl7 : k < (plN p).length := hlt
      rw [List.getD_eq_getElem?_getD, List.getElem?_eq_getElem hl7]
      exact plN_small h _ (List.getElem_mem hl7)
    have hlen := encN_length (plN p) k
    refine .skip (.next (.seq (.block (.sr (.move ?_)))))
    refine .idx1 ?_ so80
    refine .ldR (i := ((k : Nat) : Int).toNat) (R := pt b23 (.cells (natsV (plN p)).toArray 3 (0, 0))) ?_ sc3 Reads.pt hgk
    refine .assign (.assign (.y (.move (.move ?_))))
    refine .mul ?_
    refine .add ?_
    refine .move ?_
    refine .cvt ?_ un3 un134
    refine .cast (d := 36) (u := .int .u64 (((plN p).getD k 0 : Nat) : Int)) rfl (congrArg (Value.int .u64) (u64_wrap0 (by omega))) ?_
    refine .call (hc := Tryz.call74) (sp := bitsPut (xs := encN (plN p) k) (v := (plN p).getD k 0) Reads.buf hlen (by decide) (by omega) (by omega) (by omega) (by omega)) (h := ?_)
    rintro _ _ ⟨g', q', ⟨rfl, h1, h2⟩, rfl⟩
    refine .move ?_
    refine .extract ?_
    refine .extract ?_
    refine .assign (.nil (.blockNormal (.next (.region ?_))))
    refine .add ?_
    refine .move (.nil ?_)
    refine .to (r := .here) (A' := buf g' 5 q' (bvs (encN (plN p) (k + 1)))) (fun h hh => by
      rw [encN, show 8 + 4 * k = (8 + 4 * ((k : Nat) : Int)).toNat from by omega]; exact hh) ?_
    refine .cast (d := 25) (u := .int .i64 ((k + 1 : Nat) : Int)) rfl (congrArg (Value.int .i64) (by omega)) ?_
    exact .back (k + 1, g', q') ⟨by show k + 1 ≤ 7; omega, h1, h2⟩ (by show 7 - (k + 1) < 7 - k; omega)
  · have hge : k = 7 := by have h : ¬ (k : Int) < 7 := of_decide_eq_false hb; omega
    subst hge
    have hlen := encN_length (plN p) 7
    have hcr := crcI_range ((encN (plN p) 7).take 36)
    refine .exit (.thenExit (.thenExit (.blockExit (?_))))
    refine .next (.sr (.move (.move ?_)))
    refine .slcH ?_ so33
    refine .call (hc := Tryz.call206) (sp := crcSum (R := buf gb 5 q (bvs (encN (plN p) 7))) (xs := (encN (plN p) 7).take 36) (by rw [bvs_take]; exact Reads.buf.take 36) (by rw [List.length_take, hlen]; rfl) (by decide)) (h := ?_)
    rintro _ _ ⟨rfl, rfl⟩
    refine .cvt ?_ un303 un134
    refine .cast (d := 46) (u := .int .u64 (((crcI ((encN (plN p) 7).take 36)).toNat : Nat) : Int)) rfl (congrArg (Value.int .u64) (by rw [← u64_wrap0 (a := (crcI ((encN (plN p) 7).take 36)).toNat) (by omega)]; first | (congr 1; omega) | congr 1)) ?_
    refine .call (hc := Tryz.call74) (sp := bitsPut (xs := encN (plN p) 7) (v := (crcI ((encN (plN p) 7).take 36)).toNat) Reads.buf hlen (by decide) (by omega) (by omega) (by omega) (by omega)) (h := ?_)
    rintro _ _ ⟨g', q', ⟨rfl, h1, h2⟩, rfl⟩
    refine .move ?_
    refine .extract ?_
    refine .extract ?_
    refine .assign (.x (.move (.assign (.z ?_))))
    refine .ret (?_)
    exact .ret1 (h1 := .tmp (t := 2) rfl) ⟨_, ⟨g', q', rfl, ⟨h1, h2⟩, rfl⟩, Am.auto⟩
theorem bytesEq {R R2 : HP} {A A2 : Option Addr} {m c m2 c2 : Nat} {xs ys : Bytes} (hR : Reads R A (bvs xs)) (hm : xs.length = m) (hR2 : Reads R2 A2 (bvs ys)) (hm2 : ys.length = m2) : Spec Tryz.prog 225 #[.slice A m c, .slice A2 m2 c2] [R, R2] fun F v M => v = .bool (decide (xs = ys)) ∧ M = R :: R2 :: F := by
  refine Spec.intro Tryz.func225 rfl rfl fun B F => ?_
  simp only [Tryz.ntmps225, List.cons_append, List.nil_append, env0, Nat.reduceAdd]
  refine .sr (.assign (.x (.move ?_)))
  refine .cvtBS (R := R) (xs := xs) ?_ by33 st9 hR hm
  refine .move ?_
  refine .cvtBS (R := R2) (xs := ys) ?_ by33 st9 hR2 hm2
  refine .eqS xs ys ?_
  refine .assign (.z ?_)
  refine .ret (?_)
  exact .ret1 (h1 := .tmp (t := 4) rfl) ⟨_, ⟨rfl, rfl⟩, Am.auto⟩
theorem layDec {R : HP} {A : Addr} {cc : Nat} {p : Pl} (h : PlIs p) (hR : Reads R (some A) (bvs (supB p))) : Spec Tryz.prog 142 #[.slice (some A) 512 cc] [R] fun F v M => v = .tuple #[.agg p.cells, .int .i64 0] ∧ M = R :: F := by
  refine Spec.intro Tryz.func142 rfl rfl fun B F => ?_
  simp only [Tryz.ntmps142, List.cons_append, List.nil_append, env0, Nat.reduceAdd]
  have hl := supB_length p
  have h8 := h.n2
  have h10 := h.i2
  refine .sr ?_
  refine .alloc z199 fun b2 => ?_
  refine .assign (.x (.move ?_))
  refine .call (hc := Tryz.call143) (sp := bitsGet (p := 8) (size := 4) (big := false) hR hl (by decide) (by decide) (by decide) (by decide)) (h := ?_)
  rintro _ _ ⟨rfl, rfl⟩
  rw [show beNat (seg (supB p) (8 : Int).toNat (4 : Int).toNat false) = p.n from supB_n h]
  refine .move ?_
  refine .extract ?_
  refine .extract ?_
  refine .assign (.assign (.x (.move ?_)))
  refine .call (hc := Tryz.call143) (sp := bitsGet (p := 12) (size := 4) (big := false) hR hl (by decide) (by decide) (by decide) (by decide)) (h := ?_)
  rintro _ _ ⟨rfl, rfl⟩
  rw [show beNat (seg (supB p) (12 : Int).toNat (4 : Int).toNat false) = p.ino from supB_ino h]
  refine .move ?_
  refine .extract ?_
  refine .extract ?_
  refine .assign (.assign (.x (.move ?_)))
  refine .cvt ?_ un134 un3
  refine .cast (d := 22) (u := .int .i64 (p.n : Int)) rfl (congrArg (Value.int .i64) (IntWalk.i64_in _ (by omega))) ?_
  refine .move ?_
  refine .cvt ?_ un134 un3
  refine .cast (d := 24) (u := .int .i64 (p.ino : Int)) rfl (congrArg (Value.int .i64) (IntWalk.i64_in _ (by omega))) ?_
  refine .call (hc := Tryz.call129) (sp := layMake h) (h := ?_)
  rintro _ _ ⟨rfl, rfl⟩
  refine .move ?_
  refine .extract ?_
  refine .extract ?_
  refine .alloc z199 fun b8 => ?_
  refine .stV ?_ agg199
  refine .to (A := pt b8 (.cells p.cells 199 (0, 0))) (A' := pt b8 (.cells p.cells 199 (0, 0))) (fun h hh => hh) ?_
  refine .assign (.z (.seq (.sr (.move ?_))))
  refine .nei ?_
  refine .move ?_
  refine .cast (d := 30) (u := .bool false) rfl (congrArg Value.bool (by first | (simp; done) | (simp; omega) | omega)) ?_
  refine .gT ?_
  refine .ldA ?_ agg199
  refine .gT ?_
  refine .call (hc := Tryz.call136) (sp := layEnc h) (h := ?_)
  rintro _ _ ⟨gb, q, rfl, ⟨hq1, hq2⟩, rfl⟩
  refine .gT ?_
  refine .move ?_
  refine .gT ?_
  refine .call (hc := Tryz.call225) (sp := bytesEq (R := buf gb 5 q (bvs (supB p))) (R2 := R) (xs := supB p) (ys := supB p) Reads.buf hl hR hl) (h := ?_)
  rintro _ _ ⟨rfl, rfl⟩
  rw [decide_eq_true rfl]
  refine .gT ?_
  refine .not ?_
  refine .pickF ?_
  refine .z ?_
  refine .condF rfl rfl ?_
  refine .skip (.next (.sr ?_))
  refine .ldA ?_ agg199
  refine .stV ?_ agg199
  refine .assign (.z ?_)
  refine .ret (?_)
  exact .ret2 (h2 := .tmp (t := 3) rfl) ⟨_, ⟨rfl, rfl⟩, Am.auto⟩
structure DevOk (n : Nat) (V : Nat → Bytes) (J : JS) : Prop where
  ok : HeadsOk n J
  last : J.last < 2 ^ 64
  gen : J.gen < 2 ^ 64
  n1 : 246 ≤ n
  n2 : n ≤ 65536
  fit : Fit n J.ch
  home : ∀ k, 245 ≤ k → k < n → J.view k = V k
theorem DevOk.settled {n : Nat} {V : Nat → Bytes} {J : JS} (h : DevOk n V J) : DevOk n V J.settled := by
  refine ⟨h.ok.settled h.fit, h.last, h.gen, h.n1, h.n2, Fit.nil n, fun k h1 h2 => ?_⟩
  rw [← h.home k h1 h2]
  show (kget [] k).getD (lay J.cur J.ch k) = _
  rw [lay_view _ _ h.fit.apart]
  rfl
theorem tCommitD {c n d : Nat} {V0 V : Nat → Bytes} {D : List Nat} (ht : tagN (V0 1) = some d) (hn1 : 246 ≤ n) : Spec Tryz.prog 139 #[.pointer (some ⟨c, 0, none⟩)] [TR c n V0 V D true] fun F v M => ∃ J, v = okV ∧ DevOk n V J ∧ M = DevR d n J.cur 0 :: F := by
  refine Spec.opens (TR.opens c n V0 V D true) fun y hy => (cCommitF (c := c) (j := y.1) (d := y.2.1) (n := n) (S := y.2.2) hy.hop).post ?_
  rintro F v M ⟨L, hL, hW, hJ, rfl, rfl⟩
  obtain ⟨hdev, hok, hlast, hgen, hn2⟩ := hy.tg _ ht
  have hLf := hW.perm hL
  have hv : ∀ k, 245 ≤ k → k < n → (y.2.2.J.commits L).view k = V k := fun k h1 h2 => by
    rw [JS.view_commits hJ (hW.perm hL) k h1, kget_perm hL hW.apart]
    exact hy.h1 k h1 h2
  have hD : DevOk n V (y.2.2.J.commits L) := by
    unfold JS.commits at hv ⊢
    by_cases h0 : L = []
    · rw [if_pos h0] at hv ⊢
      exact ⟨hok, by omega, hgen, hn1, hn2, hJ, hv⟩
    · rw [if_neg h0] at hv ⊢
      have hnx : (y.2.2.J.commit L).last < 2 ^ 64 := Nat.mod_lt _ (by decide)
      exact ⟨hok.commit hgen hn2 hJ hLf hlast, hnx, hgen, hn1, hn2, hLf, hv⟩
  refine ⟨_, ⟨_, rfl, hD, rfl⟩, fun B w hs => ?_⟩
  subst hdev
  obtain ⟨x, hx, h1⟩ := Sat.opens hs (CR.opens c y.1 y.2.1 n _)
  have h2 := Sat.front (.there (.there .here)) h1
  obtain ⟨z, hz, h3⟩ := Sat.opens h2 (JR.opens y.1 y.2.1 n _)
  exact Sat.front (.there (.there (.there (.there .here)))) h3 |> fun h => Am.wk Am.auto B w h
theorem bdFS (c a s m : Nat) : BuildOk Tryz.prog 129 [(0, .pointer (some ⟨c, 0, none⟩)), (1, .pointer (some ⟨a, 0, none⟩)), (2, .pointer (some ⟨s, 0, none⟩)), (6, .map (some m))] #[.pointer (some ⟨c, 0, none⟩), .pointer (some ⟨a, 0, none⟩), .pointer (some ⟨s, 0, none⟩), .bool false, .bool false, .bool false, .map (some m)] := fun w => by kernel_rfl
theorem fsStand {j d : Nat} {p : Pl} {J : JS} {T : FT} (hn1 : 246 ≤ p.n) (hn2 : p.n ≤ 65536) : Spec Tryz.prog 132 #[.pointer (some ⟨j, 0, none⟩), .agg p.cells] [JR j d p.n J] fun F v M => ∃ f c a s mp, v = .pointer (some ⟨f, 0, none⟩) ∧ M = [pt f (fO c a s false false false mp), LD mp T, pt s (stO c a p), pt a (alO c p), CR c j d p.n ⟨J, [], false, false⟩] ++ F := by
  refine Spec.intro Tryz.func132 rfl rfl fun B F => ?_
  simp only [Tryz.ntmps132, List.cons_append, List.nil_append, env0, Nat.reduceAdd]
  refine .sr ?_
  refine .box fun b3 => ?_
  refine .to (A := pt b3 (.cells p.cells 199 (0, 0))) (A' := pt b3 (.cells p.cells 199 (0, 0))) (fun h hh => hh) ?_
  refine .assign (.x (.move ?_))
  refine .call (hc := Tryz.call201) (sp := cNew (n := p.n) hn1 hn2) (h := ?_)
  rintro _ _ ⟨c, rfl, rfl⟩
  refine .assign (.x (.move ?_))
  refine .ldA ?_ agg199
  refine .call (hc := Tryz.call202) (sp := alNew (p := p)) (h := ?_)
  rintro _ _ ⟨a, rfl, rfl⟩
  refine .assign (.x (.move (.move (.move (.move ?_)))))
  refine .ldA ?_ agg199
  refine .call (hc := Tryz.call203) (sp := inNew (p := p)) (h := ?_)
  rintro _ _ ⟨s, rfl, rfl⟩
  refine .mkMap fun m18 => ?_
  refine .build ?_ (bdFS _ _ _ _)
  refine .box fun b20 => ?_
  refine .assign (.z ?_)
  refine .ret (?_)
  refine .shutR (LD.opens m18 T) (#[], 0, []) (LDP.empty T 0) ?_
  exact .ret1 (h1 := .tmp (t := 4) rfl) ⟨_, ⟨b20, c, a, s, m18, rfl, rfl⟩, Am.auto⟩
def mkW (p : Pl) : Nat → Bytes := svV p (fmtA p (wr zeroD 245 (supB p))) 0 ⟨2, 0, List.replicate 11 0⟩
theorem fmtA_at (p : Pl) (V : Nat → Bytes) (k : Nat) : fmtA p V k = if p.bm ≤ k ∧ k < p.bm + (p.dc + 4095) / 4096 then fmtZ p p.bm p.dc else if p.im ≤ k ∧ k < p.im + (p.ino + 4095) / 4096 then fmtZ p p.im p.ino else V k := by
  unfold fmtA; rw [fmtV_at, fmtV_at]
theorem svV_other {p : Pl} {V : Nat → Bytes} {x : Nd} {k : Nat} (h : k ≠ p.tb) : svV p V 0 x k = V k := wr_other _ _ (by omega)
theorem mkW_sup {p : Pl} (h : PlIs p) : mkW p 245 = supB p := by
  have h1 := h.im; have h2 := h.bm; have h3 := h.m1
  unfold mkW
  rw [svV_other (by omega), fmtA_at, if_neg (by omega), if_neg (by omega)]
  unfold wr
  rw [if_pos rfl]
theorem mkW_home {p : Pl} (h : PlIs p) {k : Nat} (hk : 246 ≤ k) : mkW p k = freshW p k := by
  have h1 := h.im; have h2 := h.bm; have h3 := h.m1
  have key : ∀ v, 246 ≤ v → fmtA p (wr zeroD 245 (supB p)) v = freshV p v := fun v hv => by
    unfold freshV
    rw [fmtA_at, fmtA_at]
    split
    · rfl
    · split
      · rfl
      · unfold wr; rw [if_neg (by omega)]
  unfold mkW freshW svV
  generalize fmtA p (wr zeroD 245 (supB p)) = X at key ⊢
  unfold wr
  by_cases ht : k = p.tb + 0 / 8
  · rw [if_pos ht, if_pos ht, key _ (by omega)]
  · rw [if_neg ht, if_neg ht]; exact key k hk
theorem mkW_len {p : Pl} (h : PlIs p) : Len5 (mkW p) := by
  have h0 : Len5 (wr zeroD 245 (supB p)) := fun k => by unfold wr; split; exact supB_length p; exact zeros_length
  have h1 : Len5 (fmtA p (wr zeroD 245 (supB p))) := fun k => by
    rw [fmtA_at]
    split
    · exact fmtZ_length _ _ _
    · split
      · exact fmtZ_length _ _ _
      · exact h0 k
  exact svV_len h1 _ _
theorem mkW_rep {p : Pl} (h : PlIs p) : Rep p (cm0 (mkW p)) rootM := by
  have h1 := (fresh_rep h).mono h.ok (V' := mkW p) (mkW_len h) (fun v hv => mkW_home h (by have := h.im; omega))
  exact h1.cm h.ok
def tagV (d : Nat) : Nat → Bytes := fun k => if k = 1 then List.replicate (513 + d) 0 else zeros
theorem tagV_tag (d : Nat) : tagN (tagV d 1) = some d := by
  have hl : (tagV d 1).length = 513 + d := by
    show (List.replicate (513 + d) (0 : UInt8)).length = _
    rw [List.length_replicate]
  unfold tagN
  rw [hl, if_pos (Nat.le_add_right _ _), Nat.add_sub_cancel_left]
theorem tagV_home {d k : Nat} (h : 245 ≤ k) : tagV d k = zeros := if_neg (by omega)
end Go.Proofs.YtdmjkjeoamiedaaGreatDoor
end
section
namespace Go.Proofs.YtdmjkjeoamiedaaGreatDoor
open Go
theorem z23 : zeroOf Tryz.prog 23 = some (#[.pointer none]) := by kernel_rfl
theorem fo129_1 : fieldOk Tryz.prog 129 1 1 = true := by kernel_rfl
theorem fmtB_room {p : Pl} (h : PlIs p) : Room (fmtB p [245]) := by
  have h1 := fmtD_length (fmtD [245] p.im ((p.ino + 4095) / 4096)) p.bm ((p.dc + 4095) / 4096)
  have h2 := fmtD_length [245] p.im ((p.ino + 4095) / 4096)
  have h3 := h.i2
  have h4 := h.n2
  have h5 := h.dc
  have h6 := h.i1
  have h7 := h.da
  have h8 := h.m1
  have h9 := h.bm
  unfold fmtB Room
  have : ([245] : List Nat).length = 1 := rfl
  omega
theorem bsF5 (f0 f1 f2 f3 f4 : Fn) (u0 u1 u2 u3 u4 c0 c1 c2 c3 c4 : Array Value) : BuildSOk Tryz.prog 220 5 [(0, .func f0 u0 c0), (1, .func f1 u1 c1), (2, .func f2 u2 c2), (3, .func f3 u3 c3), (4, .func f4 u4 c4)] 183 #[.func f0 u0 c0, .func f1 u1 c1, .func f2 u2 c2, .func f3 u3 c3, .func f4 u4 c4] := fun w => by kernel_rfl
def J0 : JS := ⟨beNat (seg (formatted zeroD 0) 8 8 false), 0, [], formatted zeroD⟩
theorem J0_ok {n : Nat} : HeadsOk n J0 := ⟨formatted0, rfl, fun i _ => .inl (formattedH _ i), fun _ => rfl, fun h => absurd rfl h⟩
theorem J0_gen : J0.gen < 2 ^ 64 := le8_lt _ _ _
theorem J0_view {k : Nat} (h : 245 ≤ k) : J0.view k = zeros := formattedK (by omega)
theorem J0_tag {n d : Nat} (hn : n ≤ 65536) : Tagged n d d J0 := ⟨rfl, J0_ok, Nat.lt_of_le_of_lt (Nat.le_refl 1) (by decide), J0_gen, hn⟩
theorem jOpenBad {d n t : Nat} {cur : Nat → Bytes} (hn : 246 ≤ n) (hmg : (cur 0).take 8 ≠ magicJ) : Spec Tryz.prog 140 #[.pointer (some ⟨d, 0, none⟩)] [DevR d n cur t] fun F v M => v = .tuple #[.pointer none, .int .i64 10] ∧ M = DevR d n cur t :: F := by
  refine Spec.intro Tryz.func140 rfl rfl fun B F => ?_
  simp only [Tryz.ntmps140, List.cons_append, List.nil_append, env0, Nat.reduceAdd]
  refine .sr (.assign (.assign (.z (.seq (.sr (.move ?_))))))
  refine .call (hc := Tryz.call130) (sp := devBlocksR (n := n) (t := t) (cur := cur)) (h := ?_)
  rintro _ _ ⟨rfl, rfl⟩
  refine .lss ?_
  refine .z ?_
  refine .condF rfl (congrArg Value.bool (by first | (simp; done) | (simp; omega) | omega)) ?_
  refine .skip (.next (.sr (.move ?_)))
  refine .call (hc := Tryz.call215) (sp := jFirst (n := n) (t := t) (cur := cur) (by omega)) (h := ?_)
  rintro _ _ ⟨rfl, rfl⟩
  refine .move ?_
  refine .extract ?_
  refine .extract ?_
  refine .cast (d := 20) (u := .bool false) rfl (congrArg Value.bool (decide_eq_false hmg)) ?_
  refine .assign (.assign (.z (.seq (.sr (.move ?_)))))
  refine .not ?_
  refine .z ?_
  refine .condT rfl rfl ?_
  refine .sr (.assign (.assign (.z ?_)))
  refine .ret (.thenRet (?_))
  exact .ret2 (h1 := .tmp (t := 2) rfl) (h2 := .tmp (t := 3) rfl) ⟨_, ⟨rfl, rfl⟩, Am.auto⟩
theorem zeroD_bad : (zeroD 0).take 8 ≠ magicJ := by
  show zeros.take 8 ≠ magicJ
  rw [zeros_take]; decide
theorem fsOpened {d n : Nat} (hn : 246 ≤ n) (hn2 : n ≤ 65536) : Spec Tryz.prog 131 #[.pointer (some ⟨d, 0, none⟩)] [DevR d n zeroD 0] fun F v M => ∃ j, v = .tuple #[.pointer (some ⟨j, 0, none⟩), .int .i64 0] ∧ M = JR j d n J0 :: F := by
  refine Spec.intro Tryz.func131 rfl rfl fun B F => ?_
  simp only [Tryz.ntmps131, List.cons_append, List.nil_append, env0, Nat.reduceAdd]
  refine .sr (.assign (.assign (.x (.move ?_))))
  refine .call (hc := Tryz.call140) (sp := jOpenBad (n := n) (t := 0) (cur := zeroD) hn zeroD_bad) (h := ?_)
  rintro _ _ ⟨rfl, rfl⟩
  refine .move ?_
  refine .extract ?_
  refine .extract ?_
  refine .assign (.assign (.z (.seq (.sr (.move ?_)))))
  refine .nei ?_
  refine .z ?_
  refine .condF rfl (congrArg Value.bool (by first | (simp; done) | (simp; omega) | omega)) ?_
  refine .skip (.next (.seq (.sr (.move ?_))))
  refine .call (hc := Tryz.call200) (sp := jFormat (n := n) (t := 0) (cur := zeroD) hn (by decide)) (h := ?_)
  rintro _ _ ⟨rfl, rfl⟩
  refine .assign (.x (.move ?_))
  refine .nei ?_
  refine .z ?_
  refine .condF rfl (congrArg Value.bool (by first | (simp; done) | (simp; omega) | omega)) ?_
  refine .skip (.next (.sr (.move ?_)))
  refine .call (hc := Tryz.call140) (sp := jOpen (n := n) (cur := formatted zeroD) hn hn2 formatted0 (fun i _ => formattedH _ i)) (h := ?_)
  rintro _ _ ⟨j, rfl, rfl⟩
  refine .extract ?_
  refine .extract ?_
  refine .assign (.assign (.z ?_))
  refine .ret (?_)
  exact .ret2 (h1 := .tmp (t := 2) rfl) (h2 := .tmp (t := 3) rfl) ⟨_, ⟨j, rfl, rfl⟩, Am.auto⟩
theorem fsMk1 {f s a c mp b8 b5 : Nat} {p : Pl} {V0 V : Nat → Bytes} (h : PlIs p) (hn : 246 ≤ p.n) : Spec Tryz.prog 134 #[.pointer (some ⟨b8, 0, none⟩), .pointer (some ⟨b5, 0, none⟩)] [pt b8 (.cells #[.pointer (some ⟨f, 0, none⟩)] 23 (0, 0)), pt f (fO c a s false false false mp), pt b5 (.cells p.cells 199 (0, 0)), TR c p.n V0 V [] true] fun F v M => v = okV ∧ M = pt b8 (.cells #[.pointer (some ⟨f, 0, none⟩)] 23 (0, 0)) :: pt f (fO c a s false false false mp) :: pt b5 (.cells p.cells 199 (0, 0)) :: TR c p.n V0 (wr V 245 (supB p)) [245] true :: F := by
  refine Spec.intro Tryz.func134 rfl rfl fun B F => ?_
  simp only [Tryz.ntmps134, List.cons_append, List.nil_append, env0, Nat.reduceAdd]
  refine .sr (.assign (.z (.seq ?_)))
  refine .dr ([pt b8 (.cells #[.pointer (some ⟨f, 0, none⟩)] 23 (0, 0)), pt f (fO c a s false false false mp), pt b5 (.cells p.cells 199 (0, 0))]) [] 8 mixed .autoJ ?_
  refine .tk 0 rfl (.ld sc23) ?_
  refine .tk 1 rfl .nilCheck ?_
  refine .tk 2 rfl (.fa fo129_0) ?_
  refine .tk 3 rfl (.ld sc124) ?_
  refine .tk 4 rfl (.ldA agg199) ?_
  refine .on 5 rfl fun hnp => ?_
  refine .call (hc := Tryz.call136) (sp := layEnc h) (h := ?_)
  rintro _ _ ⟨gb, q, rfl, ⟨hq1, hq2⟩, rfl⟩
  refine .nil (.wa hnp ?_)
  refine .on 6 rfl fun hnp => ?_
  refine .call (hc := Tryz.call135) (sp := tWrite (c := c) (n := p.n) (k := 245) (V0 := V0) (V := V) (D := []) (R := buf gb 5 q (bvs (supB p))) (xs := supB p) (by decide) (by omega) Reads.buf (supB_length p) rfl (.inr (by decide))) (h := ?_)
  rintro _ _ ⟨rfl, rfl⟩
  refine .nil (.wa hnp ?_)
  refine .tk 7 rfl .assign ?_
  refine .fin ?_
  refine .next ?_
  refine .ret (?_)
  exact .ret1 (h1 := .tmp (t := 2) rfl) ⟨_, ⟨rfl, rfl⟩, Am.auto⟩
theorem fsMkfs {d : Nat} {p : Pl} (h : PlIs p) : Spec Tryz.prog 63 #[.pointer (some ⟨d, 0, none⟩), .int .i64 (p.ino : Int)] [DevR d p.n zeroD 0] fun F v M => ∃ J, v = okV ∧ DevOk p.n (mkW p) J ∧ M = DevR d p.n J.cur 0 :: F := by
  refine Spec.intro Tryz.func63 rfl rfl fun B F => ?_
  simp only [Tryz.ntmps63, List.cons_append, List.nil_append, env0, Nat.reduceAdd]
  have hn2 := h.n2
  have h246 : 246 ≤ p.n := by have := h.bm; have := h.m1; have := h.da; have := h.dc; have := h.d1; omega
  refine .sr (.assign (.x (.move ?_)))
  refine .call (hc := Tryz.call130) (sp := devBlocksR (n := p.n) (t := 0) (cur := zeroD)) (h := ?_)
  rintro _ _ ⟨rfl, rfl⟩
  refine .move ?_
  refine .call (hc := Tryz.call129) (sp := layMake h) (h := ?_)
  rintro _ _ ⟨rfl, rfl⟩
  refine .move ?_
  refine .extract ?_
  refine .extract ?_
  refine .alloc z199 fun b5 => ?_
  refine .stV ?_ agg199
  refine .to (A := pt b5 (.cells p.cells 199 (0, 0))) (A' := pt b5 (.cells p.cells 199 (0, 0))) (fun h hh => hh) ?_
  refine .assign (.z (.seq (.sr (.move ?_))))
  refine .nei ?_
  refine .z ?_
  refine .condF rfl (congrArg Value.bool (by first | (simp; done) | (simp; omega) | omega)) ?_
  refine .skip (.next (.sr (.move ?_)))
  refine .call (hc := Tryz.call131) (sp := fsOpened (n := p.n) h246 hn2) (h := ?_)
  rintro _ _ ⟨j, rfl, rfl⟩
  refine .move ?_
  refine .extract ?_
  refine .extract ?_
  refine .assign (.assign (.z (.seq (.sr (.move ?_)))))
  refine .nei ?_
  refine .z ?_
  refine .condF rfl (congrArg Value.bool (by first | (simp; done) | (simp; omega) | omega)) ?_
  refine .skip (.next (.sr (.move ?_)))
  refine .ldA ?_ agg199
  refine .call (hc := Tryz.call132) (sp := fsStand (p := p) (T := fun _ => none) h246 hn2) (h := ?_)
  rintro _ _ ⟨f, c, a, s, mp, rfl, rfl⟩
  simp only [List.cons_append, List.nil_append]
  refine .shutR (TR.opens c p.n (tagV d) zeroD [] false) (j, d, ⟨J0, [], false, false⟩) ⟨rfl, (fun k h1 h2 => (J0_view h1).trans (tagV_home h1).symm), (fun k h1 h2 => J0_view h1), rfl, fun r hr => by rw [tagV_tag] at hr; injection hr with hr; subst hr; exact J0_tag hn2⟩ ?_
  refine .alloc z23 fun b8 => ?_
  refine .st ?_ sc23
  refine .z (.seq (.seq ?_))
  refine .dr ([pt b8 (.cells #[.pointer (some ⟨f, 0, none⟩)] 23 (0, 0)), pt f (fO c a s false false false mp)]) [] 24 mixed .autoJ ?_
  refine .tk 0 rfl (.ld sc23) ?_
  refine .tk 1 rfl .nilCheck ?_
  refine .tk 2 rfl (.fa fo129_0) ?_
  refine .tk 3 rfl (.ld sc124) ?_
  refine .tk 4 rfl .makeFuncB ?_
  refine .tk 5 rfl .makeFuncB ?_
  refine .tk 6 rfl (.ld sc23) ?_
  refine .tk 7 rfl .nilCheck ?_
  refine .tk 8 rfl (.fa fo129_1) ?_
  refine .tk 9 rfl (.ld sc125) ?_
  refine .tk 10 rfl .makeFuncB ?_
  refine .tk 11 rfl (.ld sc23) ?_
  refine .tk 12 rfl .nilCheck ?_
  refine .tk 13 rfl (.fa fo129_2) ?_
  refine .tk 14 rfl (.ld sc126) ?_
  refine .tk 15 rfl .makeFuncB ?_
  refine .tk 16 rfl (.ld sc23) ?_
  refine .tk 17 rfl .nilCheck ?_
  refine .tk 18 rfl (.fa fo129_0) ?_
  refine .tk 19 rfl (.ld sc124) ?_
  refine .tk 20 rfl .makeFuncB ?_
  refine .tk 23 rfl .move ?_
  refine .on 21 rfl fun hnp => ?_
  refine .buildS (fun b54 => ?_) (bsF5 _ _ _ _ _ _ _ _ _ _ _ _ _ _ _)
  refine .nil (.wa hnp ?_)
  refine .tk 22 rfl (.lenS sl220) ?_
  refine .fin ?_
  refine .next (.block ?_)
  refine .loopN 6 (RC.succ ?_)
  refine .sr ?_
  refine .lss ?_
  refine .z (.seq ?_)
  refine .condT rfl (congrArg Value.bool (by first | (simp; done) | (simp; omega) | omega)) ?_
  refine .skip (.next (.seq (.block (.sr ?_))))
  refine .idx1 ?_ so220
  refine .ld ?_ sc183
  refine .assign (.x (.move ?_))
  refine .callF (us := #[.pointer (some ⟨c, 0, none⟩)]) (cap := #[]) (vs := []) rfl rfl Tryz.call133 (Spec.bound (tBegin (n := p.n) (V0 := tagV d) (V := zeroD) (D := []))) ?_ (by repeat (first | exact .nil | (apply Tk.cons; focus ((repeat (first | exact .here | apply Rem.there)); done))))
  rintro _ _ ⟨rfl, rfl⟩
  refine .assign (.x (.move ?_))
  refine .nei ?_
  refine .z ?_
  refine .condF rfl (congrArg Value.bool (by first | (simp; done) | (simp; omega) | omega)) ?_
  refine .skip (.blockNormal (.next (.region ?_)))
  refine .add ?_
  refine .move (.nil ?_)
  refine .again (RC.succ ?_)
  refine .sr ?_
  refine .lss ?_
  refine .z (.seq ?_)
  refine .condT rfl (congrArg Value.bool (by first | (simp; done) | (simp; omega) | omega)) ?_
  refine .skip (.next (.seq (.block (.sr ?_))))
  refine .idx1 ?_ so220
  refine .ld ?_ sc183
  refine .assign (.x (.move ?_))
  refine .callF (us := #[]) (cap := #[.pointer (some ⟨b8, 0, none⟩), .pointer (some ⟨b5, 0, none⟩)]) (vs := []) rfl rfl Tryz.call134 (Spec.capt (fsMk1 (c := c) (f := f) (a := a) (s := s) (mp := mp) (V0 := tagV d) (V := zeroD) h h246)) ?_ (by repeat (first | exact .nil | (apply Tk.cons; focus ((repeat (first | exact .here | apply Rem.there)); done))))
  rintro _ _ ⟨rfl, rfl⟩
  refine .assign (.x (.move ?_))
  refine .nei ?_
  refine .z ?_
  refine .condF rfl (congrArg Value.bool (by first | (simp; done) | (simp; omega) | omega)) ?_
  refine .skip (.blockNormal (.next (.region ?_)))
  refine .add ?_
  refine .move (.nil ?_)
  refine .again (RC.succ ?_)
  refine .sr ?_
  refine .lss ?_
  refine .z (.seq ?_)
  refine .condT rfl (congrArg Value.bool (by first | (simp; done) | (simp; omega) | omega)) ?_
  refine .skip (.next (.seq (.block (.sr ?_))))
  refine .idx1 ?_ so220
  refine .ld ?_ sc183
  refine .assign (.x (.move ?_))
  refine .callF (us := #[.pointer (some ⟨a, 0, none⟩)]) (cap := #[]) (vs := []) rfl rfl Tryz.call137 (Spec.bound (alFormat (c := c) (V0 := tagV d) (V := wr zeroD 245 (supB p)) (D := [245]) h.ok (Nat.le_refl _))) ?_ (by repeat (first | exact .nil | (apply Tk.cons; focus ((repeat (first | exact .here | apply Rem.there)); done))))
  rintro _ _ ⟨rfl, rfl⟩
  simp only [List.cons_append, List.nil_append]
  refine .assign (.x (.move ?_))
  refine .nei ?_
  refine .z ?_
  refine .condF rfl (congrArg Value.bool (by first | (simp; done) | (simp; omega) | omega)) ?_
  refine .skip (.blockNormal (.next (.region ?_)))
  refine .add ?_
  refine .move (.nil ?_)
  refine .again (RC.succ ?_)
  refine .sr ?_
  refine .lss ?_
  refine .z (.seq ?_)
  refine .condT rfl (congrArg Value.bool (by first | (simp; done) | (simp; omega) | omega)) ?_
  refine .skip (.next (.seq (.block (.sr ?_))))
  refine .idx1 ?_ so220
  refine .ld ?_ sc183
  refine .assign (.x (.move ?_))
  refine .callF (us := #[.pointer (some ⟨s, 0, none⟩)]) (cap := #[]) (vs := []) rfl rfl Tryz.call138 (Spec.bound (inFormat (c := c) (a := a) (V0 := tagV d) (V := (fmtA p (wr zeroD 245 (supB p)))) (D := fmtB p [245]) h.ok (fmtB_room h))) ?_ (by repeat (first | exact .nil | (apply Tk.cons; focus ((repeat (first | exact .here | apply Rem.there)); done))))
  rintro _ _ ⟨rfl, rfl⟩
  simp only [List.cons_append, List.nil_append]
  refine .assign (.x (.move ?_))
  refine .nei ?_
  refine .z ?_
  refine .condF rfl (congrArg Value.bool (by first | (simp; done) | (simp; omega) | omega)) ?_
  refine .skip (.blockNormal (.next (.region ?_)))
  refine .add ?_
  refine .move (.nil ?_)
  refine .again (RC.succ ?_)
  refine .sr ?_
  refine .lss ?_
  refine .z (.seq ?_)
  refine .condT rfl (congrArg Value.bool (by first | (simp; done) | (simp; omega) | omega)) ?_
  refine .skip (.next (.seq (.block (.sr ?_))))
  refine .idx1 ?_ so220
  refine .ld ?_ sc183
  refine .assign (.x (.move ?_))
  refine .callF (us := #[.pointer (some ⟨c, 0, none⟩)]) (cap := #[]) (vs := []) rfl rfl Tryz.call139 (Spec.bound (tCommitD (n := p.n) (d := d) (V0 := tagV d) (V := mkW p) (D := insD (fmtB p [245]) (p.tb + 0 / 8)) (tagV_tag d) h246)) ?_ (by repeat (first | exact .nil | (apply Tk.cons; focus ((repeat (first | exact .here | apply Rem.there)); done))))
  rintro _ _ ⟨J, rfl, hJ, rfl⟩
  refine .assign (.x (.move ?_))
  refine .nei ?_
  refine .z ?_
  refine .condF rfl (congrArg Value.bool (by first | (simp; done) | (simp; omega) | omega)) ?_
  refine .skip (.blockNormal (.next (.region ?_)))
  refine .add ?_
  refine .move (.nil ?_)
  refine .again (RC.succ ?_)
  refine .sr ?_
  refine .lss ?_
  refine .z (.seq ?_)
  refine .condF rfl (congrArg Value.bool (by first | (simp; done) | (simp; omega) | omega)) ?_
  refine .exit (.thenExit (.thenExit (.blockExit (?_))))
  refine .next (.sr (.assign (.z ?_)))
  refine .ret (?_)
  exact .ret1 (h1 := .tmp (t := 4) rfl) ⟨_, ⟨J, rfl, hJ, rfl⟩, Am.auto⟩
theorem fsMount {d : Nat} {p : Pl} {J : JS} {V : Nat → Bytes} {T : FT} (h : PlIs p) (hJ : DevOk p.n V J) (hsup : V 245 = supB p) (hr : Rep p (cm0 V) (fmT T)) : Spec Tryz.prog 64 #[.pointer (some ⟨d, 0, none⟩)] [DevR d p.n J.cur 0] fun F v M => ∃ f, v = .tuple #[.pointer (some ⟨f, 0, none⟩), .int .i64 0] ∧ M = FSR f p T :: F := by
  refine Spec.intro Tryz.func64 rfl rfl fun B F => ?_
  simp only [Tryz.ntmps64, List.cons_append, List.nil_append, env0, Nat.reduceAdd]
  have hS := hJ.settled
  have hn1 := hJ.n1
  have hn2 := hJ.n2
  have hv := (hS.home 245 (by decide) (by omega)).trans hsup
  refine .sr (.assign (.assign (.x (.move ?_))))
  refine .call (hc := Tryz.call140) (sp := jOpenG (n := p.n) (J := J) hn1 hn2 hJ.ok hJ.last) (h := ?_)
  rintro _ _ ⟨j, rfl, rfl⟩
  refine .move ?_
  refine .extract ?_
  refine .extract ?_
  refine .assign (.assign (.z (.seq (.sr (.move ?_)))))
  refine .nei ?_
  refine .z ?_
  refine .condF rfl (congrArg Value.bool (by first | (simp; done) | (simp; omega) | omega)) ?_
  refine .skip (.next (.sr (.move ?_)))
  refine .call (hc := Tryz.call141) (sp := jRead (d := d) (n := p.n) (J := J.settled) (k := 245) (by decide) (by omega)) (h := ?_)
  rintro _ _ ⟨gb, q, rfl, ⟨hq1, hq2, hq3⟩, rfl⟩
  rw [hv]
  refine .move ?_
  refine .extract ?_
  refine .extract ?_
  refine .assign (.assign (.z (.seq (.sr (.move ?_)))))
  refine .nei ?_
  refine .z ?_
  refine .condF rfl (congrArg Value.bool (by first | (simp; done) | (simp; omega) | omega)) ?_
  refine .skip (.next (.sr (.move ?_)))
  refine .call (hc := Tryz.call142) (sp := layDec (R := buf gb 5 q (bvs (supB p))) h Reads.buf) (h := ?_)
  rintro _ _ ⟨rfl, rfl⟩
  refine .move ?_
  refine .extract ?_
  refine .extract ?_
  refine .alloc z199 fun b7 => ?_
  refine .stV ?_ agg199
  refine .to (A := pt b7 (.cells p.cells 199 (0, 0))) (A' := pt b7 (.cells p.cells 199 (0, 0))) (fun h hh => hh) ?_
  refine .assign (.z (.seq (.seq ?_)))
  refine .openR (JR.opens j d p.n J.settled) fun x hx => ?_
  simp only [jL, List.cons_append, List.nil_append]
  refine .dr ([pt b7 (.cells p.cells 199 (0, 0))]) [] 9 mixed .autoJ ?_
  refine .tk 0 rfl .move ?_
  refine .tk 1 rfl .nei ?_
  refine .tk 2 rfl .move ?_
  refine .tn 3 rfl (.fa fo199_0) ?_
  refine .tn 4 rfl (.ld sc3) ?_
  refine .tn 5 rfl .move ?_
  refine .on 6 rfl fun hnp => ?_
  refine .gT ?_
  refine .call (hc := Tryz.call130) (sp := devBlocksR (n := p.n) (t := 0) (cur := J.settled.cur)) (h := ?_)
  rintro _ _ ⟨rfl, rfl⟩
  refine .nil (.wa hnp ?_)
  refine .tn 7 rfl .nei ?_
  refine .tk 8 rfl .pickF ?_
  refine .fin ?_
  refine .next ?_
  refine .condF rfl (congrArg Value.bool (by first | (simp; done) | (simp; omega) | omega)) ?_
  refine .skip (.next (.sr ?_))
  refine .shutR (JR.opens j d p.n J.settled) x hx ?_
  refine .move ?_
  refine .ldA ?_ agg199
  refine .call (hc := Tryz.call132) (sp := fsStand (p := p) (T := T) hn1 hn2) (h := ?_)
  rintro _ _ ⟨f, c, a, s, mp, rfl, rfl⟩
  simp only [List.cons_append, List.nil_append]
  refine .shutR (TR.opens c p.n (cm0 V) (cm0 V) [] false) (j, d, ⟨J.settled, [], false, false⟩) ⟨rfl, (fun k h1 h2 => (hS.home k h1 h2).trans (cm0_home V (by omega)).symm), (fun k h1 h2 => (hS.home k h1 h2).trans (cm0_home V (by omega)).symm), rfl, fun r hr => by rw [cm0_tag] at hr; cases hr⟩ ?_
  refine .shutR (IN.opens s a c p (fmT T) (fmT T) 0 false) (cm0 V, cm0 V, []) ⟨hr, hr, Dk.nil p, Nat.zero_le _⟩ ?_
  refine .shutR (FSR.opens f p T) (c, a, s, mp) trivial ?_
  refine .assign (.assign (.z ?_))
  refine .ret (?_)
  exact .ret2 (h1 := .tmp (t := 2) rfl) (h2 := .tmp (t := 3) rfl) ⟨_, ⟨f, rfl, rfl⟩, Am.auto⟩
def rootT : FT := fun i => if i = 0 then some (.dir []) else none
theorem fmT_root : fmT rootT = rootM := by
  funext i
  unfold fmT rootT rootM
  by_cases h : i = 0
  · rw [if_pos h, if_pos h]; rfl
  · rw [if_neg h, if_neg h]; rfl
theorem rootT_ok : TOk rootT := by
  intro d sl h
  unfold rootT at h
  split at h
  · injection h with h; injection h with h; subst h; exact ⟨DirOk.nil, Nat.zero_le _⟩
  · cases h
theorem fsMountNew {d : Nat} {p : Pl} {J : JS} (h : PlIs p) (hJ : DevOk p.n (mkW p) J) : Spec Tryz.prog 64 #[.pointer (some ⟨d, 0, none⟩)] [DevR d p.n J.cur 0] fun F v M => ∃ f, v = .tuple #[.pointer (some ⟨f, 0, none⟩), .int .i64 0] ∧ M = FSR f p rootT :: F :=
  fsMount h hJ (mkW_sup h) (by rw [fmT_root]; exact mkW_rep h)
end Go.Proofs.YtdmjkjeoamiedaaGreatDoor
end
section
namespace Go.Proofs.YtdmjkjeoamiedaaGreatDoor
open Go
section
variable {P : Program} {B : Base} {n : Fr} {Q Q' : Exit → Act → World → Prop} {e : Env} {L : List HP} {ops : Array Oper} {l : List Oper}
variable {d : Nat} {ty : TypeId} {pos : String} {af : Array Edge} {x y z : Operand} {gd : Option (Nat × Bool)}
theorem made_flat (zs : List Value) (hz : 0 < zs.length) (k : Nat) : (madeCells zs.toArray (k * zs.length)).toList = (List.replicate k zs).flatten := by
  apply List.ext_getElem?
  intro i
  have hl : ∀ k, ((List.replicate k zs).flatten).length = k * zs.length := fun k => by
    induction k with
    | zero => simp
    | succ k ih => rw [List.replicate_succ, List.flatten_cons, List.length_append, ih, Nat.succ_mul]; omega
  have key : ∀ k i, i < k * zs.length → ((List.replicate k zs).flatten)[i]? = zs[i % zs.length]? := by
    intro k
    induction k with
    | zero => intro i h; omega
    | succ k ih =>
      intro i h
      rw [List.replicate_succ, List.flatten_cons]
      by_cases hi : i < zs.length
      · rw [List.getElem?_append_left hi, Nat.mod_eq_of_lt hi]
      · rw [List.getElem?_append_right (by omega), ih (i - zs.length) (by rw [Nat.succ_mul] at h; omega)]
        rw [← Nat.mod_eq_sub_mod (by omega)]
  by_cases h : i < k * zs.length
  · rw [key k i h]
    have hm : i % zs.length < zs.length := Nat.mod_lt _ hz
    simp [madeCells, h, hm]
  · rw [List.getElem?_eq_none (l := (List.replicate k zs).flatten) (by rw [hl]; omega), List.getElem?_eq_none (by simp [madeCells]; omega)]
theorem WL.mkSt {t el bytes size : Nat} {k : Nat} {zs : List Value} (hz : zeroOf P el = some zs.toArray) (hzl : zs.length = size) (hs0 : 0 < size) (h : ∀ b, WL P B n ops l Q ((d, .slice (some ⟨b, 0, none⟩) k k) :: e) (row b el (List.replicate k zs).flatten :: L))
    (ht : sliceOk P t el size bytes = true) (hb : bytes * k ≤ 281474976710656) (hm : k ≤ 9223372036854775807) (hx : evo e x = some (.int .i64 (k : Int)) := by rfl) (hy : evo e y = some (.int .i64 (k : Int)) := by rfl) (hd : Nat.ble (d + 1) n.k = true := by rfl) :
    WL P B n ops (⟨some d, .makeSlice t x y, ty, pos, af, none⟩ :: l) Q e L :=
  WL.step rfl fun a w ha hs => by
    obtain ⟨hu, i, z, hi, hsz, hby, hzz⟩ := slice_of ht
    have hzc : z.cells = zs.toArray := by
      unfold zeroOf at hz
      simpa [hi, hzz] using hz
    have hb2 : (bytes : Int) * (k : Int) ≤ 281474976710656 := by
      have h1 : ((bytes * k : Nat) : Int) ≤ 281474976710656 := by omega
      rwa [Int.natCast_mul] at h1
    have hr := run_make (P := P) w t el i z hu hi hzz .i64 .i64 k k (by omega) (Int.le_refl _) (by rw [hby]; exact hb2) (by omega)
    rw [hsz, hzc, Int.toNat_natCast] at hr
    have hcells := made_flat zs (by omega) k
    rw [hzl] at hcells
    have hrow : ∀ b h, pt b (.cells (madeCells zs.toArray (k * size)) el (0, 0)) h → row b el (List.replicate k zs).flatten h := fun b h hh => by
      unfold row
      rw [← hcells, Array.toArray_toList]
      exact hh
    refine ⟨_, _, _, _, ?_, ha.put hd _, (hs.new _).imp (L := []) (hrow _), h w.heap.size⟩
    simp only [execOp, ha.eval hx, ha.eval hy]
    rw [Sem.run_bind, hr]
    rfl
end
section
variable {κ : Type} [DecidableEq κ] {α : Type}
def kdel : List (κ × α) → κ → List (κ × α)
  | [], _ => []
  | p :: l, k => if k = p.1 then l else p :: kdel l k
theorem kdel_none {l : List (κ × α)} {k : κ} (h : kget l k = none) : kdel l k = l := by
  induction l with
  | nil => rfl
  | cons p l ih =>
    obtain ⟨a, b⟩ := p
    simp only [kget] at h
    by_cases hk : k = a
    · rw [if_pos hk] at h; cases h
    · rw [if_neg hk] at h
      unfold kdel
      rw [if_neg hk, ih h]
theorem kdel_at : ∀ {l : List (κ × α)} {k : κ} {j : Nat}, (l.map (·.1)).Nodup → (l.map (·.1))[j]? = some k → kdel l k = l.eraseIdx j
  | p :: l, k, 0, _, h => by
    have h : p.1 = k := by simpa using h
    unfold kdel
    rw [if_pos h.symm]
    rfl
  | p :: l, k, j + 1, hn, h => by
    simp only [List.map_cons, List.nodup_cons] at hn
    have h : (l.map (·.1))[j]? = some k := by simpa using h
    have hne : k ≠ p.1 := fun hk => hn.1 (hk ▸ List.mem_of_getElem? h)
    unfold kdel
    rw [if_neg hne, kdel_at hn.2 h]
    rfl
end
section
variable {P : Program} {B : Base} {n : Fr} {Q Q' : Exit → Act → World → Prop} {e : Env} {L : List HP} {ops : Array Oper} {l : List Oper}
variable {d : Nat} {ty : TypeId} {pos : String} {af : Array Edge} {x y z : Operand} {gd : Option (Nat × Bool)}
variable {κ : Type} [DecidableEq κ] {enc : κ → Value}
theorem eraseIdx_map {α β : Type} (f : α → β) : ∀ (l : List α) (j : Nat), (l.eraseIdx j).map f = (l.map f).eraseIdx j
  | [], _ => rfl
  | _ :: l, 0 => rfl
  | a :: l, j + 1 => by
    show f a :: (l.eraseIdx j).map f = f a :: (l.map f).eraseIdx j
    rw [eraseIdx_map f l j]
theorem MapIs.del {es : Array MapEntry} {c : Nat} {kvs : List (κ × Value)} (hm : MapIs enc es c kvs) {k : κ} {j : Nat} (hj : (kvs.map (·.1))[j]? = some k) : MapIs enc (es.eraseIdxIfInBounds j) c (kdel kvs k) := by
  have hjl : j < kvs.length := by
    have := (List.getElem?_eq_some_iff.1 hj).1
    simpa using this
  have hje : j < es.size := by rw [hm.length]; exact hjl
  have he : (es.eraseIdxIfInBounds j).toList = es.toList.eraseIdx j := by
    rw [Array.eraseIdxIfInBounds, dif_pos hje, Array.toList_eraseIdx]
  rw [kdel_at hm.nodup hj]
  refine ⟨?_, ?_, ?_, ?_, ?_⟩
  · rw [he, eraseIdx_map, hm.keys, eraseIdx_map]
  · rw [he, eraseIdx_map, hm.vals, eraseIdx_map]
  · rw [he, eraseIdx_map]; exact hm.born.sublist (List.eraseIdx_sublist ..)
  · intro x hx
    rw [he] at hx
    exact hm.lt x (List.mem_of_mem_eraseIdx hx)
  · rw [eraseIdx_map]; exact hm.nodup.sublist (List.eraseIdx_sublist ..)
theorem WL.delM {t kt et b t2 : Nat} {es : Array MapEntry} {c : Nat} {kvs : List (κ × Value)} {k : κ} {M : List HP} (kl : KeyLaw P kt enc) (hm : MapIs enc es c kvs) (ht : mapOk P t kt et = true)
    (h : ∀ es', MapIs enc es' c (kdel kvs k) → WL P B n ops l Q e (pt b (.map es' c) :: M))
    (hx : evo e x = some (.map (some b)) := by rfl) (hy : evo e y = some (enc k) := by rfl) (r : Rem L (pt b (.map es c)) M := by repeat (first | exact .here | apply Rem.there)) :
    WL P B n ops (⟨none, .call ⟨.builtin .delete, #[x, y], #[t, t2]⟩, ty, pos, af, none⟩ :: l) Q e L :=
  WL.step rfl fun a w ha hs => by
    have hs1 := hs.front r
    have hb := hs1.get .here
    have hf := kl.find k (kvs.map (·.1)) es.toList w (by rw [hm.keys]; simp)
    rcases findPure_spec k _ es.toList kvs 0 rfl hm.vals with ⟨q1, q2⟩ | ⟨j, v, q1, q2, q3, q4, q5⟩
    · refine ⟨.tuple #[], _, e, _, ?_, ha.put_none _, hs1.set (.here (y := pt b (.map es c))), h es (by rw [kdel_none q2]; exact hm)⟩
      rw [q1] at hf
      simp [execOp, resolve, invoke, builtin, ha.eval hx, ha.eval hy, Builtin.delete_, run_underlying (map_of ht), run_getMap hb, run_setMap hb, kl.check, hf]
    · refine ⟨.tuple #[], _, e, _, ?_, ha.put_none _, hs1.set (.here (y := pt b (.map (es.eraseIdxIfInBounds j) c))), h _ (hm.del q4)⟩
      rw [q1, Nat.zero_add] at hf
      simp [execOp, resolve, invoke, builtin, ha.eval hx, ha.eval hy, Builtin.delete_, run_underlying (map_of ht), run_getMap hb, run_setMap hb, kl.check, hf]
end
section
variable {P : Program} {B : Base} {n : Fr} {Q Q' : Exit → Act → World → Prop} {e : Env} {L : List HP} {ops : Array Oper} {l : List Oper}
variable {d : Nat} {ty : TypeId} {pos : String} {af : Array Edge} {x y z : Operand} {gd : Option (Nat × Bool)}
theorem freeze_eq {w : World} {b : Nat} {cs : Array Value} {t : TypeId} (h : w.heap[b]? = some (.cells cs t (0, 0))) (off : Nat) :
    w.freeze ⟨b, off, none⟩ 1 = setB w b (.cells cs t (off, off + 1)) := by
  have hb := (Array.getElem?_eq_some_iff.1 h).1
  have hv := (Array.getElem?_eq_some_iff.1 h).2
  unfold World.freeze setB
  rw [if_neg (by decide)]
  congr 1
  apply Array.ext
  · simp
  · intro i h1 h2
    simp only [Array.getElem_modify]
    rw [Array.getElem_setIfInBounds (by simpa using h2)]
    by_cases hbi : b = i
    · subst hbi
      simp [hv]
    · simp [hbi]
def litOk (P : Program) (t : Nat) : Bool :=
  match P.underlying t with
  | some (.slice el) => (match P.underlying el with
    | some (.int .u8) => true
    | _ => false)
  | _ => false
theorem lit_of {t : Nat} (h : litOk P t = true) : ∃ el, P.underlying t = some (.slice el) ∧ P.underlying el = some (.int .u8) := by
  unfold litOk at h
  split at h
  · rename_i el h1
    split at h
    · rename_i h2; exact ⟨el, h1, h2⟩
    · cases h
  · cases h
theorem WL.cvtLit {t b k c : Nat} {cs : Array Value} {t0 : TypeId} {L' : List HP} (h : WL P B n ops l Q ((d, .slice (some ⟨b, 0, none⟩) k c) :: e) L') (ht : litOk P t = true)
    (hx : evo e x = some (.slice (some ⟨b, 0, none⟩) k c) := by rfl)
    (hr : Repl L (pt b (.cells cs t0 (0, 0))) (pt b (.cells cs t0 (cs.size, cs.size + 1))) L' := by repeat (first | exact .here | apply Repl.there)) (hd : Nat.ble (d + 1) n.k = true := by rfl) :
    WL P B n ops (⟨some d, .convert t t x, ty, pos, af, none⟩ :: l) Q e L :=
  WL.step rfl fun a w ha hs => by
    obtain ⟨M, r1, r2⟩ := hr.rem
    have hb := (hs.front r1).get .here
    obtain ⟨el, h1, h2⟩ := lit_of ht
    refine ⟨.slice (some ⟨b, 0, none⟩) k c, _, _, L', ?_, ha.put hd _, hs.set hr, h⟩
    simp only [execOp, ha.eval hx]
    simp [convert, run_underlying h1, run_underlying h2, markStringish, shape, freeze, Sem.run, World.shape?, hb, freeze_eq hb]
end
section
variable {P : Program} {B : Base} {n : Fr} {e : Env} {L : List HP} {fn : Func} {F : List HP} {R : List HP → Value → List HP → Prop}
theorem results5 {a : Act} {w : World} {r s t q p : ResultVar} {v u y x z : Value} (h : fn.results = #[r, s, t, q, p]) (ha : Ag n e a) (hs : Sat B w L) (h1 : RV P e L r v) (h2 : RV P e L s u) (h3 : RV P e L t y) (h4 : RV P e L q x) (h5 : RV P e L p z) :
    (results fn a.tmps).run P w = .ok (.tuple #[v, u, y, x, z]) w := by
  have k1 := h1.run ha hs
  have k2 := h2.run ha hs
  have k3 := h3.run ha hs
  have k4 := h4.run ha hs
  have k5 := h5.run ha hs
  simp [results_eq, h, k1, k2, k3, k4, k5]
theorem WQ.ret5 {xt : Exit} {r s t q p : ResultVar} {v u y x z : Value} (h : ∃ M, R F (.tuple #[v, u, y, x, z]) M ∧ Am L M) (hres : fn.results = #[r, s, t, q, p] := by rfl) (h1 : RV P e L r v) (h2 : RV P e L s u) (h3 : RV P e L t y) (h4 : RV P e L q x) (h5 : RV P e L p z)
    (hx : (xt = .ret ∨ xt = .normal) := by first | exact .inl rfl | exact .inr rfl) (hD : n.ds = [] := by rfl) : WQ B n (bodyPost P fn (Post B F R)) xt e L := by
  obtain ⟨M, hR, hk⟩ := h
  intro a w ha hs
  rcases hx with rfl | rfl <;> exact bodyPost_ret' (results5 hres ha hs h1 h2 h3 h4 h5) (ha.defers.trans hD) hR (hk.wk B w hs)
end
end Go.Proofs.YtdmjkjeoamiedaaGreatDoor
end
section
namespace Go.Proofs.YtdmjkjeoamiedaaGreatDoor
open Go
theorem zv149 : zvOf Tryz.prog 149 = some (.agg (#[.string ⟨#[]⟩, .int .i64 0])) := by kernel_rfl
theorem z149 : zeroOf Tryz.prog 149 = some (#[.string ⟨#[]⟩, .int .i64 0]) := by kernel_rfl
theorem ptr55 : ptrOk Tryz.prog 55 = true := by kernel_rfl
theorem fo147_1 : fieldOk Tryz.prog 147 1 1 = true := by kernel_rfl
theorem sc145 : scalarOk Tryz.prog 145 = true := by kernel_rfl
theorem agg149 : aggOk Tryz.prog 149 2 = true := by kernel_rfl
theorem mp145 : mapOk Tryz.prog 145 3 149 = true := by kernel_rfl
theorem fo149_1 : fieldOk Tryz.prog 149 1 1 = true := by kernel_rfl
theorem fo147_0 : fieldOk Tryz.prog 147 0 0 = true := by kernel_rfl
theorem fo149_0 : fieldOk Tryz.prog 149 0 0 = true := by kernel_rfl
theorem bdTb (f m : Nat) : BuildOk Tryz.prog 147 [(0, .pointer (some ⟨f, 0, none⟩)), (1, .map (some m))] #[.pointer (some ⟨f, 0, none⟩), .map (some m)] := fun w => by kernel_rfl
theorem bdOp (s : ByteArray) : BuildOk Tryz.prog 149 [(0, .string s)] #[.string s, .int .i64 0] := fun w => by kernel_rfl
def tO (f mp : Nat) : Obj := .cells #[.pointer (some ⟨f, 0, none⟩), .map (some mp)] 147 (0, 0)
def opV (path : Bytes) (at' : Nat) : Value := .agg #[sv path, nI at']
structure TBP (kv : List (Int × Value)) (y : Nat × Array MapEntry × Nat) : Prop where
  hm : MapIs intE y.2.1 y.2.2 kv
def tbLs (t f : Nat) (y : Nat × Array MapEntry × Nat) : List HP := [pt t (tO f y.1), pt y.1 (.map y.2.1 y.2.2)]
def TB (t f : Nat) (kv : List (Int × Value)) : HP := fun h => ∃ y, TBP kv y ∧ star (tbLs t f y) h
theorem TB.opens (t f : Nat) (kv : List (Int × Value)) : Opens (TB t f kv) (TBP kv) (tbLs t f) := ⟨fun h hh => hh, fun x hp h hh => ⟨x, hp, hh⟩⟩
attribute [irreducible] TB
theorem Spec.frameR {P : Program} {f : FuncId} {args : Array Value} {x : Value} {R : HP} (h : Spec P f args [] fun F v M => v = x ∧ M = F) : Spec P f (args ++ #[]) [R] fun F v M => v = x ∧ M = R :: F := by
  rw [Array.append_empty]
  exact fun B F w hs => h B (R :: F) w hs
theorem tbNew {f : Nat} : Spec Tryz.prog 81 #[.pointer (some ⟨f, 0, none⟩)] [] fun F v M => ∃ t, v = .pointer (some ⟨t, 0, none⟩) ∧ M = TB t f [] :: F := by
  refine Spec.intro Tryz.func81 rfl rfl fun B F => ?_
  simp only [Tryz.ntmps81, List.cons_append, List.nil_append, env0, Nat.reduceAdd]
  refine .sr (.assign (.x (.move ?_)))
  refine .mkMap fun m4 => ?_
  refine .build ?_ (bdTb _ _)
  refine .box fun b6 => ?_
  refine .assign (.z ?_)
  refine .ret (?_)
  refine .shutR (TB.opens b6 f []) (m4, #[], 0) ⟨MapIs.empty _ _⟩ ?_
  exact .ret1 (h1 := .tmp (t := 2) rfl) ⟨_, ⟨b6, rfl, rfl⟩, Am.auto⟩
theorem tGet {t f : Nat} {kv : List (Int × Value)} {fd : Int} {path : Bytes} {at' : Nat} (hk : kget kv fd = some (opV path at')) : Spec Tryz.prog 113 #[.pointer (some ⟨t, 0, none⟩), .int .i64 fd] [TB t f kv] fun F v M => v = .tuple #[.agg #[sv path, nI at'], .int .i64 0] ∧ M = TB t f kv :: F := by
  refine Spec.intro Tryz.func113 rfl rfl fun B F => ?_
  simp only [Tryz.ntmps113, List.cons_append, List.nil_append, env0, Nat.reduceAdd]
  refine .openR (TB.opens t f kv) fun y hy => ?_
  obtain ⟨mp, es, c⟩ := y
  simp only [tbLs, List.cons_append, List.nil_append]
  refine .sr ?_
  refine .alloc z149 fun b4 => ?_
  refine .assign (.z (.seq (.sr (.move ?_))))
  refine .eqNil ?_ ptr55
  refine .z ?_
  refine .condF rfl rfl ?_
  refine .skip (.next (.sr (.move ?_)))
  refine .nilCheck ?_
  refine .fa ?_ fo147_1
  refine .ld ?_ sc145
  refine .move ?_
  refine .lookOk (k := fd) klF hy.hm mp145 zv149 ?_
  refine .cast (d := 17) (u := .tuple #[.agg #[sv path, nI at'], .bool true]) rfl (by rw [hk]; rfl) ?_
  refine .move ?_
  refine .extract ?_
  refine .extract ?_
  refine .alloc z149 fun b6 => ?_
  refine .stV ?_ agg149
  refine .assign (.z (.seq (.sr (.move ?_))))
  refine .not ?_
  refine .z ?_
  refine .condF rfl rfl ?_
  refine .skip (.next (.sr ?_))
  refine .ldA ?_ agg149
  refine .stV ?_ agg149
  refine .assign (.z ?_)
  refine .ret (?_)
  refine .shutR (TB.opens t f (kv)) (mp, es, c) hy ?_
  exact .ret2 (h2 := .tmp (t := 5) rfl) ⟨_, ⟨rfl, rfl⟩, Am.auto⟩
theorem tGetNo {t f : Nat} {kv : List (Int × Value)} {fd : Int} (hk : kget kv fd = none) : Spec Tryz.prog 113 #[.pointer (some ⟨t, 0, none⟩), .int .i64 fd] [TB t f kv] fun F v M => v = .tuple #[.agg #[sv [], nI 0], .int .i64 1] ∧ M = TB t f kv :: F := by
  refine Spec.intro Tryz.func113 rfl rfl fun B F => ?_
  simp only [Tryz.ntmps113, List.cons_append, List.nil_append, env0, Nat.reduceAdd]
  refine .openR (TB.opens t f kv) fun y hy => ?_
  obtain ⟨mp, es, c⟩ := y
  simp only [tbLs, List.cons_append, List.nil_append]
  refine .sr ?_
  refine .alloc z149 fun b4 => ?_
  refine .assign (.z (.seq (.sr (.move ?_))))
  refine .eqNil ?_ ptr55
  refine .z ?_
  refine .condF rfl rfl ?_
  refine .skip (.next (.sr (.move ?_)))
  refine .nilCheck ?_
  refine .fa ?_ fo147_1
  refine .ld ?_ sc145
  refine .move ?_
  refine .lookOk (k := fd) klF hy.hm mp145 zv149 ?_
  refine .cast (d := 17) (u := .tuple #[.agg #[.string ⟨#[]⟩, .int .i64 0], .bool false]) rfl (by rw [hk]; rfl) ?_
  refine .move ?_
  refine .extract ?_
  refine .extract ?_
  refine .alloc z149 fun b6 => ?_
  refine .stV ?_ agg149
  refine .assign (.z (.seq (.sr (.move ?_))))
  refine .not ?_
  refine .z ?_
  refine .condT rfl rfl ?_
  refine .sr ?_
  refine .build (cs := #[sv [], nI 0]) ?_ (fun w => by kernel_rfl)
  refine .stV ?_ agg149
  refine .assign (.z ?_)
  refine .ret (.thenRet (?_))
  refine .shutR (TB.opens t f (kv)) (mp, es, c) hy ?_
  exact .ret2 (h2 := .tmp (t := 5) rfl) ⟨_, ⟨rfl, rfl⟩, Am.auto⟩
theorem tClose {t f : Nat} {kv : List (Int × Value)} {fd : Int} {path : Bytes} {at' : Nat} (hk : kget kv fd = some (opV path at')) : Spec Tryz.prog 56 #[.pointer (some ⟨t, 0, none⟩), .int .i64 fd] [TB t f kv] fun F v M => v = okV ∧ M = TB t f (kdel kv fd) :: F := by
  refine Spec.intro Tryz.func56 rfl rfl fun B F => ?_
  simp only [Tryz.ntmps56, List.cons_append, List.nil_append, env0, Nat.reduceAdd]
  refine .sr (.assign (.x (.move (.move ?_))))
  refine .call (hc := Tryz.call113) (sp := tGet (t := t) (f := f) (kv := kv) (fd := fd) hk) (h := ?_)
  rintro _ _ ⟨rfl, rfl⟩
  refine .move ?_
  refine .extract ?_
  refine .extract ?_
  refine .alloc z149 fun b5 => ?_
  refine .stV ?_ agg149
  refine .assign (.z (.seq (.sr (.move ?_))))
  refine .eqi ?_
  refine .z ?_
  refine .condT rfl (congrArg Value.bool (by first | (simp; done) | (simp; omega) | omega)) ?_
  refine .region ?_
  refine .openR (TB.opens t f kv) fun y hy => ?_
  obtain ⟨mp, es, c⟩ := y
  simp only [tbLs, List.cons_append, List.nil_append]
  refine .move ?_
  refine .nilCheck ?_
  refine .fa ?_ fo147_1
  refine .ld ?_ sc145
  refine .move ?_
  refine .delM (k := fd) klF hy.hm mp145 fun es2 hm2 => ?_
  refine .x (.move (.assign (.z ?_)))
  refine .ret (?_)
  refine .shutR (TB.opens t f (kdel kv fd)) (mp, es2, c) ⟨hm2⟩ ?_
  exact .ret1 (h1 := .tmp (t := 4) rfl) ⟨_, ⟨rfl, rfl⟩, Am.auto⟩
theorem tCloseNo {t f : Nat} {kv : List (Int × Value)} {fd : Int} (hk : kget kv fd = none) : Spec Tryz.prog 56 #[.pointer (some ⟨t, 0, none⟩), .int .i64 fd] [TB t f kv] fun F v M => v = .int .i64 1 ∧ M = TB t f kv :: F := by
  refine Spec.intro Tryz.func56 rfl rfl fun B F => ?_
  simp only [Tryz.ntmps56, List.cons_append, List.nil_append, env0, Nat.reduceAdd]
  refine .sr (.assign (.x (.move (.move ?_))))
  refine .call (hc := Tryz.call113) (sp := tGetNo (t := t) (f := f) (kv := kv) (fd := fd) hk) (h := ?_)
  rintro _ _ ⟨rfl, rfl⟩
  refine .move ?_
  refine .extract ?_
  refine .extract ?_
  refine .alloc z149 fun b5 => ?_
  refine .stV ?_ agg149
  refine .assign (.z (.seq (.sr (.move ?_))))
  refine .eqi ?_
  refine .z ?_
  refine .condF rfl (congrArg Value.bool (by first | (simp; done) | (simp; omega) | omega)) ?_
  refine .skip (.next (.sr (.move (.assign (.z ?_)))))
  refine .ret (?_)
  exact .ret1 (h1 := .tmp (t := 4) rfl) ⟨_, ⟨rfl, rfl⟩, Am.auto⟩
theorem tSeek {t f : Nat} {kv : List (Int × Value)} {fd : Int} {path : Bytes} {at' : Nat} (hk : kget kv fd = some (opV path at')) {k : Nat} : Spec Tryz.prog 79 #[.pointer (some ⟨t, 0, none⟩), .int .i64 fd, nI k] [TB t f kv] fun F v M => v = okV ∧ M = TB t f (kput kv fd (opV path k)) :: F := by
  refine Spec.intro Tryz.func79 rfl rfl fun B F => ?_
  simp only [Tryz.ntmps79, List.cons_append, List.nil_append, env0, Nat.reduceAdd]
  refine .sr (.assign (.x (.move (.move ?_))))
  refine .call (hc := Tryz.call113) (sp := tGet (t := t) (f := f) (kv := kv) (fd := fd) hk) (h := ?_)
  rintro _ _ ⟨rfl, rfl⟩
  refine .move ?_
  refine .extract ?_
  refine .extract ?_
  refine .alloc z149 fun b7 => ?_
  refine .stV ?_ agg149
  refine .assign (.z (.seq (.sr (.move ?_))))
  refine .nei ?_
  refine .z ?_
  refine .condF rfl (congrArg Value.bool (by first | (simp; done) | (simp; omega) | omega)) ?_
  refine .skip (.next (.seq (.sr (.move ?_))))
  refine .lss ?_
  refine .z ?_
  refine .condF rfl (congrArg Value.bool (by first | (simp; done) | (simp; omega) | omega)) ?_
  refine .skip (.next (.sr (.move ?_)))
  refine .fa ?_ fo149_1
  refine .st ?_ sc3
  refine .z (.seq ?_)
  refine .openR (TB.opens t f kv) fun y hy => ?_
  obtain ⟨mp, es, c⟩ := y
  simp only [tbLs, List.cons_append, List.nil_append]
  refine .dr ([pt t (tO f mp), pt b7 (.cells #[sv path, nI k] 149 (0, 0))]) [6] 7 mixed .autoJ ?_
  refine .tk 0 rfl .move ?_
  refine .tk 1 rfl .nilCheck ?_
  refine .tk 2 rfl (.fa fo147_1) ?_
  refine .tk 3 rfl (.ld sc145) ?_
  refine .tk 4 rfl .move ?_
  refine .tk 5 rfl (.ldA agg149) ?_
  refine .on 6 rfl fun hnp => ?_
  refine .upd (k := fd) klF hy.hm mp145 fun es2 c2 hm2 => ?_
  refine .nil (.wb hnp ?_)
  refine .fin ?_
  refine .next (.sr (.assign (.z ?_)))
  refine .ret (?_)
  refine .shutR (TB.opens t f (kput kv fd (opV path k))) (mp, es2, c2) ⟨hm2⟩ ?_
  exact .ret1 (h1 := .tmp (t := 6) rfl) ⟨_, ⟨rfl, rfl⟩, Am.auto⟩
theorem tWriteF {t f : Nat} {kv : List (Int × Value)} {fd : Int} {path : Bytes} {at' : Nat} (hk : kget kv fd = some (opV path at')) {p : Pl} {T T2 : FT} {R : HP} {A : Option Addr} {m cc : Nat} (sp : Spec Tryz.prog 75 #[.pointer (some ⟨f, 0, none⟩), sv path, nI at', .slice A m cc] [FSR f p T, R] fun F v M => v = okV ∧ M = FSR f p T2 :: R :: F) (hb : at' + m ≤ 1073741824) : Spec Tryz.prog 78 #[.pointer (some ⟨t, 0, none⟩), .int .i64 fd, .slice A m cc] [TB t f kv, FSR f p T, R] fun F v M => v = okV ∧ M = TB t f (kput kv fd (opV path (at' + m))) :: FSR f p T2 :: R :: F := by
  refine Spec.intro Tryz.func78 rfl rfl fun B F => ?_
  simp only [Tryz.ntmps78, List.cons_append, List.nil_append, env0, Nat.reduceAdd]
  refine .sr (.assign (.x (.move (.move ?_))))
  refine .call (hc := Tryz.call113) (sp := tGet (t := t) (f := f) (kv := kv) (fd := fd) hk) (h := ?_)
  rintro _ _ ⟨rfl, rfl⟩
  refine .move ?_
  refine .extract ?_
  refine .extract ?_
  refine .alloc z149 fun b7 => ?_
  refine .stV ?_ agg149
  refine .assign (.z (.seq (.sr (.move ?_))))
  refine .nei ?_
  refine .z ?_
  refine .condF rfl (congrArg Value.bool (by first | (simp; done) | (simp; omega) | omega)) ?_
  refine .skip (.next (.seq (.seq ?_)))
  refine .openR (TB.opens t f kv) fun y hy => ?_
  obtain ⟨mp, es, c⟩ := y
  simp only [tbLs, List.cons_append, List.nil_append]
  refine .dr ([pt t (tO f mp), pt b7 (.cells #[sv path, nI at'] 149 (0, 0))]) [] 11 mixed .autoJ ?_
  refine .tk 0 rfl .move ?_
  refine .tk 1 rfl .nilCheck ?_
  refine .tk 2 rfl (.fa fo147_0) ?_
  refine .tk 3 rfl (.ld sc23) ?_
  refine .tk 4 rfl (.fa fo149_0) ?_
  refine .tk 5 rfl (.ld sc9) ?_
  refine .tk 6 rfl (.fa fo149_1) ?_
  refine .tk 7 rfl (.ld sc3) ?_
  refine .tk 8 rfl .move ?_
  refine .on 9 rfl fun hnp => ?_
  refine .call (hc := Tryz.call75) (sp := sp) (h := ?_)
  rintro _ _ ⟨rfl, rfl⟩
  refine .nil (.wa hnp ?_)
  refine .tk 10 rfl .assign ?_
  refine .fin ?_
  refine .next (.sr (.move ?_))
  refine .nei ?_
  refine .z ?_
  refine .condF rfl (congrArg Value.bool (by first | (simp; done) | (simp; omega) | omega)) ?_
  refine .skip (.next (.sr ?_))
  refine .fa ?_ fo149_1
  refine .ld ?_ sc3
  refine .move ?_
  refine .lenS ?_ sl33
  refine .add ?_
  refine .cast (d := 36) (u := nI (at' + m)) rfl (congrArg (Value.int .i64) (by omega)) ?_
  refine .fa ?_ fo149_1
  refine .st ?_ sc3
  refine .z (.seq ?_)
  refine .dr ([pt t (tO f mp), pt b7 (.cells #[sv path, nI (at' + m)] 149 (0, 0))]) [6] 7 mixed .autoJ ?_
  refine .tk 0 rfl .move ?_
  refine .tk 1 rfl .nilCheck ?_
  refine .tk 2 rfl (.fa fo147_1) ?_
  refine .tk 3 rfl (.ld sc145) ?_
  refine .tk 4 rfl .move ?_
  refine .tk 5 rfl (.ldA agg149) ?_
  refine .on 6 rfl fun hnp => ?_
  refine .upd (k := fd) klF hy.hm mp145 fun es2 c2 hm2 => ?_
  refine .nil (.wb hnp ?_)
  refine .fin ?_
  refine .next (.sr (.assign (.z ?_)))
  refine .ret (?_)
  refine .shutR (TB.opens t f (kput kv fd (opV path (at' + m)))) (mp, es2, c2) ⟨hm2⟩ ?_
  exact .ret1 (h1 := .tmp (t := 6) rfl) ⟨_, ⟨rfl, rfl⟩, Am.auto⟩
theorem tAppend {t f : Nat} {kv : List (Int × Value)} {fd : Int} {path : Bytes} {at' : Nat} (hk : kget kv fd = some (opV path at')) {p : Pl} {T T2 : FT} {R : HP} {A : Option Addr} {m cc e : Nat} (sp : Spec Tryz.prog 18 #[.pointer (some ⟨f, 0, none⟩), sv path, .slice A m cc] [FSR f p T, R] fun F v M => v = nI e ∧ M = FSR f p T2 :: R :: F) : Spec Tryz.prog 54 #[.pointer (some ⟨t, 0, none⟩), .int .i64 fd, .slice A m cc] [TB t f kv, FSR f p T, R] fun F v M => v = nI e ∧ M = TB t f kv :: FSR f p T2 :: R :: F := by
  refine Spec.intro Tryz.func54 rfl rfl fun B F => ?_
  simp only [Tryz.ntmps54, List.cons_append, List.nil_append, env0, Nat.reduceAdd]
  refine .sr (.assign (.x (.move (.move ?_))))
  refine .call (hc := Tryz.call113) (sp := tGet (t := t) (f := f) (kv := kv) (fd := fd) hk) (h := ?_)
  rintro _ _ ⟨rfl, rfl⟩
  refine .move ?_
  refine .extract ?_
  refine .extract ?_
  refine .alloc z149 fun b7 => ?_
  refine .stV ?_ agg149
  refine .assign (.z (.seq (.sr (.move ?_))))
  refine .nei ?_
  refine .z ?_
  refine .condF rfl (congrArg Value.bool (by first | (simp; done) | (simp; omega) | omega)) ?_
  refine .skip (.next (.seq ?_))
  refine .openR (TB.opens t f kv) fun y hy => ?_
  obtain ⟨mp, es, c⟩ := y
  simp only [tbLs, List.cons_append, List.nil_append]
  refine .dr ([pt t (tO f mp), pt b7 (.cells #[sv path, nI at'] 149 (0, 0))]) [] 9 mixed .autoJ ?_
  refine .tk 0 rfl .move ?_
  refine .tk 1 rfl .nilCheck ?_
  refine .tk 2 rfl (.fa fo147_0) ?_
  refine .tk 3 rfl (.ld sc23) ?_
  refine .tk 4 rfl (.fa fo149_0) ?_
  refine .tk 5 rfl (.ld sc9) ?_
  refine .tk 6 rfl .move ?_
  refine .on 7 rfl fun hnp => ?_
  refine .call (hc := Tryz.call18) (sp := sp) (h := ?_)
  rintro _ _ ⟨rfl, rfl⟩
  refine .nil (.wa hnp ?_)
  refine .tk 8 rfl .assign ?_
  refine .fin ?_
  refine .next ?_
  refine .ret (?_)
  refine .shutR (TB.opens t f (kv)) (mp, es, c) hy ?_
  exact .ret1 (h1 := .tmp (t := 6) rfl) ⟨_, ⟨rfl, rfl⟩, Am.auto⟩
theorem tRead1 {path : Bytes} {at' : Nat} : Spec Tryz.prog 157 #[.agg #[sv path, nI at']] [] fun F v M => v = nI at' ∧ M = F := by
  refine Spec.intro Tryz.func157 rfl rfl fun B F => ?_
  simp only [Tryz.ntmps157, List.cons_append, List.nil_append, env0, Nat.reduceAdd]
  refine .sr ?_
  refine .box fun b1 => ?_
  refine .assign (.x ?_)
  refine .fa ?_ fo149_1
  refine .ld ?_ sc3
  refine .assign (.z ?_)
  refine .ret (?_)
  exact .ret1 (h1 := .tmp (t := 2) rfl) ⟨_, ⟨rfl, rfl⟩, Am.auto⟩
theorem tPread1 {path : Bytes} {at' b k : Nat} {x : Value} (hx : x = .agg #[sv path, nI at']) : Spec Tryz.prog 115 (#[x] ++ #[.pointer (some ⟨b, 0, none⟩)]) [pt b (.cells #[nI k] 3 (0, 0))] fun F v M => v = nI k ∧ M = pt b (.cells #[nI k] 3 (0, 0)) :: F := by
  refine Spec.intro Tryz.func115 rfl rfl fun B F => ?_
  simp only [Tryz.ntmps115, List.cons_append, List.nil_append, env0, Nat.reduceAdd]
  subst hx
  refine .sr ?_
  refine .box fun b2 => ?_
  refine .assign (.x ?_)
  refine .ld ?_ sc3
  refine .assign (.z ?_)
  refine .ret (?_)
  exact .ret1 (h1 := .tmp (t := 3) rfl) ⟨_, ⟨rfl, rfl⟩, Am.auto⟩
theorem tReadG {t f : Nat} {kv : List (Int × Value)} {fd : Int} {path : Bytes} {at' : Nat} (hk : kget kv fd = some (opV path at')) {p : Pl} {T : FT} {k n e : Nat} {bs : Bytes} (sp : Spec Tryz.prog 48 #[.pointer (some ⟨f, 0, none⟩), sv path, nI k, nI n] [FSR f p T] fun F v M => ∃ u, v = .tuple #[u, nI e] ∧ M = rowR 5 1 u bs.length (bvs bs) :: FSR f p T :: F) {R : HP} {q : FuncId} {cap : Array Value} (hc : ∀ args w, (callFunc q args).run Tryz.prog w = .ok (.enter q args) w) (sq : Spec Tryz.prog q (#[.agg #[sv path, nI at']] ++ cap) [R] fun F v M => v = nI k ∧ M = R :: F) : Spec Tryz.prog 114 #[.pointer (some ⟨t, 0, none⟩), .int .i64 fd, nI n, .func (.func q) #[] cap] [TB t f kv, FSR f p T, R] fun F v M => ∃ u, v = .tuple #[.agg #[sv path, nI at'], u, nI e] ∧ M = rowR 5 1 u bs.length (bvs bs) :: TB t f kv :: FSR f p T :: R :: F := by
  refine Spec.intro Tryz.func114 rfl rfl fun B F => ?_
  simp only [Tryz.ntmps114, List.cons_append, List.nil_append, env0, Nat.reduceAdd]
  refine .sr ?_
  refine .alloc z149 fun b8 => ?_
  refine .assign (.assign (.x (.move (.move ?_))))
  refine .call (hc := Tryz.call113) (sp := tGet (t := t) (f := f) (kv := kv) (fd := fd) hk) (h := ?_)
  rintro _ _ ⟨rfl, rfl⟩
  refine .move ?_
  refine .extract ?_
  refine .extract ?_
  refine .stV ?_ agg149
  refine .assign (.z (.seq (.sr (.move ?_))))
  refine .nei ?_
  refine .z ?_
  refine .condF rfl (congrArg Value.bool (by first | (simp; done) | (simp; omega) | omega)) ?_
  refine .skip (.next (.seq ?_))
  refine .openR (TB.opens t f kv) fun y hy => ?_
  obtain ⟨mp, es, c⟩ := y
  simp only [tbLs, List.cons_append, List.nil_append]
  refine .dr ([pt t (tO f mp), pt b8 (.cells #[sv path, nI at'] 149 (0, 0))]) [] 16 mixed .autoJ ?_
  refine .tk 0 rfl .move ?_
  refine .tk 1 rfl .nilCheck ?_
  refine .tk 2 rfl (.fa fo147_0) ?_
  refine .tk 3 rfl (.ld sc23) ?_
  refine .tk 4 rfl (.fa fo149_0) ?_
  refine .tk 5 rfl (.ld sc9) ?_
  refine .tk 6 rfl .move ?_
  refine .tk 7 rfl (.ldA agg149) ?_
  refine .tk 9 rfl .move ?_
  refine .on 8 rfl fun hnp => ?_
  refine .callV (vs := [.agg #[sv path, nI at']]) (hc := hc) (sp := sq) (h := ?_)
  rintro _ _ ⟨rfl, rfl⟩
  refine .nil (.wa hnp ?_)
  refine .on 10 rfl fun hnp => ?_
  refine .call (hc := Tryz.call48) (sp := sp) (h := ?_)
  rintro _ _ ⟨u, rfl, rfl⟩
  refine .nil (.wa hnp ?_)
  refine .tk 11 rfl .move ?_
  refine .tk 12 rfl .extract ?_
  refine .tk 13 rfl .extract ?_
  refine .tk 14 rfl .assign ?_
  refine .tk 15 rfl .assign ?_
  refine .fin ?_
  refine .next (.sr ?_)
  refine .ldA ?_ agg149
  refine .move (.move ?_)
  refine .stV ?_ agg149
  refine .assign (.assign (.z ?_))
  refine .ret (?_)
  refine .shutR (TB.opens t f (kv)) (mp, es, c) hy ?_
  exact .ret3 (h2 := .tmp (t := 9) rfl) (h3 := .tmp (t := 10) rfl) ⟨_, ⟨u, rfl, rfl⟩, Am.auto⟩
theorem tbRead {t f : Nat} {kv : List (Int × Value)} {fd : Int} {path : Bytes} {at' : Nat} (hk : kget kv fd = some (opV path at')) {p : Pl} {T : FT} {n : Nat} {bs : Bytes} (sp : Spec Tryz.prog 48 #[.pointer (some ⟨f, 0, none⟩), sv path, nI at', nI n] [FSR f p T] fun F v M => ∃ u, v = .tuple #[u, .int .i64 0] ∧ M = rowR 5 1 u bs.length (bvs bs) :: FSR f p T :: F) (hb : at' + bs.length ≤ 1073741824) : Spec Tryz.prog 80 #[.pointer (some ⟨t, 0, none⟩), .int .i64 fd, nI n] [TB t f kv, FSR f p T] fun F v M => ∃ u, v = .tuple #[u, .int .i64 0] ∧ M = rowR 5 1 u bs.length (bvs bs) :: TB t f (kput kv fd (opV path (at' + bs.length))) :: FSR f p T :: F := by
  refine Spec.intro Tryz.func80 rfl rfl fun B F => ?_
  simp only [Tryz.ntmps80, List.cons_append, List.nil_append, env0, Nat.reduceAdd]
  refine .emp (A := bun []) bun.nil ?_
  refine .sr (.assign (.assign (.x (.move (.move (.move ?_))))))
  refine .call (hc := Tryz.call114) (sp := tReadG (t := t) (f := f) (kv := kv) (fd := fd) (e := 0) (R := bun []) (cap := #[]) hk sp Tryz.call157 ((tRead1 (path := path) (at' := at')).frameR)) (h := ?_)
  rintro _ _ ⟨u, rfl, rfl⟩
  refine .fact (rowR_shape (el := 5) (size := 1) (v := u) (k := bs.length) (xs := bvs bs)) (fun ⟨A, cc, hu, hR, hc1, hc2, hlen⟩ => ?_)
  subst hu
  refine .move ?_
  refine .extract ?_
  refine .extract ?_
  refine .extract ?_
  refine .alloc z149 fun b8 => ?_
  refine .stV ?_ agg149
  refine .assign (.assign (.z (.seq (.sr (.move ?_)))))
  refine .eqi ?_
  refine .z ?_
  refine .condT rfl (congrArg Value.bool (by first | (simp; done) | (simp; omega) | omega)) ?_
  refine .sr ?_
  refine .fa ?_ fo149_1
  refine .ld ?_ sc3
  refine .move ?_
  refine .lenS ?_ sl33
  refine .add ?_
  refine .cast (d := 25) (u := nI (at' + bs.length)) rfl (congrArg (Value.int .i64) (by omega)) ?_
  refine .fa ?_ fo149_1
  refine .st ?_ sc3
  refine .z ?_
  refine .openR (TB.opens t f kv) fun y hy => ?_
  obtain ⟨mp, es, c⟩ := y
  simp only [tbLs, List.cons_append, List.nil_append]
  refine .dr ([pt t (tO f mp), pt b8 (.cells #[sv path, nI (at' + bs.length)] 149 (0, 0))]) [6] 7 mixed .autoJ ?_
  refine .tk 0 rfl .move ?_
  refine .tk 1 rfl .nilCheck ?_
  refine .tk 2 rfl (.fa fo147_1) ?_
  refine .tk 3 rfl (.ld sc145) ?_
  refine .tk 4 rfl .move ?_
  refine .tk 5 rfl (.ldA agg149) ?_
  refine .on 6 rfl fun hnp => ?_
  refine .upd (k := fd) klF hy.hm mp145 fun es2 c2 hm2 => ?_
  refine .nil (.wb hnp ?_)
  refine .fin ?_
  refine .next (.sr (.move (.move (.assign (.assign (.z ?_))))))
  refine .ret (?_)
  refine .shutR (TB.opens t f (kput kv fd (opV path (at' + bs.length)))) (mp, es2, c2) ⟨hm2⟩ ?_
  exact .ret2 (h1 := .tmp (t := 6) rfl) (h2 := .tmp (t := 7) rfl) ⟨_, ⟨_, rfl, rfl⟩, Am.auto⟩
theorem tPread {t f : Nat} {kv : List (Int × Value)} {fd : Int} {path : Bytes} {at' : Nat} (hk : kget kv fd = some (opV path at')) {p : Pl} {T : FT} {k n e : Nat} {bs : Bytes} (sp : Spec Tryz.prog 48 #[.pointer (some ⟨f, 0, none⟩), sv path, nI k, nI n] [FSR f p T] fun F v M => ∃ u, v = .tuple #[u, nI e] ∧ M = rowR 5 1 u bs.length (bvs bs) :: FSR f p T :: F) : Spec Tryz.prog 55 #[.pointer (some ⟨t, 0, none⟩), .int .i64 fd, nI k, nI n] [TB t f kv, FSR f p T] fun F v M => ∃ u, v = .tuple #[u, nI e] ∧ M = rowR 5 1 u bs.length (bvs bs) :: TB t f kv :: FSR f p T :: F := by
  refine Spec.intro Tryz.func55 rfl rfl fun B F => ?_
  simp only [Tryz.ntmps55, List.cons_append, List.nil_append, env0, Nat.reduceAdd]
  refine .sr ?_
  refine .box fun b6 => ?_
  refine .assign (.assign (.x (.move (.move (.move ?_)))))
  refine .makeFuncB ?_
  refine .call (hc := Tryz.call114) (sp := tReadG (t := t) (f := f) (kv := kv) (fd := fd) (R := pt b6 (.cells #[nI k] 3 (0, 0))) (cap := #[.pointer (some ⟨b6, 0, none⟩)]) hk sp Tryz.call115 (tPread1 rfl)) (h := ?_)
  rintro _ _ ⟨u, rfl, rfl⟩
  refine .move ?_
  refine .extract ?_
  refine .extract ?_
  refine .extract ?_
  refine .alloc z149 fun b10 => ?_
  refine .stV ?_ agg149
  refine .assign (.assign (.x (.move (.move (.assign (.assign (.z ?_)))))))
  refine .ret (?_)
  exact .ret2 (h1 := .tmp (t := 8) rfl) (h2 := .tmp (t := 9) rfl) ⟨_, ⟨u, rfl, rfl⟩, Am.auto⟩
theorem tOpenMake {t f : Nat} {kv : List (Int × Value)} {p : Pl} {T : FT} {path : Bytes} (ho : PlOk p) (hT : TOk T) (hpl : path.length ≤ 1000000) {T2 : FT} {i z : Nat} (hT2 : TOk T2) (hl : (leadsT T path).2.2.2 = 4) (hl2 : leadsT T2 path = (i, 1, z, 0)) (sp : Spec Tryz.prog 17 #[.pointer (some ⟨f, 0, none⟩), sv path] [FSR f p T] fun F v M => v = okV ∧ M = FSR f p T2 :: F) {fd : Nat} (h32 : kv.length < 32) (hfree : kget kv (fd : Int) = none) (hbusy : ∀ j < fd, ∃ v, kget kv ((j : Nat) : Int) = some v ∧ ∃ pa a, v = opV pa a) (hfd : fd ≤ 1073741824) : Spec Tryz.prog 31 #[.pointer (some ⟨t, 0, none⟩), sv path, .bool true] [TB t f kv, FSR f p T] fun F v M => v = .tuple #[nI fd, .int .i64 0] ∧ M = TB t f (kput kv (fd : Int) (opV path 0)) :: FSR f p T2 :: F := by
  refine Spec.intro Tryz.func31 rfl rfl fun B F => ?_
  simp only [Tryz.ntmps31, List.cons_append, List.nil_append, env0, Nat.reduceAdd]
  refine .openR (TB.opens t f kv) fun y hy => ?_
  obtain ⟨mp, es, c⟩ := y
  simp only [tbLs, List.cons_append, List.nil_append]
  have hsz : es.size = kv.length := hy.hm.length
  refine .sr (.assign (.assign (.z (.seq (.sr (.move ?_))))))
  refine .eqNil ?_ ptr55
  refine .move ?_
  refine .gT ?_
  refine .move ?_
  refine .gT ?_
  refine .nilCheck ?_
  refine .gT ?_
  refine .fa ?_ fo147_0
  refine .gT ?_
  refine .ld ?_ sc23
  refine .gT ?_
  refine .eqNil ?_ ptr23
  refine .pickF ?_
  refine .z ?_
  refine .condF rfl rfl ?_
  refine .skip (.next (.seq (.sr (.move ?_))))
  refine .nilCheck ?_
  refine .fa ?_ fo147_1
  refine .ld ?_ sc145
  refine .lenM ?_ mp145
  refine .geq ?_
  refine .z ?_
  refine .condF rfl (congrArg Value.bool (by first | (simp; done) | (simp; omega) | omega)) ?_
  refine .skip (.next (.sr (.move ?_)))
  refine .nilCheck ?_
  refine .fa ?_ fo147_0
  refine .ld ?_ sc23
  refine .move ?_
  refine .call (hc := Tryz.call25) (sp := fsStat (f := f) (p := p) (T := T) (path := path) ho hT hpl) (h := ?_)
  rintro _ _ ⟨rfl, rfl⟩
  rw [hl]
  refine .move ?_
  refine .extract ?_
  refine .extract ?_
  refine .alloc z51 fun b8 => ?_
  refine .stV ?_ agg51
  refine .assign (.z (.seq (.sr (.move ?_))))
  refine .eqi ?_
  refine .move ?_
  refine .gT ?_
  refine .move ?_
  refine .pickT ?_
  refine .z ?_
  refine .condT rfl rfl ?_
  refine .seq (.sr (.move ?_))
  refine .nilCheck ?_
  refine .fa ?_ fo147_0
  refine .ld ?_ sc23
  refine .move ?_
  refine .call (hc := Tryz.call17) (sp := sp) (h := ?_)
  rintro _ _ ⟨rfl, rfl⟩
  refine .assign (.x (.move ?_))
  refine .nei ?_
  refine .z ?_
  refine .condF rfl (congrArg Value.bool (by first | (simp; done) | (simp; omega) | omega)) ?_
  refine .skip (.next (.region (.move ?_)))
  refine .nilCheck ?_
  refine .fa ?_ fo147_0
  refine .ld ?_ sc23
  refine .move ?_
  refine .call (hc := Tryz.call25) (sp := fsStat (f := f) (p := p) (T := T2) (path := path) ho hT2 hpl) (h := ?_)
  rintro _ _ ⟨rfl, rfl⟩
  rw [hl2]
  refine .move ?_
  refine .extract ?_
  refine .extract ?_
  refine .stV ?_ agg51
  refine .assign (.z (.seq (.sr (.move ?_))))
  refine .nei ?_
  refine .z ?_
  refine .condF rfl (congrArg Value.bool (by first | (simp; done) | (simp; omega) | omega)) ?_
  refine .skip (.next (.seq (.sr ?_)))
  refine .fa ?_ fo51_0
  refine .ld ?_ sc3
  refine .nei ?_
  refine .z ?_
  refine .condF rfl (congrArg Value.bool (by first | (simp; done) | (simp; omega) | omega)) ?_
  refine .skip (.next (.sr (.assign (.z (.block ?_)))))
  refine .loopA (σ := Nat) (fun k => [(0, .pointer (some ⟨t, 0, none⟩)), (1, sv path), (11, .int .i64 ((k : Nat) : Int))]) (fun _ => [pt t (tO f mp), pt mp (.map es c), FSR f p T2] ++ F) (fun k => k ≤ fd) (fun k => fd - k) 0 (Nat.zero_le _) ?_
  rintro k hkk
  refine .seq (.block (.sr (.move ?_)))
  refine .nilCheck ?_
  refine .fa ?_ fo147_1
  refine .ld ?_ sc145
  refine .move ?_
  by_cases hkf : k = fd
  · subst hkf
    refine .lookOk (k := (k : Int)) klF hy.hm mp145 zv149 ?_
    refine .cast (d := 75) (u := .tuple #[.agg #[.string ⟨#[]⟩, .int .i64 0], .bool false]) rfl (by rw [hfree]; rfl) ?_
    refine .move ?_
    refine .extract ?_
    refine .extract ?_
    refine .alloc z149 fun b12 => ?_
    refine .stV ?_ agg149
    refine .assign (.x (.move ?_))
    refine .not ?_
    refine .z ?_
    refine .condT rfl rfl ?_
    refine .sr (.move ?_)
    refine .nilCheck ?_
    refine .fa ?_ fo147_1
    refine .ld ?_ sc145
    refine .move (.move ?_)
    refine .build ?_ (bdOp _)
    refine .upd (k := (k : Int)) klF hy.hm mp145 fun es2 c2 hm2 => ?_
    refine .x (.move (.assign (.assign (.z ?_))))
    refine .ret (.blockRet (.thenRet (.thenRet (.blockRet (?_)))))
    refine .shutR (TB.opens t f (kput kv (k : Int) (opV path 0))) (mp, es2, c2) ⟨hm2⟩ ?_
    exact .ret2 (h1 := .tmp (t := 6) rfl) (h2 := .tmp (t := 7) rfl) ⟨_, ⟨rfl, rfl⟩, Am.auto⟩
  · obtain ⟨v, hv, pa, a, rfl⟩ := hbusy k (by omega)
    refine .lookOk (k := (k : Int)) klF hy.hm mp145 zv149 ?_
    refine .cast (d := 75) (u := .tuple #[.agg #[sv pa, nI a], .bool true]) rfl (by rw [hv]; rfl) ?_
    refine .move ?_
    refine .extract ?_
    refine .extract ?_
    refine .alloc z149 fun b12 => ?_
    refine .stV ?_ agg149
    refine .assign (.x (.move ?_))
    refine .not ?_
    refine .z ?_
    refine .condF rfl rfl ?_
    refine .skip (.blockNormal (.next (.region (.move ?_))))
    refine .add ?_
    refine .assign (.nil ?_)
    refine .cast (d := 11) (u := .int .i64 ((k + 1 : Nat) : Int)) rfl (congrArg (Value.int .i64) (by omega)) ?_
    exact .back (k + 1) (by show k + 1 ≤ fd; omega) (by show fd - (k + 1) < fd - k; omega)
end Go.Proofs.YtdmjkjeoamiedaaGreatDoor
end
section
namespace Go.Proofs.YtdmjkjeoamiedaaGreatDoor
open Go
def pD (n ino : Nat) : Pl := ⟨n, ino, 246, 247, 248, 248 + (ino + 7) / 8, n - (248 + (ino + 7) / 8)⟩
theorem pD_is {n ino : Nat} (h1 : 1 ≤ ino) (h2 : ino ≤ 4096) (hn : 249 + (ino + 7) / 8 ≤ n) (hn2 : n ≤ 4000) : PlIs (pD n ino) := by
  refine ⟨?_, ?_, ?_, ?_, ?_, ?_, ?_, ?_, ?_, ?_, ?_⟩
  all_goals (simp only [pD]; try first | omega | (left; omega))
theorem tot_rootT (n : Nat) : tot (fmT rootT) n = 0 := by rw [fmT_root]; exact tot_root n
theorem has_64 : has 64 = 1 := rfl
theorem root_least {T : FT} (h : T 0 ≠ none) : ∀ j < 1, T j ≠ none := fun j hj => by rw [show j = 0 from by omega]; exact h
end Go.Proofs.YtdmjkjeoamiedaaGreatDoor
end
section
namespace Go.Proofs.YtdmjkjeoamiedaaGreatDoor
open Go
theorem z244 : zeroOf Tryz.prog 244 = some (#[.int .i64 0, .slice none 0 0]) := by kernel_rfl
theorem fo247_1 : fieldOk Tryz.prog 247 1 7 = true := by kernel_rfl
theorem sc245 : scalarOk Tryz.prog 245 = true := by kernel_rfl
theorem so245 : sliceOk Tryz.prog 245 244 2 32 = true := by kernel_rfl
theorem fo244_0 : fieldOk Tryz.prog 244 0 0 = true := by kernel_rfl
theorem z155 : zeroOf Tryz.prog 155 = some (#[.string ⟨#[]⟩, .int .i64 0, .bool false]) := by kernel_rfl
theorem so151 : sliceOk Tryz.prog 151 155 3 32 = true := by kernel_rfl
theorem bdSto (a b c d e f h : Int) (A : Option Addr) (k cc : Nat) : BuildOk Tryz.prog 247 [(0, .agg #[.int .i64 a, .int .i64 b, .int .i64 c, .int .i64 d, .int .i64 e, .int .i64 f, .int .i64 h]), (1, .slice A k cc)] #[.int .i64 a, .int .i64 b, .int .i64 c, .int .i64 d, .int .i64 e, .int .i64 f, .int .i64 h, .slice A k cc, .int .i64 0, .slice none 0 0] := fun w => by kernel_rfl
theorem bdRF (s : Nat) : BuildOk Tryz.prog 159 [(0, .pointer (some ⟨s, 0, none⟩))] #[.pointer (some ⟨s, 0, none⟩), .pointer none, .bool false] := fun w => by kernel_rfl
theorem bdRT (m : Nat) (A : Option Addr) (k cc : Nat) : BuildOk Tryz.prog 153 [(0, .pointer (some ⟨m, 0, none⟩)), (1, .slice A k cc)] #[.pointer (some ⟨m, 0, none⟩), .slice A k cc] := fun w => by kernel_rfl
theorem p11_is : PlIs (pD 500 40) := pD_is (by decide) (by decide) (by decide) (by decide)
theorem flat_pos {k : Nat} (h : 1 ≤ k) : 0 < ((List.replicate k [Value.int .i64 0, .slice none 0 0]).flatten).length := by
  obtain ⟨j, rfl⟩ : ∃ j, k = j + 1 := ⟨k - 1, by omega⟩
  rw [List.replicate_succ, List.flatten_cons, List.length_append]
  exact Nat.lt_of_lt_of_le (by decide : 0 < [Value.int .i64 0, Value.slice none 0 0].length) (Nat.le_add_right _ _)
theorem refStore0 {p : Pl} (h1 : 1 ≤ p.ino) (h2 : p.ino ≤ 4096) : Spec Tryz.prog 117 #[.agg p.cells] [] fun F v M => ∃ s, v = .pointer (some ⟨s, 0, none⟩) ∧ M = F := by
  refine Spec.intro Tryz.func117 rfl rfl fun B F => ?_
  simp only [Tryz.ntmps117, List.cons_append, List.nil_append, env0, Nat.reduceAdd]
  refine .sr ?_
  refine .box fun b1 => ?_
  refine .to (A := pt b1 (.cells p.cells 199 (0, 0))) (A' := pt b1 (.cells p.cells 199 (0, 0))) (fun h hh => hh) ?_
  refine .assign (.z (.seq ?_))
  refine .dr ([pt b1 (.cells p.cells 199 (0, 0))]) [] 7 mixed .autoJ ?_
  refine .tk 0 rfl (.ldA agg199) ?_
  refine .tk 1 rfl (.fa fo199_1) ?_
  refine .tk 2 rfl (.ld sc3) ?_
  refine .on 3 rfl fun hnp => ?_
  refine .mkSt (k := p.ino) (zs := [.int .i64 0, .slice none 0 0]) z244 rfl (by decide) (fun b7 => ?_) so245 (by omega) (by omega)
  refine .nil (.wa hnp ?_)
  refine .tk 4 rfl (.build (bdSto _ _ _ _ _ _ _ _ _ _)) ?_
  refine .on 5 rfl fun hnp => ?_
  refine .box fun b9 => ?_
  refine .nil (.wa hnp ?_)
  refine .tk 6 rfl .assign ?_
  refine .fin ?_
  refine .next (.sr (.move ?_))
  refine .nilCheck ?_
  refine .fa ?_ fo247_1
  refine .ld ?_ sc245
  refine .idx ?_ so245
  refine .fa ?_ fo244_0
  refine .stL (xs := (List.replicate p.ino [Value.int .i64 0, .slice none 0 0]).flatten) (i := 0) ?_ sc3 (flat_pos h1)
  refine .x (.move (.assign (.z ?_)))
  refine .ret (?_)
  exact .ret1 (h1 := .tmp (t := 2) rfl) ⟨_, ⟨b9, rfl, rfl⟩, Am.auto⟩
theorem refMakeOk {p : Pl} (h : PlIs p) : Spec Tryz.prog 116 #[nI p.n, nI p.ino] [] fun F v M => v = .tuple #[.agg p.cells, .int .i64 0] ∧ M = F := by
  have h2 := h.bm; have h3 := h.m1; have h4 := h.da; have h5 := h.dc; have h8 := h.n2; have h9 := h.i1; have h10 := h.i2; have h11 := h.d1
  refine Spec.post (refMakeS (n := p.n) (ino := p.ino) (by omega) h8 h9 h10) ?_
  rintro F v M ⟨⟨q, hq, hn, hi, rfl⟩ | ⟨rfl, hno⟩, rfl⟩
  · rw [hq.one h hn hi]; exact ⟨_, ⟨rfl, rfl⟩, Wk.refl⟩
  · exact absurd (hno p h rfl rfl) id
theorem refFs0 {p : Pl} (h : PlIs p) : Spec Tryz.prog 57 #[nI p.n, nI p.ino] [] fun F v M => ∃ m, v = .tuple #[.pointer (some ⟨m, 0, none⟩), .int .i64 0] ∧ M = F := by
  refine Spec.intro Tryz.func57 rfl rfl fun B F => ?_
  simp only [Tryz.ntmps57, List.cons_append, List.nil_append, env0, Nat.reduceAdd]
  refine .sr (.assign (.assign (.x (.move (.move ?_)))))
  refine .call (hc := Tryz.call116) (sp := refMakeOk h) (h := ?_)
  rintro _ _ ⟨rfl, hM⟩
  obtain rfl := hM.symm
  refine .move ?_
  refine .extract ?_
  refine .extract ?_
  refine .alloc z199 fun b6 => ?_
  refine .stV ?_ agg199
  refine .to (A := pt b6 (.cells p.cells 199 (0, 0))) (A' := pt b6 (.cells p.cells 199 (0, 0))) (fun h hh => hh) ?_
  refine .assign (.z (.seq (.sr (.move ?_))))
  refine .nei ?_
  refine .z ?_
  refine .condF rfl (congrArg Value.bool (by first | (simp; done) | (simp; omega) | omega)) ?_
  refine .skip (.next (.sr ?_))
  refine .ldA ?_ agg199
  refine .call (hc := Tryz.call117) (sp := refStore0 (p := p) h.i1 h.i2) (h := ?_)
  rintro _ _ ⟨s, rfl, rfl⟩
  refine .build ?_ (bdRF _)
  refine .box fun b20 => ?_
  refine .assign (.assign (.z ?_))
  refine .ret (?_)
  exact .ret2 (h1 := .tmp (t := 4) rfl) (h2 := .tmp (t := 5) rfl) ⟨_, ⟨b20, rfl, rfl⟩, Am.auto⟩
theorem refTb0 {m : Nat} : Spec Tryz.prog 82 #[.pointer (some ⟨m, 0, none⟩)] [] fun F v M => ∃ u, v = .pointer (some ⟨u, 0, none⟩) ∧ M = F := by
  refine Spec.intro Tryz.func82 rfl rfl fun B F => ?_
  simp only [Tryz.ntmps82, List.cons_append, List.nil_append, env0, Nat.reduceAdd]
  refine .sr (.assign (.x (.move ?_)))
  refine .mkSt (k := 32) (zs := [.string ⟨#[]⟩, .int .i64 0, .bool false]) z155 rfl (by decide) (fun b4 => ?_) so151 (by decide) (by decide)
  refine .build ?_ (bdRT _ _ _ _)
  refine .box fun b6 => ?_
  refine .assign (.z ?_)
  refine .ret (?_)
  exact .ret1 (h1 := .tmp (t := 2) rfl) ⟨_, ⟨b6, rfl, rfl⟩, Am.auto⟩
theorem bsB3 (a b c : Int) : BuildSOk Tryz.prog 33 3 [(0, .int .u8 a), (1, .int .u8 b), (2, .int .u8 c)] 5 #[.int .u8 a, .int .u8 b, .int .u8 c] := fun w => by kernel_rfl
theorem litU : litOk Tryz.prog 33 = true := by kernel_rfl
def aT (b : Bytes) : FT := fun i => if i = 0 then some (.dir [some ([97], 1)]) else if i = 1 then some (.file b) else none
theorem aT_ok (b : Bytes) : TOk (aT b) := by
  intro d sl h
  unfold aT at h
  split at h
  · injection h with h; injection h with h; subst h
    refine ⟨⟨fun q n i h => ?_, fun q r n i j h1 h2 => ?_⟩, by decide⟩
    · rcases q with _ | q
      · injection h with h; injection h with h; injection h with h1 h2; subst h1; subst h2; exact ⟨by decide, by decide⟩
      · simp at h
    · rcases q with _ | q
      · rcases r with _ | r
        · rfl
        · simp at h2
      · simp at h1
  · split at h
    · injection h with h; cases h
    · cases h
theorem aT_file (b : Bytes) : fileT (aT b) [47, 97] = (1, 1, b.length, 0) := rfl
theorem aT_leads (b : Bytes) : leadsT (aT b) [47, 97] = (1, 1, b.length, 0) := rfl
theorem aT_1 (b : Bytes) : aT b 1 = some (.file b) := rfl
theorem root_leads : (leadsT rootT [47, 97]).2.2.2 = 4 := rfl
theorem aT_upd (b b' : Bytes) : updT (aT b) 1 (some (.file b')) = aT b' := by
  funext i
  unfold updT aT
  by_cases h : i = 1
  · subst h; rfl
  · rw [if_neg h]
    by_cases h0 : i = 0
    · rw [if_pos h0, if_pos h0]
    · rw [if_neg h0, if_neg h0, if_neg h, if_neg h]
theorem mkT_a : mkT rootT 0 [] [97] 1 (.file []) = aT [] := by
  funext i
  unfold mkT updT rootT aT
  by_cases h0 : i = 0
  · rw [if_pos h0, if_pos h0]; rfl
  · rw [if_neg h0, if_neg h0]
    by_cases h1 : i = 1
    · rw [if_pos h1, if_neg h0]
    · rw [if_neg h1, if_neg h0]
theorem tot_aT (b : Bytes) {n : Nat} (h : 2 ≤ n) : tot (fmT (aT b)) n = 1 + has b.length := by
  obtain ⟨k, rfl⟩ : ∃ k, n = k + 2 := ⟨n - 2, by omega⟩
  clear h
  induction k with
  | zero =>
    show 0 + has 64 + has b.length = _
    rw [has_64]
  | succ k ih =>
    show tot (fmT (aT b)) (k + 2) + hasO (fmT (aT b) (k + 2)) = _
    rw [ih]
    have : fmT (aT b) (k + 2) = none := fmT_none (by unfold aT; rw [if_neg (by omega), if_neg (by omega)])
    rw [this]; rfl
theorem has_up (n : Nat) : has n ≤ (n + 511) / 512 + 1 := by
  unfold has dat
  split <;> omega
theorem has_dn (n : Nat) : (n + 511) / 512 ≤ has n := by
  unfold has dat
  split <;> omega
abbrev AFs (f : Nat) (b : Bytes) : HP := FSR f (pD 500 40) (aT b)
theorem fsCreateA {f : Nat} : Spec Tryz.prog 17 #[.pointer (some ⟨f, 0, none⟩), sv [47, 97]] [FSR f (pD 500 40) rootT] fun F v M => v = okV ∧ M = AFs f [] :: F := by
  have := fsCreate (f := f) (p := pD 500 40) (T := rootT) (path := [47, 97]) (d := 0) (i := 1) (nm := [97]) (sl := []) (x := .file []) p11_is.ok rootT_ok (by decide) (by decide) rfl rfl rfl (by decide) rfl (root_least (by decide)) rfl rfl (.inr (by decide)) (by rw [tot_rootT]; decide)
  rwa [mkT_a] at this
theorem fsWriteA {f at' m cc : Nat} {b bs : Bytes} {R : HP} {A : Option Addr} (hR : bs = [] ∨ Reads R A (bvs bs)) (hm : bs.length = m) (hcc : m ≤ cc) (hcb : cc ≤ maxLen) (hat : at' ≤ b.length) (hm3 : m ≤ 4000) (hbg : at' + m ≤ 60000) (hbl : b.length ≤ 60000) :
    Spec Tryz.prog 75 #[.pointer (some ⟨f, 0, none⟩), sv [47, 97], nI at', .slice A m cc] [AFs f b, R] fun F v M => v = okV ∧ M = AFs f (wrB b at' bs) :: R :: F := by
  have h1 := has_up (max b.length (at' + m))
  have h2 := has_dn b.length
  have := fsWrite (f := f) (p := pD 500 40) (T := aT b) (path := [47, 97]) (at' := at') (bs := bs) (R := R) (A := A) (m := m) (cc := cc) p11_is.ok (aT_ok _) (by decide) (aT_file _) (aT_1 _) hR hm hcc hcb (.inr (by show 248 - 245 + 0 + _ ≤ 60; omega)) hat (by omega) (by
    rw [tot_aT _ (by decide)]
    have : (pD 500 40).dc = 247 := rfl
    omega)
  rwa [aT_upd] at this
theorem fsAppendA {f m cc : Nat} {b bs : Bytes} {R : HP} {A : Option Addr} (hR : bs = [] ∨ Reads R A (bvs bs)) (hm : bs.length = m) (hcc : m ≤ cc) (hcb : cc ≤ maxLen) (hm3 : m ≤ 4000) (hbg : b.length + m ≤ 60000) :
    Spec Tryz.prog 18 #[.pointer (some ⟨f, 0, none⟩), sv [47, 97], .slice A m cc] [AFs f b, R] fun F v M => v = okV ∧ M = AFs f (wrB b b.length bs) :: R :: F := by
  have h1 := has_up (max b.length (b.length + m))
  have h2 := has_dn b.length
  have := fsAppend (f := f) (p := pD 500 40) (T := aT b) (path := [47, 97]) (bs := bs) (R := R) (A := A) (m := m) (cc := cc) p11_is.ok (aT_ok _) (by decide) (aT_file _) (aT_1 _) hR hm hcc hcb (.inr (by show 248 - 245 + 0 + _ ≤ 60; omega)) (Nat.le_refl _) (by omega) (by
    rw [tot_aT _ (by decide)]
    have : (pD 500 40).dc = 247 := rfl
    omega)
  rwa [aT_upd] at this
theorem fsReadA {f k n : Nat} {b : Bytes} (hk : k ≤ 9223372036854775807) (hn : n ≤ 9223372036854775807) : Spec Tryz.prog 48 #[.pointer (some ⟨f, 0, none⟩), sv [47, 97], nI k, nI n] [AFs f b] fun F v M => ∃ u, v = .tuple #[u, .int .i64 0] ∧ M = rowR 5 1 u ((b.drop k).take n).length (bvs ((b.drop k).take n)) :: AFs f b :: F :=
  fsRead p11_is.ok (aT_ok _) (by decide) (aT_file _) (aT_1 _) hk hn
theorem tbOpenMk {t f : Nat} : Spec Tryz.prog 31 #[.pointer (some ⟨t, 0, none⟩), sv [47, 97], .bool true] [TB t f [], FSR f (pD 500 40) rootT] fun F v M => v = .tuple #[.int .i64 0, .int .i64 0] ∧ M = TB t f [((0 : Int), opV [47, 97] 0)] :: AFs f [] :: F :=
  tOpenMake (fd := 0) p11_is.ok rootT_ok (by decide) (aT_ok _) root_leads (aT_leads []) fsCreateA (by decide) rfl (fun j hj => absurd hj (Nat.not_lt_zero j)) (by decide)
theorem l11Fresh : Spec Tryz.prog 27 #[] [] fun F v M => ∃ f t m u, v = .tuple #[.pointer (some ⟨f, 0, none⟩), .pointer (some ⟨t, 0, none⟩), .pointer (some ⟨m, 0, none⟩), .pointer (some ⟨u, 0, none⟩), .bool true] ∧ M = TB t f [] :: FSR f (pD 500 40) rootT :: F := by
  refine Spec.intro Tryz.func27 rfl rfl fun B F => ?_
  simp only [Tryz.ntmps27, List.cons_append, List.nil_append, env0, Nat.reduceAdd]
  refine .sr (.assign (.assign (.assign (.assign (.assign (.x ?_))))))
  refine .call (hc := Tryz.call62) (sp := devNew (n := 500) (by decide) (by decide)) (h := ?_)
  rintro _ _ ⟨d, rfl, rfl⟩
  refine .move ?_
  refine .extract ?_
  refine .extract ?_
  refine .assign (.assign (.x ?_))
  refine .call (hc := Tryz.call57) (sp := refFs0 p11_is) (h := ?_)
  rintro _ _ ⟨m, rfl, rfl⟩
  refine .move ?_
  refine .extract ?_
  refine .extract ?_
  refine .assign (.assign (.z (.seq (.sr (.move ?_)))))
  refine .nei ?_
  refine .move ?_
  refine .gT ?_
  refine .move ?_
  refine .gT ?_
  refine .nei ?_
  refine .pickF ?_
  refine .move ?_
  refine .gT ?_
  refine .move ?_
  refine .gT ?_
  refine .eqNil ?_ ptr22
  refine .pickF ?_
  refine .move ?_
  refine .gT ?_
  refine .move ?_
  refine .gT ?_
  refine .call (hc := Tryz.call63) (sp := fsMkfs p11_is) (h := ?_)
  rintro _ _ ⟨J, rfl, hJ, rfl⟩
  refine .gT ?_
  refine .nei ?_
  refine .pickF ?_
  refine .z ?_
  refine .condF rfl (congrArg Value.bool (by first | (simp; done) | (simp; omega) | omega)) ?_
  refine .skip (.next (.sr (.move ?_)))
  refine .call (hc := Tryz.call64) (sp := fsMountNew p11_is hJ) (h := ?_)
  rintro _ _ ⟨f, rfl, rfl⟩
  refine .move ?_
  refine .extract ?_
  refine .extract ?_
  refine .assign (.assign (.x (.move ?_)))
  refine .call (hc := Tryz.call81) (sp := tbNew (f := f)) (h := ?_)
  rintro _ _ ⟨t, rfl, rfl⟩
  refine .assign (.x (.move (.move (.move (.move ?_)))))
  refine .call (hc := Tryz.call82) (sp := refTb0 (m := m)) (h := ?_)
  rintro _ _ ⟨u, rfl, rfl⟩
  refine .move ?_
  refine .eqi ?_
  refine .move ?_
  refine .gT ?_
  refine .move ?_
  refine .gT ?_
  refine .neNil ?_ ptr23
  refine .pickT ?_
  refine .move ?_
  refine .gT ?_
  refine .move ?_
  refine .gT ?_
  refine .neNil ?_ ptr55
  refine .pickT ?_
  refine .assign (.assign (.assign (.assign (.assign (.z ?_)))))
  refine .ret (?_)
  exact .ret5 (h1 := .tmp (t := 0) rfl) (h2 := .tmp (t := 1) rfl) (h3 := .tmp (t := 2) rfl) (h4 := .tmp (t := 3) rfl) (h5 := .tmp (t := 4) rfl) ⟨_, ⟨f, t, m, u, rfl, rfl⟩, Am.auto⟩
theorem l11Awake : Spec Tryz.prog 26 #[] [] fun F v M => v = .bool true ∧ M = F := by
  refine Spec.intro Tryz.func26 rfl rfl fun B F => ?_
  simp only [Tryz.ntmps26, List.cons_append, List.nil_append, env0, Nat.reduceAdd]
  refine .sr (.assign (.x ?_))
  refine .call (hc := Tryz.call27) (sp := l11Fresh) (h := ?_)
  rintro _ _ ⟨f, t, m, u, rfl, rfl⟩
  refine .move ?_
  refine .extract ?_
  refine .extract ?_
  refine .extract ?_
  refine .extract ?_
  refine .extract ?_
  refine .assign (.assign (.assign (.assign (.assign (.z (.seq (.sr (.move ?_))))))))
  refine .not ?_
  refine .z ?_
  refine .condF rfl rfl ?_
  refine .skip (.next (.sr (.move ?_)))
  refine .call (hc := Tryz.call31) (sp := tbOpenMk (t := t) (f := f)) (h := ?_)
  rintro _ _ ⟨rfl, rfl⟩
  refine .move ?_
  refine .extract ?_
  refine .extract ?_
  refine .assign (.assign (.z (.seq (.sr (.move ?_)))))
  refine .nei ?_
  refine .move ?_
  refine .gT ?_
  refine .move ?_
  refine .gT ?_
  refine .nei ?_
  refine .pickF ?_
  refine .move ?_
  refine .cast (d := 30) (u := .bool false) rfl (congrArg Value.bool (by first | (simp; done) | (simp; omega) | omega)) ?_
  refine .gT ?_
  refine .move ?_
  refine .gT ?_
  refine .buildS (fun b32 => ?_) (bsB3 _ _ _)
  refine .gT ?_
  refine .cvtLit ?_ litU
  refine .gT ?_
  refine .call (hc := Tryz.call78) (sp := tWriteF (t := t) (f := f) (kv := [((0 : Int), opV [47, 97] 0)]) (fd := 0) (path := [47, 97]) (at' := 0) (m := 3) (cc := 3) (R := pt b32 (.cells #[.int .u8 97, .int .u8 98, .int .u8 99] 5 (3, 4))) (A := some ⟨b32, 0, none⟩) rfl (fsWriteA (b := []) (bs := [97, 98, 99]) (.inr Reads.pt) rfl (Nat.le_refl _) (by decide) (Nat.le_refl _) (by decide) (by decide) (by decide)) (by decide)) (h := ?_)
  rintro _ _ ⟨rfl, rfl⟩
  refine .gT ?_
  refine .nei ?_
  refine .pickF ?_
  refine .move ?_
  refine .cast (d := 37) (u := .bool false) rfl (congrArg Value.bool (by first | (simp; done) | (simp; omega) | omega)) ?_
  refine .gT ?_
  refine .move ?_
  refine .gT ?_
  refine .call (hc := Tryz.call79) (sp := tSeek (t := t) (f := f) (kv := [((0 : Int), opV [47, 97] (0 + 3))]) (fd := 0) (path := [47, 97]) (at' := 0 + 3) (k := 1) rfl) (h := ?_)
  rintro _ _ ⟨rfl, rfl⟩
  refine .gT ?_
  refine .nei ?_
  refine .pickF ?_
  refine .z ?_
  refine .condF rfl (congrArg Value.bool (by first | (simp; done) | (simp; omega) | omega)) ?_
  refine .skip (.next (.sr (.move ?_)))
  refine .call (hc := Tryz.call80) (sp := tbRead (t := t) (f := f) (kv := [((0 : Int), opV [47, 97] 1)]) (fd := 0) (path := [47, 97]) (at' := 1) (n := 9) rfl (fsReadA (b := wrB [] 0 [97, 98, 99]) (by decide) (by decide)) (by decide)) (h := ?_)
  rintro _ _ ⟨u2, rfl, rfl⟩
  refine .fact (rowR_shape (el := 5) (size := 1) (v := u2) (k := 2) (xs := bvs [98, 99])) (fun ⟨A, cc, hu, hR, hc1, hc2, hlen⟩ => ?_)
  subst hu
  refine .move ?_
  refine .extract ?_
  refine .extract ?_
  refine .assign (.assign (.x (.move ?_)))
  refine .eqi ?_
  refine .move ?_
  refine .gT ?_
  refine .move ?_
  refine .gT ?_
  refine .cvtBS (R := rowR 5 1 (.slice A 2 cc) 2 (bvs [98, 99])) (xs := [98, 99]) ?_ by33 st9 hR rfl
  refine .gT ?_
  refine .eqS [98, 99] [98, 99] ?_
  refine .pickT ?_
  refine .move ?_
  refine .gT ?_
  refine .move ?_
  refine .gT ?_
  refine .call (hc := Tryz.call56) (sp := tClose (t := t) (f := f) (kv := [((0 : Int), opV [47, 97] 3)]) (fd := 0) (path := [47, 97]) (at' := 3) rfl) (h := ?_)
  rintro _ _ ⟨rfl, rfl⟩
  refine .gT ?_
  refine .eqi ?_
  refine .pickT ?_
  refine .move ?_
  refine .gT ?_
  refine .move ?_
  refine .gT ?_
  refine .call (hc := Tryz.call56) (sp := tCloseNo (t := t) (f := f) (kv := []) (fd := 0) rfl) (h := ?_)
  rintro _ _ ⟨rfl, rfl⟩
  refine .gT ?_
  refine .eqi ?_
  refine .pickT ?_
  refine .assign (.z ?_)
  refine .ret (?_)
  exact .ret1 (h1 := .tmp (t := 0) rfl) ⟨_, ⟨rfl, rfl⟩, Am.auto⟩
end Go.Proofs.YtdmjkjeoamiedaaGreatDoor
end
section
namespace Go.Proofs.YtdmjkjeoamiedaaGreatDoor
open Go
theorem sl188 : Tryz.prog.underlying 188 = some (.slice 192) := by kernel_rfl
def RemErr (T : FT) (path : Bytes) (e : Nat) : Prop :=
  (parentT T path).2.2 = e ∨ ∃ d nm i fe, parentT T path = (d, nm, 0) ∧ findT T d nm = (i, fe) ∧ (fe = e ∨ (fe = 0 ∧ e = 7 ∧ ∃ sl, T i = some (.dir sl) ∧ entsS sl ≠ []))
def rmT (T : FT) (d : Nat) (sl : List Slot) (q i : Nat) : FT := updT (updT T d (some (.dir (setS sl q none)))) i none
def NodeT.bare : NodeT → Prop
  | .file _ => True
  | .dir sl => entsS sl = []
theorem fsRemoveCE {f s a c mp : Nat} {p : Pl} {T : FT} {path : Bytes} {b2 b3 e : Nat} (ho : PlOk p) (hT : TOk T) (hpl : path.length ≤ 1000000) (hm : RemErr T path e) (he : e ≠ 0) : Spec Tryz.prog 108 #[.pointer (some ⟨b2, 0, none⟩), .pointer (some ⟨b3, 0, none⟩)] [pt f (fO c a s false false false mp), LD mp T, IN s a c p (fmT T) (fmT T) 0 true, bun [pt b2 (.cells #[.pointer (some ⟨f, 0, none⟩)] 23 (0, 0)), pt b3 (.cells #[sv path] 9 (0, 0))]] fun F v M => v = nI e ∧ M = pt f (fO c a s false false false mp) :: LD mp T :: IN s a c p (fmT T) (fmT T) 0 true :: bun [pt b2 (.cells #[.pointer (some ⟨f, 0, none⟩)] 23 (0, 0)), pt b3 (.cells #[sv path] 9 (0, 0))] :: F := by
  refine Spec.intro Tryz.func108 rfl rfl fun B F => ?_
  simp only [Tryz.ntmps108, List.cons_append, List.nil_append, env0, Nat.reduceAdd]
  refine .openR (bun.opens _) fun _ _ => ?_
  simp only [List.cons_append, List.nil_append]
  rcases hm with hm | ⟨d, nm, i, fe, hpar, hfi, hm | ⟨rfl, rfl, sl, hTi, hne⟩⟩
  · obtain ⟨d, nm, pe, hpar⟩ : ∃ d nm pe, parentT T path = (d, nm, pe) := ⟨_, _, _, rfl⟩
    rw [hpar] at hm
    simp only at hm
    subst hm
    refine .sr (.assign (.x ?_))
    refine .ld ?_ sc23
    refine .ld ?_ sc9
    refine .call (hc := Tryz.call109) (sp := fsParent (f := f) (s := s) (a := a) (c := c) (mp := mp) (b := false) (ov := false) (dead := false) (p := p) (T := T) (F0 := fmT T) (W := 0) (op := true) (path := path) ho hT hpl) (h := ?_)
    rintro _ _ ⟨rfl, rfl⟩
    rw [hpar]
    refine .move ?_
    refine .extract ?_
    refine .extract ?_
    refine .extract ?_
    refine .assign (.assign (.assign (.z (.seq (.sr (.move ?_))))))
    refine .nei ?_
    refine .z ?_
    refine .condT rfl (congrArg Value.bool (by first | (simp; done) | (simp; omega) | omega)) ?_
    refine .sr (.move (.assign (.z ?_)))
    refine .ret (.thenRet (?_))
    refine .shutR (bun.opens [pt b2 (.cells #[.pointer (some ⟨f, 0, none⟩)] 23 (0, 0)), pt b3 (.cells #[sv path] 9 (0, 0))]) () trivial ?_
    exact .ret1 (h1 := .tmp (t := 2) rfl) ⟨_, ⟨rfl, rfl⟩, Am.auto⟩
  · subst hm
    refine .sr (.assign (.x ?_))
    refine .ld ?_ sc23
    refine .ld ?_ sc9
    refine .call (hc := Tryz.call109) (sp := fsParent (f := f) (s := s) (a := a) (c := c) (mp := mp) (b := false) (ov := false) (dead := false) (p := p) (T := T) (F0 := fmT T) (W := 0) (op := true) (path := path) ho hT hpl) (h := ?_)
    rintro _ _ ⟨rfl, rfl⟩
    rw [hpar]
    refine .move ?_
    refine .extract ?_
    refine .extract ?_
    refine .extract ?_
    refine .assign (.assign (.assign (.z (.seq (.sr (.move ?_))))))
    refine .nei ?_
    refine .z ?_
    refine .condF rfl (congrArg Value.bool (by first | (simp; done) | (simp; omega) | omega)) ?_
    refine .skip (.next (.sr ?_))
    refine .ld ?_ sc23
    refine .move (.move ?_)
    refine .call (hc := Tryz.call110) (sp := fsFind (f := f) (s := s) (a := a) (c := c) (mp := mp) (b := false) (ov := false) (dead := false) (p := p) (T := T) (F0 := fmT T) (W := 0) (op := true) (d := d) (nm := nm) ho hT) (h := ?_)
    rintro _ _ ⟨rfl, rfl⟩
    rw [hfi]
    refine .move ?_
    refine .extract ?_
    refine .extract ?_
    refine .assign (.assign (.z (.seq (.sr (.move ?_)))))
    refine .nei ?_
    refine .z ?_
    refine .condT rfl (congrArg Value.bool (by first | (simp; done) | (simp; omega) | omega)) ?_
    refine .sr (.move (.assign (.z ?_)))
    refine .ret (.thenRet (?_))
    refine .shutR (bun.opens [pt b2 (.cells #[.pointer (some ⟨f, 0, none⟩)] 23 (0, 0)), pt b3 (.cells #[sv path] 9 (0, 0))]) () trivial ?_
    exact .ret1 (h1 := .tmp (t := 2) rfl) ⟨_, ⟨rfl, rfl⟩, Am.auto⟩
  · refine .sr (.assign (.x ?_))
    refine .ld ?_ sc23
    refine .ld ?_ sc9
    refine .call (hc := Tryz.call109) (sp := fsParent (f := f) (s := s) (a := a) (c := c) (mp := mp) (b := false) (ov := false) (dead := false) (p := p) (T := T) (F0 := fmT T) (W := 0) (op := true) (path := path) ho hT hpl) (h := ?_)
    rintro _ _ ⟨rfl, rfl⟩
    rw [hpar]
    refine .move ?_
    refine .extract ?_
    refine .extract ?_
    refine .extract ?_
    refine .assign (.assign (.assign (.z (.seq (.sr (.move ?_))))))
    refine .nei ?_
    refine .z ?_
    refine .condF rfl (congrArg Value.bool (by first | (simp; done) | (simp; omega) | omega)) ?_
    refine .skip (.next (.sr ?_))
    refine .ld ?_ sc23
    refine .move (.move ?_)
    refine .call (hc := Tryz.call110) (sp := fsFind (f := f) (s := s) (a := a) (c := c) (mp := mp) (b := false) (ov := false) (dead := false) (p := p) (T := T) (F0 := fmT T) (W := 0) (op := true) (d := d) (nm := nm) ho hT) (h := ?_)
    rintro _ _ ⟨rfl, rfl⟩
    rw [hfi]
    refine .move ?_
    refine .extract ?_
    refine .extract ?_
    refine .assign (.assign (.z (.seq (.sr (.move ?_)))))
    refine .nei ?_
    refine .z ?_
    refine .condF rfl (congrArg Value.bool (by first | (simp; done) | (simp; omega) | omega)) ?_
    refine .skip (.next (.seq (.sr ?_)))
    refine .ld ?_ sc23
    refine .nilCheck ?_
    refine .fa ?_ fo129_2
    refine .ld ?_ sc126
    refine .move ?_
    refine .call (hc := Tryz.call111) (sp := dList (s := s) (a := a) (c := c) (p := p) (F0 := fmT T) (Fm := fmT T) (W := 0) (d := i) (op := true) (sl := sl) ho (fmT_some hTi) (hT _ _ hTi).1 (by have := (hT _ _ hTi).2; omega)) (h := ?_)
    rintro _ _ ⟨u, l, rfl, ⟨hpm, hso⟩, rfl⟩
    have hll := hpm.length_eq
    refine .fact (rowR_shape (el := 192) (size := 2) (v := u) (k := l.length) (xs := l.flatMap entL)) (fun ⟨A, cc, hu, hR, hc1, hc2, hlen⟩ => ?_)
    subst hu
    have hlp : 0 < l.length := by rw [hll]; exact List.length_pos_iff.2 hne
    refine .move ?_
    refine .extract ?_
    refine .extract ?_
    refine .assign (.assign (.x (.move ?_)))
    refine .eqi ?_
    refine .move ?_
    refine .cast (d := 41) (u := .bool true) rfl (congrArg Value.bool (by first | (simp; done) | (simp; omega) | omega)) ?_
    refine .gT ?_
    refine .move ?_
    refine .gT ?_
    refine .lenS ?_ sl188
    refine .gT ?_
    refine .gtr ?_
    refine .pickT ?_
    refine .z ?_
    refine .condT rfl (congrArg Value.bool (by first | (simp; done) | (simp; omega) | omega)) ?_
    refine .sr (.assign (.z ?_))
    refine .ret (.thenRet (?_))
    refine .shutR (bun.opens [pt b2 (.cells #[.pointer (some ⟨f, 0, none⟩)] 23 (0, 0)), pt b3 (.cells #[sv path] 9 (0, 0))]) () trivial ?_
    exact .ret1 (h1 := .tmp (t := 2) rfl) ⟨_, ⟨rfl, rfl⟩, Am.auto⟩
theorem fsRemoveC {f s a c mp : Nat} {p : Pl} {T : FT} {path : Bytes} {b2 b3 : Nat} (ho : PlOk p) (hT : TOk T) (hpl : path.length ≤ 1000000) {d i q : Nat} {nm : Bytes} {sl : List Slot} {x : NodeT} (hpar : parentT T path = (d, nm, 0)) (hd : T d = some (.dir sl)) (hnm : nameOk nm = true) (hl : lookS nm sl = some (q, i)) (hx : T i = some x) (hbx : x.bare) (hid : i ≠ d) (hi0 : i ≠ 0) (hw : Rw p 0 13) (hfit : tot (fmT T) p.ino ≤ p.dc) : Spec Tryz.prog 108 #[.pointer (some ⟨b2, 0, none⟩), .pointer (some ⟨b3, 0, none⟩)] [pt f (fO c a s false false false mp), LD mp T, IN s a c p (fmT T) (fmT T) 0 true, bun [pt b2 (.cells #[.pointer (some ⟨f, 0, none⟩)] 23 (0, 0)), pt b3 (.cells #[sv path] 9 (0, 0))]] fun F v M => v = okV ∧ M = pt f (fO c a s false false false mp) :: LD mp T :: IN s a c p (fmT T) (fmT (rmT T d sl q i)) 8 true :: bun [pt b2 (.cells #[.pointer (some ⟨f, 0, none⟩)] 23 (0, 0)), pt b3 (.cells #[sv path] 9 (0, 0))] :: F := by
  refine Spec.intro Tryz.func108 rfl rfl fun B F => ?_
  simp only [Tryz.ntmps108, List.cons_append, List.nil_append, env0, Nat.reduceAdd]
  refine .openR (bun.opens _) fun _ _ => ?_
  simp only [List.cons_append, List.nil_append]
  have hfi : findT T d nm = (i, 0) := by unfold findT; rw [if_pos hnm]; simp only [hd, hl]
  have hF1 : updM (fmT T) d (some (2, dirB (setS sl q none))) = fmT (updT T d (some (.dir (setS sl q none)))) := fmT_updS T d (.dir _)
  have hx1 : fmT (updT T d (some (.dir (setS sl q none)))) i = some x.f := fmT_some (by rw [updT_other _ _ hid]; exact hx)
  have hto := hT d sl hd
  cases x with
  | file b =>
    refine .sr (.assign (.x ?_))
    refine .ld ?_ sc23
    refine .ld ?_ sc9
    refine .call (hc := Tryz.call109) (sp := fsParent (f := f) (s := s) (a := a) (c := c) (mp := mp) (b := false) (ov := false) (dead := false) (p := p) (T := T) (F0 := fmT T) (W := 0) (op := true) (path := path) ho hT hpl) (h := ?_)
    rintro _ _ ⟨rfl, rfl⟩
    rw [hpar]
    refine .move ?_
    refine .extract ?_
    refine .extract ?_
    refine .extract ?_
    refine .assign (.assign (.assign (.z (.seq (.sr (.move ?_))))))
    refine .nei ?_
    refine .z ?_
    refine .condF rfl (congrArg Value.bool (by first | (simp; done) | (simp; omega) | omega)) ?_
    refine .skip (.next (.sr ?_))
    refine .ld ?_ sc23
    refine .move (.move ?_)
    refine .call (hc := Tryz.call110) (sp := fsFind (f := f) (s := s) (a := a) (c := c) (mp := mp) (b := false) (ov := false) (dead := false) (p := p) (T := T) (F0 := fmT T) (W := 0) (op := true) (d := d) (nm := nm) ho hT) (h := ?_)
    rintro _ _ ⟨rfl, rfl⟩
    rw [hfi]
    refine .move ?_
    refine .extract ?_
    refine .extract ?_
    refine .assign (.assign (.z (.seq (.sr (.move ?_)))))
    refine .nei ?_
    refine .z ?_
    refine .condF rfl (congrArg Value.bool (by first | (simp; done) | (simp; omega) | omega)) ?_
    refine .skip (.next (.seq (.sr ?_)))
    refine .ld ?_ sc23
    refine .nilCheck ?_
    refine .fa ?_ fo129_2
    refine .ld ?_ sc126
    refine .move ?_
    refine .call (hc := Tryz.call111) (sp := dListE (s := s) (a := a) (c := c) (p := p) (F0 := fmT T) (Fm := fmT T) (W := 0) (op := true) (d := (i : Int)) (e := 6) ho (.inr (.inr ⟨rfl, ⟨1, b, by omega, by rw [Int.toNat_natCast]; exact fmT_some hx, by decide⟩, rfl⟩)) (by decide)) (h := ?_)
    rintro _ _ ⟨rfl, rfl⟩
    refine .move ?_
    refine .extract ?_
    refine .extract ?_
    refine .assign (.assign (.x (.move ?_)))
    refine .eqi ?_
    refine .move ?_
    refine .cast (d := 41) (u := .bool false) rfl (congrArg Value.bool (by first | (simp; done) | (simp; omega) | omega)) ?_
    refine .gF ?_
    refine .gF ?_
    refine .gF ?_
    refine .pickF ?_
    refine .z ?_
    refine .condF rfl rfl ?_
    refine .skip (.next (.seq (.sr ?_)))
    refine .ld ?_ sc23
    refine .nilCheck ?_
    refine .fa ?_ fo129_2
    refine .ld ?_ sc126
    refine .move (.move ?_)
    refine .call (hc := Tryz.call100) (sp := dRemove (s := s) (a := a) (c := c) (p := p) (F0 := fmT T) (Fm := fmT T) (W := 0) (d := d) (nm := nm) (sl := sl) ho hnm (fmT_some hd) hto.1 (by omega) (lookS_some hl) hw hfit) (h := ?_)
    rintro _ _ ⟨rfl, rfl⟩
    rw [hF1]
    refine .assign (.x (.move ?_))
    refine .nei ?_
    refine .z ?_
    refine .condF rfl (congrArg Value.bool (by first | (simp; done) | (simp; omega) | omega)) ?_
    refine .skip (.next (.sr ?_))
    refine .ld ?_ sc23
    refine .nilCheck ?_
    refine .fa ?_ fo129_2
    refine .ld ?_ sc126
    refine .move ?_
    refine .call (hc := Tryz.call105) (sp := nDrop (s := s) (a := a) (c := c) (p := p) (F0 := fmT T) (F := fmT (updT T d (some (.dir (setS sl q none))))) (W := 0 + 8) (i := i) ho hx1 hi0 (by unfold Rw at hw ⊢; omega)) (h := ?_)
    rintro _ _ ⟨rfl, rfl⟩
    rw [show updM (fmT (updT T d (some (.dir (setS sl q none))))) i none = fmT (rmT T d sl q i) from fmT_updN _ _]
    refine .assign (.z ?_)
    refine .ret (?_)
    refine .shutR (bun.opens [pt b2 (.cells #[.pointer (some ⟨f, 0, none⟩)] 23 (0, 0)), pt b3 (.cells #[sv path] 9 (0, 0))]) () trivial ?_
    exact .ret1 (h1 := .tmp (t := 2) rfl) ⟨_, ⟨rfl, rfl⟩, Am.auto⟩
  | dir sl2 =>
    refine .sr (.assign (.x ?_))
    refine .ld ?_ sc23
    refine .ld ?_ sc9
    refine .call (hc := Tryz.call109) (sp := fsParent (f := f) (s := s) (a := a) (c := c) (mp := mp) (b := false) (ov := false) (dead := false) (p := p) (T := T) (F0 := fmT T) (W := 0) (op := true) (path := path) ho hT hpl) (h := ?_)
    rintro _ _ ⟨rfl, rfl⟩
    rw [hpar]
    refine .move ?_
    refine .extract ?_
    refine .extract ?_
    refine .extract ?_
    refine .assign (.assign (.assign (.z (.seq (.sr (.move ?_))))))
    refine .nei ?_
    refine .z ?_
    refine .condF rfl (congrArg Value.bool (by first | (simp; done) | (simp; omega) | omega)) ?_
    refine .skip (.next (.sr ?_))
    refine .ld ?_ sc23
    refine .move (.move ?_)
    refine .call (hc := Tryz.call110) (sp := fsFind (f := f) (s := s) (a := a) (c := c) (mp := mp) (b := false) (ov := false) (dead := false) (p := p) (T := T) (F0 := fmT T) (W := 0) (op := true) (d := d) (nm := nm) ho hT) (h := ?_)
    rintro _ _ ⟨rfl, rfl⟩
    rw [hfi]
    refine .move ?_
    refine .extract ?_
    refine .extract ?_
    refine .assign (.assign (.z (.seq (.sr (.move ?_)))))
    refine .nei ?_
    refine .z ?_
    refine .condF rfl (congrArg Value.bool (by first | (simp; done) | (simp; omega) | omega)) ?_
    refine .skip (.next (.seq (.sr ?_)))
    refine .ld ?_ sc23
    refine .nilCheck ?_
    refine .fa ?_ fo129_2
    refine .ld ?_ sc126
    refine .move ?_
    refine .call (hc := Tryz.call111) (sp := dList (s := s) (a := a) (c := c) (p := p) (F0 := fmT T) (Fm := fmT T) (W := 0) (d := i) (op := true) (sl := sl2) ho (fmT_some hx) (hT _ _ hx).1 (by have := (hT _ _ hx).2; omega)) (h := ?_)
    rintro _ _ ⟨u, l, rfl, ⟨hpm, hso⟩, rfl⟩
    have hll := hpm.length_eq
    refine .fact (rowR_shape (el := 192) (size := 2) (v := u) (k := l.length) (xs := l.flatMap entL)) (fun ⟨A, cc, hu, hR, hc1, hc2, hlen⟩ => ?_)
    subst hu
    have hlp : l.length = 0 := by have hb2 : entsS sl2 = [] := hbx; rw [hll, hb2]; rfl
    rw [hlp]
    refine .move ?_
    refine .extract ?_
    refine .extract ?_
    refine .assign (.assign (.x (.move ?_)))
    refine .eqi ?_
    refine .move ?_
    refine .cast (d := 41) (u := .bool true) rfl (congrArg Value.bool (by first | (simp; done) | (simp; omega) | omega)) ?_
    refine .gT ?_
    refine .move ?_
    refine .gT ?_
    refine .lenS ?_ sl188
    refine .gT ?_
    refine .gtr ?_
    refine .pickT ?_
    refine .z ?_
    refine .condF rfl (congrArg Value.bool (by first | (simp; done) | (simp; omega) | omega)) ?_
    refine .skip (.next (.seq (.sr ?_)))
    refine .ld ?_ sc23
    refine .nilCheck ?_
    refine .fa ?_ fo129_2
    refine .ld ?_ sc126
    refine .move (.move ?_)
    refine .call (hc := Tryz.call100) (sp := dRemove (s := s) (a := a) (c := c) (p := p) (F0 := fmT T) (Fm := fmT T) (W := 0) (d := d) (nm := nm) (sl := sl) ho hnm (fmT_some hd) hto.1 (by omega) (lookS_some hl) hw hfit) (h := ?_)
    rintro _ _ ⟨rfl, rfl⟩
    rw [hF1]
    refine .assign (.x (.move ?_))
    refine .nei ?_
    refine .z ?_
    refine .condF rfl (congrArg Value.bool (by first | (simp; done) | (simp; omega) | omega)) ?_
    refine .skip (.next (.sr ?_))
    refine .ld ?_ sc23
    refine .nilCheck ?_
    refine .fa ?_ fo129_2
    refine .ld ?_ sc126
    refine .move ?_
    refine .call (hc := Tryz.call105) (sp := nDrop (s := s) (a := a) (c := c) (p := p) (F0 := fmT T) (F := fmT (updT T d (some (.dir (setS sl q none))))) (W := 0 + 8) (i := i) ho hx1 hi0 (by unfold Rw at hw ⊢; omega)) (h := ?_)
    rintro _ _ ⟨rfl, rfl⟩
    rw [show updM (fmT (updT T d (some (.dir (setS sl q none))))) i none = fmT (rmT T d sl q i) from fmT_updN _ _]
    refine .assign (.z ?_)
    refine .ret (?_)
    refine .shutR (bun.opens [pt b2 (.cells #[.pointer (some ⟨f, 0, none⟩)] 23 (0, 0)), pt b3 (.cells #[sv path] 9 (0, 0))]) () trivial ?_
    exact .ret1 (h1 := .tmp (t := 2) rfl) ⟨_, ⟨rfl, rfl⟩, Am.auto⟩
theorem fsRemove {f : Nat} {p : Pl} {T : FT} {path : Bytes} (ho : PlOk p) (hT : TOk T) (hpl : path.length ≤ 1000000) {d i q : Nat} {nm : Bytes} {sl : List Slot} {x : NodeT} (hpar : parentT T path = (d, nm, 0)) (hd : T d = some (.dir sl)) (hnm : nameOk nm = true) (hl : lookS nm sl = some (q, i)) (hx : T i = some x) (hbx : x.bare) (hid : i ≠ d) (hi0 : i ≠ 0) (hw : Rw p 0 13) (hfit : tot (fmT T) p.ino ≤ p.dc) : Spec Tryz.prog 50 #[.pointer (some ⟨f, 0, none⟩), sv path] [FSR f p T] fun F v M => v = okV ∧ M = FSR f p (rmT T d sl q i) :: F := by
  refine Spec.intro Tryz.func50 rfl rfl fun B F => ?_
  simp only [Tryz.ntmps50, List.cons_append, List.nil_append, env0, Nat.reduceAdd]
  refine .openR (FSR.opens f p T) fun y _ => ?_
  obtain ⟨c, a, s, mp⟩ := y
  simp only [fsLs, List.cons_append, List.nil_append]
  refine .sr ?_
  refine .box fun b2 => ?_
  refine .box fun b3 => ?_
  refine .assign (.x ?_)
  refine .ld ?_ sc23
  refine .shutR (bun.opens [pt b2 (.cells #[.pointer (some ⟨f, 0, none⟩)] 23 (0, 0)), pt b3 (.cells #[sv path] 9 (0, 0))]) () trivial ?_
  refine .makeFuncB ?_
  refine .call (hc := Tryz.call92) (sp := fsChange (s := s) (a := a) (c := c) (p := p) (f := f) (mp := mp) (T := rmT T d sl q i) (S := T) ho (hc := Tryz.call108) (sp := (fsRemoveC (b2 := b2) (b3 := b3) ho hT hpl hpar hd hnm hl hx hbx hid hi0 hw hfit))) (h := ?_)
  rintro _ _ ⟨rfl, rfl⟩
  refine .assign (.z ?_)
  refine .ret (?_)
  refine .shutR (FSR.opens f p (rmT T d sl q i)) (c, a, s, mp) trivial ?_
  exact .ret1 (h1 := .tmp (t := 4) rfl) ⟨_, ⟨rfl, rfl⟩, Am.auto⟩
end Go.Proofs.YtdmjkjeoamiedaaGreatDoor
end
section
namespace Go.Proofs.YtdmjkjeoamiedaaGreatDoor
open Go
def someB (n c : Nat) : Bytes := (List.range n).map fun i => UInt8.ofNat (c + i / 7)
theorem someB_length (n c : Nat) : (someB n c).length = n := by simp [someB]
def partB (f : Nat → UInt8) (n k : Nat) : Bytes := (List.range n).map fun j => if j < k then f j else 0
theorem partB_length (f : Nat → UInt8) (n k : Nat) : (partB f n k).length = n := by simp [partB]
theorem partB_zero (f : Nat → UInt8) (n : Nat) : partB f n 0 = List.replicate n 0 := by
  unfold partB
  simp only [Nat.not_lt_zero, if_false]
  rw [List.map_const', List.length_range]
theorem partB_all (f : Nat → UInt8) (n : Nat) : partB f n n = (List.range n).map f := by
  unfold partB
  apply List.map_congr_left
  intro j hj
  rw [if_pos (List.mem_range.1 hj)]
theorem partB_set (f : Nat → UInt8) {n k : Nat} (h : k < n) : (partB f n k).set k (f k) = partB f n (k + 1) := by
  apply List.ext_getElem
  · simp [partB]
  · intro j h1 h2
    simp only [partB, List.getElem_set, List.getElem_map, List.getElem_range]
    by_cases hj : k = j
    · subst hj; rw [if_pos rfl, if_pos (by omega)]
    · rw [if_neg hj]
      by_cases h3 : j < k
      · rw [if_pos h3, if_pos (by omega)]
      · rw [if_neg h3, if_neg (by omega)]
theorem wrap_ofNat (v : Nat) : Value.int .u8 (IntKind.u8.wrap (v : Int)) = bv (UInt8.ofNat v) := by
  unfold bv
  rw [IntKind.wrap_u8, UInt8.toNat_ofNat']
  congr 1
theorem alikeSome {n c : Nat} (hn : n ≤ 100000) (hc : c ≤ 100000) : Spec Tryz.prog 19 #[.int .i64 (n : Int), .int .i64 (c : Int)] [] fun F v M => ∃ b, v = .slice (some ⟨b, 0, none⟩) n n ∧ M = buf b 5 n (bvs (someB n c)) :: F := by
  refine Spec.intro Tryz.func19 rfl rfl fun B F => ?_
  simp only [Tryz.ntmps19, List.cons_append, List.nil_append, env0, Nat.reduceAdd]
  refine .sr (.assign (.x (.move ?_)))
  refine .mkS (k := (n : Int)) z5 (fun b8 => ?_) so33 (by omega) (by omega) (by omega)
  refine .cast (d := 8) (u := .slice (some ⟨b8, 0, none⟩) n n) rfl (by rw [Int.toNat_natCast]) ?_
  refine .to (A := buf b8 5 (n : Int).toNat (List.replicate (n : Int).toNat (.int .u8 0))) (A' := buf b8 5 n (bvs (partB (fun i => UInt8.ofNat (c + i / 7)) n 0))) (fun h hh => by rw [partB_zero, bvs_replicate]; rw [Int.toNat_natCast] at hh; exact hh) ?_
  refine .assign (.z (.seq (.sr (.assign (.z (.block ?_))))))
  refine .loopA (σ := Nat) (fun i => [(0, .int .i64 (n : Int)), (1, .int .i64 (c : Int)), (5, .slice (some ⟨b8, 0, none⟩) n n), (6, .int .i64 (i : Int))]) (fun i => buf b8 5 n (bvs (partB (fun i => UInt8.ofNat (c + i / 7)) n i)) :: F) (fun i => i ≤ n) (fun i => n - i) 0 (Nat.zero_le _) ?_
  rintro i hi
  refine .seq (.sr (.move (.move ?_)))
  refine .lss ?_
  refine .z ?_
  refine .cond rfl (fun hb => ?_) (fun hb => ?_)
  · have hlt : i < n := by have := of_decide_eq_true hb; omega
    refine .skip (.next (.seq (.block (.region (.move (.move (.move (.move ?_))))))))
    refine .quo ?_
    refine .add ?_
    refine .cast (d := 19) (u := .int .i64 ((c + i / 7 : Nat) : Int)) rfl (congrArg (Value.int .i64) (by omega)) ?_
    refine .cvt ?_ un3 un5
    refine .cast (d := 20) (u := bv (UInt8.ofNat (c + i / 7))) rfl (wrap_ofNat _) ?_
    refine .idx1 ?_ so33
    refine .stB ?_ sc5 (show 0 + ((i : Nat) : Int).toNat < (bvs (partB (fun i => UInt8.ofNat (c + i / 7)) n i)).length by rw [bvs_length, partB_length]; omega)
    refine .nil (.blockNormal (.next (.region (.move ?_))))
    refine .add ?_
    refine .assign (.nil ?_)
    refine .to (A := buf b8 5 n ((bvs (partB (fun i => UInt8.ofNat (c + i / 7)) n i)).set (0 + ((i : Nat) : Int).toNat) (bv (UInt8.ofNat (c + i / 7))))) (A' := buf b8 5 n (bvs (partB (fun i => UInt8.ofNat (c + i / 7)) n (i + 1)))) (fun h hh => by rw [← partB_set (fun i => UInt8.ofNat (c + i / 7)) hlt, bvs_set]; rw [show 0 + ((i : Nat) : Int).toNat = i from by omega] at hh; exact hh) ?_
    refine .cast (d := 6) (u := .int .i64 ((i + 1 : Nat) : Int)) rfl (congrArg (Value.int .i64) (by omega)) ?_
    exact .back (i + 1) (by omega) (by omega)
  · have hge : ¬ i < n := by have := of_decide_eq_false hb; omega
    have hin : i = n := by omega
    subst hin
    refine .exit (.thenExit (.thenExit (.blockExit (?_))))
    refine .next (.sr (.move (.assign (.z ?_))))
    refine .ret (?_)
    refine .to (A := buf b8 5 i (bvs (partB (fun i => UInt8.ofNat (c + i / 7)) i i))) (A' := buf b8 5 i (bvs (someB i c))) (fun h hh => by rw [partB_all] at hh; exact hh) ?_
    exact .ret1 (h1 := .tmp (t := 4) rfl) ⟨_, ⟨b8, rfl, rfl⟩, Am.auto⟩
end Go.Proofs.YtdmjkjeoamiedaaGreatDoor
end
section
namespace Go.Proofs.YtdmjkjeoamiedaaGreatDoor
open Go
theorem bsB1 (a : Int) : BuildSOk Tryz.prog 33 1 [(0, .int .u8 a)] 5 #[.int .u8 a] := fun w => by kernel_rfl
theorem wrB_front (bs : Bytes) : wrB [] 0 bs = bs := by
  unfold wrB splice
  have h1 : ext [] (0 + bs.length) = List.replicate bs.length 0 := by
    unfold ext
    rw [List.nil_append, Nat.zero_add]; rfl
  rw [h1, List.take_zero, List.nil_append, List.drop_eq_nil_of_le (by simp), List.append_nil]
def hT : FT := fun i => if i = 0 then some (.dir [none]) else none
theorem rm_aT (b : Bytes) : rmT (aT b) 0 [some ([97], 1)] 0 1 = hT := by
  funext i
  unfold rmT updT aT hT
  by_cases h1 : i = 1
  · subst h1; rfl
  · rw [if_neg h1]
    by_cases h0 : i = 0
    · rw [if_pos h0, if_pos h0]; rfl
    · rw [if_neg h0, if_neg h0, if_neg h0, if_neg h1]
theorem hT_ok : TOk hT := by
  intro d sl h
  unfold hT at h
  split at h
  · injection h with h; injection h with h; subst h
    refine ⟨⟨fun q n i h => ?_, fun q r n i j h1 h2 => ?_⟩, by decide⟩
    · rcases q with _ | q
      · injection h with h; cases h
      · simp at h
    · rcases q with _ | q
      · injection h1 with h1; cases h1
      · simp at h1
  · cases h
theorem mk_hT : mkT hT 0 [none] [97] 1 (.file []) = aT [] := by
  funext i
  unfold mkT updT hT aT
  by_cases h0 : i = 0
  · rw [if_pos h0, if_pos h0]; rfl
  · rw [if_neg h0, if_neg h0]
    by_cases h1 : i = 1
    · rw [if_pos h1, if_neg h0]
    · rw [if_neg h1, if_neg h0]
theorem tot_hT {n : Nat} (h : 1 ≤ n) : tot (fmT hT) n = 1 := by
  obtain ⟨k, rfl⟩ : ∃ k, n = k + 1 := ⟨n - 1, by omega⟩
  clear h
  induction k with
  | zero => show 0 + has 64 = 1; rw [has_64]
  | succ k ih =>
    show tot (fmT hT) (k + 1) + hasO (fmT hT (k + 1)) = 1
    rw [ih, fmT_none (show hT (k + 1) = none from if_neg (by omega))]; rfl
theorem fsRemoveA {f : Nat} {b : Bytes} (hb : b.length ≤ 60000) : Spec Tryz.prog 50 #[.pointer (some ⟨f, 0, none⟩), sv [47, 97]] [AFs f b] fun F v M => v = okV ∧ M = FSR f (pD 500 40) hT :: F := by
  have h1 := has_up b.length
  have := fsRemove (f := f) (p := pD 500 40) (T := aT b) (path := [47, 97]) (d := 0) (i := 1) (q := 0) (nm := [97]) (sl := [some ([97], 1)]) (x := .file b) p11_is.ok (aT_ok _) (by decide) rfl rfl rfl rfl rfl trivial (by decide) (by decide) (.inr (by decide)) (by
    rw [tot_aT _ (by decide)]
    have : (pD 500 40).dc = 247 := rfl
    omega)
  rwa [rm_aT] at this
theorem fsCreateH {f : Nat} : Spec Tryz.prog 17 #[.pointer (some ⟨f, 0, none⟩), sv [47, 97]] [FSR f (pD 500 40) hT] fun F v M => v = okV ∧ M = AFs f [] :: F := by
  have := fsCreate (f := f) (p := pD 500 40) (T := hT) (path := [47, 97]) (d := 0) (i := 1) (nm := [97]) (sl := [none]) (x := .file []) p11_is.ok hT_ok (by decide) (by decide) rfl rfl rfl (by decide) rfl (fun j hj => by
    obtain rfl : j = 0 := by omega
    intro h; cases h) rfl rfl (.inr (by decide)) (by rw [tot_hT (by decide)]; decide)
  rwa [mk_hT] at this
theorem fsReadGone {f k n : Nat} : Spec Tryz.prog 48 #[.pointer (some ⟨f, 0, none⟩), sv [47, 97], nI k, nI n] [FSR f (pD 500 40) hT] fun F v M => ∃ u, v = .tuple #[u, nI 4] ∧ M = rowR 5 1 u ([] : Bytes).length (bvs []) :: FSR f (pD 500 40) hT :: F := by
  refine (fsReadE (f := f) (p := pD 500 40) (T := hT) (path := [47, 97]) (e := 4) (x := nI k) (y := nI n) p11_is.ok hT_ok (by decide) rfl (by decide)).post ?_
  rintro F v M ⟨rfl, rfl⟩
  exact ⟨_, ⟨_, rfl, rfl⟩, fun B w hs => hs.pure (rowR.nil (e := 5) (size := 1) _)⟩
theorem fsAppendGone {f : Nat} {y : Value} {R : HP} : Spec Tryz.prog 18 #[.pointer (some ⟨f, 0, none⟩), sv [47, 97], y] [FSR f (pD 500 40) hT, R] fun F v M => v = nI 4 ∧ M = FSR f (pD 500 40) hT :: R :: F :=
  fun B F w hs => fsAppendN (f := f) (p := pD 500 40) (T := hT) (path := [47, 97]) (e := 4) (x := y) (y := y) p11_is.ok hT_ok (by decide) rfl (by decide) B (R :: F) w hs
theorem lawFGone {n : Int} {again : Bool} (hn : -9223372036854775808 ≤ n ∧ n ≤ 9223372036854775807) : Spec Tryz.prog 12 #[.int .i64 n, .bool again] [] fun F v M => v = .bool true ∧ M = F := by
  refine Spec.intro Tryz.func12 rfl rfl fun B F => ?_
  simp only [Tryz.ntmps12, List.cons_append, List.nil_append, env0, Nat.reduceAdd]
  by_cases h1 : n < 0
  · refine .sr (.assign (.z (.seq (.sr (.move ?_)))))
    refine .lss ?_
    refine .move ?_
    refine .cast (d := 18) (u := .bool true) rfl (congrArg Value.bool (by first | (simp; done) | (simp; omega) | omega)) ?_
    refine .gF ?_
    refine .gF ?_
    refine .pickT ?_
    refine .z ?_
    refine .condT rfl rfl ?_
    refine .sr ?_
    refine .call (hc := Tryz.call26) (sp := l11Awake) (h := ?_)
    rintro _ _ ⟨rfl, rfl⟩
    refine .assign (.z ?_)
    refine .ret (.thenRet (?_))
    exact .ret1 (h1 := .tmp (t := 4) rfl) ⟨_, ⟨rfl, rfl⟩, Am.auto⟩
  · by_cases h2 : 2000 < n
    · refine .sr (.assign (.z (.seq (.sr (.move ?_)))))
      refine .lss ?_
      refine .move ?_
      refine .cast (d := 18) (u := .bool false) rfl (congrArg Value.bool (by first | (simp; done) | (simp; omega) | omega)) ?_
      refine .gT ?_
      refine .move ?_
      refine .gT ?_
      refine .gtr ?_
      refine .pickF ?_
      refine .z ?_
      refine .condT rfl (congrArg Value.bool (by first | (simp; done) | (simp; omega) | omega)) ?_
      refine .sr ?_
      refine .call (hc := Tryz.call26) (sp := l11Awake) (h := ?_)
      rintro _ _ ⟨rfl, rfl⟩
      refine .assign (.z ?_)
      refine .ret (.thenRet (?_))
      exact .ret1 (h1 := .tmp (t := 4) rfl) ⟨_, ⟨rfl, rfl⟩, Am.auto⟩
    · obtain ⟨N, rfl⟩ : ∃ N : Nat, n = N := ⟨n.toNat, by omega⟩
      have hWl := someB_length N 1
      obtain ⟨Wn, hWn⟩ : ∃ Wn, someB N 1 = Wn := ⟨_, rfl⟩
      rw [hWn] at hWl
      refine .emp (A := bun []) bun.nil ?_
      refine .sr (.assign (.z (.seq (.sr (.move ?_)))))
      refine .lss ?_
      refine .move ?_
      refine .cast (d := 18) (u := .bool false) rfl (congrArg Value.bool (by first | (simp; done) | (simp; omega) | omega)) ?_
      refine .gT ?_
      refine .move ?_
      refine .gT ?_
      refine .gtr ?_
      refine .pickF ?_
      refine .z ?_
      refine .condF rfl (congrArg Value.bool (by first | (simp; done) | (simp; omega) | omega)) ?_
      refine .skip (.next (.sr ?_))
      refine .call (hc := Tryz.call27) (sp := l11Fresh) (h := ?_)
      rintro _ _ ⟨f, t, m0, u0, rfl, rfl⟩
      refine .move ?_
      refine .extract ?_
      refine .extract ?_
      refine .extract ?_
      refine .extract ?_
      refine .extract ?_
      refine .assign (.assign (.assign (.assign (.assign (.z (.seq (.sr (.move ?_))))))))
      refine .not ?_
      refine .z ?_
      refine .condF rfl rfl ?_
      refine .skip (.next (.sr (.move ?_)))
      refine .call (hc := Tryz.call31) (sp := tbOpenMk (t := t) (f := f)) (h := ?_)
      rintro _ _ ⟨rfl, rfl⟩
      refine .move ?_
      refine .extract ?_
      refine .extract ?_
      refine .assign (.assign (.z (.seq (.sr (.move ?_)))))
      refine .nei ?_
      refine .move ?_
      refine .cast (d := 39) (u := .bool false) rfl (congrArg Value.bool (by first | (simp; done) | (simp; omega) | omega)) ?_
      refine .gT ?_
      refine .move ?_
      refine .gT ?_
      refine .move ?_
      refine .gT ?_
      refine .move ?_
      refine .gT ?_
      refine .call (hc := Tryz.call19) (sp := alikeSome (n := N) (c := 1) (by omega) (by decide)) (h := ?_)
      rintro _ _ ⟨bs, rfl, rfl⟩
      rw [hWn]
      refine .gT ?_
      refine .call (hc := Tryz.call54) (sp := tAppend (t := t) (f := f) (kv := [((0 : Int), opV [47, 97] 0)]) (fd := 0) (path := [47, 97]) (at' := 0) (m := N) (cc := N) (e := 0) (R := buf bs 5 N (bvs Wn)) (A := some ⟨bs, 0, none⟩) rfl (fsAppendA (b := []) (bs := Wn) (.inr Reads.buf) hWl (Nat.le_refl _) (by show N ≤ maxLen; unfold maxLen; omega) (by omega) (by show 0 + N ≤ _; omega))) (h := ?_)
      rintro _ _ ⟨rfl, rfl⟩
      rw [show wrB [] ([] : Bytes).length Wn = Wn from wrB_front Wn]
      refine .gT ?_
      refine .nei ?_
      refine .pickF ?_
      refine .move ?_
      refine .cast (d := 47) (u := .bool false) rfl (congrArg Value.bool (by first | (simp; done) | (simp; omega) | omega)) ?_
      refine .gT ?_
      refine .move ?_
      refine .gT ?_
      refine .call (hc := Tryz.call50) (sp := fsRemoveA (f := f) (b := Wn) (by omega)) (h := ?_)
      rintro _ _ ⟨rfl, rfl⟩
      refine .gT ?_
      refine .nei ?_
      refine .pickF ?_
      refine .z ?_
      refine .condF rfl (congrArg Value.bool (by first | (simp; done) | (simp; omega) | omega)) ?_
      refine .skip (.next (.sr (.move (.move ?_))))
      refine .call (hc := Tryz.call55) (sp := tPread (t := t) (f := f) (kv := [((0 : Int), opV [47, 97] 0)]) (fd := 0) (path := [47, 97]) (at' := 0) (k := 0) (n := 10) (e := 4) (bs := []) rfl fsReadGone) (h := ?_)
      rintro _ _ ⟨u2, rfl, rfl⟩
      refine .move ?_
      refine .extract ?_
      refine .extract ?_
      refine .assign (.assign (.z (.seq (.sr (.move ?_)))))
      refine .nei ?_
      refine .move ?_
      refine .cast (d := 60) (u := .bool false) rfl (congrArg Value.bool (by first | (simp; done) | (simp; omega) | omega)) ?_
      refine .gT ?_
      refine .move ?_
      refine .gT ?_
      refine .move ?_
      refine .gT ?_
      refine .buildS (fun b63 => ?_) (bsB1 _)
      refine .gT ?_
      refine .cvtLit ?_ litU
      refine .gT ?_
      refine .call (hc := Tryz.call54) (sp := tAppend (t := t) (f := f) (kv := [((0 : Int), opV [47, 97] 0)]) (fd := 0) (path := [47, 97]) (at' := 0) (m := 1) (cc := 1) (e := 4) (R := bun []) (A := some ⟨b63, 0, none⟩) rfl fsAppendGone) (h := ?_)
      rintro _ _ ⟨rfl, rfl⟩
      refine .gT ?_
      refine .nei ?_
      refine .pickF ?_
      refine .z ?_
      refine .condF rfl (congrArg Value.bool (by first | (simp; done) | (simp; omega) | omega)) ?_
      refine .skip (.next (.seq (.sr (.move ?_))))
      refine .not ?_
      refine .z ?_
      cases again with
      | false =>
        refine .condT rfl rfl ?_
        refine .sr (.move (.move ?_))
        refine .call (hc := Tryz.call56) (sp := tClose (t := t) (f := f) (kv := [((0 : Int), opV [47, 97] 0)]) (fd := 0) (path := [47, 97]) (at' := 0) rfl) (h := ?_)
        rintro _ _ ⟨rfl, rfl⟩
        refine .eqi ?_
        refine .move ?_
        refine .cast (d := 74) (u := .bool true) rfl (congrArg Value.bool (by first | (simp; done) | (simp; omega) | omega)) ?_
        refine .gT ?_
        refine .call (hc := Tryz.call26) (sp := l11Awake) (h := ?_)
        rintro _ _ ⟨rfl, rfl⟩
        refine .pickT ?_
        refine .assign (.z ?_)
        refine .ret (.thenRet (?_))
        exact .ret1 (h1 := .tmp (t := 4) rfl) ⟨_, ⟨rfl, rfl⟩, Am.auto⟩
      | true =>
        refine .condF rfl rfl ?_
        refine .skip (.next (.seq (.sr (.move ?_))))
        refine .call (hc := Tryz.call17) (sp := fsCreateH (f := f)) (h := ?_)
        rintro _ _ ⟨rfl, rfl⟩
        refine .nei ?_
        refine .move ?_
        refine .cast (d := 80) (u := .bool false) rfl (congrArg Value.bool (by first | (simp; done) | (simp; omega) | omega)) ?_
        refine .gT ?_
        refine .move ?_
        refine .gT ?_
        refine .buildS (fun b82 => ?_) (bsB3 _ _ _)
        refine .gT ?_
        refine .cvtLit ?_ litU
        refine .gT ?_
        refine .call (hc := Tryz.call18) (sp := fsAppendA (f := f) (m := 3) (cc := 3) (b := []) (bs := [110, 101, 119]) (R := pt b82 (.cells #[.int .u8 110, .int .u8 101, .int .u8 119] 5 (3, 4))) (A := some ⟨b82, 0, none⟩) (.inr Reads.pt) rfl (Nat.le_refl _) (by decide) (by decide) (by decide)) (h := ?_)
        rintro _ _ ⟨rfl, rfl⟩
        refine .gT ?_
        refine .nei ?_
        refine .pickF ?_
        refine .z ?_
        refine .condF rfl (congrArg Value.bool (by first | (simp; done) | (simp; omega) | omega)) ?_
        refine .skip (.next (.sr (.move (.move ?_))))
        refine .call (hc := Tryz.call55) (sp := tPread (t := t) (f := f) (kv := [((0 : Int), opV [47, 97] 0)]) (fd := 0) (path := [47, 97]) (at' := 0) (k := 0) (n := 10) (e := 0) rfl (fsReadA (b := wrB [] 0 [110, 101, 119]) (by decide) (by decide))) (h := ?_)
        rintro _ _ ⟨u3, rfl, rfl⟩
        refine .fact (rowR_shape (el := 5) (size := 1) (v := u3) (k := 3) (xs := bvs [110, 101, 119])) (fun ⟨A, cc, hu, hR, hc1, hc2, hlen⟩ => ?_)
        subst hu
        refine .move ?_
        refine .extract ?_
        refine .extract ?_
        refine .assign (.assign (.x (.move ?_)))
        refine .eqi ?_
        refine .move ?_
        refine .cast (d := 95) (u := .bool true) rfl (congrArg Value.bool (by first | (simp; done) | (simp; omega) | omega)) ?_
        refine .gT ?_
        refine .move ?_
        refine .gT ?_
        refine .cvtBS (R := rowR 5 1 (.slice A 3 cc) 3 (bvs [110, 101, 119])) (xs := [110, 101, 119]) ?_ by33 st9 hR rfl
        refine .gT ?_
        refine .eqS [110, 101, 119] [110, 101, 119] ?_
        refine .pickT ?_
        refine .move ?_
        refine .gT ?_
        refine .call (hc := Tryz.call26) (sp := l11Awake) (h := ?_)
        rintro _ _ ⟨rfl, rfl⟩
        refine .pickT ?_
        refine .assign (.z ?_)
        refine .ret (?_)
        exact .ret1 (h1 := .tmp (t := 4) rfl) ⟨_, ⟨rfl, rfl⟩, Am.auto⟩
end Go.Proofs.YtdmjkjeoamiedaaGreatDoor
end
