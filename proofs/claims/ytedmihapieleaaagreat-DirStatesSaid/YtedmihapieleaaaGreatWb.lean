/- Walks of package bits and of slices.Clone. -/
import Derived.Test.YtedmihapieleaaaGreatFa
import Derived.Test.YtedmihapieleaaaGreatPb
import Derived.KernelRfl
set_option linter.unusedVariables false
set_option linter.unusedSimpArgs false
namespace Go.Proofs.YtedmihapieleaaaGreat
open Go
theorem bs33_0 : BuildSOk Tryz.prog 33 0 [] 5 #[] := fun w => by kernel_rfl

theorem bitsMay {R : List HP} {A : Option Addr} {n c : Nat} {at' size : Int} (hn : (n : Int) ≤ 9223372036854775807) (hs : 1 ≤ size ∧ size ≤ 8) (ha : 0 ≤ at') (ha' : at' ≤ (n : Int) - size) : Spec Tryz.prog 139 #[.slice A n c, .int .i64 at', .int .i64 size] R
    fun F v M => v = .bool true ∧ M = R ++ F := by
  refine Spec.intro Tryz.func139 rfl rfl fun B F => ?_
  simp only [Tryz.ntmps139, List.cons_append, List.nil_append, env0, Nat.reduceAdd]
  refine WC.seq ?_
  refine WC.region ?_
  refine WL.assign ?_
  refine WL.nil ?_
  refine WQ.next ?_
  refine WC.seq ?_
  refine WC.region ?_
  refine WL.move ?_
  refine WL.geq ?_
  refine WL.move ?_
  refine WL.cast (d := 9) (u := .bool true) rfl (congrArg Value.bool (by first | (simp; done) | (simp; omega) | omega)) ?_
  refine WL.gT ?_
  refine WL.move ?_
  refine WL.gT ?_
  refine WL.leq ?_
  refine WL.pickT ?_
  refine WL.move ?_
  refine WL.cast (d := 13) (u := .bool true) rfl (congrArg Value.bool (by first | (simp; done) | (simp; omega) | omega)) ?_
  refine WL.gT ?_
  refine WL.move ?_
  refine WL.gT ?_
  refine WL.geq ?_
  refine WL.pickT ?_
  refine WL.move ?_
  refine WL.cast (d := 17) (u := .bool true) rfl (congrArg Value.bool (by first | (simp; done) | (simp; omega) | omega)) ?_
  refine WL.gT ?_
  refine WL.move ?_
  refine WL.gT ?_
  refine WL.move ?_
  refine WL.gT ?_
  refine WL.lenS ?_ sl33
  refine WL.gT ?_
  refine WL.move ?_
  refine WL.gT ?_
  refine WL.sub ?_
  refine WL.gT ?_
  refine WL.leq ?_
  refine WL.pickT ?_
  refine WL.assign ?_
  refine WL.nil ?_
  refine WQ.next ?_
  refine WC.ret (?_)
  exact WQ.ret1 (h1 := .tmp (t := 6) rfl) ⟨_, ⟨congrArg Value.bool (decide_eq_true (by omega)), rfl⟩, Am.auto⟩

theorem bytesClone {R : HP} {A : Addr} {n c : Nat} {xs : Bytes} (hR : Reads R (some A) (bvs xs)) (hn : xs.length = n) (hl : n ≤ 1073741824) : Spec Tryz.prog 123 #[.slice (some A) n c] [R]
    fun F v M => ∃ g k, (v = .slice (some ⟨g, 0, none⟩) n k ∧ n ≤ k ∧ k ≤ maxLen) ∧ M = buf g 5 k (bvs xs) :: R :: F := by
  refine Spec.intro Tryz.func123 rfl rfl fun B F => ?_
  simp only [Tryz.ntmps123, List.cons_append, List.nil_append, env0, Nat.reduceAdd]
  obtain ⟨ab, ao, asp⟩ := A
  have hsp : asp = none := hR.1
  subst hsp
  refine WC.seq ?_
  refine WC.region ?_
  refine WL.assign ?_
  refine WL.nil ?_
  refine WQ.next ?_
  refine WC.seq ?_
  refine WC.seq ?_
  refine WC.region ?_
  refine WL.move ?_
  refine WL.eqSl ?_ sl33
  refine WL.nil ?_
  refine WQ.next ?_
  refine WC.condF rfl rfl ?_
  refine WC.skip ?_
  refine WQ.next ?_
  refine WC.seq ?_
  refine WC.region ?_
  refine WL.buildS (fun b5 => ?_) bs33_0
  refine WL.move ?_
  refine WL.to (A' := buf b5 5 0 []) (buf_of_pt (xs := []) rfl) ?_
  refine WL.to (rowR_of_buf (Nat.zero_le _)) ?_
  refine WL.append (M := R :: F) so33 (by decide) .here hR .here (by rw [bvs_length, hn, Nat.mul_one]) (bvs_single xs) (by unfold maxLen; simp only [List.length_nil]; omega) (by simp only [List.length_nil]; omega) ⟨_, z5, rfl⟩ (fun v' hv' => ?_)
  have hne : v' ≠ .slice none 0 0 := fun h => by have := (hv'.1 h).1; cases this
  refine WL.toE (buf_of_rowR hne) ?_
  rintro ⟨g, k⟩ ⟨rfl, h1, h2, h3⟩
  refine WL.assign ?_
  refine WL.nil ?_
  refine WQ.next ?_
  refine WC.ret (?_)
  exact WQ.ret1 (h1 := .tmp (t := 2) rfl) ⟨_, ⟨g, k, ⟨by simp, by simpa using h1, h2⟩, rfl⟩, Am.auto⟩

theorem bitsTest {R : HP} {A : Addr} {n c : Nat} {xs : Bytes} {k : Int} (hR : Reads R (some A) (bvs xs)) (hn : xs.length = n) (hl : n ≤ 1073741824) (hk : 0 ≤ k ∧ k ≤ 9223372036854775807) : Spec Tryz.prog 133 #[.slice (some A) n c, .int .i64 k] [R]
    fun F v M => v = .bool (tb xs k.toNat) ∧ M = R :: F := by
  refine Spec.intro Tryz.func133 rfl rfl fun B F => ?_
  simp only [Tryz.ntmps133, List.cons_append, List.nil_append, env0, Nat.reduceAdd]
  obtain ⟨ab, ao, asp⟩ := A
  have hsp : asp = none := hR.1
  subst hsp
  refine WC.seq ?_
  refine WC.region ?_
  refine WL.assign ?_
  refine WL.nil ?_
  refine WQ.next ?_
  refine WC.seq ?_
  refine WC.region ?_
  refine WL.move ?_
  refine WL.geq ?_
  refine WL.move ?_
  refine WL.cast (d := 7) (u := .bool true) rfl (congrArg Value.bool (by first | (simp; done) | (simp; omega) | omega)) ?_
  refine WL.gT ?_
  refine WL.move ?_
  refine WL.gT ?_
  refine WL.shr ?_
  refine WL.cast (d := 9) (u := .int .i64 (k / 8)) rfl (congrArg (Value.int .i64) (shr3 hk.1)) ?_
  refine WL.gT ?_
  refine WL.move ?_
  refine WL.gT ?_
  refine WL.lenS ?_ sl33
  refine WL.gT ?_
  refine WL.lss ?_
  refine WL.pickT ?_
  refine WL.move ?_
  refine WL.split (t := 14) rfl (fun hb => ?_) (fun hb => ?_)
  · have hlt : k / 8 < (n : Int) := of_decide_eq_true hb
    have hsm : (xs.getD (k / 8).toNat 0).toNat >>> (k % 8).toNat ≤ 255 := by
      have h1 := (xs.getD (k / 8).toNat 0).toNat_lt
      have h2 : (xs.getD (k / 8).toNat 0).toNat >>> (k % 8).toNat ≤ (xs.getD (k / 8).toNat 0).toNat := by rw [Nat.shiftRight_eq_div_pow]; exact Nat.div_le_self _ _
      omega
    refine WL.gT ?_
    refine WL.move ?_
    refine WL.gT ?_
    refine WL.move ?_
    refine WL.gT ?_
    refine WL.shr ?_
    refine WL.cast (d := 17) (u := .int .i64 (k / 8)) rfl (congrArg (Value.int .i64) (shr3 hk.1)) ?_
    refine WL.gT ?_
    refine WL.idx1 ?_ so33
    refine WL.gT ?_
    refine WL.ldR ?_ sc5 hR (bvs_get (show (k / 8).toNat < xs.length by omega))
    refine WL.gT ?_
    refine WL.move ?_
    refine WL.gT ?_
    refine WL.and ?_
    refine WL.cast (d := 21) (u := .int .i64 (k % 8)) rfl (congrArg (Value.int .i64) (and7 hk.1 hk.2)) ?_
    refine WL.gT ?_
    refine WL.shr ?_
    refine WL.cast (d := 22) rfl (congrArg (Value.int .u8) (shrU8 (xs.getD (k / 8).toNat 0) (j := k % 8) (by omega) (by omega))) ?_
    refine WL.gT ?_
    refine WL.and ?_
    refine WL.cast (d := 23) rfl (congrArg (Value.int .u8) (and1 _ hsm)) ?_
    refine WL.gT ?_
    refine WL.eqi ?_
    refine WL.pickT ?_
    refine WL.assign ?_
    refine WL.nil ?_
    refine WQ.next ?_
    refine WC.ret (?_)
    have hfin : tb xs k.toNat = decide ((((xs.getD (k / 8).toNat 0).toNat >>> (k % 8).toNat % 2 : Nat) : Int) = 1) := by
      unfold tb
      rw [← testBit_shift, show k.toNat / 8 = (k / 8).toNat from by omega, show k.toNat % 8 = (k % 8).toNat from by omega]
      rw [decide_eq_decide]
      omega
    exact WQ.ret1 (h1 := .tmp (t := 4) rfl) ⟨_, ⟨congrArg Value.bool hfin.symm, rfl⟩, Am.auto⟩
  · have hlt : ¬ k / 8 < (n : Int) := of_decide_eq_false hb
    refine WL.gF ?_
    refine WL.gF ?_
    refine WL.gF ?_
    refine WL.gF ?_
    refine WL.gF ?_
    refine WL.gF ?_
    refine WL.gF ?_
    refine WL.gF ?_
    refine WL.gF ?_
    refine WL.gF ?_
    refine WL.pickF ?_
    refine WL.assign ?_
    refine WL.nil ?_
    refine WQ.next ?_
    refine WC.ret (?_)
    have hfin : tb xs k.toNat = false := by
      unfold tb
      rw [List.getD_eq_getElem?_getD, List.getElem?_eq_none (by omega)]
      simp
    exact WQ.ret1 (h1 := .tmp (t := 4) rfl) ⟨_, ⟨congrArg Value.bool hfin.symm, rfl⟩, Am.auto⟩

theorem bitsSet {R : HP} {A : Addr} {n c : Nat} {xs : Bytes} {k : Int} {on : Bool} (hR : Reads R (some A) (bvs xs)) (hn : xs.length = n) (hl : n ≤ 1073741824) (hk : 0 ≤ k ∧ k ≤ 9223372036854775807) (hk2 : k / 8 < n) : Spec Tryz.prog 127 #[.slice (some A) n c, .int .i64 k, .bool on] [R]
    fun F v M => ∃ g q, (v = .slice (some ⟨g, 0, none⟩) n q ∧ n ≤ q ∧ q ≤ maxLen) ∧ M = buf g 5 q (bvs (setDigit xs k.toNat on)) :: R :: F := by
  refine Spec.intro Tryz.func127 rfl rfl fun B F => ?_
  simp only [Tryz.ntmps127, List.cons_append, List.nil_append, env0, Nat.reduceAdd]
  obtain ⟨ab, ao, asp⟩ := A
  have hsp : asp = none := hR.1
  subst hsp
  have hlt : (k / 8).toNat < xs.length := by omega
  refine WC.seq ?_
  refine WC.region ?_
  refine WL.assign ?_
  refine WL.nil ?_
  refine WQ.next ?_
  refine WC.seq ?_
  refine WC.region ?_
  refine WL.move ?_
  refine WL.call (hc := Tryz.call123) (sp := bytesClone hR hn hl) (h := ?_)
  rintro _ _ ⟨gc, kc, ⟨rfl, hc1, hc2⟩, rfl⟩
  refine WL.assign ?_
  refine WL.nil ?_
  refine WQ.next ?_
  refine WC.seq ?_
  refine WC.seq ?_
  refine WC.region ?_
  refine WL.move ?_
  refine WL.lss ?_
  refine WL.move ?_
  refine WL.cast (d := 12) (u := .bool false) rfl (congrArg Value.bool (by first | (simp; done) | (simp; omega) | omega)) ?_
  refine WL.gT ?_
  refine WL.move ?_
  refine WL.gT ?_
  refine WL.shr ?_
  refine WL.cast (d := 14) (u := .int .i64 (k / 8)) rfl (congrArg (Value.int .i64) (shr3 hk.1)) ?_
  refine WL.gT ?_
  refine WL.move ?_
  refine WL.gT ?_
  refine WL.lenS ?_ sl33
  refine WL.gT ?_
  refine WL.geq ?_
  refine WL.pickF ?_
  refine WL.nil ?_
  refine WQ.next ?_
  refine WC.condF rfl (congrArg Value.bool (by first | (simp; done) | (simp; omega) | omega)) ?_
  refine WC.skip ?_
  refine WQ.next ?_
  refine WC.seq ?_
  refine WC.seq ?_
  refine WC.region ?_
  refine WL.move ?_
  refine WL.nil ?_
  refine WQ.next ?_
  refine WC.cond rfl (fun ho => ?_) (fun ho => ?_)
  · subst ho
    refine WC.draw ([buf gc 5 kc (bvs xs)]) [10] 11 #[false, false, false, false, false, false, false, false, false, false, false] mixed (by kernel_rfl) NoPanic.autoJ ?_
    refine WD.take (i := 0) #[true, false, false, false, false, false, false, false, false, false, false] rfl (by kernel_rfl) (Qt.move ) ?_
    refine WD.take (i := 1) #[true, true, false, false, false, false, false, false, false, false, false] rfl (by kernel_rfl) (Qt.move ) ?_
    refine WD.take (i := 2) #[true, true, true, false, false, false, false, false, false, false, false] rfl (by kernel_rfl) ((Qt.shr).eq (congrArg (Value.int .i64) (shr3 hk.1))) ?_
    refine WD.take (i := 3) #[true, true, true, true, false, false, false, false, false, false, false] rfl (by kernel_rfl) (Qt.idx1 so33) ?_
    refine WD.take (i := 4) #[true, true, true, true, true, false, false, false, false, false, false] rfl (by kernel_rfl) (Qt.ldR sc5 Reads.buf (bvs_get hlt)) ?_
    refine WD.take (i := 5) #[true, true, true, true, true, true, false, false, false, false, false] rfl (by kernel_rfl) (Qt.move ) ?_
    refine WD.take (i := 6) #[true, true, true, true, true, true, true, false, false, false, false] rfl (by kernel_rfl) ((Qt.and).eq (congrArg (Value.int .i64) (and7 hk.1 hk.2))) ?_
    refine WD.take (i := 7) #[true, true, true, true, true, true, true, true, false, false, false] rfl (by kernel_rfl) ((Qt.shl).eq (congrArg (Value.int .u8) (shl1 (j := k % 8) (by omega) (by omega)))) ?_
    refine WD.take (i := 8) #[true, true, true, true, true, true, true, true, true, false, false] rfl (by kernel_rfl) ((Qt.or).eq (bor_bit _ (k % 8).toNat (by omega))) ?_
    refine WD.take (i := 9) #[true, true, true, true, true, true, true, true, true, true, false] rfl (by kernel_rfl) (Qt.idx1 so33) ?_
    refine WD.one (i := 10) #[true, true, true, true, true, true, true, true, true, true, true] rfl (by kernel_rfl) fun hnp => ?_
    refine WL.stB ?_ sc5 (show 0 + (k / 8).toNat < (bvs xs).length by rw [bvs_length]; omega)
    refine WL.nil (WQ.wd hnp (.inr rfl) ?_)
    refine WD.done (by kernel_rfl) ?_
    refine WQ.to (r := .here) (A' := buf gc 5 kc (bvs (setDigit xs k.toNat true))) (fun h hh => by
      rw [bvs_setDigit xs k.toNat true _ (by rw [show k.toNat / 8 = (k / 8).toNat from by omega, show k.toNat % 8 = (k % 8).toNat from by omega]) _ (by omega)] at hh; exact hh) ?_
    refine WQ.next ?_
    refine WC.seq ?_
    refine WC.region ?_
    refine WL.move ?_
    refine WL.assign ?_
    refine WL.nil ?_
    refine WQ.next ?_
    refine WC.ret (?_)
    exact WQ.ret1 (h1 := .tmp (t := 6) rfl) ⟨_, ⟨gc, kc, ⟨rfl, hc1, hc2⟩, rfl⟩, Am.auto⟩
  · subst ho
    refine WC.draw ([buf gc 5 kc (bvs xs)]) [10] 11 #[false, false, false, false, false, false, false, false, false, false, false] mixed (by kernel_rfl) NoPanic.autoJ ?_
    refine WD.take (i := 0) #[true, false, false, false, false, false, false, false, false, false, false] rfl (by kernel_rfl) (Qt.move ) ?_
    refine WD.take (i := 1) #[true, true, false, false, false, false, false, false, false, false, false] rfl (by kernel_rfl) (Qt.move ) ?_
    refine WD.take (i := 2) #[true, true, true, false, false, false, false, false, false, false, false] rfl (by kernel_rfl) ((Qt.shr).eq (congrArg (Value.int .i64) (shr3 hk.1))) ?_
    refine WD.take (i := 3) #[true, true, true, true, false, false, false, false, false, false, false] rfl (by kernel_rfl) (Qt.idx1 so33) ?_
    refine WD.take (i := 4) #[true, true, true, true, true, false, false, false, false, false, false] rfl (by kernel_rfl) (Qt.ldR sc5 Reads.buf (bvs_get hlt)) ?_
    refine WD.take (i := 5) #[true, true, true, true, true, true, false, false, false, false, false] rfl (by kernel_rfl) (Qt.move ) ?_
    refine WD.take (i := 6) #[true, true, true, true, true, true, true, false, false, false, false] rfl (by kernel_rfl) ((Qt.and).eq (congrArg (Value.int .i64) (and7 hk.1 hk.2))) ?_
    refine WD.take (i := 7) #[true, true, true, true, true, true, true, true, false, false, false] rfl (by kernel_rfl) ((Qt.shl).eq (congrArg (Value.int .u8) (shl1 (j := k % 8) (by omega) (by omega)))) ?_
    refine WD.take (i := 8) #[true, true, true, true, true, true, true, true, true, false, false] rfl (by kernel_rfl) ((Qt.andNot).eq (bandn_bit _ (k % 8).toNat (by omega))) ?_
    refine WD.take (i := 9) #[true, true, true, true, true, true, true, true, true, true, false] rfl (by kernel_rfl) (Qt.idx1 so33) ?_
    refine WD.one (i := 10) #[true, true, true, true, true, true, true, true, true, true, true] rfl (by kernel_rfl) fun hnp => ?_
    refine WL.stB ?_ sc5 (show 0 + (k / 8).toNat < (bvs xs).length by rw [bvs_length]; omega)
    refine WL.nil (WQ.wd hnp (.inr rfl) ?_)
    refine WD.done (by kernel_rfl) ?_
    refine WQ.to (r := .here) (A' := buf gc 5 kc (bvs (setDigit xs k.toNat false))) (fun h hh => by
      rw [bvs_setDigit xs k.toNat false _ (by rw [show k.toNat / 8 = (k / 8).toNat from by omega, show k.toNat % 8 = (k % 8).toNat from by omega]) _ (by omega)] at hh; exact hh) ?_
    refine WQ.next ?_
    refine WC.seq ?_
    refine WC.region ?_
    refine WL.move ?_
    refine WL.assign ?_
    refine WL.nil ?_
    refine WQ.next ?_
    refine WC.ret (?_)
    exact WQ.ret1 (h1 := .tmp (t := 6) rfl) ⟨_, ⟨gc, kc, ⟨rfl, hc1, hc2⟩, rfl⟩, Am.auto⟩

theorem bitsFirst {R : HP} {A : Addr} {n c : Nat} {xs : Bytes} {m : Int} (hR : Reads R (some A) (bvs xs)) (hn : xs.length = n) (hl : n ≤ 1073741824) (hm : 0 ≤ m ∧ m ≤ 8 * n) : Spec Tryz.prog 126 #[.slice (some A) n c, .int .i64 m] [R]
    fun F v M => v = .int .i64 (match first0 xs m.toNat with | some k => (k : Int) | none => -1) ∧ M = R :: F := by
  refine Spec.intro Tryz.func126 rfl rfl fun B F => ?_
  simp only [Tryz.ntmps126, List.cons_append, List.nil_append, env0, Nat.reduceAdd]
  obtain ⟨ab, ao, asp⟩ := A
  have hsp : asp = none := hR.1
  subst hsp
  refine WC.seq ?_
  refine WC.region ?_
  refine WL.assign ?_
  refine WL.nil ?_
  refine WQ.next ?_
  refine WC.seq ?_
  refine WC.seq ?_
  refine WC.region ?_
  refine WL.move ?_
  refine WL.lenS ?_ sl33
  refine WL.move ?_
  refine WL.nil ?_
  refine WQ.next ?_
  refine WC.block ?_
  refine WC.loopA (σ := Int) (fun i => [(0, .slice (some ⟨ab, ao, none⟩) n c), (1, .int .i64 m), (8, .slice (some ⟨ab, ao, none⟩) n c), (9, .int .i64 (n : Int)), (10, .int .i64 i)]) (fun _ => R :: F) (fun i => (0 ≤ i ∧ i ≤ n) ∧ ∀ j : Nat, j < 8 * i.toNat → j < m.toNat → tb xs j = true) (fun i => (n - i).toNat) 0 ⟨by omega, fun j hj => by omega⟩ ?_
  rintro i hp
  refine WC.seq ?_
  refine WC.region ?_
  refine WL.lss ?_
  refine WL.nil ?_
  refine WQ.next ?_
  refine WC.seq ?_
  refine WC.cond rfl (fun hb => ?_) (fun hb => ?_)
  · have hlt : i < (n : Int) := of_decide_eq_true hb
    refine WC.skip ?_
    refine WQ.next ?_
    refine WC.seq ?_
    refine WC.block ?_
    refine WC.seq ?_
    refine WC.region ?_
    refine WL.move ?_
    refine WL.idx1 ?_ so33
    refine WL.ldR ?_ sc5 hR (bvs_get (show i.toNat < xs.length by omega))
    refine WL.assign ?_
    refine WL.assign ?_
    refine WL.nil ?_
    refine WQ.next ?_
    refine WC.seq ?_
    refine WC.seq ?_
    refine WC.region ?_
    refine WL.move ?_
    refine WL.eqi ?_
    refine WL.nil ?_
    refine WQ.next ?_
    refine WC.cond rfl (fun hf => ?_) (fun hf => ?_)
    · have h255 : xs.getD i.toNat 0 = 255 := by have := of_decide_eq_true hf; apply UInt8.toNat_inj.1; show _ = 255; omega
      refine WC.exit (WQ.thenExit (WQ.blockExit (?_)))
      refine WQ.next ?_
      refine WC.region ?_
      refine WL.add ?_
      refine WL.move ?_
      refine WL.nil ?_
      exact WQ.back (i + 1) ⟨by omega, fun j hj hj2 => if h : j < 8 * i.toNat then hp.2 j h hj2 else tb_255 (by rw [show j / 8 = i.toNat from by omega]; exact h255)⟩ (by omega)
    · refine WC.skip ?_
      refine WQ.next ?_
      refine WC.seq ?_
      refine WC.region ?_
      refine WL.move ?_
      refine WL.mul ?_
      refine WL.assign ?_
      refine WL.nil ?_
      refine WQ.next ?_
      refine WC.block ?_
      refine WC.loopA (σ := Int) (fun k => [(0, .slice (some ⟨ab, ao, none⟩) n c), (1, .int .i64 m), (5, .int .i64 i), (7, .int .i64 k), (8, .slice (some ⟨ab, ao, none⟩) n c), (9, .int .i64 (n : Int)), (10, .int .i64 i)]) (fun _ => R :: F) (fun k => (8 * i ≤ k ∧ k ≤ 8 * i + 8) ∧ ∀ j : Nat, j < k.toNat → j < m.toNat → tb xs j = true) (fun k => (8 * i + 8 - k).toNat) (8 * i) ⟨by omega, fun j hj hj2 => hp.2 j (by omega) hj2⟩ ?_
      rintro k hq
      refine WC.seq ?_
      refine WC.seq ?_
      refine WC.region ?_
      refine WL.move ?_
      refine WL.move ?_
      refine WL.mul ?_
      refine WL.add ?_
      refine WL.lss ?_
      refine WL.move ?_
      refine WL.split (t := 24) rfl (fun hb2 => ?_) (fun hb2 => ?_)
      · have hk8 : k < 8 * i + 8 := of_decide_eq_true hb2
        refine WL.gT ?_
        refine WL.move ?_
        refine WL.gT ?_
        refine WL.move ?_
        refine WL.gT ?_
        refine WL.lss ?_
        refine WL.pickT ?_
        refine WL.nil ?_
        refine WQ.next ?_
        refine WC.cond rfl (fun hb3 => ?_) (fun hb3 => ?_)
        · have hkm : k < m := of_decide_eq_true hb3
          refine WC.skip ?_
          refine WQ.next ?_
          refine WC.seq ?_
          refine WC.block ?_
          refine WC.seq ?_
          refine WC.region ?_
          refine WL.move ?_
          refine WL.move ?_
          refine WL.call (hc := Tryz.call133) (sp := bitsTest hR hn hl (by omega)) (h := ?_)
          rintro _ _ ⟨rfl, rfl⟩
          refine WL.not ?_
          refine WL.nil ?_
          refine WQ.next ?_
          refine WC.cond rfl (fun hb4 => ?_) (fun hb4 => ?_)
          · have h0 : tb xs k.toNat = false := by simpa using hb4
            refine WC.seq ?_
            refine WC.region ?_
            refine WL.move ?_
            refine WL.assign ?_
            refine WL.nil ?_
            refine WQ.next ?_
            refine WC.ret (WQ.blockRet (WQ.thenRet (WQ.thenRet (WQ.blockRet (WQ.blockRet (WQ.thenRet (WQ.thenRet (WQ.blockRet (WQ.thenRet (?_))))))))))
            have hfin := first0_some (xs := xs) (n := m.toNat) (k := k.toNat) (by omega) h0 (fun j hj => hq.2 j hj (by omega))
            exact WQ.ret1 (h1 := .tmp (t := 4) rfl) ⟨_, ⟨by rw [hfin]; exact congrArg (Value.int .i64) (by simp only []; omega), rfl⟩, Am.auto⟩
          · have h1 : tb xs k.toNat = true := by simpa using hb4
            refine WC.skip ?_
            refine WQ.blockNormal ?_
            refine WQ.next ?_
            refine WC.region ?_
            refine WL.move ?_
            refine WL.add ?_
            refine WL.assign ?_
            refine WL.nil ?_
            exact WQ.back (k + 1) ⟨by omega, fun j hj hj2 => if h : j < k.toNat then hq.2 j h hj2 else by rw [show j = k.toNat from by omega]; exact h1⟩ (by omega)
        · have hkm : ¬ k < m := of_decide_eq_false hb3
          refine WC.exit (WQ.thenExit (WQ.thenExit (WQ.blockExit (?_))))
          refine WQ.blockNormal ?_
          refine WQ.next ?_
          refine WC.region ?_
          refine WL.add ?_
          refine WL.move ?_
          refine WL.nil ?_
          exact WQ.back (i + 1) ⟨by omega, fun j hj hj2 => hq.2 j (by omega) hj2⟩ (by omega)
      · have hk8 : ¬ k < 8 * i + 8 := of_decide_eq_false hb2
        refine WL.gF ?_
        refine WL.gF ?_
        refine WL.gF ?_
        refine WL.pickF ?_
        refine WL.nil ?_
        refine WQ.next ?_
        refine WC.condF rfl rfl ?_
        refine WC.exit (WQ.thenExit (WQ.thenExit (WQ.blockExit (?_))))
        refine WQ.blockNormal ?_
        refine WQ.next ?_
        refine WC.region ?_
        refine WL.add ?_
        refine WL.move ?_
        refine WL.nil ?_
        exact WQ.back (i + 1) ⟨by omega, fun j hj hj2 => hq.2 j (by omega) hj2⟩ (by omega)
  · have hge : ¬ i < (n : Int) := of_decide_eq_false hb
    refine WC.exit (WQ.thenExit (WQ.thenExit (WQ.blockExit (?_))))
    refine WQ.next ?_
    refine WC.seq ?_
    refine WC.region ?_
    refine WL.assign ?_
    refine WL.nil ?_
    refine WQ.next ?_
    refine WC.ret (?_)
    have hfin := first0_none (xs := xs) (n := m.toNat) (fun j hj => hp.2 j (by omega) hj)
    exact WQ.ret1 (h1 := .tmp (t := 4) rfl) ⟨_, ⟨by rw [hfin], rfl⟩, Am.auto⟩

theorem bitsCount {R : HP} {A : Addr} {n c : Nat} {xs : Bytes} {m : Int} (hR : Reads R (some A) (bvs xs)) (hn : xs.length = n) (hl : n ≤ 1073741824) (hm : 0 ≤ m ∧ m ≤ 8 * n) : Spec Tryz.prog 112 #[.slice (some A) n c, .int .i64 m] [R]
    fun F v M => v = .int .i64 (count1 xs m.toNat : Int) ∧ M = R :: F := by
  refine Spec.intro Tryz.func112 rfl rfl fun B F => ?_
  simp only [Tryz.ntmps112, List.cons_append, List.nil_append, env0, Nat.reduceAdd]
  obtain ⟨ab, ao, asp⟩ := A
  have hsp : asp = none := hR.1
  subst hsp
  refine WC.seq ?_
  refine WC.region ?_
  refine WL.assign ?_
  refine WL.nil ?_
  refine WQ.next ?_
  refine WC.seq ?_
  refine WC.seq ?_
  refine WC.region ?_
  refine WL.move ?_
  refine WL.lenS ?_ sl33
  refine WL.move ?_
  refine WL.nil ?_
  refine WQ.next ?_
  refine WC.block ?_
  refine WC.loopA (σ := Int) (fun i => [(0, .slice (some ⟨ab, ao, none⟩) n c), (1, .int .i64 m), (4, .int .i64 (count1 xs (min (8 * i).toNat m.toNat) : Int)), (8, .slice (some ⟨ab, ao, none⟩) n c), (9, .int .i64 (n : Int)), (10, .int .i64 i)]) (fun _ => R :: F) (fun i => 0 ≤ i ∧ i ≤ n) (fun i => (n - i).toNat) 0 (by omega) ?_
  rintro i hp
  refine WC.seq ?_
  refine WC.region ?_
  refine WL.lss ?_
  refine WL.nil ?_
  refine WQ.next ?_
  refine WC.seq ?_
  refine WC.cond rfl (fun hb => ?_) (fun hb => ?_)
  · have hlt : i < (n : Int) := of_decide_eq_true hb
    refine WC.skip ?_
    refine WQ.next ?_
    refine WC.seq ?_
    refine WC.block ?_
    refine WC.seq ?_
    refine WC.region ?_
    refine WL.move ?_
    refine WL.idx1 ?_ so33
    refine WL.ldR ?_ sc5 hR (bvs_get (show i.toNat < xs.length by omega))
    refine WL.assign ?_
    refine WL.assign ?_
    refine WL.nil ?_
    refine WQ.next ?_
    refine WC.seq ?_
    refine WC.region ?_
    refine WL.move ?_
    refine WL.nil ?_
    refine WQ.next ?_
    refine WC.block ?_
    refine WC.cast (d := 4) rfl (congrArg (fun q => Value.int .i64 ((count1 xs q : Nat) : Int)) (show min (8 * i).toNat m.toNat = min (8 * i + 0).toNat m.toNat by omega)) ?_
    refine WC.loopA (σ := Int) (fun k => [(0, .slice (some ⟨ab, ao, none⟩) n c), (1, .int .i64 m), (4, .int .i64 (count1 xs (min (8 * i + k).toNat m.toNat) : Int)), (5, .int .i64 i), (6, bv (xs.getD i.toNat 0)), (8, .slice (some ⟨ab, ao, none⟩) n c), (9, .int .i64 (n : Int)), (10, .int .i64 i), (15, .int .i64 k)]) (fun _ => R :: F) (fun k => 0 ≤ k ∧ k ≤ 8) (fun k => (8 - k).toNat) 0 (by omega) ?_
    rintro k hq
    refine WC.seq ?_
    refine WC.region ?_
    refine WL.lss ?_
    refine WL.nil ?_
    refine WQ.next ?_
    refine WC.seq ?_
    refine WC.cond rfl (fun hb2 => ?_) (fun hb2 => ?_)
    · have hk8 : k < 8 := of_decide_eq_true hb2
      have hcl := count1_le xs (min (8 * i + k).toNat m.toNat)
      have hsm : (xs.getD i.toNat 0).toNat >>> k.toNat ≤ 255 := by
        have h1 := (xs.getD i.toNat 0).toNat_lt
        have h2 : (xs.getD i.toNat 0).toNat >>> k.toNat ≤ (xs.getD i.toNat 0).toNat := by rw [Nat.shiftRight_eq_div_pow]; exact Nat.div_le_self _ _
        omega
      refine WC.skip ?_
      refine WQ.next ?_
      refine WC.seq ?_
      refine WC.block ?_
      refine WC.seq ?_
      refine WC.region ?_
      refine WL.move ?_
      refine WL.assign ?_
      refine WL.nil ?_
      refine WQ.next ?_
      refine WC.seq ?_
      refine WC.region ?_
      refine WL.move ?_
      refine WL.mul ?_
      refine WL.move ?_
      refine WL.add ?_
      refine WL.move ?_
      refine WL.lss ?_
      refine WL.nil ?_
      refine WQ.next ?_
      refine WC.cond rfl (fun hb3 => ?_) (fun hb3 => ?_)
      · have hkm : 8 * i + k < m := of_decide_eq_true hb3
        have hte : (if tb xs (8 * i.toNat + k.toNat) then (1 : Int) else 0) ≤ 1 ∧ 0 ≤ (if tb xs (8 * i.toNat + k.toNat) then (1 : Int) else 0) := by split <;> omega
        have hstep : ((count1 xs (min (8 * i + k).toNat m.toNat) : Nat) : Int) + (if tb xs (8 * i.toNat + k.toNat) then (1 : Int) else 0) = ((count1 xs (min (8 * i + (k + 1)).toNat m.toNat) : Nat) : Int) := by
          rw [show min (8 * i + (k + 1)).toNat m.toNat = min (8 * i + k).toNat m.toNat + 1 from by omega, count1_succ, show min (8 * i + k).toNat m.toNat = 8 * i.toNat + k.toNat from by omega]
          split <;> simp
        refine WC.region ?_
        refine WL.move ?_
        refine WL.move ?_
        refine WL.move ?_
        refine WL.shr ?_
        refine WL.cast (d := 27) rfl (congrArg (Value.int .u8) (shrU8 (xs.getD i.toNat 0) (j := k) (by omega) (by omega))) ?_
        refine WL.and ?_
        refine WL.cast (d := 28) rfl (congrArg (Value.int .u8) (and1 _ hsm)) ?_
        refine WL.cvt ?_ un5 un3
        refine WL.cast (d := 29) rfl (congrArg (Value.int .i64) ((IntWalk.i64_in _ (by have := Nat.mod_lt ((xs.getD i.toNat 0).toNat >>> k.toNat) (show 2 > 0 by decide); omega)).trans (tb_shift xs i.toNat k.toNat (by omega)))) ?_
        refine WL.add ?_
        refine WL.assign ?_
        refine WL.nil ?_
        refine WQ.blockNormal ?_
        refine WQ.next ?_
        refine WC.region ?_
        refine WL.add ?_
        refine WL.move ?_
        refine WL.nil ?_
        refine WQ.cast (d := 4) rfl (congrArg (Value.int .i64) hstep) ?_
        exact WQ.back (k + 1) (by omega) (by omega)
      · have hkm : ¬ 8 * i + k < m := of_decide_eq_false hb3
        refine WC.skip ?_
        refine WQ.blockNormal ?_
        refine WQ.next ?_
        refine WC.region ?_
        refine WL.add ?_
        refine WL.move ?_
        refine WL.nil ?_
        refine WQ.cast (d := 4) rfl (congrArg (fun q => Value.int .i64 ((count1 xs q : Nat) : Int)) (show min (8 * i + k).toNat m.toNat = min (8 * i + (k + 1)).toNat m.toNat by omega)) ?_
        exact WQ.back (k + 1) (by omega) (by omega)
    · have hk8 : ¬ k < 8 := of_decide_eq_false hb2
      refine WC.exit (WQ.thenExit (WQ.thenExit (WQ.blockExit (?_))))
      refine WQ.blockNormal ?_
      refine WQ.next ?_
      refine WC.region ?_
      refine WL.add ?_
      refine WL.move ?_
      refine WL.nil ?_
      refine WQ.cast (d := 4) rfl (congrArg (fun q => Value.int .i64 ((count1 xs q : Nat) : Int)) (show min (8 * i + k).toNat m.toNat = min (8 * (i + 1)).toNat m.toNat by omega)) ?_
      exact WQ.back (i + 1) (by omega) (by omega)
  · have hge : ¬ i < (n : Int) := of_decide_eq_false hb
    refine WC.exit (WQ.thenExit (WQ.thenExit (WQ.blockExit (?_))))
    refine WQ.next ?_
    refine WC.seq ?_
    refine WC.region ?_
    refine WL.move ?_
    refine WL.assign ?_
    refine WL.nil ?_
    refine WQ.next ?_
    refine WC.ret (?_)
    exact WQ.ret1 (h1 := .tmp (t := 4) rfl) ⟨_, ⟨congrArg (fun q => Value.int .i64 ((count1 xs q : Nat) : Int)) (show min (8 * i).toNat m.toNat = m.toNat by omega), rfl⟩, Am.auto⟩

theorem bitsGet {R : HP} {A : Addr} {n c : Nat} {xs : Bytes} {p size : Int} {big : Bool} (hR : Reads R (some A) (bvs xs)) (hn : xs.length = n) (hl : n ≤ 1073741824) (hs : 1 ≤ size ∧ size ≤ 8) (h0 : 0 ≤ p) (h1 : p ≤ (n : Int) - size) : Spec Tryz.prog 117 #[.slice (some A) n c, .int .i64 p, .int .i64 size, .bool big] [R]
    fun F v M => v = .tuple #[.int .u64 (beNat (seg xs p.toNat size.toNat big) : Int), .bool true] ∧ M = R :: F := by
  refine Spec.intro Tryz.func117 rfl rfl fun B F => ?_
  simp only [Tryz.ntmps117, List.cons_append, List.nil_append, env0, Nat.reduceAdd]
  obtain ⟨ab, ao, asp⟩ := A
  have hsp : asp = none := hR.1
  subst hsp
  have hps : p.toNat + size.toNat ≤ xs.length := by omega
  refine WC.seq ?_
  refine WC.region ?_
  refine WL.assign ?_
  refine WL.assign ?_
  refine WL.nil ?_
  refine WQ.next ?_
  refine WC.seq ?_
  refine WC.seq ?_
  refine WC.region ?_
  refine WL.move ?_
  refine WL.move ?_
  refine WL.move ?_
  refine WL.call (hc := Tryz.call139) (sp := bitsMay (R := []) (by omega) hs h0 h1) (h := ?_)
  rintro _ _ ⟨rfl, rfl⟩
  refine WL.not ?_
  refine WL.nil ?_
  refine WQ.next ?_
  refine WC.condF rfl rfl ?_
  refine WC.skip ?_
  refine WQ.next ?_
  refine WC.seq ?_
  refine WC.seq ?_
  refine WC.region ?_
  refine WL.move ?_
  refine WL.move ?_
  refine WL.nil ?_
  refine WQ.next ?_
  refine WC.block ?_
  refine WC.loopA (σ := Int) (fun i => [(0, .slice (some ⟨ab, ao, none⟩) n c), (1, .int .i64 p), (2, .int .i64 size), (3, .bool big), (8, .int .u64 (beNat ((seg xs p.toNat size.toNat big).take i.toNat) : Int)), (17, .int .i64 size), (18, .int .i64 i)]) (fun _ => R :: F) (fun i => 0 ≤ i ∧ i ≤ size) (fun i => (size - i).toNat) 0 (by omega) ?_
  rintro i hp
  refine WC.seq ?_
  refine WC.region ?_
  refine WL.lss ?_
  refine WL.nil ?_
  refine WQ.next ?_
  refine WC.seq ?_
  refine WC.cond rfl (fun hb => ?_) (fun hb => ?_)
  · have hlt : i < size := of_decide_eq_true hb
    have hacc : beNat ((seg xs p.toNat size.toNat big).take i.toNat) < 2 ^ 56 := by
      have h2 := beNat_lt ((seg xs p.toNat size.toNat big).take i.toNat)
      rw [List.length_take, seg_length hps, show min i.toNat size.toNat = i.toNat from by omega] at h2
      have h3 : 256 ^ i.toNat ≤ 256 ^ 7 := Nat.pow_le_pow_right (by decide) (by omega)
      omega
    refine WC.skip ?_
    refine WQ.next ?_
    refine WC.seq ?_
    refine WC.block ?_
    refine WC.seq ?_
    refine WC.region ?_
    refine WL.move ?_
    refine WL.assign ?_
    refine WL.nil ?_
    refine WQ.next ?_
    refine WC.seq ?_
    refine WC.region ?_
    refine WL.move ?_
    refine WL.assign ?_
    refine WL.nil ?_
    refine WQ.next ?_
    refine WC.seq ?_
    refine WC.seq ?_
    refine WC.region ?_
    refine WL.move ?_
    refine WL.not ?_
    refine WL.nil ?_
    refine WQ.next ?_
    refine WC.cond rfl (fun hbig => ?_) (fun hbig => ?_)
    · have hbg : big = false := by simpa using hbig
      subst hbg
      have hlt2 : (p + (size - 1 - i)).toNat < xs.length := by omega
      have hstep : ((beNat ((seg xs p.toNat size.toNat false).take i.toNat) * 256 + (xs.getD (p + (size - 1 - i)).toNat 0).toNat : Nat) : Int) = ((beNat ((seg xs p.toNat size.toNat false).take (i + 1).toNat) : Nat) : Int) := by
        rw [show (i + 1).toNat = i.toNat + 1 from by omega, seg_take_succ hps (by omega), show (p + (size - 1 - i)).toNat = p.toNat + (if false then i.toNat else size.toNat - 1 - i.toNat) from by simp; omega]
      refine WC.region ?_
      refine WL.move ?_
      refine WL.sub ?_
      refine WL.move ?_
      refine WL.sub ?_
      refine WL.assign ?_
      refine WL.nil ?_
      refine WQ.next ?_
      refine WC.region ?_
      refine WL.move ?_
      refine WL.shl ?_
      refine WL.move ?_
      refine WL.move ?_
      refine WL.move ?_
      refine WL.add ?_
      refine WL.idx1 ?_ so33
      refine WL.ldR ?_ sc5 hR (bvs_get hlt2)
      refine WL.cvt ?_ un5 un138
      refine WL.cast (d := 36) rfl (congrArg (Value.int .u64) (IntWalk.u64_in _ (by have := u8bound (xs.getD (p + (size - 1 - i)).toNat 0); omega))) ?_
      refine WL.or ?_
      refine WL.cast (d := 37) rfl (congrArg (Value.int .u64) ((band64or _ _ hacc (xs.getD (p + (size - 1 - i)).toNat 0).toNat_lt).trans hstep)) ?_
      refine WL.assign ?_
      refine WL.nil ?_
      refine WQ.blockNormal ?_
      refine WQ.next ?_
      refine WC.region ?_
      refine WL.add ?_
      refine WL.move ?_
      refine WL.nil ?_
      exact WQ.back (i + 1) (by omega) (by omega)
    · have hbg : big = true := by simpa using hbig
      subst hbg
      have hlt2 : (p + i).toNat < xs.length := by omega
      have hstep : ((beNat ((seg xs p.toNat size.toNat true).take i.toNat) * 256 + (xs.getD (p + i).toNat 0).toNat : Nat) : Int) = ((beNat ((seg xs p.toNat size.toNat true).take (i + 1).toNat) : Nat) : Int) := by
        rw [show (i + 1).toNat = i.toNat + 1 from by omega, seg_take_succ hps (by omega), show (p + i).toNat = p.toNat + (if true then i.toNat else size.toNat - 1 - i.toNat) from by simp; omega]
      refine WC.skip ?_
      refine WQ.next ?_
      refine WC.region ?_
      refine WL.move ?_
      refine WL.shl ?_
      refine WL.move ?_
      refine WL.move ?_
      refine WL.move ?_
      refine WL.add ?_
      refine WL.idx1 ?_ so33
      refine WL.ldR ?_ sc5 hR (bvs_get hlt2)
      refine WL.cvt ?_ un5 un138
      refine WL.cast (d := 36) rfl (congrArg (Value.int .u64) (IntWalk.u64_in _ (by have := u8bound (xs.getD (p + i).toNat 0); omega))) ?_
      refine WL.or ?_
      refine WL.cast (d := 37) rfl (congrArg (Value.int .u64) ((band64or _ _ hacc (xs.getD (p + i).toNat 0).toNat_lt).trans hstep)) ?_
      refine WL.assign ?_
      refine WL.nil ?_
      refine WQ.blockNormal ?_
      refine WQ.next ?_
      refine WC.region ?_
      refine WL.add ?_
      refine WL.move ?_
      refine WL.nil ?_
      exact WQ.back (i + 1) (by omega) (by omega)
  · have hge : ¬ i < size := of_decide_eq_false hb
    refine WC.exit (WQ.thenExit (WQ.thenExit (WQ.blockExit (?_))))
    refine WQ.next ?_
    refine WC.seq ?_
    refine WC.region ?_
    refine WL.move ?_
    refine WL.assign ?_
    refine WL.assign ?_
    refine WL.nil ?_
    refine WQ.next ?_
    refine WC.ret (?_)
    have hfin : (seg xs p.toNat size.toNat big).take i.toNat = seg xs p.toNat size.toNat big := List.take_of_length_le (by rw [seg_length hps]; omega)
    exact WQ.ret2 (h1 := .tmp (t := 8) rfl) (h2 := .tmp (t := 9) rfl) ⟨_, ⟨by rw [hfin], rfl⟩, Am.auto⟩

theorem bitsPut {R : HP} {A : Addr} {n c : Nat} {xs : Bytes} {p size : Int} {big : Bool} {v : Nat} (hR : Reads R (some A) (bvs xs)) (hn : xs.length = n) (hl : n ≤ 1073741824) (hs : 1 ≤ size ∧ size ≤ 8) (h0 : 0 ≤ p) (h1 : p ≤ (n : Int) - size) (hv : v < 2 ^ 64) : Spec Tryz.prog 116 #[.slice (some A) n c, .int .i64 p, .int .i64 size, .bool big, .int .u64 (v : Int)] [R]
    fun F u M => ∃ g q, (u = .tuple #[.slice (some ⟨g, 0, none⟩) n q, .bool true] ∧ n ≤ q ∧ q ≤ maxLen) ∧ M = buf g 5 q (bvs (put xs p.toNat size.toNat big v)) :: R :: F := by
  refine Spec.intro Tryz.func116 rfl rfl fun B F => ?_
  simp only [Tryz.ntmps116, List.cons_append, List.nil_append, env0, Nat.reduceAdd]
  obtain ⟨ab, ao, asp⟩ := A
  have hsp : asp = none := hR.1
  subst hsp
  have hps : p.toNat + size.toNat ≤ xs.length := by omega
  refine WC.seq ?_
  refine WC.region ?_
  refine WL.assign ?_
  refine WL.assign ?_
  refine WL.nil ?_
  refine WQ.next ?_
  refine WC.seq ?_
  refine WC.seq ?_
  refine WC.region ?_
  refine WL.move ?_
  refine WL.move ?_
  refine WL.move ?_
  refine WL.call (hc := Tryz.call139) (sp := bitsMay (R := []) (by omega) hs h0 h1) (h := ?_)
  rintro _ _ ⟨rfl, rfl⟩
  refine WL.not ?_
  refine WL.nil ?_
  refine WQ.next ?_
  refine WC.condF rfl rfl ?_
  refine WC.skip ?_
  refine WQ.next ?_
  refine WC.seq ?_
  refine WC.region ?_
  refine WL.move ?_
  refine WL.call (hc := Tryz.call123) (sp := bytesClone hR hn hl) (h := ?_)
  rintro _ _ ⟨gc, kc, ⟨rfl, hc1, hc2⟩, rfl⟩
  refine WL.assign ?_
  refine WL.nil ?_
  refine WQ.next ?_
  refine WC.seq ?_
  refine WC.seq ?_
  refine WC.region ?_
  refine WL.move ?_
  refine WL.move ?_
  refine WL.nil ?_
  refine WQ.next ?_
  refine WC.block ?_
  refine WC.loopA (σ := Int) (fun i => [(0, .slice (some ⟨ab, ao, none⟩) n c), (1, .int .i64 p), (2, .int .i64 size), (3, .bool big), (4, .int .u64 (v : Int)), (12, .slice (some ⟨gc, 0, none⟩) n kc), (22, .int .i64 size), (23, .int .i64 i)]) (fun i => buf gc 5 kc (bvs (putN xs p.toNat size.toNat big v i.toNat)) :: R :: F) (fun i => 0 ≤ i ∧ i ≤ size) (fun i => (size - i).toNat) 0 (by omega) ?_
  rintro i hp
  refine WC.seq ?_
  refine WC.region ?_
  refine WL.lss ?_
  refine WL.nil ?_
  refine WQ.next ?_
  refine WC.seq ?_
  refine WC.cond rfl (fun hb => ?_) (fun hb => ?_)
  · have hlt : i < size := of_decide_eq_true hb
    refine WC.skip ?_
    refine WQ.next ?_
    refine WC.seq ?_
    refine WC.block ?_
    refine WC.seq ?_
    refine WC.region ?_
    refine WL.move ?_
    refine WL.assign ?_
    refine WL.nil ?_
    refine WQ.next ?_
    refine WC.seq ?_
    refine WC.region ?_
    refine WL.move ?_
    refine WL.assign ?_
    refine WL.nil ?_
    refine WQ.next ?_
    refine WC.seq ?_
    refine WC.seq ?_
    refine WC.region ?_
    refine WL.move ?_
    refine WL.nil ?_
    refine WQ.next ?_
    refine WC.cond rfl (fun hbig => ?_) (fun hbig => ?_)
    · subst hbig
      have hnl := putN_length xs p.toNat size.toNat true v i.toNat
      have hstep : (bvs (putN xs p.toNat size.toNat true v i.toNat)).set (0 + (p + (size - 1 - i)).toNat) (.int .u8 (IntKind.u8.wrap ((v : Int).fdiv (2 ^ (min (8 * i).toNat IntKind.u64.bits))))) = bvs (putN xs p.toNat size.toNat true v (i + 1).toNat) := by
        rw [byte_of v hv (by omega) (by omega), show (i + 1).toNat = i.toNat + 1 from by omega, putN, bvs_set, show 0 + (p + (size - 1 - i)).toNat = p.toNat + (if true then size.toNat - 1 - i.toNat else i.toNat) from by simp; omega]
        rfl
      refine WC.region ?_
      refine WL.move ?_
      refine WL.sub ?_
      refine WL.move ?_
      refine WL.sub ?_
      refine WL.assign ?_
      refine WL.nil ?_
      refine WQ.next ?_
      refine WC.region ?_
      refine WL.move ?_
      refine WL.move ?_
      refine WL.move ?_
      refine WL.add ?_
      refine WL.move ?_
      refine WL.move ?_
      refine WL.mul ?_
      refine WL.shr ?_
      refine WL.cvt ?_ un138 un5
      refine WL.idx1 ?_ so33
      refine WL.stB ?_ sc5 (show 0 + (p + (size - 1 - i)).toNat < (bvs (putN xs p.toNat size.toNat true v i.toNat)).length by rw [bvs_length]; omega)
      refine WL.nil ?_
      refine WQ.blockNormal ?_
      refine WQ.next ?_
      refine WC.region ?_
      refine WL.add ?_
      refine WL.move ?_
      refine WL.nil ?_
      refine WQ.to (r := .here) (A' := buf gc 5 kc (bvs (putN xs p.toNat size.toNat true v (i + 1).toNat))) (fun h hh => by rw [← hstep]; exact hh) ?_
      exact WQ.back (i + 1) (by omega) (by omega)
    · subst hbig
      have hnl := putN_length xs p.toNat size.toNat false v i.toNat
      have hstep : (bvs (putN xs p.toNat size.toNat false v i.toNat)).set (0 + (p + i).toNat) (.int .u8 (IntKind.u8.wrap ((v : Int).fdiv (2 ^ (min (8 * i).toNat IntKind.u64.bits))))) = bvs (putN xs p.toNat size.toNat false v (i + 1).toNat) := by
        rw [byte_of v hv (by omega) (by omega), show (i + 1).toNat = i.toNat + 1 from by omega, putN, bvs_set, show 0 + (p + i).toNat = p.toNat + (if false then size.toNat - 1 - i.toNat else i.toNat) from by simp; omega]
        rfl
      refine WC.skip ?_
      refine WQ.next ?_
      refine WC.region ?_
      refine WL.move ?_
      refine WL.move ?_
      refine WL.move ?_
      refine WL.add ?_
      refine WL.move ?_
      refine WL.move ?_
      refine WL.mul ?_
      refine WL.shr ?_
      refine WL.cvt ?_ un138 un5
      refine WL.idx1 ?_ so33
      refine WL.stB ?_ sc5 (show 0 + (p + i).toNat < (bvs (putN xs p.toNat size.toNat false v i.toNat)).length by rw [bvs_length]; omega)
      refine WL.nil ?_
      refine WQ.blockNormal ?_
      refine WQ.next ?_
      refine WC.region ?_
      refine WL.add ?_
      refine WL.move ?_
      refine WL.nil ?_
      refine WQ.to (r := .here) (A' := buf gc 5 kc (bvs (putN xs p.toNat size.toNat false v (i + 1).toNat))) (fun h hh => by rw [← hstep]; exact hh) ?_
      exact WQ.back (i + 1) (by omega) (by omega)
  · have hge : ¬ i < size := of_decide_eq_false hb
    have hfin : i.toNat = size.toNat := by omega
    have hput : put xs p.toNat size.toNat big v = putN xs p.toNat size.toNat big v i.toNat := by unfold put; rw [hfin]
    refine WC.exit (WQ.thenExit (WQ.thenExit (WQ.blockExit (?_))))
    refine WQ.next ?_
    refine WC.seq ?_
    refine WC.region ?_
    refine WL.move ?_
    refine WL.assign ?_
    refine WL.assign ?_
    refine WL.nil ?_
    refine WQ.next ?_
    refine WC.ret (?_)
    refine WQ.to (r := .here) (A' := buf gc 5 kc (bvs (put xs p.toNat size.toNat big v))) (fun h hh => by rw [hput]; exact hh) ?_
    exact WQ.ret2 (h1 := .tmp (t := 10) rfl) (h2 := .tmp (t := 11) rfl) ⟨_, ⟨gc, kc, ⟨rfl, hc1, hc2⟩, rfl⟩, Am.auto⟩

end Go.Proofs.YtedmihapieleaaaGreat
