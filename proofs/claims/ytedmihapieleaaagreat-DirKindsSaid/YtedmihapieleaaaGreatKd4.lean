/- A part of the proof of dirKinds.proved: texts of this work put together. -/
import Derived.Test.YtedmihapieleaaaGreatKd3
import Derived.KernelRfl
import Derived.WideKeyRuns
import Derived.Laws.RangeAny
import Derived.Lib.OthersKept
import Derived.Lib.Bytealg
import Derived.Lib.IndexBytes
import Derived.Scope
import Derived.Laws.Concat
import Derived.Shelf.SlSortCmp.NoneTotal
import Derived.Laws.Cover1
import Derived.Sort.Walk0
import Derived.WalkKit
import Derived.Test.YtedmihapieleaaaGreatRows
import Derived.ProofKit
import Derived.OpenShut
import Derived.Carry
import Derived.Deep.Slices
set_option linter.unusedVariables false
set_option linter.unusedSimpArgs false
set_option linter.unusedSectionVars false
section
namespace Go.Proofs.YtedmihapieleaaaGreat
open Go
theorem read_step {V : Nat → Bytes} {x : Nd} {bs : Bytes} {cur mm at' : Nat} (hb : ∀ q, q < bs.length → fb V x q = bs.getD q 0) (h1 : cur % 512 + mm ≤ 512) (h2 : cur + mm ≤ bs.length) (h3 : at' ≤ cur) (h5 : (V (ptr V x (cur / 512))).length = 512) :
    (bs.drop at').take (cur + mm - at') = (bs.drop at').take (cur - at') ++ ((V (ptr V x (cur / 512))).drop (cur % 512)).take mm := by
  rw [show cur + mm - at' = (cur - at') + mm from by omega, List.take_add, List.drop_drop, show at' + (cur - at') = cur from by omega]
  congr 1
  apply List.ext_getElem?
  intro j
  simp only [List.getElem?_take, List.getElem?_drop]
  by_cases hj : j < mm
  · rw [if_pos hj, if_pos hj]
    have := hb (cur + j) (by omega)
    unfold fb at this
    rw [show (cur + j) / 512 = cur / 512 from by omega, show (cur + j) % 512 = cur % 512 + j from by omega, List.getD_eq_getElem?_getD, List.getD_eq_getElem?_getD, List.getElem?_eq_getElem (by omega), List.getElem?_eq_getElem (by omega)] at this
    rw [List.getElem?_eq_getElem (by omega), List.getElem?_eq_getElem (by omega)]
    exact congrArg some this.symm
  · rw [if_neg hj, if_neg hj]
theorem inRead {s c a : Nat} {p : Pl} {V0 V : Nat → Bytes} {D : List Nat} {op : Bool} {F0 : FM} {i at' k : Nat} {f : Nat × Bytes} (h : Rep p V F0) (ho : PlOk p) (hi : F0 i = some f) (hat : at' ≤ 9223372036854775807) (hk : k ≤ 9223372036854775807) :
    Spec Tryz.prog 23 #[.pointer (some ⟨s, 0, none⟩), nI i, nI at', nI k] [pt s (stO c a p), pt a (alO c p), TR c p.n V0 V D op] fun F v M => ∃ u, v = .tuple #[u, .int .i64 0] ∧ M = rowR 5 1 u ((f.2.drop at').take k).length (bvs ((f.2.drop at').take k)) :: [pt s (stO c a p), pt a (alO c p), TR c p.n V0 V D op] ++ F := by
  refine Spec.intro Tryz.func23 rfl rfl fun B F => ?_
  simp only [Tryz.ntmps23, List.cons_append, List.nil_append, env0, Nat.reduceAdd]
  have hf := h.ok i f hi
  have hsz := hf.sz
  have hbig := hf.big
  have hlt := h.lt hi
  have hi2 := ho.i2
  have hlo := ho.lo
  have htab := ho.tab
  have hnd := repNd (p := p) (V := V) hi
  have hfx := h.inv.fits i _ _ hnd
  have hbl := hfx.bl
  have hnl := ndL_length hbl
  have hcl := h.cntle
  have hszg : (ndL (ldN p V i))[1]? = some (nI f.2.length) := by rw [← hsz]; rfl
  have hmxl : maxLen = 9223372036854775807 := rfl
  have hd138 := dat_le hbig
  rcases (show ¬ at' < f.2.length ∨ (at' < f.2.length ∧ k < f.2.length - at') ∨ (at' < f.2.length ∧ ¬ k < f.2.length - at') from by omega) with hc | ⟨hc, hc2⟩ | ⟨hc, hc2⟩
  · obtain ⟨en, hen, hen1, hen2⟩ : ∃ en, en = f.2.length ∧ en ≤ f.2.length ∧ (f.2.drop at').take k = (f.2.drop at').take (en - at') := ⟨_, rfl, by omega, by rw [List.drop_eq_nil_of_le (by omega), List.take_nil, List.take_nil]⟩
    refine WC.seq ?_
    refine WC.region ?_
    refine WL.assign ?_
    refine WL.assign ?_
    refine WL.nil ?_
    refine WQ.next ?_
    refine WC.seq ?_
    refine WC.region ?_
    refine WL.move ?_
    refine WL.move ?_
    refine WL.call (hc := Tryz.call61) (sp := inLoad (i := i) (V0 := V0) (V := V) (D := D) (op := op) ho (h.lt hi) (h.digI hi)) (h := ?_)
    rintro _ _ ⟨rfl, rfl⟩
    simp only [List.cons_append, List.nil_append]
    refine WL.move ?_
    refine WL.extract ?_
    refine WL.extract ?_
    refine WL.allocL zNd rfl fun b10 => ?_
    refine WL.stLA (xs := ndL nd0) (us := ndL (ldN p V i)) ?_ agg92 hnl rfl (ndL_single _)
    refine WL.assign ?_
    refine WL.nil ?_
    refine WQ.next ?_
    refine WC.seq ?_
    refine WC.seq ?_
    refine WC.region ?_
    refine WL.move ?_
    refine WL.nei ?_
    refine WL.nil ?_
    refine WQ.next ?_
    refine WC.condF rfl rfl ?_
    refine WC.skip ?_
    refine WQ.next ?_
    refine WC.seq ?_
    refine WC.seq ?_
    refine WC.region ?_
    refine WL.move ?_
    refine WL.lss ?_
    refine WL.move ?_
    refine WL.cast (d := 30) (u := .bool false) rfl (congrArg Value.bool (by first | (simp; done) | (simp; omega) | (unfold nI; simp; omega) | omega)) ?_
    refine WL.gT ?_
    refine WL.move ?_
    refine WL.gT ?_
    refine WL.lss ?_
    refine WL.pickF ?_
    refine WL.nil ?_
    refine WQ.next ?_
    refine WC.condF rfl (congrArg Value.bool (by first | (simp; done) | (simp; omega) | (unfold nI; simp; omega) | omega)) ?_
    refine WC.skip ?_
    refine WQ.next ?_
    refine WC.seq ?_
    refine WC.region ?_
    refine WL.fa ?_ fo92_1
    refine WL.ldL (xs := ndL (ldN p V i)) (i := 1) ?_ sc3 hszg
    refine WL.cast (d := 35) (u := nI en) rfl (congrArg nI hen.symm) ?_
    refine WL.assign ?_
    refine WL.nil ?_
    refine WQ.next ?_
    refine WC.seq ?_
    refine WC.seq ?_
    refine WC.region ?_
    refine WL.move ?_
    refine WL.move ?_
    refine WL.lss ?_
    refine WL.move ?_
    refine WL.cast (d := 39) (u := .bool false) rfl (congrArg Value.bool (by first | (simp; done) | (simp; omega) | (unfold nI; simp; omega) | omega)) ?_
    refine WL.gF ?_
    refine WL.gF ?_
    refine WL.gF ?_
    refine WL.gF ?_
    refine WL.gF ?_
    refine WL.pickF ?_
    refine WL.nil ?_
    refine WQ.next ?_
    refine WC.condF rfl rfl ?_
    refine WC.skip ?_
    refine WQ.next ?_
    refine WC.seq ?_
    refine WC.region ?_
    refine WL.assign ?_
    refine WL.emp (A := rowR 5 1 (.slice none 0 0) (at' - at') (bvs ((f.2.drop at').take (at' - at')))) (by rw [Nat.sub_self]; exact rowR.nil _) ?_
    refine WL.nil ?_
    refine WQ.next ?_
    refine WC.seq ?_
    refine WC.block ?_
    refine WC.loopA (σ := Nat × Value) (fun y => [(0, .pointer (some ⟨s, 0, none⟩)), (2, nI y.1), (10, .pointer (some ⟨b10, 0, none⟩)), (12, nI en), (13, y.2)]) (fun y => [rowR 5 1 y.2 (y.1 - at') (bvs ((f.2.drop at').take (y.1 - at'))), row b10 92 (ndL (ldN p V i)), pt s (stO c a p), pt a (alO c p), TR c p.n V0 V D op] ++ F) (fun y => at' ≤ y.1 ∧ (y.1 ≤ en ∨ y.1 = at')) (fun y => en - y.1) (at', .slice none 0 0) ⟨Nat.le_refl _, .inr rfl⟩ ?_
    rintro ⟨cur, u⟩ hy
    obtain ⟨hc1, hc2⟩ := hy
    simp only at hc1 hc2
    refine WC.seq ?_
    refine WC.seq ?_
    refine WC.region ?_
    refine WL.move ?_
    refine WL.move ?_
    refine WL.lss ?_
    refine WL.nil ?_
    refine WQ.next ?_
    refine WC.cond rfl (fun hb => ?_) (fun hb => ?_)
    · have hlt2 : cur < en := by have := of_decide_eq_true hb; omega
      obtain ⟨mm, hmm⟩ : ∃ mm, mm = min (512 - cur % 512) (en - cur) := ⟨_, rfl⟩
      have hSk : stdS (dat f.2.length) (cur / 512) = true := stdS_iff.2 (.inl (by unfold dat; omega))
      have hrk := h.inv.rng i _ _ _ hnd hSk
      have hV200 : 10 ≤ cur / 512 → 245 ≤ (ldN p V i).bl.getD 10 0 ∧ (ldN p V i).bl.getD 10 0 < p.n := fun h10 => by
        have := h.inv.rng i _ _ 200 hnd (stdS_iff.2 (.inr ⟨rfl, by unfold dat; omega⟩))
        rw [ptr_200] at this
        omega
      have hrs := read_step (cur := cur) (mm := mm) (at' := at') hf.byt (by omega) (by omega) hc1 (h.inv.len _)
      refine WC.skip ?_
      refine WQ.next ?_
      refine WC.block ?_
      refine WC.seq ?_
      refine WC.region ?_
      refine WL.move ?_
      refine WL.ldW (xs := ndL (ldN p V i)) ?_ agg92 hnl
      refine WL.move ?_
      refine WL.quo ?_
      refine WL.cast (d := 56) (u := nI (cur / 512)) rfl (congrArg (Value.int .i64) (by omega)) ?_
      refine WL.call (hc := Tryz.call62) (sp := inBlock (x := ldN p V i) (k := cur / 512) (V0 := V0) (V := V) (D := D) (op := op) hbl (by omega) hV200) (h := ?_)
      rintro _ _ ⟨rfl, rfl⟩
      simp only [List.cons_append, List.nil_append]
      refine WL.move ?_
      refine WL.extract ?_
      refine WL.extract ?_
      refine WL.assign ?_
      refine WL.assign ?_
      refine WL.nil ?_
      refine WQ.next ?_
      refine WC.seq ?_
      refine WC.seq ?_
      refine WC.region ?_
      refine WL.move ?_
      refine WL.nei ?_
      refine WL.nil ?_
      refine WQ.next ?_
      refine WC.condF rfl rfl ?_
      refine WC.skip ?_
      refine WQ.next ?_
      refine WC.seq ?_
      refine WC.region ?_
      refine WL.move ?_
      refine WL.nilCheck ?_
      refine WL.fa ?_ fo87_0
      refine WL.ld ?_ sc24
      refine WL.move ?_
      refine WL.call (hc := Tryz.call63) (sp := tRead (n := p.n) (V0 := V0) (V := V) (D := D) (op := op) (k := ptr V (ldN p V i) (cur / 512)) (by omega) (by omega)) (h := ?_)
      rintro _ _ ⟨gb, q, el, rfl, ⟨hq1, hq2, hl5⟩, rfl⟩
      refine WL.move ?_
      refine WL.extract ?_
      refine WL.extract ?_
      refine WL.assign ?_
      refine WL.assign ?_
      refine WL.nil ?_
      refine WQ.next ?_
      refine WC.seq ?_
      refine WC.seq ?_
      refine WC.region ?_
      refine WL.move ?_
      refine WL.nei ?_
      refine WL.nil ?_
      refine WQ.next ?_
      refine WC.condF rfl rfl ?_
      refine WC.skip ?_
      refine WQ.next ?_
      refine WC.seq ?_
      refine WC.region ?_
      refine WL.move ?_
      refine WL.rem ?_
      refine WL.cast (d := 76) (u := nI (cur % 512)) rfl (congrArg (Value.int .i64) (by omega)) ?_
      refine WL.assign ?_
      refine WL.nil ?_
      refine WQ.next ?_
      refine WC.seq ?_
      refine WC.region ?_
      refine WL.move ?_
      refine WL.move ?_
      refine WL.add ?_
      refine WL.move ?_
      refine WL.sub ?_
      refine WL.minI ?_
      refine WL.cast (d := 82) (u := nI (cur % 512 + mm)) rfl (congrArg (Value.int .i64) (by split <;> omega)) ?_
      refine WL.assign ?_
      refine WL.nil ?_
      refine WQ.next ?_
      refine WC.seq ?_
      refine WC.region ?_
      refine WL.move ?_
      refine WL.move ?_
      refine WL.move ?_
      refine WL.move ?_
      refine WL.slcLH ?_ so33
      refine WL.cast (d := 87) (u := .slice (some ⟨gb, cur % 512, none⟩) mm (q - cur % 512)) rfl (by rw [show ((cur % 512 : Nat) : Int).toNat = cur % 512 from Int.toNat_natCast _, show ((cur % 512 + mm : Nat) : Int).toNat = cur % 512 + mm from Int.toNat_natCast _, if_neg (by omega), Nat.zero_add, Nat.mul_one, show cur % 512 + mm - cur % 512 = mm from by omega]) ?_
      have hnews : Reads (buf gb el q (bvs (V (ptr V (ldN p V i) (cur / 512))))) (some ⟨gb, cur % 512, none⟩) (bvs (((V (ptr V (ldN p V i) (cur / 512))).drop (cur % 512)).take mm)) := by
        have := (Reads.buf (g := gb) (e := el) (k := q) (xs := bvs (V (ptr V (ldN p V i) (cur / 512))))).drop (cur % 512)
        rw [Nat.zero_add] at this
        rw [bvs_take, bvs_drop]
        exact this.take mm
      refine WL.appendAny (m := mm) so33 (by decide) (by repeat (first | exact .here | apply Rem.there | apply Repl.there | apply Mem.there)) hnews (by repeat (first | exact .here | apply Rem.there | apply Repl.there | apply Mem.there)) (by rw [bvs_length, List.length_take, List.length_drop, hl5]; omega) (bvs_single _) (by omega) (by omega) ⟨_, z5, rfl⟩ (fun vB hvB => ?_)
      refine WL.assign ?_
      refine WL.nil ?_
      refine WQ.next ?_
      refine WC.region ?_
      refine WL.move ?_
      refine WL.move ?_
      refine WL.move ?_
      refine WL.sub ?_
      refine WL.add ?_
      refine WL.cast (d := 93) (u := nI (cur + mm)) rfl (congrArg (Value.int .i64) (by omega)) ?_
      refine WL.assign ?_
      refine WL.nil ?_
      refine WQ.blockNormal ?_
      refine WQ.to (A := rowR 5 1 vB (cur - at' + mm) (bvs ((f.2.drop at').take (cur - at')) ++ bvs (((V (ptr V (ldN p V i) (cur / 512))).drop (cur % 512)).take mm))) (A' := rowR 5 1 vB (cur + mm - at') (bvs ((f.2.drop at').take (cur + mm - at')))) (fun h hh => by rw [hrs, bvs_append, show cur + mm - at' = cur - at' + mm from by omega]; exact hh) ?_
      exact WQ.back (cur + mm, vB) ⟨by show at' ≤ cur + mm; omega, by show cur + mm ≤ en ∨ cur + mm = at'; omega⟩ (by show en - (cur + mm) < en - cur; omega)
    · have hge : ¬ cur < en := by have := of_decide_eq_false hb; omega
      have hfe : (f.2.drop at').take (cur - at') = (f.2.drop at').take k := by
        rw [hen2]
        rcases hc2 with h1 | h1
        · rw [show cur = en from by omega]
        · rw [show cur - at' = 0 from by omega, show en - at' = 0 from by omega]
      have hfl : ((f.2.drop at').take k).length = cur - at' := by
        rw [← hfe, List.length_take, List.length_drop]
        omega
      refine WC.exit (WQ.thenExit (WQ.thenExit (WQ.blockExit (?_))))
      refine WQ.next ?_
      refine WC.seq ?_
      refine WC.region ?_
      refine WL.move ?_
      refine WL.assign ?_
      refine WL.assign ?_
      refine WL.nil ?_
      refine WQ.next ?_
      refine WC.ret (?_)
      refine WQ.to (A := rowR 5 1 u (cur - at') (bvs ((f.2.drop at').take (cur - at')))) (A' := rowR 5 1 u ((f.2.drop at').take k).length (bvs ((f.2.drop at').take k))) (fun h hh => by rw [hfl, ← hfe]; exact hh) ?_
      exact WQ.ret2 (h1 := .tmp (t := 8) rfl) (h2 := .tmp (t := 9) rfl) ⟨_, ⟨u, rfl, rfl⟩, Am.auto⟩
  · obtain ⟨en, hen, hen1, hen2⟩ : ∃ en, en = at' + k ∧ en ≤ f.2.length ∧ (f.2.drop at').take k = (f.2.drop at').take (en - at') := ⟨_, rfl, by omega, by congr 1; omega⟩
    refine WC.seq ?_
    refine WC.region ?_
    refine WL.assign ?_
    refine WL.assign ?_
    refine WL.nil ?_
    refine WQ.next ?_
    refine WC.seq ?_
    refine WC.region ?_
    refine WL.move ?_
    refine WL.move ?_
    refine WL.call (hc := Tryz.call61) (sp := inLoad (i := i) (V0 := V0) (V := V) (D := D) (op := op) ho (h.lt hi) (h.digI hi)) (h := ?_)
    rintro _ _ ⟨rfl, rfl⟩
    simp only [List.cons_append, List.nil_append]
    refine WL.move ?_
    refine WL.extract ?_
    refine WL.extract ?_
    refine WL.allocL zNd rfl fun b10 => ?_
    refine WL.stLA (xs := ndL nd0) (us := ndL (ldN p V i)) ?_ agg92 hnl rfl (ndL_single _)
    refine WL.assign ?_
    refine WL.nil ?_
    refine WQ.next ?_
    refine WC.seq ?_
    refine WC.seq ?_
    refine WC.region ?_
    refine WL.move ?_
    refine WL.nei ?_
    refine WL.nil ?_
    refine WQ.next ?_
    refine WC.condF rfl rfl ?_
    refine WC.skip ?_
    refine WQ.next ?_
    refine WC.seq ?_
    refine WC.seq ?_
    refine WC.region ?_
    refine WL.move ?_
    refine WL.lss ?_
    refine WL.move ?_
    refine WL.cast (d := 30) (u := .bool false) rfl (congrArg Value.bool (by first | (simp; done) | (simp; omega) | (unfold nI; simp; omega) | omega)) ?_
    refine WL.gT ?_
    refine WL.move ?_
    refine WL.gT ?_
    refine WL.lss ?_
    refine WL.pickF ?_
    refine WL.nil ?_
    refine WQ.next ?_
    refine WC.condF rfl (congrArg Value.bool (by first | (simp; done) | (simp; omega) | (unfold nI; simp; omega) | omega)) ?_
    refine WC.skip ?_
    refine WQ.next ?_
    refine WC.seq ?_
    refine WC.region ?_
    refine WL.fa ?_ fo92_1
    refine WL.ldL (xs := ndL (ldN p V i)) (i := 1) ?_ sc3 hszg
    refine WL.assign ?_
    refine WL.nil ?_
    refine WQ.next ?_
    refine WC.seq ?_
    refine WC.seq ?_
    refine WC.region ?_
    refine WL.move ?_
    refine WL.move ?_
    refine WL.lss ?_
    refine WL.move ?_
    refine WL.cast (d := 39) (u := .bool true) rfl (congrArg Value.bool (by first | (simp; done) | (simp; omega) | (unfold nI; simp; omega) | omega)) ?_
    refine WL.gT ?_
    refine WL.move ?_
    refine WL.gT ?_
    refine WL.move ?_
    refine WL.gT ?_
    refine WL.move ?_
    refine WL.gT ?_
    refine WL.sub ?_
    refine WL.gT ?_
    refine WL.lss ?_
    refine WL.pickT ?_
    refine WL.nil ?_
    refine WQ.next ?_
    refine WC.condT rfl (congrArg Value.bool (by first | (simp; done) | (simp; omega) | (unfold nI; simp; omega) | omega)) ?_
    refine WC.region ?_
    refine WL.move ?_
    refine WL.move ?_
    refine WL.add ?_
    refine WL.cast (d := 48) (u := nI en) rfl (congrArg (Value.int .i64) (by omega)) ?_
    refine WL.assign ?_
    refine WL.nil ?_
    refine WQ.next ?_
    refine WC.seq ?_
    refine WC.region ?_
    refine WL.assign ?_
    refine WL.emp (A := rowR 5 1 (.slice none 0 0) (at' - at') (bvs ((f.2.drop at').take (at' - at')))) (by rw [Nat.sub_self]; exact rowR.nil _) ?_
    refine WL.nil ?_
    refine WQ.next ?_
    refine WC.seq ?_
    refine WC.block ?_
    refine WC.loopA (σ := Nat × Value) (fun y => [(0, .pointer (some ⟨s, 0, none⟩)), (2, nI y.1), (10, .pointer (some ⟨b10, 0, none⟩)), (12, nI en), (13, y.2)]) (fun y => [rowR 5 1 y.2 (y.1 - at') (bvs ((f.2.drop at').take (y.1 - at'))), row b10 92 (ndL (ldN p V i)), pt s (stO c a p), pt a (alO c p), TR c p.n V0 V D op] ++ F) (fun y => at' ≤ y.1 ∧ (y.1 ≤ en ∨ y.1 = at')) (fun y => en - y.1) (at', .slice none 0 0) ⟨Nat.le_refl _, .inr rfl⟩ ?_
    rintro ⟨cur, u⟩ hy
    obtain ⟨hc1, hc2⟩ := hy
    simp only at hc1 hc2
    refine WC.seq ?_
    refine WC.seq ?_
    refine WC.region ?_
    refine WL.move ?_
    refine WL.move ?_
    refine WL.lss ?_
    refine WL.nil ?_
    refine WQ.next ?_
    refine WC.cond rfl (fun hb => ?_) (fun hb => ?_)
    · have hlt2 : cur < en := by have := of_decide_eq_true hb; omega
      obtain ⟨mm, hmm⟩ : ∃ mm, mm = min (512 - cur % 512) (en - cur) := ⟨_, rfl⟩
      have hSk : stdS (dat f.2.length) (cur / 512) = true := stdS_iff.2 (.inl (by unfold dat; omega))
      have hrk := h.inv.rng i _ _ _ hnd hSk
      have hV200 : 10 ≤ cur / 512 → 245 ≤ (ldN p V i).bl.getD 10 0 ∧ (ldN p V i).bl.getD 10 0 < p.n := fun h10 => by
        have := h.inv.rng i _ _ 200 hnd (stdS_iff.2 (.inr ⟨rfl, by unfold dat; omega⟩))
        rw [ptr_200] at this
        omega
      have hrs := read_step (cur := cur) (mm := mm) (at' := at') hf.byt (by omega) (by omega) hc1 (h.inv.len _)
      refine WC.skip ?_
      refine WQ.next ?_
      refine WC.block ?_
      refine WC.seq ?_
      refine WC.region ?_
      refine WL.move ?_
      refine WL.ldW (xs := ndL (ldN p V i)) ?_ agg92 hnl
      refine WL.move ?_
      refine WL.quo ?_
      refine WL.cast (d := 56) (u := nI (cur / 512)) rfl (congrArg (Value.int .i64) (by omega)) ?_
      refine WL.call (hc := Tryz.call62) (sp := inBlock (x := ldN p V i) (k := cur / 512) (V0 := V0) (V := V) (D := D) (op := op) hbl (by omega) hV200) (h := ?_)
      rintro _ _ ⟨rfl, rfl⟩
      simp only [List.cons_append, List.nil_append]
      refine WL.move ?_
      refine WL.extract ?_
      refine WL.extract ?_
      refine WL.assign ?_
      refine WL.assign ?_
      refine WL.nil ?_
      refine WQ.next ?_
      refine WC.seq ?_
      refine WC.seq ?_
      refine WC.region ?_
      refine WL.move ?_
      refine WL.nei ?_
      refine WL.nil ?_
      refine WQ.next ?_
      refine WC.condF rfl rfl ?_
      refine WC.skip ?_
      refine WQ.next ?_
      refine WC.seq ?_
      refine WC.region ?_
      refine WL.move ?_
      refine WL.nilCheck ?_
      refine WL.fa ?_ fo87_0
      refine WL.ld ?_ sc24
      refine WL.move ?_
      refine WL.call (hc := Tryz.call63) (sp := tRead (n := p.n) (V0 := V0) (V := V) (D := D) (op := op) (k := ptr V (ldN p V i) (cur / 512)) (by omega) (by omega)) (h := ?_)
      rintro _ _ ⟨gb, q, el, rfl, ⟨hq1, hq2, hl5⟩, rfl⟩
      refine WL.move ?_
      refine WL.extract ?_
      refine WL.extract ?_
      refine WL.assign ?_
      refine WL.assign ?_
      refine WL.nil ?_
      refine WQ.next ?_
      refine WC.seq ?_
      refine WC.seq ?_
      refine WC.region ?_
      refine WL.move ?_
      refine WL.nei ?_
      refine WL.nil ?_
      refine WQ.next ?_
      refine WC.condF rfl rfl ?_
      refine WC.skip ?_
      refine WQ.next ?_
      refine WC.seq ?_
      refine WC.region ?_
      refine WL.move ?_
      refine WL.rem ?_
      refine WL.cast (d := 76) (u := nI (cur % 512)) rfl (congrArg (Value.int .i64) (by omega)) ?_
      refine WL.assign ?_
      refine WL.nil ?_
      refine WQ.next ?_
      refine WC.seq ?_
      refine WC.region ?_
      refine WL.move ?_
      refine WL.move ?_
      refine WL.add ?_
      refine WL.move ?_
      refine WL.sub ?_
      refine WL.minI ?_
      refine WL.cast (d := 82) (u := nI (cur % 512 + mm)) rfl (congrArg (Value.int .i64) (by split <;> omega)) ?_
      refine WL.assign ?_
      refine WL.nil ?_
      refine WQ.next ?_
      refine WC.seq ?_
      refine WC.region ?_
      refine WL.move ?_
      refine WL.move ?_
      refine WL.move ?_
      refine WL.move ?_
      refine WL.slcLH ?_ so33
      refine WL.cast (d := 87) (u := .slice (some ⟨gb, cur % 512, none⟩) mm (q - cur % 512)) rfl (by rw [show ((cur % 512 : Nat) : Int).toNat = cur % 512 from Int.toNat_natCast _, show ((cur % 512 + mm : Nat) : Int).toNat = cur % 512 + mm from Int.toNat_natCast _, if_neg (by omega), Nat.zero_add, Nat.mul_one, show cur % 512 + mm - cur % 512 = mm from by omega]) ?_
      have hnews : Reads (buf gb el q (bvs (V (ptr V (ldN p V i) (cur / 512))))) (some ⟨gb, cur % 512, none⟩) (bvs (((V (ptr V (ldN p V i) (cur / 512))).drop (cur % 512)).take mm)) := by
        have := (Reads.buf (g := gb) (e := el) (k := q) (xs := bvs (V (ptr V (ldN p V i) (cur / 512))))).drop (cur % 512)
        rw [Nat.zero_add] at this
        rw [bvs_take, bvs_drop]
        exact this.take mm
      refine WL.appendAny (m := mm) so33 (by decide) (by repeat (first | exact .here | apply Rem.there | apply Repl.there | apply Mem.there)) hnews (by repeat (first | exact .here | apply Rem.there | apply Repl.there | apply Mem.there)) (by rw [bvs_length, List.length_take, List.length_drop, hl5]; omega) (bvs_single _) (by omega) (by omega) ⟨_, z5, rfl⟩ (fun vB hvB => ?_)
      refine WL.assign ?_
      refine WL.nil ?_
      refine WQ.next ?_
      refine WC.region ?_
      refine WL.move ?_
      refine WL.move ?_
      refine WL.move ?_
      refine WL.sub ?_
      refine WL.add ?_
      refine WL.cast (d := 93) (u := nI (cur + mm)) rfl (congrArg (Value.int .i64) (by omega)) ?_
      refine WL.assign ?_
      refine WL.nil ?_
      refine WQ.blockNormal ?_
      refine WQ.to (A := rowR 5 1 vB (cur - at' + mm) (bvs ((f.2.drop at').take (cur - at')) ++ bvs (((V (ptr V (ldN p V i) (cur / 512))).drop (cur % 512)).take mm))) (A' := rowR 5 1 vB (cur + mm - at') (bvs ((f.2.drop at').take (cur + mm - at')))) (fun h hh => by rw [hrs, bvs_append, show cur + mm - at' = cur - at' + mm from by omega]; exact hh) ?_
      exact WQ.back (cur + mm, vB) ⟨by show at' ≤ cur + mm; omega, by show cur + mm ≤ en ∨ cur + mm = at'; omega⟩ (by show en - (cur + mm) < en - cur; omega)
    · have hge : ¬ cur < en := by have := of_decide_eq_false hb; omega
      have hfe : (f.2.drop at').take (cur - at') = (f.2.drop at').take k := by
        rw [hen2]
        rcases hc2 with h1 | h1
        · rw [show cur = en from by omega]
        · rw [show cur - at' = 0 from by omega, show en - at' = 0 from by omega]
      have hfl : ((f.2.drop at').take k).length = cur - at' := by
        rw [← hfe, List.length_take, List.length_drop]
        omega
      refine WC.exit (WQ.thenExit (WQ.thenExit (WQ.blockExit (?_))))
      refine WQ.next ?_
      refine WC.seq ?_
      refine WC.region ?_
      refine WL.move ?_
      refine WL.assign ?_
      refine WL.assign ?_
      refine WL.nil ?_
      refine WQ.next ?_
      refine WC.ret (?_)
      refine WQ.to (A := rowR 5 1 u (cur - at') (bvs ((f.2.drop at').take (cur - at')))) (A' := rowR 5 1 u ((f.2.drop at').take k).length (bvs ((f.2.drop at').take k))) (fun h hh => by rw [hfl, ← hfe]; exact hh) ?_
      exact WQ.ret2 (h1 := .tmp (t := 8) rfl) (h2 := .tmp (t := 9) rfl) ⟨_, ⟨u, rfl, rfl⟩, Am.auto⟩
  · obtain ⟨en, hen, hen1, hen2⟩ : ∃ en, en = f.2.length ∧ en ≤ f.2.length ∧ (f.2.drop at').take k = (f.2.drop at').take (en - at') := ⟨_, rfl, by omega, by rw [List.take_of_length_le (by rw [List.length_drop]; omega), List.take_of_length_le (by rw [List.length_drop]; omega)]⟩
    refine WC.seq ?_
    refine WC.region ?_
    refine WL.assign ?_
    refine WL.assign ?_
    refine WL.nil ?_
    refine WQ.next ?_
    refine WC.seq ?_
    refine WC.region ?_
    refine WL.move ?_
    refine WL.move ?_
    refine WL.call (hc := Tryz.call61) (sp := inLoad (i := i) (V0 := V0) (V := V) (D := D) (op := op) ho (h.lt hi) (h.digI hi)) (h := ?_)
    rintro _ _ ⟨rfl, rfl⟩
    simp only [List.cons_append, List.nil_append]
    refine WL.move ?_
    refine WL.extract ?_
    refine WL.extract ?_
    refine WL.allocL zNd rfl fun b10 => ?_
    refine WL.stLA (xs := ndL nd0) (us := ndL (ldN p V i)) ?_ agg92 hnl rfl (ndL_single _)
    refine WL.assign ?_
    refine WL.nil ?_
    refine WQ.next ?_
    refine WC.seq ?_
    refine WC.seq ?_
    refine WC.region ?_
    refine WL.move ?_
    refine WL.nei ?_
    refine WL.nil ?_
    refine WQ.next ?_
    refine WC.condF rfl rfl ?_
    refine WC.skip ?_
    refine WQ.next ?_
    refine WC.seq ?_
    refine WC.seq ?_
    refine WC.region ?_
    refine WL.move ?_
    refine WL.lss ?_
    refine WL.move ?_
    refine WL.cast (d := 30) (u := .bool false) rfl (congrArg Value.bool (by first | (simp; done) | (simp; omega) | (unfold nI; simp; omega) | omega)) ?_
    refine WL.gT ?_
    refine WL.move ?_
    refine WL.gT ?_
    refine WL.lss ?_
    refine WL.pickF ?_
    refine WL.nil ?_
    refine WQ.next ?_
    refine WC.condF rfl (congrArg Value.bool (by first | (simp; done) | (simp; omega) | (unfold nI; simp; omega) | omega)) ?_
    refine WC.skip ?_
    refine WQ.next ?_
    refine WC.seq ?_
    refine WC.region ?_
    refine WL.fa ?_ fo92_1
    refine WL.ldL (xs := ndL (ldN p V i)) (i := 1) ?_ sc3 hszg
    refine WL.cast (d := 35) (u := nI en) rfl (congrArg nI hen.symm) ?_
    refine WL.assign ?_
    refine WL.nil ?_
    refine WQ.next ?_
    refine WC.seq ?_
    refine WC.seq ?_
    refine WC.region ?_
    refine WL.move ?_
    refine WL.move ?_
    refine WL.lss ?_
    refine WL.move ?_
    refine WL.cast (d := 39) (u := .bool true) rfl (congrArg Value.bool (by first | (simp; done) | (simp; omega) | (unfold nI; simp; omega) | omega)) ?_
    refine WL.gT ?_
    refine WL.move ?_
    refine WL.gT ?_
    refine WL.move ?_
    refine WL.gT ?_
    refine WL.move ?_
    refine WL.gT ?_
    refine WL.sub ?_
    refine WL.gT ?_
    refine WL.lss ?_
    refine WL.pickT ?_
    refine WL.nil ?_
    refine WQ.next ?_
    refine WC.condF rfl (congrArg Value.bool (by first | (simp; done) | (simp; omega) | (unfold nI; simp; omega) | omega)) ?_
    refine WC.skip ?_
    refine WQ.next ?_
    refine WC.seq ?_
    refine WC.region ?_
    refine WL.assign ?_
    refine WL.emp (A := rowR 5 1 (.slice none 0 0) (at' - at') (bvs ((f.2.drop at').take (at' - at')))) (by rw [Nat.sub_self]; exact rowR.nil _) ?_
    refine WL.nil ?_
    refine WQ.next ?_
    refine WC.seq ?_
    refine WC.block ?_
    refine WC.loopA (σ := Nat × Value) (fun y => [(0, .pointer (some ⟨s, 0, none⟩)), (2, nI y.1), (10, .pointer (some ⟨b10, 0, none⟩)), (12, nI en), (13, y.2)]) (fun y => [rowR 5 1 y.2 (y.1 - at') (bvs ((f.2.drop at').take (y.1 - at'))), row b10 92 (ndL (ldN p V i)), pt s (stO c a p), pt a (alO c p), TR c p.n V0 V D op] ++ F) (fun y => at' ≤ y.1 ∧ (y.1 ≤ en ∨ y.1 = at')) (fun y => en - y.1) (at', .slice none 0 0) ⟨Nat.le_refl _, .inr rfl⟩ ?_
    rintro ⟨cur, u⟩ hy
    obtain ⟨hc1, hc2⟩ := hy
    simp only at hc1 hc2
    refine WC.seq ?_
    refine WC.seq ?_
    refine WC.region ?_
    refine WL.move ?_
    refine WL.move ?_
    refine WL.lss ?_
    refine WL.nil ?_
    refine WQ.next ?_
    refine WC.cond rfl (fun hb => ?_) (fun hb => ?_)
    · have hlt2 : cur < en := by have := of_decide_eq_true hb; omega
      obtain ⟨mm, hmm⟩ : ∃ mm, mm = min (512 - cur % 512) (en - cur) := ⟨_, rfl⟩
      have hSk : stdS (dat f.2.length) (cur / 512) = true := stdS_iff.2 (.inl (by unfold dat; omega))
      have hrk := h.inv.rng i _ _ _ hnd hSk
      have hV200 : 10 ≤ cur / 512 → 245 ≤ (ldN p V i).bl.getD 10 0 ∧ (ldN p V i).bl.getD 10 0 < p.n := fun h10 => by
        have := h.inv.rng i _ _ 200 hnd (stdS_iff.2 (.inr ⟨rfl, by unfold dat; omega⟩))
        rw [ptr_200] at this
        omega
      have hrs := read_step (cur := cur) (mm := mm) (at' := at') hf.byt (by omega) (by omega) hc1 (h.inv.len _)
      refine WC.skip ?_
      refine WQ.next ?_
      refine WC.block ?_
      refine WC.seq ?_
      refine WC.region ?_
      refine WL.move ?_
      refine WL.ldW (xs := ndL (ldN p V i)) ?_ agg92 hnl
      refine WL.move ?_
      refine WL.quo ?_
      refine WL.cast (d := 56) (u := nI (cur / 512)) rfl (congrArg (Value.int .i64) (by omega)) ?_
      refine WL.call (hc := Tryz.call62) (sp := inBlock (x := ldN p V i) (k := cur / 512) (V0 := V0) (V := V) (D := D) (op := op) hbl (by omega) hV200) (h := ?_)
      rintro _ _ ⟨rfl, rfl⟩
      simp only [List.cons_append, List.nil_append]
      refine WL.move ?_
      refine WL.extract ?_
      refine WL.extract ?_
      refine WL.assign ?_
      refine WL.assign ?_
      refine WL.nil ?_
      refine WQ.next ?_
      refine WC.seq ?_
      refine WC.seq ?_
      refine WC.region ?_
      refine WL.move ?_
      refine WL.nei ?_
      refine WL.nil ?_
      refine WQ.next ?_
      refine WC.condF rfl rfl ?_
      refine WC.skip ?_
      refine WQ.next ?_
      refine WC.seq ?_
      refine WC.region ?_
      refine WL.move ?_
      refine WL.nilCheck ?_
      refine WL.fa ?_ fo87_0
      refine WL.ld ?_ sc24
      refine WL.move ?_
      refine WL.call (hc := Tryz.call63) (sp := tRead (n := p.n) (V0 := V0) (V := V) (D := D) (op := op) (k := ptr V (ldN p V i) (cur / 512)) (by omega) (by omega)) (h := ?_)
      rintro _ _ ⟨gb, q, el, rfl, ⟨hq1, hq2, hl5⟩, rfl⟩
      refine WL.move ?_
      refine WL.extract ?_
      refine WL.extract ?_
      refine WL.assign ?_
      refine WL.assign ?_
      refine WL.nil ?_
      refine WQ.next ?_
      refine WC.seq ?_
      refine WC.seq ?_
      refine WC.region ?_
      refine WL.move ?_
      refine WL.nei ?_
      refine WL.nil ?_
      refine WQ.next ?_
      refine WC.condF rfl rfl ?_
      refine WC.skip ?_
      refine WQ.next ?_
      refine WC.seq ?_
      refine WC.region ?_
      refine WL.move ?_
      refine WL.rem ?_
      refine WL.cast (d := 76) (u := nI (cur % 512)) rfl (congrArg (Value.int .i64) (by omega)) ?_
      refine WL.assign ?_
      refine WL.nil ?_
      refine WQ.next ?_
      refine WC.seq ?_
      refine WC.region ?_
      refine WL.move ?_
      refine WL.move ?_
      refine WL.add ?_
      refine WL.move ?_
      refine WL.sub ?_
      refine WL.minI ?_
      refine WL.cast (d := 82) (u := nI (cur % 512 + mm)) rfl (congrArg (Value.int .i64) (by split <;> omega)) ?_
      refine WL.assign ?_
      refine WL.nil ?_
      refine WQ.next ?_
      refine WC.seq ?_
      refine WC.region ?_
      refine WL.move ?_
      refine WL.move ?_
      refine WL.move ?_
      refine WL.move ?_
      refine WL.slcLH ?_ so33
      refine WL.cast (d := 87) (u := .slice (some ⟨gb, cur % 512, none⟩) mm (q - cur % 512)) rfl (by rw [show ((cur % 512 : Nat) : Int).toNat = cur % 512 from Int.toNat_natCast _, show ((cur % 512 + mm : Nat) : Int).toNat = cur % 512 + mm from Int.toNat_natCast _, if_neg (by omega), Nat.zero_add, Nat.mul_one, show cur % 512 + mm - cur % 512 = mm from by omega]) ?_
      have hnews : Reads (buf gb el q (bvs (V (ptr V (ldN p V i) (cur / 512))))) (some ⟨gb, cur % 512, none⟩) (bvs (((V (ptr V (ldN p V i) (cur / 512))).drop (cur % 512)).take mm)) := by
        have := (Reads.buf (g := gb) (e := el) (k := q) (xs := bvs (V (ptr V (ldN p V i) (cur / 512))))).drop (cur % 512)
        rw [Nat.zero_add] at this
        rw [bvs_take, bvs_drop]
        exact this.take mm
      refine WL.appendAny (m := mm) so33 (by decide) (by repeat (first | exact .here | apply Rem.there | apply Repl.there | apply Mem.there)) hnews (by repeat (first | exact .here | apply Rem.there | apply Repl.there | apply Mem.there)) (by rw [bvs_length, List.length_take, List.length_drop, hl5]; omega) (bvs_single _) (by omega) (by omega) ⟨_, z5, rfl⟩ (fun vB hvB => ?_)
      refine WL.assign ?_
      refine WL.nil ?_
      refine WQ.next ?_
      refine WC.region ?_
      refine WL.move ?_
      refine WL.move ?_
      refine WL.move ?_
      refine WL.sub ?_
      refine WL.add ?_
      refine WL.cast (d := 93) (u := nI (cur + mm)) rfl (congrArg (Value.int .i64) (by omega)) ?_
      refine WL.assign ?_
      refine WL.nil ?_
      refine WQ.blockNormal ?_
      refine WQ.to (A := rowR 5 1 vB (cur - at' + mm) (bvs ((f.2.drop at').take (cur - at')) ++ bvs (((V (ptr V (ldN p V i) (cur / 512))).drop (cur % 512)).take mm))) (A' := rowR 5 1 vB (cur + mm - at') (bvs ((f.2.drop at').take (cur + mm - at')))) (fun h hh => by rw [hrs, bvs_append, show cur + mm - at' = cur - at' + mm from by omega]; exact hh) ?_
      exact WQ.back (cur + mm, vB) ⟨by show at' ≤ cur + mm; omega, by show cur + mm ≤ en ∨ cur + mm = at'; omega⟩ (by show en - (cur + mm) < en - cur; omega)
    · have hge : ¬ cur < en := by have := of_decide_eq_false hb; omega
      have hfe : (f.2.drop at').take (cur - at') = (f.2.drop at').take k := by
        rw [hen2]
        rcases hc2 with h1 | h1
        · rw [show cur = en from by omega]
        · rw [show cur - at' = 0 from by omega, show en - at' = 0 from by omega]
      have hfl : ((f.2.drop at').take k).length = cur - at' := by
        rw [← hfe, List.length_take, List.length_drop]
        omega
      refine WC.exit (WQ.thenExit (WQ.thenExit (WQ.blockExit (?_))))
      refine WQ.next ?_
      refine WC.seq ?_
      refine WC.region ?_
      refine WL.move ?_
      refine WL.assign ?_
      refine WL.assign ?_
      refine WL.nil ?_
      refine WQ.next ?_
      refine WC.ret (?_)
      refine WQ.to (A := rowR 5 1 u (cur - at') (bvs ((f.2.drop at').take (cur - at')))) (A' := rowR 5 1 u ((f.2.drop at').take k).length (bvs ((f.2.drop at').take k))) (fun h hh => by rw [hfl, ← hfe]; exact hh) ?_
      exact WQ.ret2 (h1 := .tmp (t := 8) rfl) (h2 := .tmp (t := 9) rfl) ⟨_, ⟨u, rfl, rfl⟩, Am.auto⟩
end Go.Proofs.YtedmihapieleaaaGreat
end
section
namespace Go.Proofs.YtedmihapieleaaaGreat
open Go
theorem Spec.mid {P : Program} {f : FuncId} {args : Array Value} {X Y Z : HP} {R : List HP → Value → List HP → Prop} (h : Spec P f args [X, Z] R) : Spec P f args [X, Y, Z] fun F v M => R (Y :: F) v M := fun B F w hs => h B (Y :: F) w (Am.wk Am.auto B w hs)
structure IP (p : Pl) (F0 F : FM) (W : Nat) (y : (Nat → Bytes) × (Nat → Bytes) × List Nat) : Prop where
  r0 : Rep p y.1 F0
  r : Rep p y.2.1 F
  dk : Dk p y.2.2
  wt : wt p y.2.2 ≤ W
def inLs (s a c : Nat) (p : Pl) (op : Bool) (y : (Nat → Bytes) × (Nat → Bytes) × List Nat) : List HP := [pt s (stO c a p), pt a (alO c p), TR c p.n y.1 y.2.1 y.2.2 op]
def IN (s a c : Nat) (p : Pl) (F0 F : FM) (W : Nat) (op : Bool) : HP := fun h => ∃ y, IP p F0 F W y ∧ star (inLs s a c p op y) h
theorem IN.opens (s a c : Nat) (p : Pl) (F0 F : FM) (W : Nat) (op : Bool) : Opens (IN s a c p F0 F W op) (IP p F0 F W) (inLs s a c p op) := ⟨fun h hh => hh, fun x hp h hh => ⟨x, hp, hh⟩⟩
attribute [irreducible] IN
def Rw (p : Pl) (W c : Nat) : Prop := p.n ≤ 304 ∨ (p.tb - 245) + W + c ≤ 60
theorem Rw.rm {p : Pl} {W c : Nat} {D : List Nat} (h : Rw p W c) (hw : wt p D ≤ W) : Rm p D c := by
  unfold Rw at h; unfold Rm
  rcases h with h | h
  · exact .inl h
  · exact .inr (by omega)
theorem Spec.re {P : Program} {f : FuncId} {args : Array Value} {L L' : List HP} {R : List HP → Value → List HP → Prop} (h : Spec P f args L R) (hk : ∀ F, Wk (L' ++ F) (L ++ F)) : Spec P f args L' R := fun B F w hs => h B F w (hk F B w hs)
theorem Rep.imapF {p : Pl} {V : Nat → Bytes} {F : FM} (h : Rep p V F) {j : Nat} (hj : j < p.ino) : dig V p.im j = (F j).isSome := by
  rw [h.inv.imap j hj]
  unfold ndOf
  cases F j <;> rfl
variable {s a c : Nat} {p : Pl} {F0 F : FM} {W : Nat} {op : Bool}
theorem nStat {i : Nat} {f : Nat × Bytes} (ho : PlOk p) (hi : F i = some f) : Spec Tryz.prog 29 #[.pointer (some ⟨s, 0, none⟩), nI i] [IN s a c p F0 F W op] fun G v M => v = .tuple #[.agg #[nI f.1, nI f.2.length], .int .i64 0] ∧ M = IN s a c p F0 F W op :: G := by
  refine Spec.opens (IN.opens s a c p F0 F W op) fun y hy => (inStat (s := s) (c := c) (a := a) (V0 := y.1) (V := y.2.1) (D := y.2.2) (op := op) (i := i) ho (hy.r.lt hi) (hy.r.digI hi)).post ?_
  rintro G v M ⟨rfl, rfl⟩
  have hf := hy.r.ok i f hi
  rw [hf.kd, hf.sz]
  exact ⟨_, ⟨rfl, rfl⟩, Wk.shutR (M := G) (IN.opens s a c p F0 F W op) y hy⟩
theorem nStatNo {i : Int} (ho : PlOk p) (hi : fileAt F i = none) : Spec Tryz.prog 29 #[.pointer (some ⟨s, 0, none⟩), .int .i64 i] [IN s a c p F0 F W op] fun G v M => v = .tuple #[.agg #[nI 0, nI 0], .int .i64 4] ∧ M = IN s a c p F0 F W op :: G := by
  refine Spec.opens (IN.opens s a c p F0 F W op) fun y hy => (inStatNo (s := s) (c := c) (a := a) (V0 := y.1) (V := y.2.1) (D := y.2.2) (op := op) (i := i) ho (hy.r.nope hi)).post ?_
  rintro G v M ⟨rfl, rfl⟩
  exact ⟨_, ⟨rfl, rfl⟩, Wk.shutR (M := G) (IN.opens s a c p F0 F W op) y hy⟩
theorem nRead {i at' k : Nat} {f : Nat × Bytes} (ho : PlOk p) (hi : F i = some f) (hat : at' ≤ 9223372036854775807) (hk : k ≤ 9223372036854775807) : Spec Tryz.prog 23 #[.pointer (some ⟨s, 0, none⟩), nI i, nI at', nI k] [IN s a c p F0 F W op] fun G v M => ∃ u, v = .tuple #[u, .int .i64 0] ∧ M = rowR 5 1 u ((f.2.drop at').take k).length (bvs ((f.2.drop at').take k)) :: IN s a c p F0 F W op :: G := by
  refine Spec.opens (IN.opens s a c p F0 F W op) fun y hy => (inRead (s := s) (c := c) (a := a) (V0 := y.1) (V := y.2.1) (D := y.2.2) (op := op) hy.r ho hi hat hk).post ?_
  rintro G v M ⟨u, rfl, rfl⟩
  exact ⟨_, ⟨u, rfl, rfl⟩, fun B w hs => Sat.front (.there .here) (Sat.shuts (M := rowR _ _ _ _ _ :: G) (IN.opens s a c p F0 F W op) hy (Am.wk Am.auto B w hs))⟩
theorem nWrite {i at' m cc : Nat} {f : Nat × Bytes} {R : HP} {A : Option Addr} {bs : Bytes} (ho : PlOk p) (hi : F i = some f) (hw : Rw p W (has (max f.2.length (at' + m)) - has f.2.length + (m + 511) / 512 + 10)) (hR : bs = [] ∨ Reads R A (bvs bs)) (hm : bs.length = m) (hcc : m ≤ cc) (hcb : cc ≤ maxLen) (hat : at' ≤ f.2.length) (hbg : at' + m ≤ 70656) (hfit : tot F p.ino + has (max f.2.length (at' + m)) ≤ p.dc + has f.2.length) :
    Spec Tryz.prog 20 #[.pointer (some ⟨s, 0, none⟩), nI i, nI at', .slice A m cc] [IN s a c p F0 F W true, R] fun G v M => v = okV ∧ M = IN s a c p F0 (updM F i (some (f.1, wrB f.2 at' bs))) (W + (has (max f.2.length (at' + m)) - has f.2.length) + (m + 511) / 512 + 5) true :: R :: G := by
  refine Spec.opens (IN.opens s a c p F0 F W true) fun y hy => ((inWrite (s := s) (c := c) (a := a) (V0 := y.1) (V := y.2.1) (D := y.2.2) (cc := cc) hy.r ho hi hy.dk (hw.rm hy.wt) hR hm hcc hcb hat hbg).re (fun G B w hs => Sat.front (.there (.there (.there .here))) hs)).post ?_
  rintro G v M (⟨hfull, rfl, rfl⟩ | ⟨hle, V1, D1, hrep, ⟨hdk, hwt⟩, rfl, rfl⟩)
  · omega
  · have hw1 := hy.wt
    exact ⟨_, ⟨rfl, rfl⟩, Wk.trans (Am.wk Am.auto) (Wk.shutR (M := R :: G) (IN.opens s a c p F0 (updM F i (some (f.1, wrB f.2 at' bs))) (W + (has (max f.2.length (at' + m)) - has f.2.length) + (m + 511) / 512 + 5) true) (y.1, V1, D1) ⟨hy.r0, hrep, hdk, by show wt p D1 ≤ _; omega⟩)⟩
def rootM : FM := fun i => if i = 0 then some (2, []) else none
def freshW (p : Pl) : Nat → Bytes := svV p (freshV p) 0 ⟨2, 0, List.replicate 11 0⟩
theorem fresh_len5 {p : Pl} : Len5 (freshV p) := fun k => by
  unfold freshV fmtA
  rw [fmtV_at]
  split
  · exact fmtZ_length _ _ _
  · rw [fmtV_at]
    split
    · exact fmtZ_length _ _ _
    · exact zeros_length
theorem fresh_rep {p : Pl} (h : PlIs p) : Rep p (freshW p) rootM := by
  have ho := h.ok
  have hlo := ho.lo
  have htd := ho.tbda
  have hi1 := ho.i1
  have hi2 := ho.i2
  have htab := ho.tab
  have hfx : Fits ⟨2, 0, List.replicate 11 0⟩ := kFits (by decide)
  have hld : ldN p (freshW p) 0 = ⟨2, 0, List.replicate 11 0⟩ := ldN_svV fresh_len5 hfx
  have hnd : ∀ i x S, ndOf p (freshW p) rootM i = some (x, S) → i = 0 ∧ x = ⟨2, 0, List.replicate 11 0⟩ ∧ ∀ k, S k = false := by
    intro i x S hi
    unfold ndOf rootM at hi
    by_cases h0 : i = 0
    · subst h0
      rw [if_pos rfl] at hi
      have hi' : some (ldN p (freshW p) 0, stdS (dat ([] : Bytes).length)) = some (x, S) := hi
      injection hi' with hi'
      injection hi' with e1 e2
      exact ⟨rfl, by rw [← e1, hld], fun k => by rw [← e2]; exact stdS_zero k⟩
    · rw [if_neg h0] at hi; cases hi
  have hV : ∀ v, v < p.tb → freshW p v = freshV p v := fun v hv => wr_other _ _ (by omega)
  have hbm : ∀ k, k < p.dc → dig (freshW p) p.bm k = false := fun k hk => by
    have := ho.mapAt hk
    rw [← fresh_bm h hk]
    unfold dig
    rw [hV _ (by omega)]
  refine ⟨⟨svV_len fresh_len5 _ _, ?_, ?_, ?_, ?_, ?_, ?_, ?_⟩, ?_, ?_, rfl⟩
  · intro i x S hi; obtain ⟨_, h2, _⟩ := hnd i x S hi; rw [h2]; exact hfx
  · intro i x S hi; obtain ⟨_, _, h3⟩ := hnd i x S hi; exact ⟨fun k hk => (by rw [h3 k] at hk; cases hk), fun k hk => (by rw [h3 k] at hk; cases hk)⟩
  · intro i x S hi; obtain ⟨h1, _, _⟩ := hnd i x S hi; omega
  · intro i x S k hi hk; obtain ⟨_, _, h3⟩ := hnd i x S hi; rw [h3 k] at hk; cases hk
  · intro i x S k j y T l hi hk; obtain ⟨_, _, h3⟩ := hnd i x S hi; rw [h3 k] at hk; cases hk
  · intro b hb
    rw [hbm b hb]
    refine ⟨fun hh => (by cases hh), ?_⟩
    rintro ⟨i, x, S, k, hi, hk, _⟩
    obtain ⟨_, _, h3⟩ := hnd i x S hi
    rw [h3 k] at hk; cases hk
  · intro i hi
    have h1 : dig (freshW p) p.im i = decide (i = 0) := by
      rw [← fresh_im h hi]
      unfold dig
      rw [hV _ (by omega)]
    rw [h1]
    unfold ndOf rootM
    by_cases h0 : i = 0
    · rw [if_pos h0, decide_eq_true h0]; rfl
    · rw [if_neg h0, decide_eq_false h0]; rfl
  · intro i f hi
    unfold rootM at hi
    by_cases h0 : i = 0
    · subst h0
      rw [if_pos rfl] at hi
      cases hi
      rw [hld]
      exact ⟨rfl, .inr rfl, rfl, Nat.zero_le _, fun q hq => by cases hq⟩
    · rw [if_neg h0] at hi; cases hi
  · have h1 : ∀ n, tot rootM n = 0 := by
      intro n
      induction n with
      | zero => rfl
      | succ n ih =>
        unfold tot
        rw [ih]
        unfold rootM
        by_cases h0 : n = 0
        · rw [if_pos h0]; rfl
        · rw [if_neg h0]; rfl
    rw [h1]
    unfold cnt
    rw [List.filter_eq_nil_iff.2 (fun k hk => by rw [hbm k (List.mem_range.1 hk)]; decide)]
    rfl
theorem tot_root (n : Nat) : tot rootM n = 0 := by
  induction n with
  | zero => rfl
  | succ n ih =>
    unfold tot
    rw [ih]
    unfold rootM
    by_cases h0 : n = 0
    · rw [if_pos h0]; rfl
    · rw [if_neg h0]; rfl
theorem fmtB_few {p : Pl} (h : PlIs p) : (fmtB p []).length + 1 ≤ 60 := by
  have h1 := fmtD_length (fmtD [] p.im ((p.ino + 4095) / 4096)) p.bm ((p.dc + 4095) / 4096)
  have h2 := fmtD_length [] p.im ((p.ino + 4095) / 4096)
  have h3 := h.i2
  have h4 := h.n2
  have h5 := h.dc
  have h6 := h.i1
  have h7 := h.da
  have h8 := h.m1
  have h9 := h.bm
  unfold fmtB
  have : ([] : List Nat).length = 0 := rfl
  omega
end Go.Proofs.YtedmihapieleaaaGreat
end
section
namespace Go.Proofs.YtedmihapieleaaaGreat
open Go
section
variable {P : Program}
def arrIntOk (P : Program) (t el k : Nat) : Bool := arrOk P t el k 1 && intAny P el
theorem arrInt_of {t el k : Nat} (h : arrIntOk P t el k = true) : P.underlying t = some (.array k el) ∧ (∃ i, P.info? el = some i ∧ i.size = 1) ∧ intAny P el = true := by
  unfold arrIntOk at h
  rw [Bool.and_eq_true] at h
  obtain ⟨h1, h2⟩ := arr_of h.1
  exact ⟨h1, h2, h.2⟩
theorem cellsOf_of {el : Nat} {i : TypeInfo} (hi : P.info? el = some i) : P.cellsOf el = i.size := by
  unfold Program.cellsOf
  simp [hi]
theorem bvs_at {xs : Bytes} {i : Nat} (h : i < xs.length) : (bvs xs).toArray[i]? = some (bv xs[i]) := by
  simp [bvs, h]
theorem run_eqItems_bytes {el : Nat} (hk : intAny P el = true) (d : Nat) (xs ys : Bytes) (w : World) : ∀ (is : List Nat), (∀ i ∈ is, i < xs.length ∧ i < ys.length) →
    (Op.eqItems (d + 1) el 1 (bvs xs).toArray (bvs ys).toArray is).run P w = .ok (decide (∀ i ∈ is, xs[i]? = ys[i]?)) w
  | [], _ => by simp [Op.eqItems]
  | i :: is, h => by
    obtain ⟨hx, hy⟩ := h i (List.mem_cons_self ..)
    have px := run_part_int (P := P) hk (cs := (bvs xs).toArray) (i := i) (bvs_at hx) w
    have py := run_part_int (P := P) hk (cs := (bvs ys).toArray) (i := i) (bvs_at hy) w
    obtain ⟨k, hu⟩ := int_any hk
    have pe := run_equalIn_int (P := P) w d el .u8 k (xs[i].toNat : Int) (ys[i].toNat : Int) hu
    have ih := run_eqItems_bytes hk d xs ys w is (fun j hj => h j (List.mem_cons_of_mem _ hj))
    rw [Op.eqItems, Nat.mul_one]
    simp only [Sem.run_bind, px, py, Result.andThen_ok]
    rw [show bv xs[i] = .int .u8 (xs[i].toNat : Int) from rfl, show bv ys[i] = .int .u8 (ys[i].toNat : Int) from rfl, pe]
    simp only [Result.andThen_ok]
    by_cases hxy : xs[i] = ys[i]
    · rw [hxy]
      simp only [beq_self_eq_true, decide_true, Bool.not_true, Bool.false_eq_true, if_false]
      rw [ih]
      congr 1
      rw [decide_eq_decide]
      simp [hx, hy, hxy]
    · have hne : ¬ ((xs[i].toNat : Int) = (ys[i].toNat : Int)) := fun hh => hxy (UInt8.toNat_inj.1 (by omega))
      have : ¬ (∀ j ∈ i :: is, xs[j]? = ys[j]?) := fun hh => hxy (by
        have := hh i (List.mem_cons_self ..)
        rwa [List.getElem?_eq_getElem hx, List.getElem?_eq_getElem hy, Option.some.injEq] at this)
      rw [decide_eq_false this]
      simp [hne]
theorem run_equal_bytes {t el n : Nat} (h : arrIntOk P t el n = true) (d : Nat) {xs ys : Bytes} (hx : xs.length = n) (hy : ys.length = n) (w : World) :
    (Op.equalIn (d + 2) t (.agg (bvs xs).toArray) (.agg (bvs ys).toArray)).run P w = .ok (decide (xs = ys)) w := by
  obtain ⟨hu, ⟨i, hi, hs⟩, hk⟩ := arrInt_of h
  rw [run_equalIn_array w (d + 1) _ _ hu hi, cellsOf_of hi, hs, run_eqItems_bytes hk d xs ys w _ (fun j hj => by have := List.mem_range.1 hj; omega)]
  congr 1
  rw [decide_eq_decide]
  constructor
  · intro hh
    apply List.ext_getElem?
    intro j
    by_cases hj : j < n
    · exact hh j (List.mem_range.2 hj)
    · rw [List.getElem?_eq_none (by omega), List.getElem?_eq_none (by omega)]
  · intro hh j _
    rw [hh]
theorem run_check_items (emp : Bool) (m : Nat) {el : Nat} {i : TypeInfo} (hi : P.info? el = some i) (hs : i.size = 1) (hk : intAny P el = true) (xs : Bytes) (w : World) : ∀ (is : List Nat), (∀ j ∈ is, j < xs.length) →
    (forIn (m := Sem) is PUnit.unit (fun i _ => do
      Instr.checkKey emp (m + 1) el (← part el (bvs xs).toArray (i * (← sizeOf el)))
      pure (ForInStep.yield PUnit.unit))).run P w = .ok PUnit.unit w
  | [], _ => by simp
  | j :: is, h => by
    have px := run_part_int (P := P) hk (cs := (bvs xs).toArray) (i := j) (bvs_at (h j (List.mem_cons_self ..))) w
    obtain ⟨k, hu⟩ := int_any hk
    have pc := checkKey_int hu emp m .u8 (xs[j]'(h j (List.mem_cons_self ..))).toNat w
    have ih := run_check_items emp m hi hs hk xs w is (fun q hq => h q (List.mem_cons_of_mem _ hq))
    simp only [List.forIn_cons, Sem.run_bind, run_sizeOf w hi, Result.andThen_ok, cellsOf_of hi, hs, Nat.mul_one, px]
    rw [show bv (xs[j]'(h j (List.mem_cons_self ..))) = .int .u8 ((xs[j]'(h j (List.mem_cons_self ..))).toNat : Int) from rfl, pc]
    simp only [Result.andThen_ok, Sem.run_pure]
    exact ih
theorem run_check_bytes {t el n : Nat} (h : arrIntOk P t el n = true) (emp : Bool) (m : Nat) {xs : Bytes} (hx : xs.length = n) (w : World) : (Instr.checkKey emp (m + 2) t (.agg (bvs xs).toArray)).run P w = .ok () w := by
  obtain ⟨hu, ⟨i, hi, hs⟩, hk⟩ := arrInt_of h
  have := run_check_items (P := P) emp m hi hs hk xs w (List.range' 0 n) (fun j hj => by have := List.mem_range'.1 hj; omega)
  rw [Instr.checkKey]
  simp only [Sem.run_bind, run_underlying hu, Result.andThen_ok]
  simp only [Std.Legacy.Range.forIn_eq_forIn_range', Std.Legacy.Range.size, Nat.sub_zero, Nat.add_one_sub_one, Nat.div_one]
  rw [this]
  rfl
theorem sameBits_bytes (n : Nat) (xs : Bytes) : Instr.sameBits (n + 1) (.agg (bvs xs).toArray) (.agg (bvs xs).toArray) = true := by
  simp only [Instr.sameBits, beq_self_eq_true, Bool.true_and, List.all_eq_true]
  intro p hp
  have : ∀ (l : List Value), p ∈ l.zip l → p.1 = p.2 ∧ p.1 ∈ l := by
    intro l
    induction l with
    | nil => intro h; cases h
    | cons a l ih =>
      intro h
      simp only [List.zip_cons_cons, List.mem_cons] at h
      rcases h with rfl | h
      · simp
      · have := ih h
        exact ⟨this.1, List.mem_cons_of_mem _ this.2⟩
  obtain ⟨h1, h2⟩ := this _ hp
  simp only [List.toList_toArray, bvs, List.mem_map] at h2
  obtain ⟨a, _, ha⟩ := h2
  obtain ⟨x, y⟩ := p
  simp only at h1 ha ⊢
  subst h1
  rw [← ha]
  exact sameBits_int _ _ _
theorem arrKeys {κ : Type} [DecidableEq κ] (f : κ → Bytes) {kt el n : Nat} (h : arrIntOk P kt el n = true) (hf : ∀ k, (f k).length = n) (inj : ∀ a b, f a = f b → a = b) : KeyLaw P kt (fun k => Value.agg (bvs (f k)).toArray) where
  check emp k w := run_check_bytes h emp 9998 (hf k) w
  find k ks es w hk := by
    obtain ⟨h1, _⟩ := arrInt_of h
    have hask : ∀ (ks : List κ) (es : List MapEntry) (i : Nat) (w : World), es.map (·.key) = ks.map (fun k => Value.agg (bvs (f k)).toArray) →
        (Instr.findAsking kt (Value.agg (bvs (f k)).toArray) es i).run P w = .ok (findPure k ks es i) w := by
      intro ks
      induction ks with
      | nil =>
        intro es i w h
        have : es = [] := by simpa using h
        subst this
        simp [Instr.findAsking, findPure]
      | cons k' ks ih =>
        intro es i w h'
        cases es with
        | nil => simp at h'
        | cons e es =>
          simp only [List.map_cons, List.cons.injEq] at h'
          have he : (Op.equal kt (Value.agg (bvs (f k)).toArray) e.key).run P w = .ok (decide (f k = f k')) w := by
            rw [h'.1]
            exact run_equal_bytes h 9998 (hf k) (hf k') w
          simp only [Instr.findAsking, Sem.run_bind, he, Result.andThen_ok, findPure]
          by_cases hkk : k = k'
          · subst hkk; simp
          · have : ¬ f k = f k' := fun e => hkk (inj _ _ e)
            simp only [this, decide_false, Bool.false_eq_true, if_false, hkk]
            exact ih es (i + 1) w h'.2
    rw [run_findKey_eq w (by rw [h1])]
    exact hask ks es 0 w hk
  stays k := sameBits_bytes _ _
end
end Go.Proofs.YtedmihapieleaaaGreat
end
section
namespace Go.Proofs.YtedmihapieleaaaGreat
open Go
def bstr (xs : Bytes) : ByteArray := ⟨xs.toArray⟩
theorem bstr_size (xs : Bytes) : (bstr xs).size = xs.length := by simp [bstr, ByteArray.size]
theorem bstr_get {xs : Bytes} {i : Nat} (h : i < (bstr xs).size) : (bstr xs)[i] = xs[i]'(by rw [bstr_size] at h; exact h) := by
  have h1 := Lib.data_getElem? (bstr xs) i h
  have h2 : (bstr xs).data.toList = xs := rfl
  rw [h2, List.getElem?_eq_getElem (by rw [bstr_size] at h; exact h), Option.some.injEq] at h1
  exact h1.symm
theorem sv_bstr (xs : Bytes) : sv xs = .string (bstr xs) := rfl
section
variable {P : Program} {B : Base} {n : Nat} {Q Q' : Exit → Act → World → Prop} {e : Env} {L : List HP} {ops : Array Oper} {l : List Oper}
variable {d : Nat} {ty : TypeId} {pos : String} {af : Array Edge} {x y z : Operand} {gd : Option (Nat × Bool)}
theorem Qt.lenT {t : TypeId} (xs : Bytes) (ht : strOk P t = true) (hx : evo e x = some (sv xs) := by rfl) :
    Qt P B n e L ⟨some d, .call ⟨.builtin .len, #[x], #[t]⟩, ty, pos, af, gd⟩ (.int .i64 (xs.length : Int)) :=
  fun a w ha hs => by
    simp [execOp, resolve, invoke, builtin, ha.eval hx, Builtin.len_, run_underlying (str_of ht), sv_bstr, bstr_size, goInt]
theorem WL.lenT {t : TypeId} (xs : Bytes) (h : WL P B n ops l Q ((d, .int .i64 (xs.length : Int)) :: e) L) (ht : strOk P t = true) (hx : evo e x = some (sv xs) := by rfl) (hd : Nat.ble (d + 1) n = true := by rfl) :
    WL P B n ops (⟨some d, .call ⟨.builtin .len, #[x], #[t]⟩, ty, pos, af, none⟩ :: l) Q e L := WL.pure h hd (Qt.lenT xs ht hx)
theorem Qt.ixT {t : Nat} {p : Int} {kk : IntKind} {v : UInt8} (xs : Bytes) (ht : strOk P t = true) (hv : xs[p.toNat]? = some v) (hx : evo e x = some (sv xs) := by rfl) (hy : evo e y = some (.int kk p) := by rfl) (hp : 0 ≤ p := by omega) :
    Qt P B n e L ⟨some d, .index t x y, ty, pos, af, gd⟩ (.int .u8 (v.toNat : Int)) :=
  fun a w ha hs => by
    have h1 : (bstr xs)[p.toNat]? = some v := by
      have hlt : p.toNat < xs.length := (List.getElem?_eq_some_iff.1 hv).1
      rw [getElem?_pos (bstr xs) p.toNat (by rw [bstr_size]; exact hlt), bstr_get]
      rw [List.getElem?_eq_getElem hlt] at hv
      exact hv
    simp [execOp, ha.eval hx, ha.eval hy, Instr.index, asIntOf, run_underlying (str_of ht), sv_bstr, hp, h1]
theorem WL.ixT {t : Nat} {p : Int} {kk : IntKind} {v : UInt8} (xs : Bytes) (h : WL P B n ops l Q ((d, .int .u8 (v.toNat : Int)) :: e) L) (ht : strOk P t = true) (hv : xs[p.toNat]? = some v) (hx : evo e x = some (sv xs) := by rfl) (hy : evo e y = some (.int kk p) := by rfl) (hp : 0 ≤ p := by omega) (hd : Nat.ble (d + 1) n = true := by rfl) :
    WL P B n ops (⟨some d, .index t x y, ty, pos, af, none⟩ :: l) Q e L := WL.pure h hd (Qt.ixT xs ht hv hx hy hp)
def strIt (it : Nat) (xs : Bytes) (k : Nat) : HP := pt it (.stringIter (bstr xs) k)
theorem WL.rangeT {t : Nat} (xs : Bytes) (ht : strOk P t = true) (h : ∀ it, WL P B n ops l Q ((d, .pointer (some ⟨it, 0, none⟩)) :: e) (strIt it xs 0 :: L)) (hx : evo e x = some (sv xs) := by rfl) (hd : Nat.ble (d + 1) n = true := by rfl) :
    WL P B n ops (⟨some d, .range t x, ty, pos, af, none⟩ :: l) Q e L :=
  WL.step rfl fun a w ha hs => by
    refine ⟨_, w.alloc (.stringIter (bstr xs) 0), _, _, ?_, ha.put hd _, hs.new _, h w.heap.size⟩
    simp [execOp, ha.eval hx, Instr.range, run_underlying (str_of ht), newObj, Sem.run, sv_bstr]
def rune (xs : Bytes) (k : Nat) : Nat × Nat := Utf8.decode (bstr xs) k
theorem WL.nextT {it k : Nat} (xs : Bytes) {M : List HP}
    (h0 : ¬ k < xs.length → WL P B n ops l Q ((d, .tuple #[.bool false]) :: e) (strIt it xs k :: M))
    (h1 : k < xs.length → WL P B n ops l Q ((d, .tuple #[.bool true, .int .i64 (k : Int), .int .i32 ((rune xs k).1 : Int)]) :: e) (strIt it xs (k + (rune xs k).2) :: M))
    (hx : evo e x = some (.pointer (some ⟨it, 0, none⟩)) := by rfl) (r : Rem L (strIt it xs k) M := by repeat (first | exact .here | apply Rem.there)) (hd : Nat.ble (d + 1) n = true := by rfl) :
    WL P B n ops (⟨some d, .next x true, ty, pos, af, none⟩ :: l) Q e L :=
  WL.step rfl fun a w ha hs => by
    have hs1 := hs.front r
    have hb := hs1.get .here
    by_cases hk : k < xs.length
    · refine ⟨_, _, _, _, ?_, ha.put hd _, hs1.set (o' := .stringIter (bstr xs) (k + (rune xs k).2)) .here, h1 hk⟩
      have := Lib.run_next_any_at (P := P) w it (bstr xs) k ty hb (by rw [bstr_size]; exact hk)
      simp only [execOp, ha.eval hx, Sem.run_bind, this, Result.andThen_ok, Sem.run_pure]
      rfl
    · refine ⟨_, w, _, _, ?_, ha.put hd _, hs1, h0 hk⟩
      have := Lib.run_next_end_at (P := P) w it (bstr xs) k ty hb (by rw [bstr_size]; exact hk)
      simp only [execOp, ha.eval hx, Sem.run_bind, this, Result.andThen_ok, Sem.run_pure]
theorem WL.callX {f : FuncId} {xs : List Operand} {tys : Array TypeId} {vs : List Value} {v : Value} (hx : evos e xs = some vs := by rfl)
    (hc : ∀ w, (callFunc f vs.toArray).run P w = .ok (.value v) w) (h : WL P B n ops l Q ((d, v) :: e) L) (hd : Nat.ble (d + 1) n = true := by rfl) :
    WL P B n ops (⟨some d, .call ⟨.value (.func f), xs.toArray, tys⟩, ty, pos, af, none⟩ :: l) Q e L := by
  intro a w ha hs
  refine wpList_plain rfl fun K hK => ?_
  have hargs : xs.map a.eval = vs := evos_eval ha hx
  have hrun : (execOp a.eval ⟨some d, .call ⟨.value (.func f), xs.toArray, tys⟩, ty, pos, af, none⟩).run P w = .ok (.value v) w := by
    have he : a.eval (.func f) = .func (.func f) #[] #[] := rfl
    simp [execOp, resolve, Deferred.ofValue, he, invoke, hargs, hc]
  unfold Oper.wp
  rw [hrun]
  simp only [Oper.upon_value]
  exact hK _ _ (h _ w (ha.put hd v) hs)
theorem Qt.subT {t : Nat} {p : Int} (xs : Bytes) (ht : strOk P t = true) (hx : evo e x = some (sv xs) := by rfl) (hy : evo e y = some (.int .i64 p) := by rfl) (hp : 0 ≤ p ∧ p ≤ xs.length := by omega) :
    Qt P B n e L ⟨some d, .slice t x (some y) none none, ty, pos, af, gd⟩ (sv (xs.drop p.toNat)) :=
  fun a w ha hs => by
    have h1 : (bstr xs).extract p.toNat xs.length = bstr (xs.drop p.toNat) := by
      apply ByteArray.ext
      simp [bstr, ByteArray.data_extract, List.take_of_length_le]
    simp [execOp, ha.eval hx, ha.eval hy, Instr.sliceAt, Instr.sureAddr, Instr.slice, Instr.sliceBounds, Instr.sliceBound, asIntOf, run_underlying (str_of ht), sv_bstr, hp, h1, bstr_size]
theorem WC.scope {c : Code} (h : WC P B n c (Exit.noGoto Q) e L) : WC P B n (.scope c) Q e L := fun a w ha hs => wp_scope_straight (h a w ha hs)
theorem WQ.scopeRet (h : WQ B n Q .ret e L) : WQ B n (Exit.noGoto Q) .ret e L := fun a w ha hs => h a w ha hs
theorem NoPanic.scope (h : NoPanic Q) : NoPanic (Exit.noGoto Q) := h
theorem NoPanic.autoS (h : NoPanic Q := by repeat (first | exact NoPanic.body | refine NoPanic.then ?_ | refine NoPanic.block ?_ | refine NoPanic.join ?_ | refine NoPanic.scope ?_)) : NoPanic Q := h
theorem Qt.cvtRT {s t : Nat} {k kk : IntKind} {p : Int} (hs : P.underlying s = some (.int k)) (ht : strOk P t = true) (hx : evo e x = some (.int kk p) := by rfl) :
    Qt P B n e L ⟨some d, .convert s t x, ty, pos, af, gd⟩ (sv (Utf8.encode p).data.toList) :=
  fun a w ha hs' => by
    have : (convert s t (.int kk p)).run P w = .ok (.string (Utf8.encode p)) w := by
      simp [convert, run_underlying hs, run_underlying (str_of ht), Conv.intToString]
    simp only [execOp, ha.eval hx, Sem.run_bind, this, Result.andThen_ok, Sem.run_pure]
    rfl
end
section
variable {P : Program} {B : Base} {n : Nat} {Q Q' : Exit → Act → World → Prop} {e : Env} {L : List HP} {ops : Array Oper} {l : List Oper}
variable {d : Nat} {ty : TypeId} {pos : String} {af : Array Edge} {x y z : Operand} {gd : Option (Nat × Bool)}
theorem Qt.slcArrL {t el k b : Nat} {q : Int} (ht : arrOk P t el k 1 = true) (hx : evo e x = some (.pointer (some ⟨b, 0, none⟩)) := by rfl) (hy : evo e y = some (.int .i64 q) := by rfl) (hq : 0 ≤ q ∧ q < k := by omega) :
    Qt P B n e L ⟨some d, .slice t x (some y) none none, ty, pos, af, gd⟩ (.slice (some ⟨b, q.toNat, none⟩) (k - q.toNat) (k - q.toNat)) :=
  fun a w ha hs => by
    obtain ⟨hu, i, hi, hsz⟩ := arr_of ht
    have h1 : ¬ k = q.toNat := by omega
    have h2 : q ≤ (k : Int) := by omega
    simp [execOp, ha.eval hx, ha.eval hy, Instr.sliceAt, run_underlying hu, Instr.sureAddr, Instr.sliceBounds, Instr.sliceBound, asIntOf, sizeOf, typeInfo, hi, hsz, add_plain', hq.1, h2, h1]
theorem WL.slcArrL {t el k b : Nat} {q : Int} (h : WL P B n ops l Q ((d, .slice (some ⟨b, q.toNat, none⟩) (k - q.toNat) (k - q.toNat)) :: e) L) (ht : arrOk P t el k 1 = true) (hx : evo e x = some (.pointer (some ⟨b, 0, none⟩)) := by rfl) (hy : evo e y = some (.int .i64 q) := by rfl) (hq : 0 ≤ q ∧ q < k := by omega) (hd : Nat.ble (d + 1) n = true := by rfl) :
    WL P B n ops (⟨some d, .slice t x (some y) none none, ty, pos, af, none⟩ :: l) Q e L := WL.pure h hd (Qt.slcArrL ht hx hy hq)
theorem buf_of_row {b el k : Nat} {xs : List Value} (hk : xs.length = k) : ∀ h, row b el xs h → buf b el k xs h := by
  intro h hh
  subst hk
  unfold row at hh
  exact buf_of_pt (cs := xs.toArray) rfl h hh
theorem row_of_buf {b el k : Nat} {xs : List Value} (hk : xs.length = k) : ∀ h, buf b el k xs h → row b el xs h := by
  intro h hh
  obtain ⟨cs, ⟨h1, h2, _⟩, h3⟩ := pt_of_buf h hh
  have h4 : cs = xs.toArray := by
    rw [List.take_of_length_le (by rw [Array.length_toList]; omega)] at h2
    rw [← h2]
  unfold row
  rw [← h4]
  exact h3
end
theorem rune_low {xs : Bytes} {k : Nat} (h : k < xs.length) (hb : xs[k].toNat < 128) : rune xs k = (xs[k].toNat, 1) := by
  unfold rune
  have hk : k < (bstr xs).size := by rw [bstr_size]; exact h
  have := decode_ascii (bstr xs) k hk (by rw [bstr_get hk]; exact hb)
  rw [this, bstr_get hk]
theorem bget {xs : Bytes} {k : Nat} (h : k < xs.length) : (bstr xs).get! k = xs[k] := by
  have hk : k < (bstr xs).size := by rw [bstr_size]; exact h
  have := get_at (bstr xs) k hk
  rw [Nat.add_zero] at this
  rw [this, bstr_get hk]
theorem rune_high {xs : Bytes} {k : Nat} (h : k < xs.length) (hb : 128 ≤ xs[k].toNat) :
    128 ≤ (rune xs k).1 ∧ 1 ≤ (rune xs k).2 ∧ ∀ j, k ≤ j → j < k + (rune xs k).2 → ∀ (hj : j < xs.length), 128 ≤ xs[j].toNat := by
  have hk : k < (bstr xs).size := by rw [bstr_size]; exact h
  have h1 := decode_high (bstr xs) k hk (by rw [bstr_get hk]; exact hb)
  refine ⟨h1.1, h1.2, ?_⟩
  intro j hj1 hj2 hj
  by_cases hjk : j = k
  · subst hjk; exact hb
  unfold rune at hj2
  have key : ∀ q, 1 ≤ q → (decide (k + q < (bstr xs).size) && ((bstr xs).get! (k + q)).toNat / 64 == 2) = true → ∀ (hq : k + q < xs.length), 128 ≤ xs[k + q].toNat := by
    intro q _ hq hlt
    rw [Bool.and_eq_true] at hq
    have := hq.2
    rw [bget hlt] at this
    have : xs[k + q].toNat / 64 = 2 := by simpa using this
    omega
  have b0 : ((bstr xs).get! (k + 0)).toNat = xs[k].toNat := congrArg UInt8.toNat (bget h)
  simp only [Utf8.decode, b0] at hj2
  rw [if_neg (by omega)] at hj2
  obtain ⟨q, rfl⟩ : ∃ q, j = k + q := ⟨j - k, by omega⟩
  have hq1 : 1 ≤ q := by omega
  split at hj2
  · rename_i hc
    rw [Bool.and_eq_true] at hc
    have : q < 2 := by split at hj2 <;> simp only at hj2 <;> omega
    obtain rfl : q = 1 := by omega
    exact key 1 (by omega) hc.2 hj
  · split at hj2
    · rename_i hc
      rw [Bool.and_eq_true, Bool.and_eq_true] at hc
      have : q < 3 := by split at hj2 <;> simp only at hj2 <;> omega
      rcases (show q = 1 ∨ q = 2 by omega) with rfl | rfl
      · exact key 1 (by omega) hc.1.2 hj
      · exact key 2 (by omega) hc.2 hj
    · split at hj2
      · rename_i hc
        rw [Bool.and_eq_true, Bool.and_eq_true, Bool.and_eq_true] at hc
        have : q < 4 := by split at hj2 <;> simp only at hj2 <;> omega
        rcases (show q = 1 ∨ q = 2 ∨ q = 3 by omega) with rfl | rfl | rfl
        · exact key 1 (by omega) hc.1.1.2 hj
        · exact key 2 (by omega) hc.1.2 hj
        · exact key 3 (by omega) hc.2 hj
      · simp only at hj2
        omega
theorem rune_pos {xs : Bytes} {k : Nat} (h : k < xs.length) : 1 ≤ (rune xs k).2 := by
  by_cases hb : xs[k].toNat < 128
  · rw [rune_low h hb]; exact Nat.le_refl _
  · exact (rune_high h (by omega)).2.1
theorem rune_le (xs : Bytes) (k : Nat) : (rune xs k).1 ≤ 2147483647 := decode_le _ _
theorem encode_high {c : Nat} (h : 128 ≤ c) : ∃ l : Bytes, (Utf8.encode (c : Int)).data.toList = l ∧ 2 ≤ l.length ∧ l.length ≤ 4 ∧ (∀ x, l.getLast? = some x → 128 ≤ x.toNat) := by
  refine ⟨_, rfl, ?_⟩
  have hmod : ∀ m : Nat, 128 ≤ (UInt8.ofNat (128 + m % 64)).toNat := by
    intro m
    rw [UInt8.toNat_ofNat']
    omega
  unfold Utf8.encode
  have hc : ∃ q : Nat, (if Utf8.valid (c : Int) then (c : Int).toNat else Utf8.runeError) = q ∧ 128 ≤ q := by
    split
    · exact ⟨c, Int.toNat_natCast c, h⟩
    · exact ⟨_, rfl, by decide⟩
  obtain ⟨q, hq, hq8⟩ := hc
  simp only [hq]
  rw [if_neg (by omega)]
  split
  · simp; omega
  · split
    · simp; omega
    · simp; omega
end Go.Proofs.YtedmihapieleaaaGreat
end
section
namespace Go.Proofs.YtedmihapieleaaaGreat
open Go
theorem un21 : Tryz.prog.underlying 21 = some (.int .i32) := by kernel_rfl
def sepIn (xs : Bytes) : Bool := xs.any fun b => b == 47 || b == 0
theorem sepIn_no {xs : Bytes} (h : ∀ (j : Nat) (hj : j < xs.length), xs[j] ≠ 47 ∧ xs[j] ≠ 0) : sepIn xs = false := by
  unfold sepIn
  rw [List.any_eq_false]
  intro b hb
  obtain ⟨j, hj, rfl⟩ := List.mem_iff_getElem.1 hb
  obtain ⟨h1, h2⟩ := h j hj
  simp [h1, h2]
theorem sepIn_yes {xs : Bytes} {j : Nat} (hj : j < xs.length) (h : xs[j] = 47 ∨ xs[j] = 0) : sepIn xs = true := by
  unfold sepIn
  rw [List.any_eq_true]
  exact ⟨xs[j], List.getElem_mem hj, by rcases h with h | h <;> simp [h]⟩
theorem idxByteX (xs : Bytes) (c : Int) (w : World) : (callFunc 178 #[sv xs, .int .u8 c]).run Tryz.prog w = .ok (.value (.int .i64 (Lib.indexByte xs c.toNat.toUInt8))) w := by
  rw [run_callFunc_extern Tryz.func178 (by kernel_rfl) (by kernel_rfl) (by kernel_rfl) (e := Extern.BytealgIndexByte.indexByte) (by kernel_rfl), sv_bstr, Lib.run_indexByteString]
  rfl
theorem sep_low : ∀ c : Nat, c < 128 → decide ((0 : Int) ≤ Lib.indexByte [47, 0] (c : Int).toNat.toUInt8) = decide (c = 47 ∨ c = 0) := by decide +kernel
theorem rune_sep0 : rune [47, 0] 0 = (47, 1) := rune_low (by decide) (by decide)
theorem rune_sep1 : rune [47, 0] 1 = (0, 1) := rune_low (by decide) (by decide)
def validR (c : Nat) : Bool := decide (c < 55296) || (decide (57343 < c) && decide (c ≤ 1114111))
theorem idxByteL {xs : Bytes} {c : Int} : Spec Tryz.prog 175 #[sv xs, .int .u8 c] [] fun F v M => v = .int .i64 (Lib.indexByte xs c.toNat.toUInt8) ∧ M = F := by
  refine Spec.intro Tryz.func175 rfl rfl fun B F => ?_
  simp only [Tryz.ntmps175, List.cons_append, List.nil_append, env0, Nat.reduceAdd]
  refine WC.seq ?_
  refine WC.region ?_
  refine WL.assign ?_
  refine WL.nil ?_
  refine WQ.next ?_
  refine WC.seq ?_
  refine WC.region ?_
  refine WL.move ?_
  refine WL.move ?_
  refine WL.callX (hc := idxByteX xs c) (h := ?_)
  refine WL.assign ?_
  refine WL.nil ?_
  refine WQ.next ?_
  refine WC.ret (?_)
  exact WQ.ret1 (h1 := .tmp (t := 4) rfl) ⟨_, ⟨rfl, rfl⟩, Am.auto⟩
theorem idxByte {xs : Bytes} {c : Int} : Spec Tryz.prog 162 #[sv xs, .int .u8 c] [] fun F v M => v = .int .i64 (Lib.indexByte xs c.toNat.toUInt8) ∧ M = F := by
  refine Spec.intro Tryz.func162 rfl rfl fun B F => ?_
  simp only [Tryz.ntmps162, List.cons_append, List.nil_append, env0, Nat.reduceAdd]
  refine WC.seq ?_
  refine WC.region ?_
  refine WL.assign ?_
  refine WL.nil ?_
  refine WQ.next ?_
  refine WC.seq ?_
  refine WC.region ?_
  refine WL.move ?_
  refine WL.move ?_
  refine WL.call (hc := Tryz.call175) (sp := idxByteL) (h := ?_)
  rintro _ _ ⟨rfl, rfl⟩
  refine WL.assign ?_
  refine WL.nil ?_
  refine WQ.next ?_
  refine WC.ret (?_)
  exact WQ.ret1 (h1 := .tmp (t := 4) rfl) ⟨_, ⟨rfl, rfl⟩, Am.auto⟩
theorem validRune {c : Nat} : Spec Tryz.prog 163 #[.int .i32 (c : Int)] [] fun F v M => v = .bool (validR c) ∧ M = F := by
  refine Spec.intro Tryz.func163 rfl rfl fun B F => ?_
  simp only [Tryz.ntmps163, List.cons_append, List.nil_append, env0, Nat.reduceAdd]
  unfold validR
  rcases (show c < 55296 ∨ (¬ c < 55296 ∧ 57343 < c ∧ c ≤ 1114111) ∨ (¬ c < 55296 ∧ ¬ 57343 < c) ∨ (¬ c < 55296 ∧ 57343 < c ∧ ¬ c ≤ 1114111) from by omega) with hc | hc | hc | hc
  · refine WC.seq ?_
    refine WC.region ?_
    refine WL.assign ?_
    refine WL.nil ?_
    refine WQ.next ?_
    refine WC.seq ?_
    refine WC.block ?_
    refine WC.seq ?_
    refine WC.region ?_
    refine WL.move ?_
    refine WL.leq ?_
    refine WL.move ?_
    refine WL.cast (d := 6) (u := .bool true) rfl (congrArg Value.bool (by first | (simp; done) | (simp; omega) | omega)) ?_
    refine WL.gT ?_
    refine WL.move ?_
    refine WL.gT ?_
    refine WL.lss ?_
    refine WL.pickT ?_
    refine WL.assign ?_
    refine WL.nil ?_
    refine WQ.next ?_
    refine WC.condT rfl (congrArg Value.bool (by first | (simp; done) | (simp; omega) | omega)) ?_
    refine WC.seq ?_
    refine WC.region ?_
    refine WL.assign ?_
    refine WL.nil ?_
    refine WQ.next ?_
    refine WC.ret (WQ.blockRet (WQ.thenRet (?_)))
    exact WQ.ret1 (h1 := .tmp (t := 2) rfl) ⟨_, ⟨by simp [hc], rfl⟩, Am.auto⟩
  · refine WC.seq ?_
    refine WC.region ?_
    refine WL.assign ?_
    refine WL.nil ?_
    refine WQ.next ?_
    refine WC.seq ?_
    refine WC.block ?_
    refine WC.seq ?_
    refine WC.region ?_
    refine WL.move ?_
    refine WL.leq ?_
    refine WL.move ?_
    refine WL.cast (d := 6) (u := .bool true) rfl (congrArg Value.bool (by first | (simp; done) | (simp; omega) | omega)) ?_
    refine WL.gT ?_
    refine WL.move ?_
    refine WL.gT ?_
    refine WL.lss ?_
    refine WL.pickT ?_
    refine WL.assign ?_
    refine WL.nil ?_
    refine WQ.next ?_
    refine WC.condF rfl (congrArg Value.bool (by first | (simp; done) | (simp; omega) | omega)) ?_
    refine WC.seq ?_
    refine WC.region ?_
    refine WL.move ?_
    refine WL.lss ?_
    refine WL.move ?_
    refine WL.cast (d := 13) (u := .bool true) rfl (congrArg Value.bool (by first | (simp; done) | (simp; omega) | omega)) ?_
    refine WL.gT ?_
    refine WL.move ?_
    refine WL.gT ?_
    refine WL.leq ?_
    refine WL.pickT ?_
    refine WL.assign ?_
    refine WL.nil ?_
    refine WQ.next ?_
    refine WC.condT rfl (congrArg Value.bool (by first | (simp; done) | (simp; omega) | omega)) ?_
    refine WC.seq ?_
    refine WC.region ?_
    refine WL.assign ?_
    refine WL.nil ?_
    refine WQ.next ?_
    refine WC.ret (WQ.blockRet (WQ.thenRet (?_)))
    exact WQ.ret1 (h1 := .tmp (t := 2) rfl) ⟨_, ⟨by simp [hc], rfl⟩, Am.auto⟩
  · refine WC.seq ?_
    refine WC.region ?_
    refine WL.assign ?_
    refine WL.nil ?_
    refine WQ.next ?_
    refine WC.seq ?_
    refine WC.block ?_
    refine WC.seq ?_
    refine WC.region ?_
    refine WL.move ?_
    refine WL.leq ?_
    refine WL.move ?_
    refine WL.cast (d := 6) (u := .bool true) rfl (congrArg Value.bool (by first | (simp; done) | (simp; omega) | omega)) ?_
    refine WL.gT ?_
    refine WL.move ?_
    refine WL.gT ?_
    refine WL.lss ?_
    refine WL.pickT ?_
    refine WL.assign ?_
    refine WL.nil ?_
    refine WQ.next ?_
    refine WC.condF rfl (congrArg Value.bool (by first | (simp; done) | (simp; omega) | omega)) ?_
    refine WC.seq ?_
    refine WC.region ?_
    refine WL.move ?_
    refine WL.lss ?_
    refine WL.move ?_
    refine WL.cast (d := 13) (u := .bool false) rfl (congrArg Value.bool (by first | (simp; done) | (simp; omega) | omega)) ?_
    refine WL.gF ?_
    refine WL.gF ?_
    refine WL.pickF ?_
    refine WL.assign ?_
    refine WL.nil ?_
    refine WQ.next ?_
    refine WC.condF rfl rfl ?_
    refine WC.skip ?_
    refine WQ.blockNormal ?_
    refine WQ.next ?_
    refine WC.seq ?_
    refine WC.region ?_
    refine WL.assign ?_
    refine WL.nil ?_
    refine WQ.next ?_
    refine WC.ret (?_)
    exact WQ.ret1 (h1 := .tmp (t := 2) rfl) ⟨_, ⟨by simp [hc], rfl⟩, Am.auto⟩
  · refine WC.seq ?_
    refine WC.region ?_
    refine WL.assign ?_
    refine WL.nil ?_
    refine WQ.next ?_
    refine WC.seq ?_
    refine WC.block ?_
    refine WC.seq ?_
    refine WC.region ?_
    refine WL.move ?_
    refine WL.leq ?_
    refine WL.move ?_
    refine WL.cast (d := 6) (u := .bool true) rfl (congrArg Value.bool (by first | (simp; done) | (simp; omega) | omega)) ?_
    refine WL.gT ?_
    refine WL.move ?_
    refine WL.gT ?_
    refine WL.lss ?_
    refine WL.pickT ?_
    refine WL.assign ?_
    refine WL.nil ?_
    refine WQ.next ?_
    refine WC.condF rfl (congrArg Value.bool (by first | (simp; done) | (simp; omega) | omega)) ?_
    refine WC.seq ?_
    refine WC.region ?_
    refine WL.move ?_
    refine WL.lss ?_
    refine WL.move ?_
    refine WL.cast (d := 13) (u := .bool true) rfl (congrArg Value.bool (by first | (simp; done) | (simp; omega) | omega)) ?_
    refine WL.gT ?_
    refine WL.move ?_
    refine WL.gT ?_
    refine WL.leq ?_
    refine WL.pickT ?_
    refine WL.assign ?_
    refine WL.nil ?_
    refine WQ.next ?_
    refine WC.condF rfl (congrArg Value.bool (by first | (simp; done) | (simp; omega) | omega)) ?_
    refine WC.skip ?_
    refine WQ.blockNormal ?_
    refine WQ.next ?_
    refine WC.seq ?_
    refine WC.region ?_
    refine WL.assign ?_
    refine WL.nil ?_
    refine WQ.next ?_
    refine WC.ret (?_)
    exact WQ.ret1 (h1 := .tmp (t := 2) rfl) ⟨_, ⟨by simp [hc], rfl⟩, Am.auto⟩
theorem idxRune {c : Nat} : Spec Tryz.prog 135 #[sv [47, 0], .int .i32 (c : Int)] [] fun F v M => ∃ r : Int, v = .int .i64 r ∧ decide (0 ≤ r) = decide (c = 47 ∨ c = 0) ∧ M = F := by
  refine Spec.intro Tryz.func135 rfl rfl fun B F => ?_
  simp only [Tryz.ntmps135, List.cons_append, List.nil_append, env0, Nat.reduceAdd]
  rcases (show c < 128 ∨ c = 65533 ∨ (¬ c < 128 ∧ c ≠ 65533) from by omega) with hc | hc | hc
  · refine WC.seq ?_
    refine WC.region ?_
    refine WL.assign ?_
    refine WL.nil ?_
    refine WQ.next ?_
    refine WC.block ?_
    refine WC.seq ?_
    refine WC.region ?_
    refine WL.move ?_
    refine WL.leq ?_
    refine WL.move ?_
    refine WL.cast (d := 163) (u := .bool true) rfl (congrArg Value.bool (by first | (simp; done) | (simp; omega) | omega)) ?_
    refine WL.gT ?_
    refine WL.move ?_
    refine WL.gT ?_
    refine WL.lss ?_
    refine WL.pickT ?_
    refine WL.assign ?_
    refine WL.nil ?_
    refine WQ.next ?_
    refine WC.condT rfl (congrArg Value.bool (by first | (simp; done) | (simp; omega) | omega)) ?_
    refine WC.seq ?_
    refine WC.region ?_
    refine WL.move ?_
    refine WL.move ?_
    refine WL.cvt ?_ un21 un5
    refine WL.cast (d := 169) (u := .int .u8 (c : Int)) rfl (congrArg (Value.int .u8) (IntWalk.u8_in _ (by omega))) ?_
    refine WL.call (hc := Tryz.call162) (sp := idxByte (xs := [47, 0]) (c := (c : Int))) (h := ?_)
    rintro _ _ ⟨rfl, rfl⟩
    refine WL.assign ?_
    refine WL.nil ?_
    refine WQ.next ?_
    refine WC.ret (WQ.blockRet (?_))
    exact WQ.ret1 (h1 := .tmp (t := 4) rfl) ⟨_, ⟨_, rfl, sep_low c hc, rfl⟩, Am.auto⟩
  · subst hc
    refine WC.seq ?_
    refine WC.region ?_
    refine WL.assign ?_
    refine WL.nil ?_
    refine WQ.next ?_
    refine WC.block ?_
    refine WC.seq ?_
    refine WC.region ?_
    refine WL.move ?_
    refine WL.leq ?_
    refine WL.move ?_
    refine WL.cast (d := 163) (u := .bool true) rfl (congrArg Value.bool (by first | (simp; done) | (simp; omega) | omega)) ?_
    refine WL.gT ?_
    refine WL.move ?_
    refine WL.gT ?_
    refine WL.lss ?_
    refine WL.pickT ?_
    refine WL.assign ?_
    refine WL.nil ?_
    refine WQ.next ?_
    refine WC.condF rfl (congrArg Value.bool (by first | (simp; done) | (simp; omega) | omega)) ?_
    refine WC.seq ?_
    refine WC.region ?_
    refine WL.move ?_
    refine WL.eqi ?_
    refine WL.assign ?_
    refine WL.nil ?_
    refine WQ.next ?_
    refine WC.condT rfl rfl ?_
    refine WC.seq ?_
    refine WC.seq ?_
    refine WC.region ?_
    refine WL.move ?_
    refine WL.rangeT [47, 0] st9 (fun it => ?_)
    refine WL.nil ?_
    refine WQ.next ?_
    refine WC.block ?_
    refine WC.loopN 3 (RC.succ ?_)
    refine WC.seq ?_
    refine WC.region ?_
    refine WL.nextT (k := 0) [47, 0] (fun hk => absurd (by decide) hk) (fun _ => ?_)
    rw [rune_sep0]
    refine WL.extract ?_
    refine WL.nil ?_
    refine WQ.next ?_
    refine WC.seq ?_
    refine WC.condT rfl rfl ?_
    refine WC.skip ?_
    refine WQ.next ?_
    refine WC.block ?_
    refine WC.seq ?_
    refine WC.region ?_
    refine WL.extract ?_
    refine WL.extract ?_
    refine WL.assign ?_
    refine WL.assign ?_
    refine WL.nil ?_
    refine WQ.next ?_
    refine WC.seq ?_
    refine WC.region ?_
    refine WL.move ?_
    refine WL.eqi ?_
    refine WL.nil ?_
    refine WQ.next ?_
    refine WC.condF rfl rfl ?_
    refine WC.skip ?_
    refine WQ.blockNormal ?_
    refine WQ.again (RC.succ ?_)
    refine WC.seq ?_
    refine WC.region ?_
    refine WL.nextT (k := 1) [47, 0] (fun hk => absurd (by decide) hk) (fun _ => ?_)
    rw [rune_sep1]
    refine WL.extract ?_
    refine WL.nil ?_
    refine WQ.next ?_
    refine WC.seq ?_
    refine WC.condT rfl rfl ?_
    refine WC.skip ?_
    refine WQ.next ?_
    refine WC.block ?_
    refine WC.seq ?_
    refine WC.region ?_
    refine WL.extract ?_
    refine WL.extract ?_
    refine WL.assign ?_
    refine WL.assign ?_
    refine WL.nil ?_
    refine WQ.next ?_
    refine WC.seq ?_
    refine WC.region ?_
    refine WL.move ?_
    refine WL.eqi ?_
    refine WL.nil ?_
    refine WQ.next ?_
    refine WC.condF rfl rfl ?_
    refine WC.skip ?_
    refine WQ.blockNormal ?_
    refine WQ.again (RC.succ ?_)
    refine WC.seq ?_
    refine WC.region ?_
    refine WL.nextT (k := 2) [47, 0] (fun _ => ?_) (fun hk => absurd hk (by decide))
    refine WL.extract ?_
    refine WL.nil ?_
    refine WQ.next ?_
    refine WC.seq ?_
    refine WC.condF rfl rfl ?_
    refine WC.exit (WQ.thenExit (WQ.thenExit (WQ.blockExit (?_))))
    refine WQ.next ?_
    refine WC.seq ?_
    refine WC.region ?_
    refine WL.assign ?_
    refine WL.nil ?_
    refine WQ.next ?_
    refine WC.ret (WQ.blockRet (?_))
    exact WQ.ret1 (h1 := .tmp (t := 4) rfl) ⟨_, ⟨_, rfl, by decide, rfl⟩, Am.auto⟩
  · obtain ⟨l, hl, hl2, hl4, hlast⟩ := encode_high (c := c) (by omega)
    refine WC.seq ?_
    refine WC.region ?_
    refine WL.assign ?_
    refine WL.nil ?_
    refine WQ.next ?_
    refine WC.block ?_
    refine WC.seq ?_
    refine WC.region ?_
    refine WL.move ?_
    refine WL.leq ?_
    refine WL.move ?_
    refine WL.cast (d := 163) (u := .bool true) rfl (congrArg Value.bool (by first | (simp; done) | (simp; omega) | omega)) ?_
    refine WL.gT ?_
    refine WL.move ?_
    refine WL.gT ?_
    refine WL.lss ?_
    refine WL.pickT ?_
    refine WL.assign ?_
    refine WL.nil ?_
    refine WQ.next ?_
    refine WC.condF rfl (congrArg Value.bool (by first | (simp; done) | (simp; omega) | omega)) ?_
    refine WC.seq ?_
    refine WC.region ?_
    refine WL.move ?_
    refine WL.eqi ?_
    refine WL.assign ?_
    refine WL.nil ?_
    refine WQ.next ?_
    refine WC.condF rfl (congrArg Value.bool (by first | (simp; done) | (simp; omega) | omega)) ?_
    refine WC.seq ?_
    refine WC.region ?_
    refine WL.move ?_
    refine WL.call (hc := Tryz.call163) (sp := validRune (c := c)) (h := ?_)
    rintro _ _ ⟨rfl, rfl⟩
    refine WL.not ?_
    refine WL.assign ?_
    refine WL.nil ?_
    refine WQ.next ?_
    cases hv : validR c
    · refine WC.condT rfl rfl ?_
      refine WC.seq ?_
      refine WC.region ?_
      refine WL.assign ?_
      refine WL.nil ?_
      refine WQ.next ?_
      refine WC.ret (WQ.blockRet (?_))
      exact WQ.ret1 (h1 := .tmp (t := 4) rfl) ⟨_, ⟨_, rfl, by rw [decide_eq_false (by decide), decide_eq_false (by omega)], rfl⟩, Am.auto⟩
    · refine WC.condF rfl rfl ?_
      refine WC.scope ?_
      refine WC.seq ?_
      refine WC.region ?_
      refine WL.move ?_
      refine WL.pure ?_ rfl (Qt.cvtRT un21 st9)
      rw [hl]
      refine WL.assign ?_
      refine WL.nil ?_
      refine WQ.next ?_
      refine WC.seq ?_
      refine WC.region ?_
      refine WL.move ?_
      refine WL.lenT _ ?_ st9
      refine WL.sub ?_
      refine WL.assign ?_
      refine WL.nil ?_
      refine WQ.next ?_
      refine WC.seq ?_
      refine WC.region ?_
      refine WL.move ?_
      refine WL.assign ?_
      refine WL.nil ?_
      refine WQ.next ?_
      refine WC.seq ?_
      refine WC.region ?_
      refine WL.assign ?_
      refine WL.nil ?_
      refine WQ.next ?_
      refine WC.seq ?_
      refine WC.block ?_
      rcases (show l.length = 2 ∨ 3 ≤ l.length from by omega) with hl3 | hl3
      · obtain ⟨x, hx⟩ : ∃ x, l[1]? = some x := ⟨_, List.getElem?_eq_getElem (by omega)⟩
        have hx8 : 128 ≤ x.toNat := hlast x (by rw [List.getLast?_eq_getElem?, hl3]; exact hx)
        rw [hl3]
        refine WC.loopN 2 (RC.succ ?_)
        refine WC.seq ?_
        refine WC.seq ?_
        refine WC.region ?_
        refine WL.move ?_
        refine WL.move ?_
        refine WL.lenT _ ?_ st9
        refine WL.lss ?_
        refine WL.nil ?_
        refine WQ.next ?_
        refine WC.condT rfl rfl ?_
        refine WC.skip ?_
        refine WQ.next ?_
        refine WC.block ?_
        refine WC.scope ?_
        refine WC.seq ?_
        refine WC.seq ?_
        refine WC.draw ([]) [] 7 #[false, false, false, false, false, false, false] mixed (by kernel_rfl) NoPanic.autoS ?_
        refine WD.take (i := 0) #[true, false, false, false, false, false, false] rfl (by kernel_rfl) (Qt.move ) ?_
        refine WD.take (i := 1) #[true, true, false, false, false, false, false] rfl (by kernel_rfl) (Qt.move ) ?_
        refine WD.take (i := 2) #[true, true, true, false, false, false, false] rfl (by kernel_rfl) (Qt.ixT (p := 1) (v := 0) [47, 0] st9 rfl) ?_
        refine WD.take (i := 3) #[true, true, true, true, false, false, false] rfl (by kernel_rfl) (Qt.move ) ?_
        refine WD.take (i := 4) #[true, true, true, true, true, false, false] rfl (by kernel_rfl) (Qt.move ) ?_
        refine WD.take (i := 5) #[true, true, true, true, true, true, false] rfl (by kernel_rfl) (Qt.ixT (p := 1) (v := x) l st9 hx) ?_
        refine WD.take (i := 6) #[true, true, true, true, true, true, true] rfl (by kernel_rfl) ((Qt.nei).eq (v' := .bool true) (congrArg Value.bool (show (!decide ((0 : Int) = (x.toNat : Int))) = true from by rw [decide_eq_false (by omega)]; rfl))) ?_
        refine WD.done (by kernel_rfl) ?_
        refine WQ.next ?_
        refine WC.condT rfl rfl ?_
        refine WC.seq ?_
        refine WC.draw ([]) [] 9 #[false, false, false, false, false, false, false, false, false] mixed (by kernel_rfl) NoPanic.autoS ?_
        refine WD.take (i := 0) #[true, false, false, false, false, false, false, false, false] rfl (by kernel_rfl) (Qt.move ) ?_
        refine WD.take (i := 1) #[true, true, false, false, false, false, false, false, false] rfl (by kernel_rfl) (Qt.move ) ?_
        refine WD.take (i := 2) #[true, true, true, false, false, false, false, false, false] rfl (by kernel_rfl) (Qt.add ) ?_
        refine WD.take (i := 3) #[true, true, true, true, false, false, false, false, false] rfl (by kernel_rfl) (Qt.subT (p := 1 + 1) [47, 0] st9 (hp := ⟨by decide, by decide⟩)) ?_
        refine WD.take (i := 4) #[true, true, true, true, true, false, false, false, false] rfl (by kernel_rfl) (Qt.move ) ?_
        refine WD.take (i := 5) #[true, true, true, true, true, true, false, false, false] rfl (by kernel_rfl) (Qt.move ) ?_
        refine WD.take (i := 6) #[true, true, true, true, true, true, true, false, false] rfl (by kernel_rfl) (Qt.ixT (p := 1) (v := x) l st9 hx) ?_
        refine WD.one (i := 7) #[true, true, true, true, true, true, true, true, false] rfl (by kernel_rfl) fun hnp => ?_
        refine WL.call (hc := Tryz.call162) (sp := idxByte (xs := []) (c := (x.toNat : Int))) (h := ?_)
        rintro _ _ ⟨rfl, rfl⟩
        refine WL.nil (WQ.wd hnp (.inl Am.auto) ?_)
        refine WD.take (i := 8) #[true, true, true, true, true, true, true, true, true] rfl (by kernel_rfl) (Qt.assign ) ?_
        refine WD.done (by kernel_rfl) ?_
        refine WQ.next ?_
        refine WC.seq ?_
        refine WC.seq ?_
        refine WC.region ?_
        refine WL.move ?_
        refine WL.lss ?_
        refine WL.nil ?_
        refine WQ.next ?_
        refine WC.condT rfl rfl ?_
        refine WC.seq ?_
        refine WC.region ?_
        refine WL.assign ?_
        refine WL.nil ?_
        refine WQ.next ?_
        refine WC.ret (WQ.thenRet (WQ.thenRet (WQ.scopeRet (WQ.blockRet (WQ.thenRet (WQ.blockRet (WQ.thenRet (WQ.scopeRet (WQ.blockRet (?_))))))))))
        exact WQ.ret1 (h1 := .tmp (t := 4) rfl) ⟨_, ⟨_, rfl, by rw [decide_eq_false (by decide), decide_eq_false (by omega)], rfl⟩, Am.auto⟩
      · refine WC.loopN 1 (RC.succ ?_)
        refine WC.seq ?_
        refine WC.seq ?_
        refine WC.region ?_
        refine WL.move ?_
        refine WL.move ?_
        refine WL.lenT _ ?_ st9
        refine WL.lss ?_
        refine WL.nil ?_
        refine WQ.next ?_
        refine WC.condF rfl (congrArg Value.bool (by first | (simp; done) | (simp; omega) | omega)) ?_
        refine WC.exit (WQ.thenExit (WQ.thenExit (WQ.blockExit (?_))))
        refine WQ.next ?_
        refine WC.seq ?_
        refine WC.seq ?_
        refine WC.region ?_
        refine WL.assign ?_
        refine WL.nil ?_
        refine WQ.next ?_
        refine WC.ret (WQ.thenRet (WQ.scopeRet (WQ.blockRet (?_))))
        exact WQ.ret1 (h1 := .tmp (t := 4) rfl) ⟨_, ⟨_, rfl, by rw [decide_eq_false (by decide), decide_eq_false (by omega)], rfl⟩, Am.auto⟩
end Go.Proofs.YtedmihapieleaaaGreat
end
section
namespace Go.Proofs.YtedmihapieleaaaGreat
open Go
theorem agg189 : aggOk Tryz.prog 189 256 = true := by kernel_rfl
theorem z189 : zeroOf Tryz.prog 189 = some (Array.replicate 256 (.bool false)) := by kernel_rfl
theorem ar189 : arrOk Tryz.prog 189 4 256 1 = true := by kernel_rfl
def sepA : List Value := ((List.replicate 256 (Value.bool false)).set 47 (.bool true)).set 0 (.bool true)
theorem sepA_length : sepA.length = 256 := by unfold sepA; rw [List.length_set, List.length_set, List.length_replicate]
theorem sepA_single : ∀ v ∈ sepA, Value.single v = true := by
  intro v hv
  unfold sepA at hv
  rcases List.mem_or_eq_of_mem_set hv with hv | rfl
  · rcases List.mem_or_eq_of_mem_set hv with hv | rfl
    · rw [List.eq_of_mem_replicate hv]; rfl
    · rfl
  · rfl
theorem bool_arr : Array.replicate 256 (Value.bool false) = (List.replicate 256 (Value.bool false)).toArray := (List.toArray_replicate ..).symm
theorem sepA_get (x : UInt8) : sepA[x.toNat]? = some (.bool (x == 47 || x == 0)) := by
  have hx : x.toNat < 256 := x.toNat_lt
  unfold sepA
  by_cases h0 : x = 0
  · subst h0
    exact List.getElem?_set_self (by rw [List.length_set, List.length_replicate]; decide)
  · have h0' : 0 ≠ x.toNat := fun h => h0 (UInt8.toNat_inj.1 h.symm)
    rw [List.getElem?_set_ne h0']
    by_cases h47 : x = 47
    · subst h47
      exact List.getElem?_set_self (by rw [List.length_replicate]; decide)
    · have h47' : 47 ≠ x.toNat := fun h => h47 (UInt8.toNat_inj.1 h.symm)
      rw [List.getElem?_set_ne h47', List.getElem?_replicate, if_pos hx]
      simp [h0, h47]
def nameOk (xs : Bytes) : Bool := !decide (xs = []) && (decide (xs.length ≤ 50) && (!sepIn xs && (!decide (xs = [46]) && !decide (xs = [46, 46]))))
theorem mkSet : Spec Tryz.prog 137 #[sv [47, 0]] [] fun F v M => v = .tuple #[.agg sepA.toArray, .bool true] ∧ M = F := by
  refine Spec.intro Tryz.func137 rfl rfl fun B F => ?_
  simp only [Tryz.ntmps137, List.cons_append, List.nil_append, env0, Nat.reduceAdd]
  refine WC.seq ?_
  refine WC.region ?_
  refine WL.allocL (us := List.replicate 256 (Value.bool false)) z189 bool_arr fun b2 => ?_
  refine WL.assign ?_
  refine WL.nil ?_
  refine WQ.next ?_
  refine WC.seq ?_
  refine WC.seq ?_
  refine WC.region ?_
  refine WL.assign ?_
  refine WL.nil ?_
  refine WQ.next ?_
  refine WC.block ?_
  refine WC.loopN 3 (RC.succ ?_)
  refine WC.seq ?_
  refine WC.seq ?_
  refine WC.region ?_
  refine WL.move ?_
  refine WL.move ?_
  refine WL.lenT _ ?_ st9
  refine WL.lss ?_
  refine WL.nil ?_
  refine WQ.next ?_
  refine WC.condT rfl rfl ?_
  refine WC.skip ?_
  refine WQ.next ?_
  refine WC.seq ?_
  refine WC.block ?_
  refine WC.seq ?_
  refine WC.region ?_
  refine WL.move ?_
  refine WL.move ?_
  refine WL.ixT (p := 0) (v := 47) [47, 0] ?_ st9 rfl
  refine WL.cast (d := 14) (u := .int .u8 47) rfl rfl ?_
  refine WL.assign ?_
  refine WL.nil ?_
  refine WQ.next ?_
  refine WC.seq ?_
  refine WC.seq ?_
  refine WC.region ?_
  refine WL.move ?_
  refine WL.geq ?_
  refine WL.nil ?_
  refine WQ.next ?_
  refine WC.condF rfl rfl ?_
  refine WC.skip ?_
  refine WQ.next ?_
  refine WC.region ?_
  refine WL.move ?_
  refine WL.idxA ?_ ar189
  refine WL.stL (xs := (List.replicate 256 (Value.bool false))) (i := 47) ?_ sc4 (by first | (rw [List.length_set, List.length_replicate]; decide) | (rw [List.length_replicate]; decide))
  refine WL.nil ?_
  refine WQ.blockNormal ?_
  refine WQ.next ?_
  refine WC.region ?_
  refine WL.move ?_
  refine WL.add ?_
  refine WL.assign ?_
  refine WL.nil ?_
  refine WQ.again (RC.succ ?_)
  refine WC.seq ?_
  refine WC.seq ?_
  refine WC.region ?_
  refine WL.move ?_
  refine WL.move ?_
  refine WL.lenT _ ?_ st9
  refine WL.lss ?_
  refine WL.nil ?_
  refine WQ.next ?_
  refine WC.condT rfl rfl ?_
  refine WC.skip ?_
  refine WQ.next ?_
  refine WC.seq ?_
  refine WC.block ?_
  refine WC.seq ?_
  refine WC.region ?_
  refine WL.move ?_
  refine WL.move ?_
  refine WL.ixT (p := 1) (v := 0) [47, 0] ?_ st9 rfl
  refine WL.cast (d := 14) (u := .int .u8 0) rfl rfl ?_
  refine WL.assign ?_
  refine WL.nil ?_
  refine WQ.next ?_
  refine WC.seq ?_
  refine WC.seq ?_
  refine WC.region ?_
  refine WL.move ?_
  refine WL.geq ?_
  refine WL.nil ?_
  refine WQ.next ?_
  refine WC.condF rfl rfl ?_
  refine WC.skip ?_
  refine WQ.next ?_
  refine WC.region ?_
  refine WL.move ?_
  refine WL.idxA ?_ ar189
  refine WL.stL (xs := ((List.replicate 256 (Value.bool false)).set 47 (.bool true))) (i := 0) ?_ sc4 (by first | (rw [List.length_set, List.length_replicate]; decide) | (rw [List.length_replicate]; decide))
  refine WL.nil ?_
  refine WQ.blockNormal ?_
  refine WQ.next ?_
  refine WC.region ?_
  refine WL.move ?_
  refine WL.add ?_
  refine WL.assign ?_
  refine WL.nil ?_
  refine WQ.again (RC.succ ?_)
  refine WC.seq ?_
  refine WC.seq ?_
  refine WC.region ?_
  refine WL.move ?_
  refine WL.move ?_
  refine WL.lenT _ ?_ st9
  refine WL.lss ?_
  refine WL.nil ?_
  refine WQ.next ?_
  refine WC.condF rfl rfl ?_
  refine WC.exit (WQ.thenExit (WQ.thenExit (WQ.blockExit (?_))))
  refine WQ.next ?_
  refine WC.seq ?_
  refine WC.region ?_
  refine WL.ldW (xs := sepA) ?_ agg189 sepA_length
  refine WL.stLA (xs := sepA) (us := sepA) ?_ agg189 sepA_length sepA_length sepA_single
  refine WL.assign ?_
  refine WL.nil ?_
  refine WQ.next ?_
  refine WC.ret (?_)
  exact WQ.ret2 (h1 := RV.aggL rfl agg189 (by repeat (first | exact .here | apply Rem.there | apply Repl.there | apply Mem.there)) sepA_length) (h2 := .tmp rfl) ⟨_, ⟨rfl, rfl⟩, Am.auto⟩
theorem setHas {b : Nat} {x : UInt8} : Spec Tryz.prog 138 #[.pointer (some ⟨b, 0, none⟩), .int .u8 (x.toNat : Int)] [row b 189 sepA] fun F v M => v = .bool (x == 47 || x == 0) ∧ M = row b 189 sepA :: F := by
  refine Spec.intro Tryz.func138 rfl rfl fun B F => ?_
  simp only [Tryz.ntmps138, List.cons_append, List.nil_append, env0, Nat.reduceAdd]
  have hx : x.toNat < 256 := x.toNat_lt
  refine WC.seq ?_
  refine WC.region ?_
  refine WL.assign ?_
  refine WL.nil ?_
  refine WQ.next ?_
  refine WC.seq ?_
  refine WC.region ?_
  refine WL.move ?_
  refine WL.move ?_
  refine WL.nilCheck ?_
  refine WL.idxA ?_ ar189
  refine WL.ldL (xs := sepA) (i := 0 + ((x.toNat : Nat) : Int).toNat * 1) ?_ sc4 (by rw [Nat.zero_add, Nat.mul_one, Int.toNat_natCast]; exact sepA_get x)
  refine WL.assign ?_
  refine WL.nil ?_
  refine WQ.next ?_
  refine WC.ret (?_)
  exact WQ.ret1 (h1 := .tmp (t := 4) rfl) ⟨_, ⟨rfl, rfl⟩, Am.auto⟩
theorem useSet {k : Int} : Spec Tryz.prog 136 #[.int .i64 k] [] fun F v M => v = .bool (decide (8 < k)) ∧ M = F := by
  refine Spec.intro Tryz.func136 rfl rfl fun B F => ?_
  simp only [Tryz.ntmps136, List.cons_append, List.nil_append, env0, Nat.reduceAdd]
  refine WC.seq ?_
  refine WC.region ?_
  refine WL.assign ?_
  refine WL.nil ?_
  refine WQ.next ?_
  refine WC.seq ?_
  refine WC.region ?_
  refine WL.move ?_
  refine WL.gtr ?_
  refine WL.assign ?_
  refine WL.nil ?_
  refine WQ.next ?_
  refine WC.ret (?_)
  exact WQ.ret1 (h1 := .tmp (t := 2) rfl) ⟨_, ⟨rfl, rfl⟩, Am.auto⟩
theorem idxAny {xs : Bytes} (hl : xs.length ≤ 65536) : Spec Tryz.prog 115 #[sv xs, sv [47, 0]] [] fun F v M => ∃ r : Int, v = .int .i64 r ∧ decide (0 ≤ r) = sepIn xs ∧ M = F := by
  refine Spec.intro Tryz.func115 rfl rfl fun B F => ?_
  simp only [Tryz.ntmps115, List.cons_append, List.nil_append, env0, Nat.reduceAdd]
  refine WC.seq ?_
  refine WC.region ?_
  refine WL.assign ?_
  refine WL.nil ?_
  refine WQ.next ?_
  refine WC.seq ?_
  refine WC.seq ?_
  refine WC.region ?_
  refine WL.move ?_
  refine WL.eqS _ _ ?_
  refine WL.nil ?_
  refine WQ.next ?_
  refine WC.condF rfl rfl ?_
  refine WC.skip ?_
  refine WQ.next ?_
  refine WC.seq ?_
  refine WC.seq ?_
  refine WC.region ?_
  refine WL.move ?_
  refine WL.lenT _ ?_ st9
  refine WL.eqi ?_
  refine WL.nil ?_
  refine WQ.next ?_
  refine WC.condF rfl rfl ?_
  refine WC.skip ?_
  refine WQ.next ?_
  refine WC.seq ?_
  refine WC.seq ?_
  refine WC.region ?_
  refine WL.move ?_
  refine WL.lenT _ ?_ st9
  refine WL.call (hc := Tryz.call136) (sp := useSet (k := (xs.length : Int))) (h := ?_)
  rintro _ _ ⟨rfl, hM⟩
  obtain rfl := hM.symm
  refine WL.nil ?_
  refine WQ.next ?_
  refine WC.cond rfl (fun h8 => ?_) (fun h8 => ?_)
  · refine WC.seq ?_
    refine WC.region ?_
    refine WL.move ?_
    refine WL.call (hc := Tryz.call137) (sp := mkSet) (h := ?_)
    rintro _ _ ⟨rfl, hM2⟩
    obtain rfl := hM2.symm
    refine WL.move ?_
    refine WL.extract ?_
    refine WL.extract ?_
    refine WL.allocL (us := List.replicate 256 (Value.bool false)) z189 bool_arr fun b6 => ?_
    refine WL.stLA (xs := List.replicate 256 (Value.bool false)) (us := sepA) ?_ agg189 sepA_length List.length_replicate sepA_single
    refine WL.assign ?_
    refine WL.nil ?_
    refine WQ.next ?_
    refine WC.seq ?_
    refine WC.region ?_
    refine WL.move ?_
    refine WL.nil ?_
    refine WQ.next ?_
    refine WC.condT rfl rfl ?_
    refine WC.seq ?_
    refine WC.seq ?_
    refine WC.region ?_
    refine WL.assign ?_
    refine WL.nil ?_
    refine WQ.next ?_
    refine WC.block ?_
    refine WC.loopA (σ := Nat) (fun i => [(0, sv xs), (6, .pointer (some ⟨b6, 0, none⟩)), (8, .int .i64 (i : Int))]) (fun i => row b6 189 sepA :: F) (fun i => i ≤ xs.length ∧ ∀ (j : Nat), j < i → ∀ (hj : j < xs.length), xs[j] ≠ 47 ∧ xs[j] ≠ 0) (fun i => xs.length - i) 0 ⟨Nat.zero_le _, fun j hj => by omega⟩ ?_
    rintro i hi
    refine WC.seq ?_
    refine WC.seq ?_
    refine WC.region ?_
    refine WL.move ?_
    refine WL.move ?_
    refine WL.lenT _ ?_ st9
    refine WL.lss ?_
    refine WL.nil ?_
    refine WQ.next ?_
    refine WC.cond rfl (fun hb => ?_) (fun hb => ?_)
    · have hlt : i < xs.length := by have h : (i : Int) < (xs.length : Int) := of_decide_eq_true hb; omega
      have hx : xs[((i : Nat) : Int).toNat]? = some xs[i] := by rw [Int.toNat_natCast]; exact List.getElem?_eq_getElem hlt
      refine WC.skip ?_
      refine WQ.next ?_
      refine WC.seq ?_
      refine WC.block ?_
      refine WC.seq ?_
      refine WC.region ?_
      refine WL.move ?_
      refine WL.move ?_
      refine WL.ixT (p := (i : Int)) (v := xs[i]) xs ?_ st9 hx
      refine WL.call (hc := Tryz.call138) (sp := setHas (b := b6) (x := xs[i])) (h := ?_)
      rintro _ _ ⟨rfl, rfl⟩
      refine WL.nil ?_
      refine WQ.next ?_
      refine WC.cond rfl (fun hq => ?_) (fun hq => ?_)
      · refine WC.seq ?_
        refine WC.region ?_
        refine WL.move ?_
        refine WL.assign ?_
        refine WL.nil ?_
        refine WQ.next ?_
        refine WC.ret (WQ.blockRet (WQ.thenRet (WQ.thenRet (WQ.blockRet (WQ.thenRet (WQ.thenRet (?_)))))))
        exact WQ.ret1 (h1 := .tmp (t := 4) rfl) ⟨_, ⟨_, rfl, by rw [decide_eq_true (by omega), sepIn_yes hlt (by simpa using hq)], rfl⟩, Am.auto⟩
      · refine WC.skip ?_
        refine WQ.blockNormal ?_
        refine WQ.next ?_
        refine WC.region ?_
        refine WL.move ?_
        refine WL.add ?_
        refine WL.assign ?_
        refine WL.nil ?_
        refine WQ.cast (d := 8) (u := .int .i64 ((i + 1 : Nat) : Int)) rfl (congrArg (Value.int .i64) (by omega)) ?_
        exact WQ.back (i + 1) ⟨by omega, fun j hj hl => by by_cases hji : j = i; (subst hji; simpa using hq); exact hi.2 j (by omega) hl⟩ (by omega)
    · have hge : ¬ i < xs.length := by have h : ¬ (i : Int) < (xs.length : Int) := of_decide_eq_false hb; omega
      refine WC.exit (WQ.thenExit (WQ.thenExit (WQ.blockExit (?_))))
      refine WQ.next ?_
      refine WC.seq ?_
      refine WC.region ?_
      refine WL.assign ?_
      refine WL.nil ?_
      refine WQ.next ?_
      refine WC.ret (WQ.thenRet (?_))
      exact WQ.ret1 (h1 := .tmp (t := 4) rfl) ⟨_, ⟨_, rfl, by rw [decide_eq_false (by decide), sepIn_no (fun j hj => hi.2 j (by omega) hj)], rfl⟩, Am.auto⟩
  · refine WC.skip ?_
    refine WQ.next ?_
    refine WC.seq ?_
    refine WC.seq ?_
    refine WC.region ?_
    refine WL.move ?_
    refine WL.rangeT xs st9 (fun it => ?_)
    refine WL.nil ?_
    refine WQ.next ?_
    refine WC.block ?_
    refine WC.loopA (σ := Nat) (fun k => [(0, sv xs), (1, sv [47, 0]), (45, .pointer (some ⟨it, 0, none⟩))]) (fun k => strIt it xs k :: F) (fun k => ∀ (j : Nat), j < k → ∀ (hj : j < xs.length), xs[j] ≠ 47 ∧ xs[j] ≠ 0) (fun k => xs.length - k) 0 (fun j hj => by omega) ?_
    rintro k hi
    refine WC.seq ?_
    refine WC.region ?_
    refine WL.nextT (k := k) xs (fun hk => ?_) (fun hk => ?_)
    · refine WL.extract ?_
      refine WL.nil ?_
      refine WQ.next ?_
      refine WC.seq ?_
      refine WC.condF rfl rfl ?_
      refine WC.exit (WQ.thenExit (WQ.thenExit (WQ.blockExit (?_))))
      refine WQ.next ?_
      refine WC.seq ?_
      refine WC.region ?_
      refine WL.assign ?_
      refine WL.nil ?_
      refine WQ.next ?_
      refine WC.ret (?_)
      exact WQ.ret1 (h1 := .tmp (t := 4) rfl) ⟨_, ⟨_, rfl, by rw [decide_eq_false (by decide), sepIn_no (fun j hj => hi j (by omega) hj)], rfl⟩, Am.auto⟩
    · have hpos := rune_pos hk
      have hle := rune_le xs k
      obtain ⟨c, hc⟩ : ∃ c, (rune xs k).1 = c := ⟨_, rfl⟩
      obtain ⟨d, hd⟩ : ∃ d, (rune xs k).2 = d := ⟨_, rfl⟩
      rw [hc, hd]
      rw [hd] at hpos
      have hyes : c = 47 ∨ c = 0 → sepIn xs = true := by
        intro h
        by_cases hb : xs[k].toNat < 128
        · rw [rune_low hk hb] at hc
          refine sepIn_yes hk ?_
          have hc : xs[k].toNat = c := hc
          rcases h with h | h
          · exact .inl (UInt8.toNat_inj.1 (by rw [hc, h]; rfl))
          · exact .inr (UInt8.toNat_inj.1 (by rw [hc, h]; rfl))
        · have := (rune_high hk (by omega)).1
          omega
      have hno : ¬ (c = 47 ∨ c = 0) → ∀ (j : Nat), j < k + d → ∀ (hj : j < xs.length), xs[j] ≠ 47 ∧ xs[j] ≠ 0 := by
        intro h j hj hjl
        by_cases hjk : j < k
        · exact hi j hjk hjl
        by_cases hb : xs[k].toNat < 128
        · rw [rune_low hk hb] at hc hd
          have hc : xs[k].toNat = c := hc
          have hd : 1 = d := hd
          obtain rfl : j = k := by omega
          refine ⟨fun h2 => h (.inl ?_), fun h2 => h (.inr ?_)⟩
          · rw [← hc, h2]; rfl
          · rw [← hc, h2]; rfl
        · have h3 := (rune_high hk (by omega)).2.2 j (by omega) (by rw [hd]; exact hj) hjl
          refine ⟨fun h2 => ?_, fun h2 => ?_⟩
          · rw [h2] at h3; exact absurd h3 (by decide)
          · rw [h2] at h3; exact absurd h3 (by decide)
      refine WL.extract ?_
      refine WL.nil ?_
      refine WQ.next ?_
      refine WC.seq ?_
      refine WC.condT rfl rfl ?_
      refine WC.skip ?_
      refine WQ.next ?_
      refine WC.block ?_
      refine WC.seq ?_
      refine WC.region ?_
      refine WL.extract ?_
      refine WL.extract ?_
      refine WL.assign ?_
      refine WL.assign ?_
      refine WL.nil ?_
      refine WQ.next ?_
      refine WC.seq ?_
      refine WC.region ?_
      refine WL.move ?_
      refine WL.move ?_
      refine WL.call (hc := Tryz.call135) (sp := idxRune (c := c)) (h := ?_)
      rintro _ _ ⟨r, rfl, hr, rfl⟩
      by_cases hq : c = 47 ∨ c = 0
      · have hr0 : 0 ≤ r := of_decide_eq_true (by rw [hr]; exact decide_eq_true hq)
        refine WL.geq ?_
        refine WL.nil ?_
        refine WQ.next ?_
        refine WC.condT rfl (congrArg Value.bool (by first | (simp; done) | (simp; omega) | omega)) ?_
        refine WC.seq ?_
        refine WC.region ?_
        refine WL.move ?_
        refine WL.assign ?_
        refine WL.nil ?_
        refine WQ.next ?_
        refine WC.ret (WQ.blockRet (WQ.thenRet (WQ.blockRet (WQ.thenRet (?_)))))
        exact WQ.ret1 (h1 := .tmp (t := 4) rfl) ⟨_, ⟨_, rfl, by rw [decide_eq_true (by omega), hyes hq], rfl⟩, Am.auto⟩
      · have hr0 : ¬ 0 ≤ r := of_decide_eq_false (by rw [hr]; exact decide_eq_false hq)
        refine WL.geq ?_
        refine WL.nil ?_
        refine WQ.next ?_
        refine WC.condF rfl (congrArg Value.bool (by first | (simp; done) | (simp; omega) | omega)) ?_
        refine WC.skip ?_
        refine WQ.blockNormal ?_
        exact WQ.back (k + d) (hno hq) (by show xs.length - (k + d) < xs.length - k; omega)
theorem hasAny {xs : Bytes} (hl : xs.length ≤ 65536) : Spec Tryz.prog 69 #[sv xs, sv [47, 0]] [] fun F v M => v = .bool (sepIn xs) ∧ M = F := by
  refine Spec.intro Tryz.func69 rfl rfl fun B F => ?_
  simp only [Tryz.ntmps69, List.cons_append, List.nil_append, env0, Nat.reduceAdd]
  refine WC.seq ?_
  refine WC.region ?_
  refine WL.assign ?_
  refine WL.nil ?_
  refine WQ.next ?_
  refine WC.seq ?_
  refine WC.region ?_
  refine WL.move ?_
  refine WL.move ?_
  refine WL.call (hc := Tryz.call115) (sp := idxAny hl) (h := ?_)
  rintro _ _ ⟨r, rfl, hr, rfl⟩
  refine WL.geq ?_
  refine WL.assign ?_
  refine WL.nil ?_
  refine WQ.next ?_
  refine WC.ret (?_)
  exact WQ.ret1 (h1 := .tmp (t := 4) rfl) ⟨_, ⟨congrArg Value.bool hr, rfl⟩, Am.auto⟩
theorem dName {xs : Bytes} : Spec Tryz.prog 30 #[sv xs] [] fun F v M => v = .bool (nameOk xs) ∧ M = F := by
  refine Spec.intro Tryz.func30 rfl rfl fun B F => ?_
  simp only [Tryz.ntmps30, List.cons_append, List.nil_append, env0, Nat.reduceAdd]
  unfold nameOk
  by_cases h1 : xs = []
  · refine WC.seq ?_
    refine WC.region ?_
    refine WL.assign ?_
    refine WL.nil ?_
    refine WQ.next ?_
    refine WC.seq ?_
    refine WC.region ?_
    refine WL.move ?_
    refine WL.neS _ _ ?_
    refine WL.cast (d := 4) (u := .bool false) rfl (congrArg Value.bool (by simp [h1])) ?_
    refine WL.move ?_
    refine WL.gF ?_
    refine WL.gF ?_
    refine WL.gF ?_
    refine WL.pickF ?_
    refine WL.move ?_
    refine WL.gF ?_
    refine WL.gF ?_
    refine WL.gF ?_
    refine WL.pickF ?_
    refine WL.move ?_
    refine WL.gF ?_
    refine WL.gF ?_
    refine WL.pickF ?_
    refine WL.move ?_
    refine WL.gF ?_
    refine WL.gF ?_
    refine WL.pickF ?_
    refine WL.assign ?_
    refine WL.nil ?_
    refine WQ.next ?_
    refine WC.ret (?_)
    exact WQ.ret1 (h1 := .tmp (t := 2) rfl) ⟨_, ⟨by simp [h1], rfl⟩, Am.auto⟩
  · by_cases h2 : xs.length ≤ 50
    · cases h3 : sepIn xs
      · by_cases h4 : xs = [46]
        · refine WC.seq ?_
          refine WC.region ?_
          refine WL.assign ?_
          refine WL.nil ?_
          refine WQ.next ?_
          refine WC.seq ?_
          refine WC.region ?_
          refine WL.move ?_
          refine WL.neS _ _ ?_
          refine WL.cast (d := 4) (u := .bool true) rfl (congrArg Value.bool (by simp [h1])) ?_
          refine WL.move ?_
          refine WL.gT ?_
          refine WL.move ?_
          refine WL.gT ?_
          refine WL.lenT _ ?_ st9
          refine WL.gT ?_
          refine WL.leq ?_
          refine WL.pickT ?_
          refine WL.move ?_
          refine WL.cast (d := 10) (u := .bool true) rfl (congrArg Value.bool (by first | (simp; done) | (simp; omega) | omega)) ?_
          refine WL.gT ?_
          refine WL.move ?_
          refine WL.gT ?_
          refine WL.call (hc := Tryz.call69) (sp := hasAny (xs := xs) (by omega)) (h := ?_)
          rintro _ _ ⟨rfl, rfl⟩
          refine WL.gT ?_
          refine WL.not ?_
          refine WL.cast (d := 13) (u := .bool true) rfl (congrArg Value.bool (by rw [h3]; rfl)) ?_
          refine WL.pickT ?_
          refine WL.move ?_
          refine WL.gT ?_
          refine WL.move ?_
          refine WL.gT ?_
          refine WL.neS _ _ ?_
          refine WL.cast (d := 17) (u := .bool false) rfl (congrArg Value.bool (by simp [h4])) ?_
          refine WL.pickT ?_
          refine WL.move ?_
          refine WL.gF ?_
          refine WL.gF ?_
          refine WL.pickF ?_
          refine WL.assign ?_
          refine WL.nil ?_
          refine WQ.next ?_
          refine WC.ret (?_)
          exact WQ.ret1 (h1 := .tmp (t := 2) rfl) ⟨_, ⟨by subst h4; rfl, rfl⟩, Am.auto⟩
        · refine WC.seq ?_
          refine WC.region ?_
          refine WL.assign ?_
          refine WL.nil ?_
          refine WQ.next ?_
          refine WC.seq ?_
          refine WC.region ?_
          refine WL.move ?_
          refine WL.neS _ _ ?_
          refine WL.cast (d := 4) (u := .bool true) rfl (congrArg Value.bool (by simp [h1])) ?_
          refine WL.move ?_
          refine WL.gT ?_
          refine WL.move ?_
          refine WL.gT ?_
          refine WL.lenT _ ?_ st9
          refine WL.gT ?_
          refine WL.leq ?_
          refine WL.pickT ?_
          refine WL.move ?_
          refine WL.cast (d := 10) (u := .bool true) rfl (congrArg Value.bool (by first | (simp; done) | (simp; omega) | omega)) ?_
          refine WL.gT ?_
          refine WL.move ?_
          refine WL.gT ?_
          refine WL.call (hc := Tryz.call69) (sp := hasAny (xs := xs) (by omega)) (h := ?_)
          rintro _ _ ⟨rfl, rfl⟩
          refine WL.gT ?_
          refine WL.not ?_
          refine WL.cast (d := 13) (u := .bool true) rfl (congrArg Value.bool (by rw [h3]; rfl)) ?_
          refine WL.pickT ?_
          refine WL.move ?_
          refine WL.gT ?_
          refine WL.move ?_
          refine WL.gT ?_
          refine WL.neS _ _ ?_
          refine WL.cast (d := 17) (u := .bool true) rfl (congrArg Value.bool (by simp [h4])) ?_
          refine WL.pickT ?_
          refine WL.move ?_
          refine WL.gT ?_
          refine WL.move ?_
          refine WL.gT ?_
          refine WL.neS _ _ ?_
          refine WL.pickT ?_
          refine WL.assign ?_
          refine WL.nil ?_
          refine WQ.next ?_
          refine WC.ret (?_)
          exact WQ.ret1 (h1 := .tmp (t := 2) rfl) ⟨_, ⟨by simp [*], rfl⟩, Am.auto⟩
      · refine WC.seq ?_
        refine WC.region ?_
        refine WL.assign ?_
        refine WL.nil ?_
        refine WQ.next ?_
        refine WC.seq ?_
        refine WC.region ?_
        refine WL.move ?_
        refine WL.neS _ _ ?_
        refine WL.cast (d := 4) (u := .bool true) rfl (congrArg Value.bool (by simp [h1])) ?_
        refine WL.move ?_
        refine WL.gT ?_
        refine WL.move ?_
        refine WL.gT ?_
        refine WL.lenT _ ?_ st9
        refine WL.gT ?_
        refine WL.leq ?_
        refine WL.pickT ?_
        refine WL.move ?_
        refine WL.cast (d := 10) (u := .bool true) rfl (congrArg Value.bool (by first | (simp; done) | (simp; omega) | omega)) ?_
        refine WL.gT ?_
        refine WL.move ?_
        refine WL.gT ?_
        refine WL.call (hc := Tryz.call69) (sp := hasAny (xs := xs) (by omega)) (h := ?_)
        rintro _ _ ⟨rfl, rfl⟩
        refine WL.gT ?_
        refine WL.not ?_
        refine WL.cast (d := 13) (u := .bool false) rfl (congrArg Value.bool (by rw [h3]; rfl)) ?_
        refine WL.pickT ?_
        refine WL.move ?_
        refine WL.gF ?_
        refine WL.gF ?_
        refine WL.pickF ?_
        refine WL.move ?_
        refine WL.gF ?_
        refine WL.gF ?_
        refine WL.pickF ?_
        refine WL.assign ?_
        refine WL.nil ?_
        refine WQ.next ?_
        refine WC.ret (?_)
        exact WQ.ret1 (h1 := .tmp (t := 2) rfl) ⟨_, ⟨by simp [*], rfl⟩, Am.auto⟩
    · refine WC.seq ?_
      refine WC.region ?_
      refine WL.assign ?_
      refine WL.nil ?_
      refine WQ.next ?_
      refine WC.seq ?_
      refine WC.region ?_
      refine WL.move ?_
      refine WL.neS _ _ ?_
      refine WL.cast (d := 4) (u := .bool true) rfl (congrArg Value.bool (by simp [h1])) ?_
      refine WL.move ?_
      refine WL.gT ?_
      refine WL.move ?_
      refine WL.gT ?_
      refine WL.lenT _ ?_ st9
      refine WL.gT ?_
      refine WL.leq ?_
      refine WL.pickT ?_
      refine WL.move ?_
      refine WL.cast (d := 10) (u := .bool false) rfl (congrArg Value.bool (by first | (simp; done) | (simp; omega) | omega)) ?_
      refine WL.gF ?_
      refine WL.gF ?_
      refine WL.gF ?_
      refine WL.pickF ?_
      refine WL.move ?_
      refine WL.gF ?_
      refine WL.gF ?_
      refine WL.pickF ?_
      refine WL.move ?_
      refine WL.gF ?_
      refine WL.gF ?_
      refine WL.pickF ?_
      refine WL.assign ?_
      refine WL.nil ?_
      refine WQ.next ?_
      refine WC.ret (?_)
      exact WQ.ret1 (h1 := .tmp (t := 2) rfl) ⟨_, ⟨by simp [*], rfl⟩, Am.auto⟩
end Go.Proofs.YtedmihapieleaaaGreat
end
section
namespace Go.Proofs.YtedmihapieleaaaGreat
open Go
abbrev Slot := Option (Bytes × Nat)
def keyB (nm : Bytes) : Bytes := (UInt8.ofNat nm.length :: (nm ++ List.replicate 50 0)).take 51
theorem keyB_length (nm : Bytes) : (keyB nm).length = 51 := by
  unfold keyB
  rw [List.length_take, List.length_cons, List.length_append, List.length_replicate]
  omega
abbrev K51 := {xs : Bytes // xs.length = 51}
def keyK (nm : Bytes) : K51 := ⟨keyB nm, keyB_length nm⟩
theorem keyB_head (nm : Bytes) : (keyB nm)[0]? = some (UInt8.ofNat nm.length) := by
  unfold keyB; rfl
theorem keyB_inj {a b : Bytes} (ha : a.length ≤ 50) (hb : b.length ≤ 50) (h : keyB a = keyB b) : a = b := by
  have h0 : UInt8.ofNat a.length = UInt8.ofNat b.length := by
    have := congrArg (fun l : Bytes => l[0]?) h
    simp only [keyB_head, Option.some.injEq] at this
    exact this
  have hl : a.length = b.length := by
    have := congrArg UInt8.toNat h0
    rw [UInt8.toNat_ofNat', UInt8.toNat_ofNat'] at this
    omega
  have h1 : (a ++ List.replicate 50 0).take 50 = (b ++ List.replicate 50 0).take 50 := by
    unfold keyB at h
    rw [List.take_succ_cons, List.take_succ_cons] at h
    exact (List.cons.inj h).2
  have h2 := congrArg (List.take a.length) h1
  rw [List.take_take, List.take_take, Nat.min_eq_left ha, List.take_append_of_le_length (Nat.le_refl _), List.take_length, hl, List.take_append_of_le_length (Nat.le_refl _), List.take_length] at h2
  exact h2
theorem put4_append {a b : Bytes} (h : 4 ≤ a.length) (v : Nat) : put4 (a ++ b) 0 v = put4 a 0 v ++ b := by
  simp only [put4, put, putN, Bool.false_eq_true, if_false]
  rw [List.set_append_left _ _ (by omega), List.set_append_left _ _ (by rw [List.length_set]; omega), List.set_append_left _ _ (by rw [List.length_set, List.length_set]; omega), List.set_append_left _ _ (by rw [List.length_set, List.length_set, List.length_set]; omega)]
def slotB : Slot → Bytes
  | none => List.replicate 64 0
  | some (nm, i) => put4 (List.replicate 4 0) 0 i ++ (keyB nm ++ List.replicate 9 0)
theorem slotB_made {nm : Bytes} (i : Nat) : (put4 (List.replicate 64 0) 0 i).take 4 ++ keyB nm ++ (put4 (List.replicate 64 0) 0 i).drop 55 = slotB (some (nm, i)) := by
  have h1 : (List.replicate 64 (0 : UInt8)) = List.replicate 4 0 ++ List.replicate 60 0 := rfl
  have h4 : (put4 (List.replicate 4 0) 0 i).length = 4 := by rw [put4_length]; rfl
  rw [h1, put4_append (by rw [List.length_replicate]; decide), List.take_left' h4, show 55 = 4 + 51 from rfl, ← List.drop_drop, List.drop_left' h4, List.append_assoc]
  rfl
theorem keyB_made {nm : Bytes} (h : nm.length ≤ 50) : (UInt8.ofNat nm.length :: List.replicate 50 0).take 1 ++ nm.take (min nm.length 50) ++ (UInt8.ofNat nm.length :: List.replicate 50 0).drop (1 + min nm.length 50) = keyB nm := by
  rw [Nat.min_eq_left h, List.take_length, show 1 + nm.length = nm.length + 1 from by omega, List.drop_succ_cons, List.drop_replicate]
  have h1 : (nm ++ List.replicate 50 (0 : UInt8)).take 50 = nm ++ List.replicate (50 - nm.length) 0 := by
    rw [List.take_append, List.take_of_length_le h, List.take_replicate, Nat.min_eq_left (by omega)]
  show _ = UInt8.ofNat nm.length :: ((nm ++ List.replicate 50 0).take 50)
  rw [h1]
  rfl
theorem slotB_length (s : Slot) : (slotB s).length = 64 := by
  cases s with
  | none => exact List.length_replicate
  | some x => rw [slotB, List.length_append, put4_length, List.length_append, keyB_length, List.length_replicate, List.length_replicate]
def dirB (sl : List Slot) : Bytes := sl.flatMap slotB
theorem dirB_nil : dirB [] = [] := rfl
theorem dirB_append (a b : List Slot) : dirB (a ++ b) = dirB a ++ dirB b := List.flatMap_append
theorem dirB_length : ∀ sl : List Slot, (dirB sl).length = 64 * sl.length
  | [] => rfl
  | s :: sl => by
    have := dirB_length sl
    unfold dirB at this ⊢
    rw [List.flatMap_cons, List.length_append, slotB_length, this, List.length_cons]; omega
theorem dirB_split {sl : List Slot} {q : Nat} (h : q < sl.length) : dirB sl = dirB (sl.take q) ++ (slotB sl[q] ++ dirB (sl.drop (q + 1))) := by
  have h1 : dirB [sl[q]] = slotB sl[q] := by unfold dirB; rw [List.flatMap_cons, List.flatMap_nil, List.append_nil]
  rw [← h1, ← dirB_append, ← dirB_append]
  congr 1
  rw [List.singleton_append, List.getElem_cons_drop, List.take_append_drop]
theorem dirB_at {sl : List Slot} {q r k : Nat} (h : q < sl.length) (hk : r + k ≤ 64) : ((dirB sl).drop (64 * q + r)).take k = ((slotB sl[q]).drop r).take k := by
  have hl : (dirB (sl.take q)).length = 64 * q := by rw [dirB_length, List.length_take]; omega
  rw [dirB_split h, ← hl, ← List.drop_drop, List.drop_left, List.drop_append_of_le_length (by rw [slotB_length]; omega), List.take_append_of_le_length (by rw [List.length_drop, slotB_length]; omega)]
def keyOf : Slot → Bytes
  | none => List.replicate 51 0
  | some (nm, _) => keyB nm
theorem slotB_key (s : Slot) : ((slotB s).drop 4).take 51 = keyOf s := by
  cases s with
  | none => rfl
  | some x =>
    obtain ⟨nm, i⟩ := x
    have h4 : (put4 (List.replicate 4 0) 0 i).length = 4 := by rw [put4_length]; rfl
    show ((put4 (List.replicate 4 0) 0 i ++ (keyB nm ++ List.replicate 9 0)).drop 4).take 51 = keyB nm
    rw [List.drop_left' h4, List.take_left' (keyB_length nm)]
theorem dirB_key {sl : List Slot} {q : Nat} (h : q < sl.length) : ((dirB sl).drop (64 * q + 4)).take 51 = keyOf sl[q] := by
  rw [dirB_at h (by decide), slotB_key]
theorem keyOf_length (s : Slot) : (keyOf s).length = 51 := by
  cases s with
  | none => exact List.length_replicate
  | some x => exact keyB_length x.1
theorem num_take {xs : Bytes} {q : Nat} : num xs q = num ((xs.drop q).take 4) 0 := by
  unfold num
  simp only [List.getD_eq_getElem?_getD, List.getElem?_take, List.getElem?_drop, Nat.add_zero, Nat.zero_add]
  rfl
theorem dirB_num {sl : List Slot} {q : Nat} {nm : Bytes} {i : Nat} (h : q < sl.length) (hs : sl[q] = some (nm, i)) (hi : i < 4294967296) : num (dirB sl) (64 * q) = i := by
  have h1 := dirB_at (r := 0) (k := 4) h (by decide)
  have h4 : (put4 (List.replicate 4 0) 0 i).length = 4 := by rw [put4_length]; rfl
  rw [num_take, show 64 * q = 64 * q + 0 from rfl, h1, hs, List.drop_zero]
  show num ((put4 (List.replicate 4 0) 0 i ++ (keyB nm ++ List.replicate 9 0)).take 4) 0 = i
  rw [List.take_left' h4]
  exact num_put4 (by rw [List.length_replicate]; decide) hi
def setS (sl : List Slot) (q : Nat) (s : Slot) : List Slot := sl.take q ++ s :: sl.drop (q + 1)
theorem setS_same {sl : List Slot} {q : Nat} (h : q ≤ sl.length) (s : Slot) : (setS sl q s)[q]? = some s := by
  unfold setS
  rw [List.getElem?_append_right (by rw [List.length_take]; omega), List.length_take, Nat.min_eq_left h, Nat.sub_self]
  rfl
theorem setS_other {sl : List Slot} {q j : Nat} (h : q ≤ sl.length) (hj : j ≠ q) (s : Slot) : (setS sl q s)[j]? = sl[j]? := by
  unfold setS
  rcases Nat.lt_or_gt_of_ne hj with hlt | hgt
  · rw [List.getElem?_append_left (by rw [List.length_take]; omega), List.getElem?_take, if_pos hlt]
  · rw [List.getElem?_append_right (by rw [List.length_take]; omega), List.length_take, Nat.min_eq_left h, show j - q = (j - q - 1) + 1 from by omega, List.getElem?_cons_succ, List.getElem?_drop]
    congr 1; omega
theorem setS_wr {sl : List Slot} {q : Nat} (h : q ≤ sl.length) (s : Slot) : wrB (dirB sl) (64 * q) (slotB s) = dirB (setS sl q s) := by
  have hl := dirB_length sl
  have ht : (dirB (sl.take q)).length = 64 * q := by rw [dirB_length, List.length_take]; omega
  have h1 : dirB (s :: sl.drop (q + 1)) = slotB s ++ dirB (sl.drop (q + 1)) := by unfold dirB; rw [List.flatMap_cons]
  unfold setS
  rw [dirB_append, h1]
  unfold wrB splice
  by_cases hq : q < sl.length
  · have hx : ext (dirB sl) (64 * q + (slotB s).length) = dirB sl := by
      unfold ext
      rw [slotB_length, show 64 * q + 64 - (dirB sl).length = 0 from by omega, List.replicate_zero, List.append_nil]
    have e1 : (dirB sl).take (64 * q) = dirB (sl.take q) := by
      rw [dirB_split hq, List.take_left' ht]
    have e2 : (dirB sl).drop (64 * q + (slotB s).length) = dirB (sl.drop (q + 1)) := by
      rw [dirB_split hq, ← List.append_assoc, List.drop_left' (by rw [List.length_append, ht, slotB_length, slotB_length])]
    simp only [hx, e1, e2, List.append_assoc]
  · have hqe : q = sl.length := by omega
    have e0 : sl.take q = sl := by rw [hqe, List.take_length]
    have e3 : sl.drop (q + 1) = [] := List.drop_eq_nil_of_le (by omega)
    rw [e0, e3, dirB_nil, List.append_nil]
    have e1 : (ext (dirB sl) (64 * q + (slotB s).length)).take (64 * q) = dirB sl := by
      unfold ext
      rw [List.take_left' (by omega)]
    have e2 : (ext (dirB sl) (64 * q + (slotB s).length)).drop (64 * q + (slotB s).length) = [] := by
      refine List.drop_eq_nil_of_le ?_
      unfold ext
      rw [List.length_append, List.length_replicate, slotB_length]; omega
    simp only [e1, e2, List.append_nil]
def foundV (at' i : Nat) : Value := .agg #[nI at', nI i]
def stepK (kv : List (K51 × Value)) (q : Nat) : Slot → List (K51 × Value)
  | none => kv
  | some (nm, i) => kput kv (keyK nm) (foundV (64 * q) i)
def kvF (sl : List Slot) : Nat → List (K51 × Value)
  | 0 => []
  | q + 1 => match sl[q]? with
    | some s => stepK (kvF sl q) q s
    | none => kvF sl q
def freeF (sl : List Slot) : Nat → Option Nat
  | 0 => none
  | q + 1 => match freeF sl q with
    | some r => some r
    | none => if sl[q]? = some none then some q else none
def freeS (sl : List Slot) : Nat := (freeF sl sl.length).getD sl.length
theorem freeF_some {sl : List Slot} : ∀ {n r : Nat}, freeF sl n = some r → r < n ∧ sl[r]? = some none ∧ ∀ j, j < r → sl[j]? ≠ some none
  | n + 1, r, h => by
    rw [freeF] at h
    cases hf : freeF sl n with
    | some r' =>
      rw [hf] at h
      obtain rfl : r' = r := by simpa using h
      obtain ⟨h1, h2⟩ := freeF_some hf
      exact ⟨by omega, h2⟩
    | none =>
      rw [hf] at h
      simp only at h
      split at h
      · rename_i hs
        obtain rfl : n = r := by simpa using h
        refine ⟨by omega, hs, fun j hj hh => ?_⟩
        have := freeF_none (sl := sl) hf j hj
        exact this hh
      · cases h
where
  freeF_none {sl : List Slot} : ∀ {n : Nat}, freeF sl n = none → ∀ j, j < n → sl[j]? ≠ some none
  | n + 1, h, j, hj => by
    rw [freeF] at h
    cases hf : freeF sl n with
    | some r' => rw [hf] at h; cases h
    | none =>
      rw [hf] at h
      simp only at h
      split at h
      · cases h
      · rename_i hs
        by_cases hjn : j = n
        · subst hjn; exact hs
        · exact freeF_none hf j (by omega)
theorem freeS_le (sl : List Slot) : freeS sl ≤ sl.length := by
  unfold freeS
  cases h : freeF sl sl.length with
  | none => exact Nat.le_refl _
  | some r => exact Nat.le_of_lt (freeF_some h).1
structure DirOk (sl : List Slot) : Prop where
  nm : ∀ (q : Nat) (n : Bytes) (i : Nat), sl[q]? = some (some (n, i)) → (1 ≤ n.length ∧ n.length ≤ 50) ∧ i < 4294967296
  one : ∀ (q r : Nat) (n : Bytes) (i j : Nat), sl[q]? = some (some (n, i)) → sl[r]? = some (some (n, j)) → q = r
theorem DirOk.nil : DirOk [] := ⟨fun q n i h => (by cases h), fun q r n i j h => (by cases h)⟩
theorem keyK_inj {a b : Bytes} (ha : a.length ≤ 50) (hb : b.length ≤ 50) (h : keyK a = keyK b) : a = b := keyB_inj ha hb (congrArg Subtype.val h)
theorem kvF_has {sl : List Slot} (hd : DirOk sl) {q i : Nat} {n : Bytes} (h : sl[q]? = some (some (n, i))) : ∀ m, q < m → kget (kvF sl m) (keyK n) = some (foundV (64 * q) i)
  | m + 1, hm => by
    rw [kvF]
    by_cases hq : q = m
    · subst hq
      rw [h]
      show kget (kput (kvF sl q) (keyK n) (foundV (64 * q) i)) (keyK n) = _
      rw [kget_put, if_pos rfl]
    · have ih := kvF_has hd h m (by omega)
      cases hs : sl[m]? with
      | none => exact ih
      | some s =>
        cases s with
        | none => exact ih
        | some x =>
          obtain ⟨n', i'⟩ := x
          show kget (kput (kvF sl m) (keyK n') (foundV (64 * m) i')) (keyK n) = _
          rw [kget_put, if_neg, ih]
          intro hk
          have := keyK_inj (hd.nm _ _ _ h).1.2 (hd.nm _ _ _ hs).1.2 hk
          subst this
          exact hq (hd.one _ _ _ _ _ h hs)
theorem kvF_no {sl : List Slot} (hd : DirOk sl) {n : Bytes} (hn : n.length ≤ 50) (h : ∀ (q i : Nat), sl[q]? ≠ some (some (n, i))) : ∀ m, kget (kvF sl m) (keyK n) = none
  | 0 => rfl
  | m + 1 => by
    rw [kvF]
    have ih := kvF_no hd hn h m
    cases hs : sl[m]? with
    | none => exact ih
    | some s =>
      cases s with
      | none => exact ih
      | some x =>
        obtain ⟨n', i'⟩ := x
        show kget (kput (kvF sl m) (keyK n') (foundV (64 * m) i')) (keyK n) = _
        rw [kget_put, if_neg, ih]
        intro hk
        have := keyK_inj hn (hd.nm _ _ _ hs).1.2 hk
        subst this
        exact h _ _ hs
theorem DirOk.set {sl : List Slot} (hd : DirOk sl) {q : Nat} (hq : q ≤ sl.length) {n : Bytes} {i : Nat} (hn : 1 ≤ n.length ∧ n.length ≤ 50) (hi : i < 4294967296)
    (h : ∀ (r j : Nat), r ≠ q → sl[r]? ≠ some (some (n, j))) : DirOk (setS sl q (some (n, i))) := by
  have get : ∀ (r : Nat) (n' : Bytes) (i' : Nat), (setS sl q (some (n, i)))[r]? = some (some (n', i')) → (r = q ∧ n' = n ∧ i' = i) ∨ (r ≠ q ∧ sl[r]? = some (some (n', i'))) := by
    intro r n' i' hr
    by_cases hrq : r = q
    · subst hrq
      rw [setS_same hq] at hr
      injection hr with hr
      injection hr with hr
      injection hr with h1 h2
      exact .inl ⟨rfl, h1.symm, h2.symm⟩
    · rw [setS_other hq hrq] at hr
      exact .inr ⟨hrq, hr⟩
  refine ⟨fun r n' i' hr => ?_, fun r t n' i' j' hr ht => ?_⟩
  · rcases get _ _ _ hr with ⟨_, rfl, rfl⟩ | ⟨_, hr⟩
    · exact ⟨hn, hi⟩
    · exact hd.nm _ _ _ hr
  · rcases get _ _ _ hr with ⟨h1, h2, h3⟩ | ⟨hrq, hr2⟩
    · rcases get _ _ _ ht with ⟨h4, _, _⟩ | ⟨htq, ht2⟩
      · rw [h1, h4]
      · rw [h2] at ht2
        exact absurd ht2 (h _ _ htq)
    · rcases get _ _ _ ht with ⟨h4, h5, h6⟩ | ⟨htq, ht2⟩
      · rw [h5] at hr2
        exact absurd hr2 (h _ _ hrq)
      · exact hd.one _ _ _ _ _ hr2 ht2
theorem DirOk.gone {sl : List Slot} (hd : DirOk sl) {q : Nat} (hq : q ≤ sl.length) : DirOk (setS sl q none) := by
  have get : ∀ (r : Nat) (n' : Bytes) (i' : Nat), (setS sl q none)[r]? = some (some (n', i')) → sl[r]? = some (some (n', i')) := by
    intro r n' i' hr
    by_cases hrq : r = q
    · subst hrq; rw [setS_same hq] at hr; injection hr with hr; cases hr
    · rwa [setS_other hq hrq] at hr
  exact ⟨fun r n i hr => hd.nm _ _ _ (get _ _ _ hr), fun r t n i j hr ht => hd.one _ _ _ _ _ (get _ _ _ hr) (get _ _ _ ht)⟩
end Go.Proofs.YtedmihapieleaaaGreat
end
section
namespace Go.Proofs.YtedmihapieleaaaGreat
open Go
theorem agg124 : aggOk Tryz.prog 124 51 = true := by kernel_rfl
theorem ar124 : arrOk Tryz.prog 124 5 51 1 = true := by kernel_rfl
theorem un124 : Tryz.prog.underlying 124 = some (.array 51 5) := by kernel_rfl
theorem fo55_0 : fieldOk Tryz.prog 55 0 0 = true := by kernel_rfl
theorem fo55_1 : fieldOk Tryz.prog 55 1 1 = true := by kernel_rfl
theorem mp117 : mapOk Tryz.prog 117 124 121 = true := by kernel_rfl
theorem key0 : zeroOf Tryz.prog 124 = some (bvs (List.replicate 51 0)).toArray := by kernel_rfl
theorem keyB_single (nm : Bytes) : ∀ v ∈ bvs (keyB nm), Value.single v = true := bvs_single _
theorem bvsK_length (nm : Bytes) : (bvs (keyB nm)).length = 51 := by rw [bvs_length, keyB_length]
theorem dOf {nm : Bytes} (hn : nm.length ≤ 50) : Spec Tryz.prog 71 #[sv nm] [] fun F v M => v = arrV (keyB nm) ∧ M = F := by
  refine Spec.intro Tryz.func71 rfl rfl fun B F => ?_
  simp only [Tryz.ntmps71, List.cons_append, List.nil_append, env0, Nat.reduceAdd]
  refine WC.seq ?_
  refine WC.region ?_
  refine WL.allocL (us := bvs (List.replicate 51 0)) key0 rfl fun b2 => ?_
  refine WL.nil ?_
  refine WQ.next ?_
  refine WC.seq ?_
  refine WC.region ?_
  refine WL.move ?_
  refine WL.lenT _ ?_ st9
  refine WL.cvt ?_ un3 un5
  refine WL.cast (d := 5) (u := bv (UInt8.ofNat nm.length)) rfl (congrArg (Value.int .u8) (by rw [UInt8.toNat_ofNat', IntWalk.u8_in _ (by omega)]; omega)) ?_
  refine WL.idxA ?_ ar124
  refine WL.stL (xs := bvs (List.replicate 51 0)) (i := 0) ?_ sc5 (by rw [bvs_length, List.length_replicate]; decide)
  refine WL.to (A := row b2 124 ((bvs (List.replicate 51 0)).set 0 (bv (UInt8.ofNat nm.length)))) (A' := buf b2 124 51 (bvs (UInt8.ofNat nm.length :: List.replicate 50 0))) (fun h hh => buf_of_row (by rw [bvs_length]; rfl) h hh) ?_
  refine WL.nil ?_
  refine WQ.next ?_
  refine WC.seq ?_
  refine WC.region ?_
  refine WL.slcArrL ?_ ar124
  refine WL.move ?_
  refine WL.copyS nm so33 ?_ (hdl := by rw [bvs_length]; exact Nat.le_refl _)
  refine WL.to (A := buf b2 124 51 ((bvs (UInt8.ofNat nm.length :: List.replicate 50 0)).take 1 ++ (bvs nm).take (min nm.length 50) ++ (bvs (UInt8.ofNat nm.length :: List.replicate 50 0)).drop (1 + min nm.length 50))) (A' := row b2 124 (bvs (keyB nm))) (fun h hh => row_of_buf (bvsK_length nm) h (by rw [← keyB_made hn, bvs_append, bvs_append, bvs_take, bvs_take, bvs_drop]; exact hh)) ?_
  refine WL.nil ?_
  refine WQ.next ?_
  refine WC.seq ?_
  refine WC.region ?_
  refine WL.ldW (xs := bvs (keyB nm)) ?_ agg124 (bvsK_length nm)
  refine WL.stLA (xs := bvs (keyB nm)) (us := bvs (keyB nm)) ?_ agg124 (bvsK_length nm) (bvsK_length nm) (keyB_single nm)
  refine WL.nil ?_
  refine WQ.next ?_
  refine WC.ret (?_)
  exact WQ.ret1 (h1 := RV.aggL rfl agg124 (by repeat (first | exact .here | apply Rem.there | apply Repl.there | apply Mem.there)) (bvsK_length nm)) ⟨_, ⟨rfl, rfl⟩, Am.auto⟩
theorem IN.more {s a c : Nat} {p : Pl} {F0 F : FM} {W W' : Nat} {op : Bool} (h : W ≤ W') : ∀ k, IN s a c p F0 F W op k → IN s a c p F0 F W' op k := by
  intro k hk
  obtain ⟨y, hy, hs⟩ := (IN.opens s a c p F0 F W op).to k hk
  exact (IN.opens s a c p F0 F W' op).of y ⟨hy.r0, hy.r, hy.dk, Nat.le_trans hy.wt h⟩ k hs
theorem Rw.less {p : Pl} {W c c' : Nat} (h : Rw p W c) (hc : c' ≤ c) : Rw p W c' := by
  unfold Rw at h ⊢
  omega
theorem has_slot (n q : Nat) (h : 64 * q ≤ 64 * n) : has (max (64 * n) (64 * q + 64)) - has (64 * n) ≤ 2 := by
  have h1 : dat (max (64 * n) (64 * q + 64)) ≤ dat (64 * n) + 1 := by unfold dat; omega
  unfold has
  split <;> split <;> omega
theorem slotP {nm : Bytes} (i : Nat) : (bvs (put4 (List.replicate 64 0) 0 i)).take 4 ++ (bvs (keyB nm)).take 51 ++ (bvs (put4 (List.replicate 64 0) 0 i)).drop 55 = bvs (slotB (some (nm, i))) := by
  rw [← slotB_made, bvs_append, bvs_append, bvs_take, bvs_drop, List.take_of_length_le (Nat.le_of_eq (bvsK_length nm))]
theorem bdFound (v0 v1 : Int) : BuildOk Tryz.prog 121 [(0, .int .i64 v0), (1, .int .i64 v1)] #[.int .i64 v0, .int .i64 v1] := fun w => by kernel_rfl
theorem arrOkK : arrIntOk Tryz.prog 124 5 51 = true := by kernel_rfl
def encK : K51 → Value := fun k => Value.agg (bvs k.1).toArray
theorem klN : KeyLaw Tryz.prog 124 encK := arrKeys (fun k : K51 => k.1) arrOkK (fun k => k.2) (fun a b h => Subtype.ext h)
def freeI (sl : List Slot) (q : Nat) : Int := match freeF sl q with
  | some r => ((64 * r : Nat) : Int)
  | none => -1
theorem dLay {s a c : Nat} {p : Pl} {F0 Fm : FM} {W d q i : Nat} {nm : Bytes} {sl : List Slot} (ho : PlOk p) (hF : Fm d = some (2, dirB sl)) (hq : q ≤ sl.length) (hq2 : q < 1104) (hn : nm.length ≤ 50) (hi : i < 4294967296) (hw : Rw p W 13) (hfit : tot Fm p.ino + has (max (64 * sl.length) (64 * q + 64)) ≤ p.dc + has (64 * sl.length)) :
    Spec Tryz.prog 72 #[.pointer (some ⟨s, 0, none⟩), nI d, nI (64 * q), sv nm, nI i] [IN s a c p F0 Fm W true] fun G v M => v = okV ∧ M = IN s a c p F0 (updM Fm d (some (2, dirB (setS sl q (some (nm, i)))))) (W + 8) true :: G := by
  refine Spec.intro Tryz.func72 rfl rfl fun B F => ?_
  simp only [Tryz.ntmps72, List.cons_append, List.nil_append, env0, Nat.reduceAdd]
  have hdl := dirB_length sl
  have hsl := slotB_length (some (nm, i))
  have hhs := has_slot sl.length q (by omega)
  refine WC.seq ?_
  refine WC.region ?_
  refine WL.assign ?_
  refine WL.nil ?_
  refine WQ.next ?_
  refine WC.seq ?_
  refine WC.region ?_
  refine WL.mkSN 64 z5 so33 (by decide) (by decide) fun b15 => ?_
  refine WL.to (A' := buf b15 5 64 (bvs (List.replicate 64 0))) (fun h hh => by rw [bvs_replicate]; exact hh) ?_
  refine WL.move ?_
  refine WL.cvt ?_ un3 un138
  refine WL.cast (d := 17) (u := .int .u64 (i : Int)) rfl (congrArg (Value.int .u64) (IntWalk.u64_in _ (by omega))) ?_
  refine WL.call (hc := Tryz.call116) (sp := bitsPut (n := 64) (xs := List.replicate 64 0) (p := 0) (size := 4) (big := false) (v := i) Reads.buf List.length_replicate (by decide) (by decide) (by decide) (by decide) (by omega)) (h := ?_)
  rintro _ _ ⟨gb, qq, ⟨rfl, h1, h2⟩, rfl⟩
  refine WL.move ?_
  refine WL.extract ?_
  refine WL.extract ?_
  refine WL.assign ?_
  refine WL.assign ?_
  refine WL.nil ?_
  refine WQ.next ?_
  refine WC.seq ?_
  refine WC.region ?_
  refine WL.move ?_
  refine WL.call (hc := Tryz.call71) (sp := dOf hn) (h := ?_)
  rintro _ _ ⟨rfl, rfl⟩
  refine WL.allocL (us := bvs (List.replicate 51 0)) key0 rfl fun b13 => ?_
  refine WL.stLA (xs := bvs (List.replicate 51 0)) (us := bvs (keyB nm)) ?_ agg124 (bvsK_length nm) rfl (keyB_single nm)
  refine WL.to (A := row b13 124 (bvs (keyB nm))) (A' := buf b13 124 51 (bvs (keyB nm))) (fun h hh => buf_of_row (bvsK_length nm) h hh) ?_
  refine WL.nil ?_
  refine WQ.next ?_
  refine WC.seq ?_
  refine WC.draw ([]) [] 4 #[false, false, false, false] mixed (by kernel_rfl) NoPanic.autoJ ?_
  refine WD.take (i := 0) #[true, false, false, false] rfl (by kernel_rfl) (Qt.move ) ?_
  refine WD.take (i := 1) #[true, true, false, false] rfl (by kernel_rfl) ((Qt.slcL so33).eq (v' := .slice (some ⟨gb, 4, none⟩) 60 (qq - 4)) (by rw [if_neg (by show ¬ qq = 4; omega)]; rfl)) ?_
  refine WD.take (i := 2) #[true, true, true, false] rfl (by kernel_rfl) (Qt.slcArr un124 (by kernel_rfl)) ?_
  refine WD.one (i := 3) #[true, true, true, true] rfl (by kernel_rfl) fun hnp => ?_
  refine WL.copy (R := buf b13 124 51 (bvs (keyB nm))) (m := 51) (g := gb) (off := 4) (dl := 60) (k := qq) (xs := bvs (put4 (List.replicate 64 0) 0 i)) (ys := bvs (keyB nm)) so33 Reads.buf (bvsK_length nm) (bvs_single _) ?_ (hdl := by rw [bvs_length, put4_length, List.length_replicate]; decide)
  refine WL.to (A' := buf gb 5 qq (bvs (slotB (some (nm, i))))) (fun h hh => by rw [← slotP]; exact hh) ?_
  refine WL.nil (WQ.wd hnp (.inl Am.auto) ?_)
  refine WD.done (by kernel_rfl) ?_
  refine WQ.next ?_
  refine WC.seq ?_
  refine WC.region ?_
  refine WL.move ?_
  refine WL.move ?_
  refine WL.move ?_
  refine WL.move ?_
  refine WL.call (hc := Tryz.call20) (sp := nWrite (s := s) (a := a) (c := c) (p := p) (F0 := F0) (F := Fm) (W := W) (i := d) (at' := 64 * q) (f := (2, dirB sl)) (bs := slotB (some (nm, i))) (m := 64) ho hF (hw.less (by show has (max (dirB sl).length (64 * q + 64)) - has (dirB sl).length + (64 + 511) / 512 + 10 ≤ 13; rw [hdl]; omega)) (.inr Reads.buf) hsl (by omega) h2 (by show 64 * q ≤ (dirB sl).length; omega) (by omega) (by show tot Fm p.ino + has (max (dirB sl).length (64 * q + 64)) ≤ p.dc + has (dirB sl).length; rw [hdl]; exact hfit)) (h := ?_)
  rintro _ _ ⟨rfl, rfl⟩
  refine WL.assign ?_
  refine WL.nil ?_
  refine WQ.next ?_
  refine WC.ret (?_)
  simp only [setS_wr hq]
  refine WQ.to (A' := IN s a c p F0 (updM Fm d (some (2, dirB (setS sl q (some (nm, i)))))) (W + 8) true) (fun h hh => IN.more (by show W + (has (max (dirB sl).length (64 * q + 64)) - has (dirB sl).length) + (64 + 511) / 512 + 5 ≤ W + 8; rw [hdl]; omega) h hh) ?_
  exact WQ.ret1 (h1 := .tmp (t := 10) rfl) ⟨_, ⟨rfl, rfl⟩, Am.auto⟩
theorem freeI_pos {sl : List Slot} {q r : Nat} (h : freeF sl q = some r) : freeI sl q = ((64 * r : Nat) : Int) := by unfold freeI; rw [h]
theorem freeI_neg {sl : List Slot} {q : Nat} (h : freeF sl q = none) : freeI sl q = -1 := by unfold freeI; rw [h]
theorem freeI_keep {sl : List Slot} {q r : Nat} (h : freeF sl q = some r) : freeI sl (q + 1) = ((64 * r : Nat) : Int) := freeI_pos (by rw [freeF, h])
theorem freeI_new {sl : List Slot} {q : Nat} (h : freeF sl q = none) (hs : sl[q]? = some none) : freeI sl (q + 1) = ((64 * q : Nat) : Int) := freeI_pos (by rw [freeF, h]; simp [hs])
theorem freeI_full {sl : List Slot} {q : Nat} {x : Bytes × Nat} (hs : sl[q]? = some (some x)) : freeI sl (q + 1) = freeI sl q := by
  unfold freeI
  rw [freeF]
  cases h : freeF sl q with
  | some r => rfl
  | none => simp [hs]
theorem keyOf_single (s : Slot) : ∀ v ∈ bvs (keyOf s), Value.single v = true := bvs_single _
theorem bvsO_length (s : Slot) : (bvs (keyOf s)).length = 51 := by rw [bvs_length, keyOf_length]
theorem dNames {s a c : Nat} {p : Pl} {F0 Fm : FM} {W d : Nat} {op : Bool} {sl : List Slot} (ho : PlOk p) (hF : Fm d = some (2, dirB sl)) (hd : DirOk sl) (hsz : sl.length ≤ 1104) :
    Spec Tryz.prog 73 #[.pointer (some ⟨s, 0, none⟩), nI d] [IN s a c p F0 Fm W op] fun G v M => ∃ mp es cl, v = .tuple #[.map (some mp), nI (64 * freeS sl), .int .i64 0] ∧ MapIs encK es cl (kvF sl sl.length) ∧ M = pt mp (.map es cl) :: IN s a c p F0 Fm W op :: G := by
  refine Spec.intro Tryz.func73 rfl rfl fun B F => ?_
  simp only [Tryz.ntmps73, List.cons_append, List.nil_append, env0, Nat.reduceAdd]
  have hdl := dirB_length sl
  refine WC.seq ?_
  refine WC.region ?_
  refine WL.assign ?_
  refine WL.assign ?_
  refine WL.assign ?_
  refine WL.nil ?_
  refine WQ.next ?_
  refine WC.seq ?_
  refine WC.region ?_
  refine WL.move ?_
  refine WL.move ?_
  refine WL.call (hc := Tryz.call29) (sp := nStat (s := s) (a := a) (c := c) (p := p) (F0 := F0) (F := Fm) (W := W) (op := op) (i := d) (f := (2, dirB sl)) ho hF) (h := ?_)
  rintro _ _ ⟨rfl, rfl⟩
  refine WL.move ?_
  refine WL.extract ?_
  refine WL.extract ?_
  refine WL.alloc z55 fun b7 => ?_
  refine WL.stV ?_ agg55
  refine WL.assign ?_
  refine WL.nil ?_
  refine WQ.next ?_
  refine WC.seq ?_
  refine WC.seq ?_
  refine WC.region ?_
  refine WL.move ?_
  refine WL.nei ?_
  refine WL.nil ?_
  refine WQ.next ?_
  refine WC.condF rfl rfl ?_
  refine WC.skip ?_
  refine WQ.next ?_
  refine WC.seq ?_
  refine WC.seq ?_
  refine WC.region ?_
  refine WL.fa ?_ fo55_0
  refine WL.ld ?_ sc3
  refine WL.nei ?_
  refine WL.nil ?_
  refine WQ.next ?_
  refine WC.condF rfl rfl ?_
  refine WC.skip ?_
  refine WQ.next ?_
  refine WC.seq ?_
  refine WC.region ?_
  refine WL.move ?_
  refine WL.move ?_
  refine WL.fa ?_ fo55_1
  refine WL.ld ?_ sc3
  refine WL.call (hc := Tryz.call23) (sp := nRead (s := s) (a := a) (c := c) (p := p) (F0 := F0) (F := Fm) (W := W) (op := op) (i := d) (at' := 0) (k := (dirB sl).length) (f := (2, dirB sl)) ho hF (by decide) (by omega)) (h := ?_)
  rintro _ _ ⟨u, rfl, rfl⟩
  simp only [List.drop_zero, List.take_length]
  refine WL.move ?_
  refine WL.extract ?_
  refine WL.extract ?_
  refine WL.assign ?_
  refine WL.assign ?_
  refine WL.nil ?_
  refine WQ.next ?_
  refine WC.seq ?_
  refine WC.seq ?_
  refine WC.region ?_
  refine WL.move ?_
  refine WL.nei ?_
  refine WL.nil ?_
  refine WQ.next ?_
  refine WC.condF rfl rfl ?_
  refine WC.skip ?_
  refine WQ.next ?_
  refine WC.seq ?_
  refine WC.region ?_
  refine WL.mkMap fun m36 => ?_
  refine WL.assign ?_
  refine WL.assign ?_
  refine WL.nil ?_
  refine WQ.next ?_
  refine WC.seq ?_
  refine WC.seq ?_
  refine WC.region ?_
  refine WL.assign ?_
  refine WL.nil ?_
  refine WQ.next ?_
  refine WC.block ?_
  refine WC.fact (rowR_shape (el := 5) (size := 1) (v := u) (k := (dirB sl).length) (xs := bvs (dirB sl))) (fun ⟨A2, c2, hv2, hR2, hk2, hc2, hl2⟩ => ?_)
  subst hv2
  refine WC.loopA (σ := Nat × Array MapEntry × Nat) (fun y => [(4, .map (some m36)), (5, .int .i64 (freeI sl y.1)), (8, .slice A2 (dirB sl).length c2), (9, nI (64 * y.1))]) (fun y => [pt m36 (.map y.2.1 y.2.2), rowR 5 1 (.slice A2 (dirB sl).length c2) (dirB sl).length (bvs (dirB sl)), IN s a c p F0 Fm W op] ++ F) (fun y => y.1 ≤ sl.length ∧ MapIs encK y.2.1 y.2.2 (kvF sl y.1)) (fun y => sl.length - y.1) (0, #[], 0) ⟨Nat.zero_le _, MapIs.empty _ _⟩ ?_
  rintro y hy
  obtain ⟨q, es, cl⟩ := y
  obtain ⟨hq, hm⟩ := hy
  simp only at hq hm
  refine WC.seq ?_
  refine WC.seq ?_
  refine WC.region ?_
  refine WL.move ?_
  refine WL.move ?_
  refine WL.lenS ?_ sl33
  refine WL.lss ?_
  refine WL.nil ?_
  refine WQ.next ?_
  refine WC.cond rfl (fun hb => ?_) (fun hb => ?_)
  · have hlt : q < sl.length := by have h : ((64 * q : Nat) : Int) < ((dirB sl).length : Int) := of_decide_eq_true hb; omega
    rcases A2 with _ | ⟨ab, ao, asp⟩
    · exact absurd hR2 (fun h => by have h2 : bvs (dirB sl) = [] := h; have h3 : (dirB sl).length = 0 := (by have := congrArg List.length h2; rwa [bvs_length] at this); omega)
    have hsp : asp = none := hR2.1
    subst hsp
    have hp1 : (((64 * q : Nat) : Int) + 4).toNat = 64 * q + 4 := by omega
    have hp2 : (((64 * q : Nat) : Int) + 4 + 51).toNat = 64 * q + 55 := by omega
    have hgs : sl[q]? = some sl[q] := List.getElem?_eq_getElem hlt
    obtain ⟨sq, hsq⟩ : ∃ sq, sl[q] = sq := ⟨_, rfl⟩
    have hkq := dirB_key hlt
    rw [hsq] at hgs hkq
    have hkv : kvF sl (q + 1) = stepK (kvF sl q) q sq := by rw [kvF, hgs]
    refine WC.skip ?_
    refine WQ.next ?_
    refine WC.seq ?_
    refine WC.block ?_
    refine WC.seq ?_
    refine WC.region ?_
    refine WL.move ?_
    refine WL.move ?_
    refine WL.add ?_
    refine WL.move ?_
    refine WL.add ?_
    refine WL.add ?_
    refine WL.slcLH ?_ so33
    refine WL.cast (d := 49) (u := .slice (some ⟨ab, ao + (64 * q + 4), none⟩) 51 (c2 - (64 * q + 4))) rfl (by rw [hp1, hp2, if_neg (show ¬ c2 = 64 * q + 4 by omega), Nat.mul_one, show 64 * q + 55 - (64 * q + 4) = 51 from by omega]) ?_
    refine WL.toArr ?_ un124
    refine WL.ldAR (i := 64 * q + 4) (xs := bvs (dirB sl)) (us := bvs (keyOf sq)) ?_ agg124 hR2 (by rw [← bvs_drop, ← bvs_take, hkq]) (by rw [bvs_length]; omega)
    refine WL.allocL (us := bvs (List.replicate 51 0)) key0 rfl fun b10 => ?_
    refine WL.stLA (xs := bvs (List.replicate 51 0)) (us := bvs (keyOf sq)) ?_ agg124 (bvsO_length sq) rfl (keyOf_single sq)
    refine WL.nil ?_
    refine WQ.next ?_
    refine WC.seq ?_
    refine WC.seq ?_
    refine WC.region ?_
    refine WL.idxA ?_ ar124
    cases sq
    · refine WL.ldL (xs := bvs (keyOf none)) (i := 0) (v := .int .u8 0) ?_ sc5 rfl
      refine WL.eqi ?_
      refine WL.nil ?_
      refine WQ.next ?_
      refine WC.condT rfl rfl ?_
      refine WC.seq ?_
      refine WC.seq ?_
      refine WC.region ?_
      refine WL.move ?_
      refine WL.lss ?_
      refine WL.nil ?_
      refine WQ.next ?_
      cases hfr : freeF sl q
      · rw [freeI_neg hfr]
        refine WC.condT rfl rfl ?_
        refine WC.region ?_
        refine WL.move ?_
        refine WL.assign ?_
        refine WL.nil ?_
        refine WQ.next ?_
        refine WC.exit (WQ.thenExit (WQ.blockExit (?_)))
        refine WQ.next ?_
        refine WC.region ?_
        refine WL.move ?_
        refine WL.add ?_
        refine WL.assign ?_
        refine WL.nil ?_
        refine WQ.cast (d := 9) (u := nI (64 * (q + 1))) rfl (congrArg (Value.int .i64) (by omega)) ?_
        refine WQ.cast (d := 5) (u := .int .i64 (freeI sl (q + 1))) rfl (congrArg (Value.int .i64) (by rw [freeI_new hfr hgs])) ?_
        exact WQ.back (q + 1, es, cl) ⟨by show q + 1 ≤ sl.length; omega, (by rw [hkv]; exact hm)⟩ (by show sl.length - (q + 1) < sl.length - q; omega)
      · rename_i r
        rw [freeI_pos hfr]
        refine WC.condF rfl (congrArg Value.bool (by first | (simp; done) | (simp; omega) | omega)) ?_
        refine WC.skip ?_
        refine WQ.next ?_
        refine WC.exit (WQ.thenExit (WQ.blockExit (?_)))
        refine WQ.next ?_
        refine WC.region ?_
        refine WL.move ?_
        refine WL.add ?_
        refine WL.assign ?_
        refine WL.nil ?_
        refine WQ.cast (d := 9) (u := nI (64 * (q + 1))) rfl (congrArg (Value.int .i64) (by omega)) ?_
        refine WQ.cast (d := 5) (u := .int .i64 (freeI sl (q + 1))) rfl (congrArg (Value.int .i64) (by rw [freeI_keep hfr])) ?_
        exact WQ.back (q + 1, es, cl) ⟨by show q + 1 ≤ sl.length; omega, (by rw [hkv]; exact hm)⟩ (by show sl.length - (q + 1) < sl.length - q; omega)
    · rename_i x
      obtain ⟨nm, i⟩ := x
      have hnm := hd.nm q nm i hgs
      have hnum := dirB_num hlt hsq hnm.2
      have hx0 : (bvs (keyOf (some (nm, i))))[0]? = some (bv (UInt8.ofNat nm.length)) := by show (bvs (keyB nm))[0]? = _; unfold bvs; rw [List.getElem?_map, keyB_head]; rfl
      have hxn : ((UInt8.ofNat nm.length).toNat : Int) ≠ 0 := by rw [UInt8.toNat_ofNat']; omega
      refine WL.ldL (xs := bvs (keyOf (some (nm, i)))) (i := 0) (v := bv (UInt8.ofNat nm.length)) ?_ sc5 hx0
      refine WL.eqi ?_
      refine WL.cast (d := 54) (u := .bool false) rfl (congrArg Value.bool (decide_eq_false hxn)) ?_
      refine WL.nil ?_
      refine WQ.next ?_
      refine WC.condF rfl rfl ?_
      refine WC.skip ?_
      refine WQ.next ?_
      refine WC.seq ?_
      refine WC.region ?_
      refine WL.move ?_
      refine WL.move ?_
      refine WL.call (hc := Tryz.call117) (sp := bitsGet (A := ⟨ab, ao, none⟩) (n := (dirB sl).length) (c := c2) (xs := dirB sl) (p := ((64 * q : Nat) : Int)) (size := 4) (big := false) hR2 rfl (by omega) (by decide) (by omega) (by omega)) (h := ?_)
      rintro _ _ ⟨rfl, rfl⟩
      refine WL.cast (d := 61) (u := .tuple #[.int .u64 (i : Int), .bool true]) rfl (by rw [show (((64 * q : Nat) : Int)).toNat = 64 * q from by omega, show (4 : Int).toNat = 4 from rfl, num_seg (by omega), hnum]) ?_
      refine WL.move ?_
      refine WL.extract ?_
      refine WL.extract ?_
      refine WL.assign ?_
      refine WL.assign ?_
      refine WL.nil ?_
      refine WQ.next ?_
      refine WC.region ?_
      refine WL.move ?_
      refine WL.ldW (xs := bvs (keyOf (some (nm, i)))) ?_ agg124 (bvsO_length _)
      refine WL.move ?_
      refine WL.move ?_
      refine WL.cvt ?_ un138 un3
      refine WL.cast (d := 68) (u := nI i) rfl (congrArg (Value.int .i64) (IntWalk.i64_in _ (by omega))) ?_
      refine WL.build ?_ (bdFound _ _)
      refine WL.upd (k := keyK nm) (v := foundV (64 * q) i) klN hm mp117 fun es_1 c_1 hm_1 => ?_
      refine WL.nil ?_
      refine WQ.blockNormal ?_
      refine WQ.next ?_
      refine WC.region ?_
      refine WL.move ?_
      refine WL.add ?_
      refine WL.assign ?_
      refine WL.nil ?_
      refine WQ.cast (d := 9) (u := nI (64 * (q + 1))) rfl (congrArg (Value.int .i64) (by omega)) ?_
      refine WQ.cast (d := 5) (u := .int .i64 (freeI sl (q + 1))) rfl (congrArg (Value.int .i64) (by rw [freeI_full hgs])) ?_
      exact WQ.back (q + 1, es_1, c_1) ⟨by show q + 1 ≤ sl.length; omega, (by rw [hkv]; exact hm_1)⟩ (by show sl.length - (q + 1) < sl.length - q; omega)
  · have hge : ¬ q < sl.length := by have h : ¬ ((64 * q : Nat) : Int) < ((dirB sl).length : Int) := of_decide_eq_false hb; omega
    have hqe : q = sl.length := by omega
    subst hqe
    refine WC.exit (WQ.thenExit (WQ.thenExit (WQ.blockExit (?_))))
    refine WQ.next ?_
    refine WC.seq ?_
    refine WC.seq ?_
    refine WC.region ?_
    refine WL.move ?_
    refine WL.lss ?_
    refine WL.nil ?_
    refine WQ.next ?_
    cases hfr : freeF sl sl.length
    · have hfs : freeS sl = sl.length := by unfold freeS; rw [hfr]; rfl
      rw [freeI_neg hfr]
      refine WC.condT rfl rfl ?_
      refine WC.region ?_
      refine WL.move ?_
      refine WL.lenS ?_ sl33
      refine WL.assign ?_
      refine WL.nil ?_
      refine WQ.next ?_
      refine WC.seq ?_
      refine WC.region ?_
      refine WL.move ?_
      refine WL.move ?_
      refine WL.assign ?_
      refine WL.assign ?_
      refine WL.assign ?_
      refine WL.nil ?_
      refine WQ.next ?_
      refine WC.ret (?_)
      exact WQ.ret3 (h1 := .tmp (t := 4) rfl) (h2 := .tmp (t := 5) rfl) (h3 := .tmp (t := 6) rfl) ⟨_, ⟨m36, es, cl, by rw [hfs, ← hdl]; rfl, hm, rfl⟩, Am.auto⟩
    · rename_i r
      have hfs : freeS sl = r := by unfold freeS; rw [hfr]; rfl
      rw [freeI_pos hfr]
      refine WC.condF rfl (congrArg Value.bool (by first | (simp; done) | (simp; omega) | omega)) ?_
      refine WC.skip ?_
      refine WQ.next ?_
      refine WC.seq ?_
      refine WC.region ?_
      refine WL.move ?_
      refine WL.move ?_
      refine WL.assign ?_
      refine WL.assign ?_
      refine WL.assign ?_
      refine WL.nil ?_
      refine WQ.next ?_
      refine WC.ret (?_)
      exact WQ.ret3 (h1 := .tmp (t := 4) rfl) (h2 := .tmp (t := 5) rfl) (h3 := .tmp (t := 6) rfl) ⟨_, ⟨m36, es, cl, by rw [hfs]; rfl, hm, rfl⟩, Am.auto⟩
end Go.Proofs.YtedmihapieleaaaGreat
end
section
namespace Go.Proofs.YtedmihapieleaaaGreat
open Go
theorem zv121 : zvOf Tryz.prog 121 = some (.agg (#[.int .i64 0, .int .i64 0])) := by kernel_rfl
theorem z121 : zeroOf Tryz.prog 121 = some (#[.int .i64 0, .int .i64 0]) := by kernel_rfl
theorem agg121 : aggOk Tryz.prog 121 2 = true := by kernel_rfl
theorem fo121_1 : fieldOk Tryz.prog 121 1 1 = true := by kernel_rfl
theorem fo121_0 : fieldOk Tryz.prog 121 0 0 = true := by kernel_rfl
theorem nReady {s a c : Nat} {p : Pl} {F0 Fm : FM} {W : Nat} {op : Bool} : Spec Tryz.prog 49 #[.pointer (some ⟨s, 0, none⟩)] [IN s a c p F0 Fm W op] fun G v M => v = .bool op ∧ M = IN s a c p F0 Fm W op :: G := by
  refine Spec.opens (IN.opens s a c p F0 Fm W op) fun y hy => ((inReady (s := s) (c := c) (a := a) (n := p.n) (p := p) (V0 := y.1) (V := y.2.1) (D := y.2.2) (op := op)).mid).post ?_
  rintro G v M ⟨rfl, rfl⟩
  exact ⟨_, ⟨rfl, rfl⟩, Wk.trans (Am.wk Am.auto) (Wk.shutR (M := G) (IN.opens s a c p F0 Fm W op) y hy)⟩
def FindErr (nm : Bytes) (F : FM) (d : Int) (e : Int) : Prop :=
  (nameOk nm = false ∧ e = 1) ∨ (nameOk nm = true ∧ fileAt F d = none ∧ e = 4) ∨ (nameOk nm = true ∧ (∃ k b, 0 ≤ d ∧ F d.toNat = some (k, b) ∧ k ≠ 2) ∧ e = 6)
def ChgErr (op : Bool) (nm : Bytes) (F : FM) (d : Int) (e : Int) : Prop := (op = false ∧ e = 8) ∨ (op = true ∧ FindErr nm F d e)
theorem nameOk_len {nm : Bytes} (h : nameOk nm = true) : 1 ≤ nm.length ∧ nm.length ≤ 50 := by
  unfold nameOk at h
  simp only [Bool.and_eq_true, Bool.not_eq_true', decide_eq_false_iff_not, decide_eq_true_iff] at h
  obtain ⟨h1, h2, _⟩ := h
  refine ⟨?_, h2⟩
  cases nm with
  | nil => exact absurd rfl h1
  | cons _ _ => rw [List.length_cons]; omega
theorem dNamesNo {s a c : Nat} {p : Pl} {F0 Fm : FM} {W : Nat} {d : Int} {op : Bool} (ho : PlOk p) (hF : fileAt Fm d = none) : Spec Tryz.prog 73 #[.pointer (some ⟨s, 0, none⟩), .int .i64 d] [IN s a c p F0 Fm W op] fun G v M => v = .tuple #[.map none, .int .i64 0, .int .i64 4] ∧ M = IN s a c p F0 Fm W op :: G := by
  refine Spec.intro Tryz.func73 rfl rfl fun B F => ?_
  simp only [Tryz.ntmps73, List.cons_append, List.nil_append, env0, Nat.reduceAdd]
  refine WC.seq ?_
  refine WC.region ?_
  refine WL.assign ?_
  refine WL.assign ?_
  refine WL.assign ?_
  refine WL.nil ?_
  refine WQ.next ?_
  refine WC.seq ?_
  refine WC.region ?_
  refine WL.move ?_
  refine WL.move ?_
  refine WL.call (hc := Tryz.call29) (sp := nStatNo (s := s) (a := a) (c := c) (p := p) (F0 := F0) (F := Fm) (W := W) (op := op) (i := d) ho hF) (h := ?_)
  rintro _ _ ⟨rfl, rfl⟩
  refine WL.move ?_
  refine WL.extract ?_
  refine WL.extract ?_
  refine WL.alloc z55 fun b7 => ?_
  refine WL.stV ?_ agg55
  refine WL.assign ?_
  refine WL.nil ?_
  refine WQ.next ?_
  refine WC.seq ?_
  refine WC.seq ?_
  refine WC.region ?_
  refine WL.move ?_
  refine WL.nei ?_
  refine WL.nil ?_
  refine WQ.next ?_
  refine WC.condT rfl rfl ?_
  refine WC.seq ?_
  refine WC.region ?_
  refine WL.move ?_
  refine WL.assign ?_
  refine WL.assign ?_
  refine WL.assign ?_
  refine WL.nil ?_
  refine WQ.next ?_
  refine WC.ret (WQ.thenRet (?_))
  exact WQ.ret3 (h1 := .tmp (t := 4) rfl) (h2 := .tmp (t := 5) rfl) (h3 := .tmp (t := 6) rfl) ⟨_, ⟨rfl, rfl⟩, Am.auto⟩
theorem dNamesKind {s a c : Nat} {p : Pl} {F0 Fm : FM} {W : Nat} {d k : Nat} {b : Bytes} {op : Bool} (ho : PlOk p) (hF : Fm d = some (k, b)) (hk : k ≠ 2) : Spec Tryz.prog 73 #[.pointer (some ⟨s, 0, none⟩), nI d] [IN s a c p F0 Fm W op] fun G v M => v = .tuple #[.map none, .int .i64 0, .int .i64 6] ∧ M = IN s a c p F0 Fm W op :: G := by
  refine Spec.intro Tryz.func73 rfl rfl fun B F => ?_
  simp only [Tryz.ntmps73, List.cons_append, List.nil_append, env0, Nat.reduceAdd]
  refine WC.seq ?_
  refine WC.region ?_
  refine WL.assign ?_
  refine WL.assign ?_
  refine WL.assign ?_
  refine WL.nil ?_
  refine WQ.next ?_
  refine WC.seq ?_
  refine WC.region ?_
  refine WL.move ?_
  refine WL.move ?_
  refine WL.call (hc := Tryz.call29) (sp := nStat (s := s) (a := a) (c := c) (p := p) (F0 := F0) (F := Fm) (W := W) (op := op) (i := d) (f := (k, b)) ho hF) (h := ?_)
  rintro _ _ ⟨rfl, rfl⟩
  refine WL.move ?_
  refine WL.extract ?_
  refine WL.extract ?_
  refine WL.alloc z55 fun b7 => ?_
  refine WL.stV ?_ agg55
  refine WL.assign ?_
  refine WL.nil ?_
  refine WQ.next ?_
  refine WC.seq ?_
  refine WC.seq ?_
  refine WC.region ?_
  refine WL.move ?_
  refine WL.nei ?_
  refine WL.nil ?_
  refine WQ.next ?_
  refine WC.condF rfl rfl ?_
  refine WC.skip ?_
  refine WQ.next ?_
  refine WC.seq ?_
  refine WC.seq ?_
  refine WC.region ?_
  refine WL.fa ?_ fo55_0
  refine WL.ld ?_ sc3
  refine WL.nei ?_
  refine WL.nil ?_
  refine WQ.next ?_
  refine WC.condT rfl (congrArg Value.bool (by first | (simp; done) | (simp; omega) | omega)) ?_
  refine WC.seq ?_
  refine WC.region ?_
  refine WL.assign ?_
  refine WL.assign ?_
  refine WL.assign ?_
  refine WL.nil ?_
  refine WQ.next ?_
  refine WC.ret (WQ.thenRet (?_))
  exact WQ.ret3 (h1 := .tmp (t := 4) rfl) (h2 := .tmp (t := 5) rfl) (h3 := .tmp (t := 6) rfl) ⟨_, ⟨rfl, rfl⟩, Am.auto⟩
theorem dNamesErr {s a c : Nat} {p : Pl} {F0 Fm : FM} {W : Nat} {d : Int} {op : Bool} {nm : Bytes} {e : Int} (ho : PlOk p) (hn : nameOk nm = true) (he : FindErr nm Fm d e) : Spec Tryz.prog 73 #[.pointer (some ⟨s, 0, none⟩), .int .i64 d] [IN s a c p F0 Fm W op] fun G v M => v = .tuple #[.map none, .int .i64 0, .int .i64 e] ∧ M = IN s a c p F0 Fm W op :: G := by
  rcases he with ⟨h, _⟩ | ⟨_, h, rfl⟩ | ⟨_, ⟨k, b, h0, h, hk⟩, rfl⟩
  · rw [hn] at h; cases h
  · exact dNamesNo ho h
  · have := dNamesKind (s := s) (a := a) (c := c) (F0 := F0) (W := W) (op := op) ho h hk
    rwa [show nI d.toNat = .int .i64 d from congrArg (Value.int .i64) (by omega)] at this
theorem dChg {s a c : Nat} {p : Pl} {F0 Fm : FM} {W : Nat} {d : Nat} {nm : Bytes} {sl : List Slot} (ho : PlOk p) (hn : nameOk nm = true) (hF : Fm d = some (2, dirB sl)) (hd : DirOk sl) (hsz : sl.length ≤ 1104) :
    Spec Tryz.prog 70 #[.pointer (some ⟨s, 0, none⟩), nI d, sv nm] [IN s a c p F0 Fm W true] fun G v M => ∃ mp es cl, v = .tuple #[.map (some mp), nI (64 * freeS sl), .int .i64 0] ∧ MapIs encK es cl (kvF sl sl.length) ∧ M = pt mp (.map es cl) :: IN s a c p F0 Fm W true :: G := by
  refine Spec.intro Tryz.func70 rfl rfl fun B F => ?_
  simp only [Tryz.ntmps70, List.cons_append, List.nil_append, env0, Nat.reduceAdd]
  refine WC.seq ?_
  refine WC.region ?_
  refine WL.assign ?_
  refine WL.assign ?_
  refine WL.assign ?_
  refine WL.nil ?_
  refine WQ.next ?_
  refine WC.seq ?_
  refine WC.seq ?_
  refine WC.region ?_
  refine WL.move ?_
  refine WL.call (hc := Tryz.call49) (sp := nReady (s := s) (a := a) (c := c) (p := p) (F0 := F0) (Fm := Fm) (W := W) (op := true)) (h := ?_)
  rintro _ _ ⟨rfl, rfl⟩
  refine WL.not ?_
  refine WL.nil ?_
  refine WQ.next ?_
  refine WC.condF rfl rfl ?_
  refine WC.skip ?_
  refine WQ.next ?_
  refine WC.seq ?_
  refine WC.seq ?_
  refine WC.region ?_
  refine WL.move ?_
  refine WL.call (hc := Tryz.call30) (sp := dName (xs := nm)) (h := ?_)
  rintro _ _ ⟨rfl, rfl⟩
  rw [hn]
  refine WL.not ?_
  refine WL.nil ?_
  refine WQ.next ?_
  refine WC.condF rfl rfl ?_
  refine WC.skip ?_
  refine WQ.next ?_
  refine WC.seq ?_
  refine WC.region ?_
  refine WL.move ?_
  refine WL.move ?_
  refine WL.call (hc := Tryz.call73) (sp := dNames (s := s) (a := a) (c := c) (p := p) (F0 := F0) (Fm := Fm) (W := W) (d := d) (op := true) ho hF hd hsz) (h := ?_)
  rintro _ _ ⟨mp, es, cl, rfl, hm, rfl⟩
  refine WL.extract ?_
  refine WL.extract ?_
  refine WL.extract ?_
  refine WL.assign ?_
  refine WL.assign ?_
  refine WL.assign ?_
  refine WL.nil ?_
  refine WQ.next ?_
  refine WC.ret (?_)
  exact WQ.ret3 (h1 := .tmp (t := 6) rfl) (h2 := .tmp (t := 7) rfl) (h3 := .tmp (t := 8) rfl) ⟨_, ⟨mp, es, cl, rfl, hm, rfl⟩, Am.auto⟩
theorem dChgE {s a c : Nat} {p : Pl} {F0 Fm : FM} {W : Nat} {d : Int} {op : Bool} {nm : Bytes} {e : Int} (ho : PlOk p) (he : ChgErr op nm Fm d e) : Spec Tryz.prog 70 #[.pointer (some ⟨s, 0, none⟩), .int .i64 d, sv nm] [IN s a c p F0 Fm W op] fun G v M => v = .tuple #[.map none, .int .i64 0, .int .i64 e] ∧ M = IN s a c p F0 Fm W op :: G := by
  refine Spec.intro Tryz.func70 rfl rfl fun B F => ?_
  simp only [Tryz.ntmps70, List.cons_append, List.nil_append, env0, Nat.reduceAdd]
  rcases he with ⟨rfl, rfl⟩ | ⟨rfl, he⟩
  · refine WC.seq ?_
    refine WC.region ?_
    refine WL.assign ?_
    refine WL.assign ?_
    refine WL.assign ?_
    refine WL.nil ?_
    refine WQ.next ?_
    refine WC.seq ?_
    refine WC.seq ?_
    refine WC.region ?_
    refine WL.move ?_
    refine WL.call (hc := Tryz.call49) (sp := nReady (s := s) (a := a) (c := c) (p := p) (F0 := F0) (Fm := Fm) (W := W) (op := false)) (h := ?_)
    rintro _ _ ⟨rfl, rfl⟩
    refine WL.not ?_
    refine WL.nil ?_
    refine WQ.next ?_
    refine WC.condT rfl rfl ?_
    refine WC.seq ?_
    refine WC.region ?_
    refine WL.assign ?_
    refine WL.assign ?_
    refine WL.assign ?_
    refine WL.nil ?_
    refine WQ.next ?_
    refine WC.ret (WQ.thenRet (?_))
    exact WQ.ret3 (h1 := .tmp (t := 6) rfl) (h2 := .tmp (t := 7) rfl) (h3 := .tmp (t := 8) rfl) ⟨_, ⟨rfl, rfl⟩, Am.auto⟩
  · cases hn : nameOk nm
    · have he1 : e = 1 := by
        rcases he with ⟨_, h⟩ | ⟨h, _⟩ | ⟨h, _⟩
        · exact h
        · rw [hn] at h; cases h
        · rw [hn] at h; cases h
      subst he1
      refine WC.seq ?_
      refine WC.region ?_
      refine WL.assign ?_
      refine WL.assign ?_
      refine WL.assign ?_
      refine WL.nil ?_
      refine WQ.next ?_
      refine WC.seq ?_
      refine WC.seq ?_
      refine WC.region ?_
      refine WL.move ?_
      refine WL.call (hc := Tryz.call49) (sp := nReady (s := s) (a := a) (c := c) (p := p) (F0 := F0) (Fm := Fm) (W := W) (op := true)) (h := ?_)
      rintro _ _ ⟨rfl, rfl⟩
      refine WL.not ?_
      refine WL.nil ?_
      refine WQ.next ?_
      refine WC.condF rfl rfl ?_
      refine WC.skip ?_
      refine WQ.next ?_
      refine WC.seq ?_
      refine WC.seq ?_
      refine WC.region ?_
      refine WL.move ?_
      refine WL.call (hc := Tryz.call30) (sp := dName (xs := nm)) (h := ?_)
      rintro _ _ ⟨rfl, rfl⟩
      rw [hn]
      refine WL.not ?_
      refine WL.nil ?_
      refine WQ.next ?_
      refine WC.condT rfl rfl ?_
      refine WC.seq ?_
      refine WC.region ?_
      refine WL.assign ?_
      refine WL.assign ?_
      refine WL.assign ?_
      refine WL.nil ?_
      refine WQ.next ?_
      refine WC.ret (WQ.thenRet (?_))
      exact WQ.ret3 (h1 := .tmp (t := 6) rfl) (h2 := .tmp (t := 7) rfl) (h3 := .tmp (t := 8) rfl) ⟨_, ⟨rfl, rfl⟩, Am.auto⟩
    · refine WC.seq ?_
      refine WC.region ?_
      refine WL.assign ?_
      refine WL.assign ?_
      refine WL.assign ?_
      refine WL.nil ?_
      refine WQ.next ?_
      refine WC.seq ?_
      refine WC.seq ?_
      refine WC.region ?_
      refine WL.move ?_
      refine WL.call (hc := Tryz.call49) (sp := nReady (s := s) (a := a) (c := c) (p := p) (F0 := F0) (Fm := Fm) (W := W) (op := true)) (h := ?_)
      rintro _ _ ⟨rfl, rfl⟩
      refine WL.not ?_
      refine WL.nil ?_
      refine WQ.next ?_
      refine WC.condF rfl rfl ?_
      refine WC.skip ?_
      refine WQ.next ?_
      refine WC.seq ?_
      refine WC.seq ?_
      refine WC.region ?_
      refine WL.move ?_
      refine WL.call (hc := Tryz.call30) (sp := dName (xs := nm)) (h := ?_)
      rintro _ _ ⟨rfl, rfl⟩
      rw [hn]
      refine WL.not ?_
      refine WL.nil ?_
      refine WQ.next ?_
      refine WC.condF rfl rfl ?_
      refine WC.skip ?_
      refine WQ.next ?_
      refine WC.seq ?_
      refine WC.region ?_
      refine WL.move ?_
      refine WL.move ?_
      refine WL.call (hc := Tryz.call73) (sp := dNamesErr (s := s) (a := a) (c := c) (p := p) (F0 := F0) (Fm := Fm) (W := W) (d := d) (op := true) ho hn he) (h := ?_)
      rintro _ _ ⟨rfl, rfl⟩
      refine WL.extract ?_
      refine WL.extract ?_
      refine WL.extract ?_
      refine WL.assign ?_
      refine WL.assign ?_
      refine WL.assign ?_
      refine WL.nil ?_
      refine WQ.next ?_
      refine WC.ret (?_)
      exact WQ.ret3 (h1 := .tmp (t := 6) rfl) (h2 := .tmp (t := 7) rfl) (h3 := .tmp (t := 8) rfl) ⟨_, ⟨rfl, rfl⟩, Am.auto⟩
theorem dAdd {s a c : Nat} {p : Pl} {F0 Fm : FM} {W : Nat} {d : Nat} {nm : Bytes} {sl : List Slot} (ho : PlOk p) (hn : nameOk nm = true) (hF : Fm d = some (2, dirB sl)) (hd : DirOk sl) (hsz : sl.length ≤ 1104) (hno : ∀ (q i : Nat), sl[q]? ≠ some (some (nm, i))) {i : Nat} (hi : i < 4294967296) (hw : Rw p W 13) (hfs : freeS sl < 1104) (hfit : tot Fm p.ino + has (max (64 * sl.length) (64 * freeS sl + 64)) ≤ p.dc + has (64 * sl.length)) : Spec Tryz.prog 34 #[.pointer (some ⟨s, 0, none⟩), nI d, sv nm, nI i] [IN s a c p F0 Fm W true] fun G v M => v = okV ∧ M = IN s a c p F0 (updM Fm d (some (2, dirB (setS sl (freeS sl) (some (nm, i)))))) (W + 8) true :: G := by
  refine Spec.intro Tryz.func34 rfl rfl fun B F => ?_
  simp only [Tryz.ntmps34, List.cons_append, List.nil_append, env0, Nat.reduceAdd]
  refine WC.seq ?_
  refine WC.region ?_
  refine WL.assign ?_
  refine WL.nil ?_
  refine WQ.next ?_
  refine WC.seq ?_
  refine WC.region ?_
  refine WL.move ?_
  refine WL.move ?_
  refine WL.move ?_
  refine WL.call (hc := Tryz.call70) (sp := dChg (s := s) (a := a) (c := c) (p := p) (F0 := F0) (Fm := Fm) (W := W) (d := d) (nm := nm) ho hn hF hd hsz) (h := ?_)
  rintro _ _ ⟨mp, es, cl, rfl, hm, rfl⟩
  refine WL.move ?_
  refine WL.extract ?_
  refine WL.extract ?_
  refine WL.extract ?_
  refine WL.assign ?_
  refine WL.assign ?_
  refine WL.assign ?_
  refine WL.nil ?_
  refine WQ.next ?_
  refine WC.seq ?_
  refine WC.seq ?_
  refine WC.region ?_
  refine WL.move ?_
  refine WL.nei ?_
  refine WL.nil ?_
  refine WQ.next ?_
  refine WC.condF rfl rfl ?_
  refine WC.skip ?_
  refine WQ.next ?_
  refine WC.seq ?_
  refine WC.seq ?_
  refine WC.region ?_
  refine WL.move ?_
  refine WL.move ?_
  refine WL.call (hc := Tryz.call71) (sp := dOf (nameOk_len hn).2) (h := ?_)
  rintro _ _ ⟨rfl, rfl⟩
  refine WL.lookOk (k := keyK nm) klN hm mp117 zv121 ?_
  refine WL.cast (d := 29) (u := .tuple #[.agg #[.int .i64 0, .int .i64 0], .bool false]) rfl (by rw [kvF_no hd (nameOk_len hn).2 hno]; rfl) ?_
  refine WL.move ?_
  refine WL.extract ?_
  refine WL.extract ?_
  refine WL.alloc z121 fun b12 => ?_
  refine WL.stV ?_ agg121
  refine WL.assign ?_
  refine WL.nil ?_
  refine WQ.next ?_
  refine WC.seq ?_
  refine WC.region ?_
  refine WL.move ?_
  refine WL.nil ?_
  refine WQ.next ?_
  refine WC.condF rfl rfl ?_
  refine WC.skip ?_
  refine WQ.next ?_
  refine WC.seq ?_
  refine WC.region ?_
  refine WL.move ?_
  refine WL.move ?_
  refine WL.move ?_
  refine WL.move ?_
  refine WL.move ?_
  refine WL.call (hc := Tryz.call72) (sp := dLay (s := s) (a := a) (c := c) (p := p) (F0 := F0) (Fm := Fm) (W := W) (d := d) (q := freeS sl) (i := i) (nm := nm) (sl := sl) ho hF (freeS_le sl) hfs (nameOk_len hn).2 hi hw hfit) (h := ?_)
  rintro _ _ ⟨rfl, rfl⟩
  refine WL.assign ?_
  refine WL.nil ?_
  refine WQ.next ?_
  refine WC.ret (?_)
  exact WQ.ret1 (h1 := .tmp (t := 8) rfl) ⟨_, ⟨rfl, rfl⟩, Am.auto⟩
theorem dAddExist {s a c : Nat} {p : Pl} {F0 Fm : FM} {W : Nat} {d : Nat} {nm : Bytes} {sl : List Slot} (ho : PlOk p) (hn : nameOk nm = true) (hF : Fm d = some (2, dirB sl)) (hd : DirOk sl) (hsz : sl.length ≤ 1104) {q j : Nat} (hq : sl[q]? = some (some (nm, j))) {i : Value} : Spec Tryz.prog 34 #[.pointer (some ⟨s, 0, none⟩), nI d, sv nm, i] [IN s a c p F0 Fm W true] fun G v M => v = .int .i64 5 ∧ M = IN s a c p F0 Fm W true :: G := by
  refine Spec.intro Tryz.func34 rfl rfl fun B F => ?_
  simp only [Tryz.ntmps34, List.cons_append, List.nil_append, env0, Nat.reduceAdd]
  have hlt : q < sl.length := by
    by_cases h : q < sl.length
    · exact h
    · rw [List.getElem?_eq_none (by omega)] at hq; cases hq
  refine WC.seq ?_
  refine WC.region ?_
  refine WL.assign ?_
  refine WL.nil ?_
  refine WQ.next ?_
  refine WC.seq ?_
  refine WC.region ?_
  refine WL.move ?_
  refine WL.move ?_
  refine WL.move ?_
  refine WL.call (hc := Tryz.call70) (sp := dChg (s := s) (a := a) (c := c) (p := p) (F0 := F0) (Fm := Fm) (W := W) (d := d) (nm := nm) ho hn hF hd hsz) (h := ?_)
  rintro _ _ ⟨mp, es, cl, rfl, hm, rfl⟩
  refine WL.move ?_
  refine WL.extract ?_
  refine WL.extract ?_
  refine WL.extract ?_
  refine WL.assign ?_
  refine WL.assign ?_
  refine WL.assign ?_
  refine WL.nil ?_
  refine WQ.next ?_
  refine WC.seq ?_
  refine WC.seq ?_
  refine WC.region ?_
  refine WL.move ?_
  refine WL.nei ?_
  refine WL.nil ?_
  refine WQ.next ?_
  refine WC.condF rfl rfl ?_
  refine WC.skip ?_
  refine WQ.next ?_
  refine WC.seq ?_
  refine WC.seq ?_
  refine WC.region ?_
  refine WL.move ?_
  refine WL.move ?_
  refine WL.call (hc := Tryz.call71) (sp := dOf (nameOk_len hn).2) (h := ?_)
  rintro _ _ ⟨rfl, rfl⟩
  refine WL.lookOk (k := keyK nm) klN hm mp117 zv121 ?_
  refine WL.cast (d := 29) (u := .tuple #[.agg #[nI (64 * q), nI j], .bool true]) rfl (by rw [kvF_has hd hq sl.length hlt]; rfl) ?_
  refine WL.move ?_
  refine WL.extract ?_
  refine WL.extract ?_
  refine WL.alloc z121 fun b12 => ?_
  refine WL.stV ?_ agg121
  refine WL.assign ?_
  refine WL.nil ?_
  refine WQ.next ?_
  refine WC.seq ?_
  refine WC.region ?_
  refine WL.move ?_
  refine WL.nil ?_
  refine WQ.next ?_
  refine WC.condT rfl rfl ?_
  refine WC.seq ?_
  refine WC.region ?_
  refine WL.assign ?_
  refine WL.nil ?_
  refine WQ.next ?_
  refine WC.ret (WQ.thenRet (?_))
  exact WQ.ret1 (h1 := .tmp (t := 8) rfl) ⟨_, ⟨rfl, rfl⟩, Am.auto⟩
theorem dAddE {s a c : Nat} {p : Pl} {F0 Fm : FM} {W : Nat} {d : Int} {op : Bool} {nm : Bytes} {e : Int} {i : Value} (ho : PlOk p) (he : ChgErr op nm Fm d e) (he0 : e ≠ 0) : Spec Tryz.prog 34 #[.pointer (some ⟨s, 0, none⟩), .int .i64 d, sv nm, i] [IN s a c p F0 Fm W op] fun G v M => v = .int .i64 e ∧ M = IN s a c p F0 Fm W op :: G := by
  refine Spec.intro Tryz.func34 rfl rfl fun B F => ?_
  simp only [Tryz.ntmps34, List.cons_append, List.nil_append, env0, Nat.reduceAdd]
  refine WC.seq ?_
  refine WC.region ?_
  refine WL.assign ?_
  refine WL.nil ?_
  refine WQ.next ?_
  refine WC.seq ?_
  refine WC.region ?_
  refine WL.move ?_
  refine WL.move ?_
  refine WL.move ?_
  refine WL.call (hc := Tryz.call70) (sp := dChgE (s := s) (a := a) (c := c) (p := p) (F0 := F0) (Fm := Fm) (W := W) (d := d) (op := op) (nm := nm) (e := e) ho he) (h := ?_)
  rintro _ _ ⟨rfl, rfl⟩
  refine WL.move ?_
  refine WL.extract ?_
  refine WL.extract ?_
  refine WL.extract ?_
  refine WL.assign ?_
  refine WL.assign ?_
  refine WL.assign ?_
  refine WL.nil ?_
  refine WQ.next ?_
  refine WC.seq ?_
  refine WC.seq ?_
  refine WC.region ?_
  refine WL.move ?_
  refine WL.nei ?_
  refine WL.nil ?_
  refine WQ.next ?_
  refine WC.condT rfl (congrArg Value.bool (by first | (simp; done) | (simp; omega) | omega)) ?_
  refine WC.seq ?_
  refine WC.region ?_
  refine WL.move ?_
  refine WL.assign ?_
  refine WL.nil ?_
  refine WQ.next ?_
  refine WC.ret (WQ.thenRet (?_))
  exact WQ.ret1 (h1 := .tmp (t := 8) rfl) ⟨_, ⟨rfl, rfl⟩, Am.auto⟩
theorem dRemoveE {s a c : Nat} {p : Pl} {F0 Fm : FM} {W : Nat} {d : Int} {op : Bool} {nm : Bytes} {e : Int} {i : Value} (ho : PlOk p) (he : ChgErr op nm Fm d e) (he0 : e ≠ 0) : Spec Tryz.prog 38 #[.pointer (some ⟨s, 0, none⟩), .int .i64 d, sv nm] [IN s a c p F0 Fm W op] fun G v M => v = .int .i64 e ∧ M = IN s a c p F0 Fm W op :: G := by
  refine Spec.intro Tryz.func38 rfl rfl fun B F => ?_
  simp only [Tryz.ntmps38, List.cons_append, List.nil_append, env0, Nat.reduceAdd]
  refine WC.seq ?_
  refine WC.region ?_
  refine WL.assign ?_
  refine WL.nil ?_
  refine WQ.next ?_
  refine WC.seq ?_
  refine WC.region ?_
  refine WL.move ?_
  refine WL.move ?_
  refine WL.move ?_
  refine WL.call (hc := Tryz.call70) (sp := dChgE (s := s) (a := a) (c := c) (p := p) (F0 := F0) (Fm := Fm) (W := W) (d := d) (op := op) (nm := nm) (e := e) ho he) (h := ?_)
  rintro _ _ ⟨rfl, rfl⟩
  refine WL.move ?_
  refine WL.extract ?_
  refine WL.extract ?_
  refine WL.extract ?_
  refine WL.assign ?_
  refine WL.assign ?_
  refine WL.assign ?_
  refine WL.nil ?_
  refine WQ.next ?_
  refine WC.seq ?_
  refine WC.seq ?_
  refine WC.region ?_
  refine WL.move ?_
  refine WL.nei ?_
  refine WL.nil ?_
  refine WQ.next ?_
  refine WC.condT rfl (congrArg Value.bool (by first | (simp; done) | (simp; omega) | omega)) ?_
  refine WC.seq ?_
  refine WC.region ?_
  refine WL.move ?_
  refine WL.assign ?_
  refine WL.nil ?_
  refine WQ.next ?_
  refine WC.ret (WQ.thenRet (?_))
  exact WQ.ret1 (h1 := .tmp (t := 6) rfl) ⟨_, ⟨rfl, rfl⟩, Am.auto⟩
theorem dMoveE {s a c : Nat} {p : Pl} {F0 Fm : FM} {W : Nat} {d : Int} {op : Bool} {nm : Bytes} {e : Int} {i : Value} (ho : PlOk p) (he : ChgErr op nm Fm d e) (he0 : e ≠ 0) : Spec Tryz.prog 36 #[.pointer (some ⟨s, 0, none⟩), .int .i64 d, sv nm, i] [IN s a c p F0 Fm W op] fun G v M => v = .int .i64 e ∧ M = IN s a c p F0 Fm W op :: G := by
  refine Spec.intro Tryz.func36 rfl rfl fun B F => ?_
  simp only [Tryz.ntmps36, List.cons_append, List.nil_append, env0, Nat.reduceAdd]
  refine WC.seq ?_
  refine WC.region ?_
  refine WL.assign ?_
  refine WL.nil ?_
  refine WQ.next ?_
  refine WC.seq ?_
  refine WC.region ?_
  refine WL.move ?_
  refine WL.move ?_
  refine WL.move ?_
  refine WL.call (hc := Tryz.call70) (sp := dChgE (s := s) (a := a) (c := c) (p := p) (F0 := F0) (Fm := Fm) (W := W) (d := d) (op := op) (nm := nm) (e := e) ho he) (h := ?_)
  rintro _ _ ⟨rfl, rfl⟩
  refine WL.move ?_
  refine WL.extract ?_
  refine WL.extract ?_
  refine WL.extract ?_
  refine WL.assign ?_
  refine WL.assign ?_
  refine WL.assign ?_
  refine WL.nil ?_
  refine WQ.next ?_
  refine WC.seq ?_
  refine WC.seq ?_
  refine WC.region ?_
  refine WL.move ?_
  refine WL.nei ?_
  refine WL.nil ?_
  refine WQ.next ?_
  refine WC.condT rfl (congrArg Value.bool (by first | (simp; done) | (simp; omega) | omega)) ?_
  refine WC.seq ?_
  refine WC.region ?_
  refine WL.move ?_
  refine WL.assign ?_
  refine WL.nil ?_
  refine WQ.next ?_
  refine WC.ret (WQ.thenRet (?_))
  exact WQ.ret1 (h1 := .tmp (t := 8) rfl) ⟨_, ⟨rfl, rfl⟩, Am.auto⟩
theorem dFindE {s a c : Nat} {p : Pl} {F0 Fm : FM} {W : Nat} {d : Int} {op : Bool} {nm : Bytes} {e : Int} (ho : PlOk p) (he : FindErr nm Fm d e) (he0 : e ≠ 0) : Spec Tryz.prog 37 #[.pointer (some ⟨s, 0, none⟩), .int .i64 d, sv nm] [IN s a c p F0 Fm W op] fun G v M => v = .tuple #[.int .i64 0, .int .i64 e] ∧ M = IN s a c p F0 Fm W op :: G := by
  refine Spec.intro Tryz.func37 rfl rfl fun B F => ?_
  simp only [Tryz.ntmps37, List.cons_append, List.nil_append, env0, Nat.reduceAdd]
  cases hn : nameOk nm
  · have he1 : e = 1 := by
      rcases he with ⟨_, h⟩ | ⟨h, _⟩ | ⟨h, _⟩
      · exact h
      · rw [hn] at h; cases h
      · rw [hn] at h; cases h
    subst he1
    refine WC.seq ?_
    refine WC.region ?_
    refine WL.assign ?_
    refine WL.assign ?_
    refine WL.nil ?_
    refine WQ.next ?_
    refine WC.seq ?_
    refine WC.seq ?_
    refine WC.region ?_
    refine WL.move ?_
    refine WL.call (hc := Tryz.call30) (sp := dName (xs := nm)) (h := ?_)
    rintro _ _ ⟨rfl, rfl⟩
    rw [hn]
    refine WL.not ?_
    refine WL.nil ?_
    refine WQ.next ?_
    refine WC.condT rfl rfl ?_
    refine WC.seq ?_
    refine WC.region ?_
    refine WL.assign ?_
    refine WL.assign ?_
    refine WL.nil ?_
    refine WQ.next ?_
    refine WC.ret (WQ.thenRet (?_))
    exact WQ.ret2 (h1 := .tmp (t := 6) rfl) (h2 := .tmp (t := 7) rfl) ⟨_, ⟨rfl, rfl⟩, Am.auto⟩
  · refine WC.seq ?_
    refine WC.region ?_
    refine WL.assign ?_
    refine WL.assign ?_
    refine WL.nil ?_
    refine WQ.next ?_
    refine WC.seq ?_
    refine WC.seq ?_
    refine WC.region ?_
    refine WL.move ?_
    refine WL.call (hc := Tryz.call30) (sp := dName (xs := nm)) (h := ?_)
    rintro _ _ ⟨rfl, rfl⟩
    rw [hn]
    refine WL.not ?_
    refine WL.nil ?_
    refine WQ.next ?_
    refine WC.condF rfl rfl ?_
    refine WC.skip ?_
    refine WQ.next ?_
    refine WC.seq ?_
    refine WC.region ?_
    refine WL.move ?_
    refine WL.move ?_
    refine WL.call (hc := Tryz.call73) (sp := dNamesErr (s := s) (a := a) (c := c) (p := p) (F0 := F0) (Fm := Fm) (W := W) (d := d) (op := op) ho hn he) (h := ?_)
    rintro _ _ ⟨rfl, rfl⟩
    refine WL.move ?_
    refine WL.extract ?_
    refine WL.extract ?_
    refine WL.extract ?_
    refine WL.assign ?_
    refine WL.assign ?_
    refine WL.assign ?_
    refine WL.nil ?_
    refine WQ.next ?_
    refine WC.seq ?_
    refine WC.seq ?_
    refine WC.region ?_
    refine WL.move ?_
    refine WL.nei ?_
    refine WL.nil ?_
    refine WQ.next ?_
    refine WC.condT rfl (congrArg Value.bool (by first | (simp; done) | (simp; omega) | omega)) ?_
    refine WC.seq ?_
    refine WC.region ?_
    refine WL.move ?_
    refine WL.assign ?_
    refine WL.assign ?_
    refine WL.nil ?_
    refine WQ.next ?_
    refine WC.ret (WQ.thenRet (?_))
    exact WQ.ret2 (h1 := .tmp (t := 6) rfl) (h2 := .tmp (t := 7) rfl) ⟨_, ⟨rfl, rfl⟩, Am.auto⟩
theorem dFind {s a c : Nat} {p : Pl} {F0 Fm : FM} {W : Nat} {d : Nat} {op : Bool} {nm : Bytes} {sl : List Slot} (ho : PlOk p) (hn : nameOk nm = true) (hF : Fm d = some (2, dirB sl)) (hd : DirOk sl) (hsz : sl.length ≤ 1104) {q j : Nat} (hq : sl[q]? = some (some (nm, j))) : Spec Tryz.prog 37 #[.pointer (some ⟨s, 0, none⟩), nI d, sv nm] [IN s a c p F0 Fm W op] fun G v M => v = .tuple #[nI j, .int .i64 0] ∧ M = IN s a c p F0 Fm W op :: G := by
  refine Spec.intro Tryz.func37 rfl rfl fun B F => ?_
  simp only [Tryz.ntmps37, List.cons_append, List.nil_append, env0, Nat.reduceAdd]
  have hlt : q < sl.length := by
    by_cases h : q < sl.length
    · exact h
    · rw [List.getElem?_eq_none (by omega)] at hq; cases hq
  refine WC.seq ?_
  refine WC.region ?_
  refine WL.assign ?_
  refine WL.assign ?_
  refine WL.nil ?_
  refine WQ.next ?_
  refine WC.seq ?_
  refine WC.seq ?_
  refine WC.region ?_
  refine WL.move ?_
  refine WL.call (hc := Tryz.call30) (sp := dName (xs := nm)) (h := ?_)
  rintro _ _ ⟨rfl, rfl⟩
  rw [hn]
  refine WL.not ?_
  refine WL.nil ?_
  refine WQ.next ?_
  refine WC.condF rfl rfl ?_
  refine WC.skip ?_
  refine WQ.next ?_
  refine WC.seq ?_
  refine WC.region ?_
  refine WL.move ?_
  refine WL.move ?_
  refine WL.call (hc := Tryz.call73) (sp := dNames (s := s) (a := a) (c := c) (p := p) (F0 := F0) (Fm := Fm) (W := W) (d := d) (op := op) ho hF hd hsz) (h := ?_)
  rintro _ _ ⟨mp, es, cl, rfl, hm, rfl⟩
  refine WL.move ?_
  refine WL.extract ?_
  refine WL.extract ?_
  refine WL.extract ?_
  refine WL.assign ?_
  refine WL.assign ?_
  refine WL.assign ?_
  refine WL.nil ?_
  refine WQ.next ?_
  refine WC.seq ?_
  refine WC.seq ?_
  refine WC.region ?_
  refine WL.move ?_
  refine WL.nei ?_
  refine WL.nil ?_
  refine WQ.next ?_
  refine WC.condF rfl rfl ?_
  refine WC.skip ?_
  refine WQ.next ?_
  refine WC.seq ?_
  refine WC.region ?_
  refine WL.move ?_
  refine WL.move ?_
  refine WL.call (hc := Tryz.call71) (sp := dOf (nameOk_len hn).2) (h := ?_)
  rintro _ _ ⟨rfl, rfl⟩
  refine WL.lookOk (k := keyK nm) klN hm mp117 zv121 ?_
  refine WL.cast (d := 30) (u := .tuple #[.agg #[nI (64 * q), nI j], .bool true]) rfl (by rw [kvF_has hd hq sl.length hlt]; rfl) ?_
  refine WL.move ?_
  refine WL.extract ?_
  refine WL.extract ?_
  refine WL.alloc z121 fun b11 => ?_
  refine WL.stV ?_ agg121
  refine WL.assign ?_
  refine WL.nil ?_
  refine WQ.next ?_
  refine WC.seq ?_
  refine WC.seq ?_
  refine WC.region ?_
  refine WL.move ?_
  refine WL.not ?_
  refine WL.nil ?_
  refine WQ.next ?_
  refine WC.condF rfl rfl ?_
  refine WC.skip ?_
  refine WQ.next ?_
  refine WC.seq ?_
  refine WC.region ?_
  refine WL.fa ?_ fo121_1
  refine WL.ld ?_ sc3
  refine WL.assign ?_
  refine WL.assign ?_
  refine WL.nil ?_
  refine WQ.next ?_
  refine WC.ret (?_)
  exact WQ.ret2 (h1 := .tmp (t := 6) rfl) (h2 := .tmp (t := 7) rfl) ⟨_, ⟨rfl, rfl⟩, Am.auto⟩
theorem dRemove {s a c : Nat} {p : Pl} {F0 Fm : FM} {W : Nat} {d : Nat} {nm : Bytes} {sl : List Slot} (ho : PlOk p) (hn : nameOk nm = true) (hF : Fm d = some (2, dirB sl)) (hd : DirOk sl) (hsz : sl.length ≤ 1104) {q j : Nat} (hq : sl[q]? = some (some (nm, j))) (hw : Rw p W 13) (hfit : tot Fm p.ino ≤ p.dc) : Spec Tryz.prog 38 #[.pointer (some ⟨s, 0, none⟩), nI d, sv nm] [IN s a c p F0 Fm W true] fun G v M => v = okV ∧ M = IN s a c p F0 (updM Fm d (some (2, dirB (setS sl q none)))) (W + 8) true :: G := by
  refine Spec.intro Tryz.func38 rfl rfl fun B F => ?_
  simp only [Tryz.ntmps38, List.cons_append, List.nil_append, env0, Nat.reduceAdd]
  have hlt : q < sl.length := by
    by_cases h : q < sl.length
    · exact h
    · rw [List.getElem?_eq_none (by omega)] at hq; cases hq
  have hmx : max (64 * sl.length) (64 * q + 64) = 64 * sl.length := by omega
  have hdl := dirB_length sl
  have hsl := slotB_length none
  have hhs := has_slot sl.length q (by omega)
  refine WC.seq ?_
  refine WC.region ?_
  refine WL.assign ?_
  refine WL.nil ?_
  refine WQ.next ?_
  refine WC.seq ?_
  refine WC.region ?_
  refine WL.move ?_
  refine WL.move ?_
  refine WL.move ?_
  refine WL.call (hc := Tryz.call70) (sp := dChg (s := s) (a := a) (c := c) (p := p) (F0 := F0) (Fm := Fm) (W := W) (d := d) (nm := nm) ho hn hF hd hsz) (h := ?_)
  rintro _ _ ⟨mp, es, cl, rfl, hm, rfl⟩
  refine WL.move ?_
  refine WL.extract ?_
  refine WL.extract ?_
  refine WL.extract ?_
  refine WL.assign ?_
  refine WL.assign ?_
  refine WL.assign ?_
  refine WL.nil ?_
  refine WQ.next ?_
  refine WC.seq ?_
  refine WC.seq ?_
  refine WC.region ?_
  refine WL.move ?_
  refine WL.nei ?_
  refine WL.nil ?_
  refine WQ.next ?_
  refine WC.condF rfl rfl ?_
  refine WC.skip ?_
  refine WQ.next ?_
  refine WC.seq ?_
  refine WC.region ?_
  refine WL.move ?_
  refine WL.move ?_
  refine WL.call (hc := Tryz.call71) (sp := dOf (nameOk_len hn).2) (h := ?_)
  rintro _ _ ⟨rfl, rfl⟩
  refine WL.lookOk (k := keyK nm) klN hm mp117 zv121 ?_
  refine WL.cast (d := 27) (u := .tuple #[.agg #[nI (64 * q), nI j], .bool true]) rfl (by rw [kvF_has hd hq sl.length hlt]; rfl) ?_
  refine WL.move ?_
  refine WL.extract ?_
  refine WL.extract ?_
  refine WL.alloc z121 fun b10 => ?_
  refine WL.stV ?_ agg121
  refine WL.assign ?_
  refine WL.nil ?_
  refine WQ.next ?_
  refine WC.seq ?_
  refine WC.seq ?_
  refine WC.region ?_
  refine WL.move ?_
  refine WL.not ?_
  refine WL.nil ?_
  refine WQ.next ?_
  refine WC.condF rfl rfl ?_
  refine WC.skip ?_
  refine WQ.next ?_
  refine WC.seq ?_
  refine WC.draw ([pt b10 (.cells #[nI (64 * q), nI j] 121 (0, 0))]) [] 7 #[false, false, false, false, false, false, false] mixed (by kernel_rfl) NoPanic.autoJ ?_
  refine WD.take (i := 0) #[true, false, false, false, false, false, false] rfl (by kernel_rfl) (Qt.move ) ?_
  refine WD.take (i := 1) #[true, true, false, false, false, false, false] rfl (by kernel_rfl) (Qt.move ) ?_
  refine WD.take (i := 2) #[true, true, true, false, false, false, false] rfl (by kernel_rfl) (Qt.fa fo121_0) ?_
  refine WD.take (i := 3) #[true, true, true, true, false, false, false] rfl (by kernel_rfl) (Qt.ld sc3) ?_
  refine WD.one (i := 4) #[true, true, true, true, true, false, false] rfl (by kernel_rfl) fun hnp => ?_
  refine WL.mkSN 64 z5 so33 (by decide) (by decide) fun b36 => ?_
  refine WL.nil (WQ.wd hnp (.inl Am.auto) ?_)
  refine WD.one (i := 5) #[true, true, true, true, true, true, false] rfl (by kernel_rfl) fun hnp => ?_
  refine WL.to (A' := buf b36 5 64 (bvs (slotB none))) (fun h hh => by show buf _ _ _ (bvs (List.replicate 64 0)) _; rw [bvs_replicate]; exact hh) ?_
  refine WL.call (hc := Tryz.call20) (sp := nWrite (s := s) (a := a) (c := c) (p := p) (F0 := F0) (F := Fm) (W := W) (i := d) (at' := 64 * q) (f := (2, dirB sl)) (bs := slotB none) (m := 64) ho hF (hw.less (by show has (max (dirB sl).length (64 * q + 64)) - has (dirB sl).length + (64 + 511) / 512 + 10 ≤ 13; rw [hdl]; omega)) (.inr Reads.buf) hsl (Nat.le_refl _) (by decide) (by show 64 * q ≤ (dirB sl).length; omega) (by omega) (by show tot Fm p.ino + has (max (dirB sl).length (64 * q + 64)) ≤ p.dc + has (dirB sl).length; rw [hdl, hmx]; omega)) (h := ?_)
  rintro _ _ ⟨rfl, rfl⟩
  refine WL.nil (WQ.wd hnp (.inl Am.auto) ?_)
  refine WD.take (i := 6) #[true, true, true, true, true, true, true] rfl (by kernel_rfl) (Qt.assign ) ?_
  refine WD.done (by kernel_rfl) ?_
  refine WQ.next ?_
  refine WC.ret (?_)
  simp only [setS_wr (Nat.le_of_lt hlt)]
  refine WQ.to (A' := IN s a c p F0 (updM Fm d (some (2, dirB (setS sl q none)))) (W + 8) true) (fun h hh => IN.more (by show W + (has (max (dirB sl).length (64 * q + 64)) - has (dirB sl).length) + (64 + 511) / 512 + 5 ≤ W + 8; rw [hdl]; omega) h hh) ?_
  exact WQ.ret1 (h1 := .tmp (t := 6) rfl) ⟨_, ⟨rfl, rfl⟩, Am.auto⟩
end Go.Proofs.YtedmihapieleaaaGreat
end
section
namespace Go.Proofs.YtedmihapieleaaaGreat
open Go
def pN (n : Nat) : Pl := ⟨n, 16, 246, 247, 248, 250, n - 250⟩
theorem pN_is {n : Nat} (h1 : 251 ≤ n) (h2 : n ≤ 4000) : PlIs (pN n) := by
  constructor <;> simp only [pN] <;> omega
theorem root_one (j : Nat) (h : j < 1) : rootM j ≠ none := by
  have : j = 0 := by omega
  subst this
  intro hh
  cases hh
end Go.Proofs.YtedmihapieleaaaGreat
end
section
namespace Go.Proofs.YtedmihapieleaaaGreat
open Go
theorem fmtD_dk {p : Pl} {D : List Nat} {first : Nat} (hd : Dk p D) : ∀ n, (∀ v, first ≤ v → v < first + n → 245 ≤ v ∧ v < p.n) → Dk p (fmtD D first n)
  | 0, _ => hd
  | n + 1, h => (fmtD_dk hd n (fun v h1 h2 => h v h1 (by omega))).ins (h _ (by omega) (by omega)).1 (h _ (by omega) (by omega)).2
theorem fmtB_dk {p : Pl} (h : PlIs p) : Dk p (insD (fmtB p []) (p.tb + 0 / 8)) := by
  have ho := h.ok; have hlo := ho.lo; have h1 := ho.i2; have h2 := ho.tbl; have h3 := ho.apart; have h4 := ho.dat; have h5 := ho.tab; have h6 := ho.i1
  refine Dk.ins ?_ (by omega) (by omega)
  unfold fmtB
  exact fmtD_dk (fmtD_dk (Dk.nil p) _ (fun v h1 h2 => by omega)) _ (fun v h1 h2 => by omega)
theorem mkT {s a c : Nat} {p : Pl} {V0 V : Nat → Bytes} {D : List Nat} {F : FM} {i k : Nat} (ho : PlOk p) (hr : Rep p V F) (hdk : Dk p D) (hrm : Rm p D 1) (hk : k = 1 ∨ k = 2) (hi : i < p.ino) (h0 : F i = none) (hb : ∀ j < i, F j ≠ none) :
    Spec Tryz.prog 17 #[.pointer (some ⟨s, 0, none⟩), nI k] [pt s (stO c a p), pt a (alO c p), TR c p.n V0 V D true] fun G v M => v = .tuple #[nI i, .int .i64 0] ∧ M = [pt s (stO c a p), pt a (alO c p), TR c p.n V0 (svV p (setD V p.im i true) i ⟨k, 0, List.replicate 11 0⟩) (mkD p D i) true] ++ G := by
  refine (inMake (s := s) (c := c) (a := a) (V0 := V0) (V := V) (D := D) (k := k) ho hk hdk hrm).post ?_
  rintro G v M (⟨j, hj, hj0, hjb, rfl, rfl⟩ | ⟨hall, _, _⟩)
  · rw [hr.imapF hj] at hj0
    have hji : j = i := by
      rcases Nat.lt_trichotomy j i with h1 | h1 | h1
      · have := hb j h1
        cases hF : F j with
        | none => exact absurd hF this
        | some f => rw [hF] at hj0; cases hj0
      · exact h1
      · have := hjb i h1
        rw [hr.imapF hi, h0] at this
        cases this
    subst hji
    exact ⟨_, ⟨rfl, rfl⟩, fun B w hs => hs⟩
  · have := hall i hi
    rw [hr.imapF hi, h0] at this
    cases this
def DM (s0 s1 : List Slot) : FM := fun j => if j = 0 then some (2, dirB s0) else if j = 1 then some (2, dirB s1) else if j = 2 then some (1, []) else none
theorem DM_0 (s0 s1 : List Slot) : DM s0 s1 0 = some (2, dirB s0) := rfl
theorem DM_upd0 (s0 s1 t : List Slot) : updM (DM s0 s1) 0 (some (2, dirB t)) = DM t s1 := by
  funext j
  unfold updM DM
  by_cases h : j = 0
  · subst h; rfl
  · simp only [if_neg h]
theorem DM_upd1 (s0 s1 t : List Slot) : updM (DM s0 s1) 1 (some (2, dirB t)) = DM s0 t := by
  funext j
  unfold updM DM
  by_cases h : j = 1
  · subst h; rfl
  · simp only [if_neg h]
theorem DM_made : updM (updM rootM 1 (some (2, []))) 2 (some (1, [])) = DM [] [] := by
  funext j
  unfold updM rootM DM
  by_cases h2 : j = 2
  · subst h2; rfl
  · by_cases h1 : j = 1
    · subst h1; rfl
    · simp only [if_neg h1, if_neg h2]; rfl
theorem tot_DM (s0 s1 : List Slot) {n : Nat} (h : 3 ≤ n) : tot (DM s0 s1) n = has (64 * s0.length) + has (64 * s1.length) := by
  have h0 : has 0 = 0 := rfl
  have e0 : tot (DM [] []) n = 0 := by
    have a1 := tot_upd' rootM (show 1 < n by omega) (some (2, []))
    have a2 := tot_upd' (updM rootM 1 (some (2, []))) (show 2 < n by omega) (some (1, []))
    rw [DM_made] at a2
    have b1 : hasO (rootM 1) = 0 := rfl
    have b2 : hasO (updM rootM 1 (some (2, [])) 2) = 0 := rfl
    have b3 : hasO (some (2, ([] : Bytes))) = 0 := rfl
    have b4 : hasO (some (1, ([] : Bytes))) = 0 := rfl
    rw [tot_root] at a1
    omega
  have e1 := tot_upd' (DM [] []) (show 0 < n by omega) (some (2, dirB s0))
  have e2 := tot_upd' (DM s0 []) (show 1 < n by omega) (some (2, dirB s1))
  rw [DM_upd0] at e1
  rw [DM_upd1] at e2
  have b1 : hasO (DM [] [] 0) = 0 := rfl
  have b2 : hasO (DM s0 [] 1) = 0 := rfl
  have b3 : hasO (some (2, dirB s0)) = has (64 * s0.length) := by show has (dirB s0).length = _; rw [dirB_length]
  have b4 : hasO (some (2, dirB s1)) = has (64 * s1.length) := by show has (dirB s1).length = _; rw [dirB_length]
  omega
theorem l9Fresh {p : Pl} (h : PlIs p) (h16 : p.ino = 16) (h304 : p.n ≤ 304) : Spec Tryz.prog 33 #[.int .i64 (p.n : Int)] [] fun F v M => ∃ c a s, v = .tuple #[.pointer (some ⟨c, 0, none⟩), .pointer (some ⟨a, 0, none⟩), .pointer (some ⟨s, 0, none⟩), .bool true] ∧ M = IN s a c p (DM [] []) (DM [] []) 0 true :: F := by
  refine Spec.intro Tryz.func33 rfl rfl fun B F => ?_
  simp only [Tryz.ntmps33, List.cons_append, List.nil_append, env0, Nat.reduceAdd]
  have hn2 := h.n2
  have h246 : 246 ≤ p.n := by have := h.bm; have := h.m1; have := h.da; have := h.dc; have := h.d1; omega
  have hfew := fmtB_few h
  have ho := h.ok
  have hr0 := fresh_rep h
  have hd0 := fmtB_dk h
  have hr1 : Rep p (svV p (setD (freshW p) p.im 1 true) 1 ⟨2, 0, List.replicate 11 0⟩) (updM rootM 1 (some (2, []))) := hr0.made ho (by omega) (by rw [hr0.imapF (by omega)]; rfl) (.inr rfl)
  have hd1 := (mkD_ok ho hd0 (i := 1) (by omega)).1
  have hr2 : Rep p (svV p (setD (svV p (setD (freshW p) p.im 1 true) 1 ⟨2, 0, List.replicate 11 0⟩) p.im 2 true) 2 ⟨1, 0, List.replicate 11 0⟩) (DM [] []) := DM_made ▸ hr1.made ho (by omega) (by rw [hr1.imapF (by omega)]; rfl) (.inl rfl)
  have hmk := layMake h
  rw [show (p.ino : Int) = 16 from by omega] at hmk
  refine WC.seq ?_
  refine WC.region ?_
  refine WL.assign ?_
  refine WL.assign ?_
  refine WL.assign ?_
  refine WL.assign ?_
  refine WL.nil ?_
  refine WQ.next ?_
  refine WC.seq ?_
  refine WC.region ?_
  refine WL.move ?_
  refine WL.call (hc := Tryz.call40) (sp := hmk) (h := ?_)
  rintro _ _ ⟨rfl, rfl⟩
  refine WL.move ?_
  refine WL.extract ?_
  refine WL.extract ?_
  refine WL.alloc z28 fun b6 => ?_
  refine WL.stV ?_ agg28
  refine WL.to (A := pt b6 (.cells p.cells 28 (0, 0))) (A' := pt b6 (.cells p.cells 28 (0, 0))) (fun h hh => hh) ?_
  refine WL.assign ?_
  refine WL.nil ?_
  refine WQ.next ?_
  refine WC.seq ?_
  refine WC.region ?_
  refine WL.move ?_
  refine WL.call (hc := Tryz.call41) (sp := devNew (n := p.n) (by omega) hn2) (h := ?_)
  rintro _ _ ⟨d, rfl, rfl⟩
  refine WL.move ?_
  refine WL.extract ?_
  refine WL.extract ?_
  refine WL.assign ?_
  refine WL.assign ?_
  refine WL.nil ?_
  refine WQ.next ?_
  refine WC.seq ?_
  refine WC.seq ?_
  refine WC.region ?_
  refine WL.move ?_
  refine WL.nei ?_
  refine WL.move ?_
  refine WL.gT ?_
  refine WL.move ?_
  refine WL.gT ?_
  refine WL.nei ?_
  refine WL.pickF ?_
  refine WL.move ?_
  refine WL.gT ?_
  refine WL.move ?_
  refine WL.gT ?_
  refine WL.eqNil ?_ ptr76
  refine WL.pickF ?_
  refine WL.move ?_
  refine WL.gT ?_
  refine WL.move ?_
  refine WL.gT ?_
  refine WL.call (hc := Tryz.call42) (sp := jFormat (n := p.n) (t := 0) (cur := zeroD) h246 (by decide)) (h := ?_)
  rintro _ _ ⟨rfl, rfl⟩
  refine WL.gT ?_
  refine WL.nei ?_
  refine WL.pickF ?_
  refine WL.nil ?_
  refine WQ.next ?_
  refine WC.condF rfl rfl ?_
  refine WC.skip ?_
  refine WQ.next ?_
  refine WC.seq ?_
  refine WC.region ?_
  refine WL.move ?_
  refine WL.call (hc := Tryz.call43) (sp := jOpen (n := p.n) (cur := formatted zeroD) h246 hn2 formatted0 (fun i _ => formattedH _ i)) (h := ?_)
  rintro _ _ ⟨j, rfl, rfl⟩
  refine WL.move ?_
  refine WL.extract ?_
  refine WL.extract ?_
  refine WL.assign ?_
  refine WL.assign ?_
  refine WL.nil ?_
  refine WQ.next ?_
  refine WC.seq ?_
  refine WC.region ?_
  refine WL.move ?_
  refine WL.call (hc := Tryz.call44) (sp := cNew (n := p.n) h246 hn2) (h := ?_)
  rintro _ _ ⟨c, rfl, rfl⟩
  refine WL.shutR (TR.opens c p.n zeroD zeroD [] false) (j, d, ⟨⟨beNat (seg (formatted zeroD 0) 8 8 false), 0, [], formatted zeroD⟩, [], false, false⟩) ⟨rfl, (fun k h1 h2 => formattedK (by omega)), (fun k h1 h2 => formattedK (by omega)), rfl⟩ ?_
  refine WL.assign ?_
  refine WL.nil ?_
  refine WQ.next ?_
  refine WC.seq ?_
  refine WC.region ?_
  refine WL.move ?_
  refine WL.ldA ?_ agg28
  refine WL.call (hc := Tryz.call45) (sp := alNew (p := p)) (h := ?_)
  rintro _ _ ⟨a, rfl, rfl⟩
  refine WL.assign ?_
  refine WL.nil ?_
  refine WQ.next ?_
  refine WC.seq ?_
  refine WC.region ?_
  refine WL.move ?_
  refine WL.move ?_
  refine WL.ldA ?_ agg28
  refine WL.call (hc := Tryz.call46) (sp := inNew (p := p)) (h := ?_)
  rintro _ _ ⟨s, rfl, rfl⟩
  refine WL.assign ?_
  refine WL.nil ?_
  refine WQ.next ?_
  refine WC.seq ?_
  refine WC.seq ?_
  refine WC.region ?_
  refine WL.move ?_
  refine WL.nei ?_
  refine WL.move ?_
  refine WL.gT ?_
  refine WL.move ?_
  refine WL.gT ?_
  refine WL.eqNil ?_ ptr24
  refine WL.pickF ?_
  refine WL.move ?_
  refine WL.gT ?_
  refine WL.move ?_
  refine WL.gT ?_
  refine WL.eqNil ?_ ptr25
  refine WL.pickF ?_
  refine WL.move ?_
  refine WL.gT ?_
  refine WL.move ?_
  refine WL.gT ?_
  refine WL.eqNil ?_ ptr26
  refine WL.pickF ?_
  refine WL.move ?_
  refine WL.gT ?_
  refine WL.move ?_
  refine WL.gT ?_
  refine WL.call (hc := Tryz.call22) (sp := tBegin (n := p.n) (V0 := zeroD) (V := zeroD) (D := [])) (h := ?_)
  rintro _ _ ⟨rfl, rfl⟩
  refine WL.gT ?_
  refine WL.nei ?_
  refine WL.pickF ?_
  refine WL.move ?_
  refine WL.gT ?_
  refine WL.move ?_
  refine WL.gT ?_
  refine WL.call (hc := Tryz.call47) (sp := alFormat (V0 := zeroD) (V := zeroD) h.ok) (h := ?_)
  rintro _ _ ⟨rfl, rfl⟩
  simp only [List.cons_append, List.nil_append]
  refine WL.gT ?_
  refine WL.nei ?_
  refine WL.pickF ?_
  refine WL.move ?_
  refine WL.gT ?_
  refine WL.move ?_
  refine WL.gT ?_
  refine WL.call (hc := Tryz.call48) (sp := inFormat (V0 := zeroD) (V := freshV p) (D := fmtB p []) h.ok (by unfold Room; omega)) (h := ?_)
  rintro _ _ ⟨rfl, rfl⟩
  simp only [List.cons_append, List.nil_append]
  refine WL.gT ?_
  refine WL.nei ?_
  refine WL.pickF ?_
  refine WL.nil ?_
  refine WQ.next ?_
  refine WC.condF rfl rfl ?_
  refine WC.skip ?_
  refine WQ.next ?_
  refine WC.seq ?_
  refine WC.region ?_
  refine WL.move ?_
  refine WL.call (hc := Tryz.call17) (sp := mkT (p := p) (V0 := zeroD) (i := 1) (k := 2) ho hr0 hd0 (.inl h304) (.inr rfl) (by omega) rfl root_one) (h := ?_)
  rintro _ _ ⟨rfl, rfl⟩
  simp only [List.cons_append, List.nil_append]
  refine WL.move ?_
  refine WL.extract ?_
  refine WL.extract ?_
  refine WL.assign ?_
  refine WL.assign ?_
  refine WL.nil ?_
  refine WQ.next ?_
  refine WC.seq ?_
  refine WC.region ?_
  refine WL.move ?_
  refine WL.call (hc := Tryz.call17) (sp := mkT (p := p) (V0 := zeroD) (i := 2) (k := 1) ho hr1 hd1 (.inl h304) (.inl rfl) (by omega) rfl (fun j hj => by rcases (show j = 0 ∨ j = 1 by omega) with rfl | rfl <;> (intro hh; cases hh))) (h := ?_)
  rintro _ _ ⟨rfl, rfl⟩
  simp only [List.cons_append, List.nil_append]
  refine WL.move ?_
  refine WL.extract ?_
  refine WL.extract ?_
  refine WL.assign ?_
  refine WL.assign ?_
  refine WL.nil ?_
  refine WQ.next ?_
  refine WC.seq ?_
  refine WC.seq ?_
  refine WC.region ?_
  refine WL.move ?_
  refine WL.nei ?_
  refine WL.move ?_
  refine WL.gT ?_
  refine WL.move ?_
  refine WL.gT ?_
  refine WL.nei ?_
  refine WL.pickF ?_
  refine WL.move ?_
  refine WL.gT ?_
  refine WL.move ?_
  refine WL.gT ?_
  refine WL.nei ?_
  refine WL.pickF ?_
  refine WL.move ?_
  refine WL.gT ?_
  refine WL.move ?_
  refine WL.gT ?_
  refine WL.nei ?_
  refine WL.pickF ?_
  refine WL.move ?_
  refine WL.gT ?_
  refine WL.move ?_
  refine WL.gT ?_
  refine WL.call (hc := Tryz.call21) (sp := tCommit (n := p.n) (V0 := zeroD) (V := (svV p (setD (svV p (setD (freshW p) p.im 1 true) 1 ⟨2, 0, List.replicate 11 0⟩) p.im 2 true) 2 ⟨1, 0, List.replicate 11 0⟩)) (D := (mkD p (mkD p (insD (fmtB p []) (p.tb + 0 / 8)) 1) 2))) (h := ?_)
  rintro _ _ ⟨rfl, rfl⟩
  refine WL.gT ?_
  refine WL.nei ?_
  refine WL.pickF ?_
  refine WL.nil ?_
  refine WQ.next ?_
  refine WC.condF rfl rfl ?_
  refine WC.skip ?_
  refine WQ.next ?_
  refine WC.seq ?_
  refine WC.region ?_
  refine WL.move ?_
  refine WL.move ?_
  refine WL.move ?_
  refine WL.move ?_
  refine WL.call (hc := Tryz.call22) (sp := tBegin (n := p.n) (V0 := (svV p (setD (svV p (setD (freshW p) p.im 1 true) 1 ⟨2, 0, List.replicate 11 0⟩) p.im 2 true) 2 ⟨1, 0, List.replicate 11 0⟩)) (V := (svV p (setD (svV p (setD (freshW p) p.im 1 true) 1 ⟨2, 0, List.replicate 11 0⟩) p.im 2 true) 2 ⟨1, 0, List.replicate 11 0⟩)) (D := [])) (h := ?_)
  rintro _ _ ⟨rfl, rfl⟩
  refine WL.shutR (IN.opens s a c p (DM [] []) (DM [] []) 0 true) ((svV p (setD (svV p (setD (freshW p) p.im 1 true) 1 ⟨2, 0, List.replicate 11 0⟩) p.im 2 true) 2 ⟨1, 0, List.replicate 11 0⟩), (svV p (setD (svV p (setD (freshW p) p.im 1 true) 1 ⟨2, 0, List.replicate 11 0⟩) p.im 2 true) 2 ⟨1, 0, List.replicate 11 0⟩), []) ⟨hr2, hr2, Dk.nil p, Nat.zero_le _⟩ ?_
  refine WL.eqi ?_
  refine WL.assign ?_
  refine WL.assign ?_
  refine WL.assign ?_
  refine WL.assign ?_
  refine WL.nil ?_
  refine WQ.next ?_
  refine WC.ret (?_)
  exact WQ.ret4 (h1 := .tmp (t := 2) rfl) (h2 := .tmp (t := 3) rfl) (h3 := .tmp (t := 4) rfl) (h4 := .tmp (t := 5) rfl) ⟨_, ⟨c, a, s, rfl, rfl⟩, Am.auto⟩
end Go.Proofs.YtedmihapieleaaaGreat
end
section
namespace Go.Proofs.YtedmihapieleaaaGreat
open Go
theorem l9Awake : Spec Tryz.prog 32 #[] [] fun F v M => v = .bool true ∧ M = F := by
  refine Spec.intro Tryz.func32 rfl rfl fun B F => ?_
  simp only [Tryz.ntmps32, List.cons_append, List.nil_append, env0, Nat.reduceAdd]
  have hpn : PlIs (pN 300) := pN_is (by decide) (by decide)
  have ho : PlOk (pN 300) := hpn.ok
  have hd1 : DirOk [some ([97], 5)] := DirOk.nil.set (q := 0) (n := [97]) (i := 5) (Nat.le_refl _) (by decide) (by decide) (by intro r j hr h; simp at h)
  have hd2 : DirOk [some ([97], 5), some ([98], 6)] := hd1.set (q := 1) (n := [98]) (i := 6) (by decide) (by decide) (by decide) (by intro r j hr h; rcases r with _ | r <;> simp at h)
  have hd3 : DirOk [none, some ([98], 6)] := hd2.gone (q := 0) (by decide)
  have hd4 : DirOk [some ([99], 7), some ([98], 6)] := hd3.set (q := 0) (n := [99]) (i := 7) (by decide) (by decide) (by decide) (by intro r j hr h; rcases r with _ | _ | r <;> simp at h)
  refine WC.seq ?_
  refine WC.region ?_
  refine WL.assign ?_
  refine WL.nil ?_
  refine WQ.next ?_
  refine WC.seq ?_
  refine WC.region ?_
  refine WL.call (hc := Tryz.call33) (sp := l9Fresh (p := pN 300) (pN_is (n := 300) (by decide) (by decide)) rfl (by decide)) (h := ?_)
  rintro _ _ ⟨c, a, s, rfl, rfl⟩
  refine WL.move ?_
  refine WL.extract ?_
  refine WL.extract ?_
  refine WL.extract ?_
  refine WL.extract ?_
  refine WL.assign ?_
  refine WL.assign ?_
  refine WL.assign ?_
  refine WL.assign ?_
  refine WL.nil ?_
  refine WQ.next ?_
  refine WC.seq ?_
  refine WC.seq ?_
  refine WC.region ?_
  refine WL.move ?_
  refine WL.not ?_
  refine WL.move ?_
  refine WL.gT ?_
  refine WL.move ?_
  refine WL.gT ?_
  refine WL.call (hc := Tryz.call34) (sp := dAdd (s := s) (a := a) (c := c) (p := pN 300) (F0 := DM [] []) (Fm := DM [] []) (W := 0) (d := 0) (nm := [97]) (sl := []) ho rfl (DM_0 _ _) DirOk.nil (by decide) (by intro q i h; rcases q with _ | _ | q <;> simp at h) (i := 5) (by decide) (.inl (by decide)) (by decide) (by rw [tot_DM _ _ (by decide)]; decide)) (h := ?_)
  rintro _ _ ⟨rfl, rfl⟩
  rw [DM_upd0, show setS [] (freeS []) (some ([97], 5)) = [some ([97], 5)] from rfl]
  refine WL.gT ?_
  refine WL.nei ?_
  refine WL.pickF ?_
  refine WL.move ?_
  refine WL.gT ?_
  refine WL.move ?_
  refine WL.gT ?_
  refine WL.call (hc := Tryz.call34) (sp := dAdd (s := s) (a := a) (c := c) (p := pN 300) (F0 := DM [] []) (Fm := DM [some ([97], 5)] []) (W := 0 + 8) (d := 0) (nm := [98]) (sl := [some ([97], 5)]) ho rfl (DM_0 _ _) hd1 (by decide) (by intro q i h; rcases q with _ | _ | q <;> simp at h) (i := 6) (by decide) (.inl (by decide)) (by decide) (by rw [tot_DM _ _ (by decide)]; decide)) (h := ?_)
  rintro _ _ ⟨rfl, rfl⟩
  rw [DM_upd0, show setS [some ([97], 5)] (freeS [some ([97], 5)]) (some ([98], 6)) = [some ([97], 5), some ([98], 6)] from rfl]
  refine WL.gT ?_
  refine WL.nei ?_
  refine WL.pickF ?_
  refine WL.move ?_
  refine WL.gT ?_
  refine WL.move ?_
  refine WL.gT ?_
  refine WL.call (hc := Tryz.call38) (sp := dRemove (s := s) (a := a) (c := c) (p := pN 300) (F0 := DM [] []) (Fm := DM [some ([97], 5), some ([98], 6)] []) (W := 0 + 8 + 8) (d := 0) (nm := [97]) (sl := [some ([97], 5), some ([98], 6)]) (q := 0) (j := 5) ho rfl (DM_0 _ _) hd2 (by decide) rfl (.inl (by decide)) (by rw [tot_DM _ _ (by decide)]; decide)) (h := ?_)
  rintro _ _ ⟨rfl, rfl⟩
  rw [DM_upd0, show setS [some ([97], 5), some ([98], 6)] 0 none = [none, some ([98], 6)] from rfl]
  refine WL.gT ?_
  refine WL.nei ?_
  refine WL.pickF ?_
  refine WL.move ?_
  refine WL.gT ?_
  refine WL.move ?_
  refine WL.gT ?_
  refine WL.call (hc := Tryz.call34) (sp := dAdd (s := s) (a := a) (c := c) (p := pN 300) (F0 := DM [] []) (Fm := DM [none, some ([98], 6)] []) (W := 0 + 8 + 8 + 8) (d := 0) (nm := [99]) (sl := [none, some ([98], 6)]) ho rfl (DM_0 _ _) hd3 (by decide) (by intro q i h; rcases q with _ | _ | q <;> simp at h) (i := 7) (by decide) (.inl (by decide)) (by decide) (by rw [tot_DM _ _ (by decide)]; decide)) (h := ?_)
  rintro _ _ ⟨rfl, rfl⟩
  rw [DM_upd0, show setS [none, some ([98], 6)] (freeS [none, some ([98], 6)]) (some ([99], 7)) = [some ([99], 7), some ([98], 6)] from rfl]
  refine WL.gT ?_
  refine WL.nei ?_
  refine WL.pickF ?_
  refine WL.nil ?_
  refine WQ.next ?_
  refine WC.condF rfl rfl ?_
  refine WC.skip ?_
  refine WQ.next ?_
  refine WC.seq ?_
  refine WC.region ?_
  refine WL.move ?_
  refine WL.call (hc := Tryz.call29) (sp := nStat (s := s) (a := a) (c := c) (p := pN 300) (F0 := DM [] []) (F := DM [some ([99], 7), some ([98], 6)] []) (W := 0 + 8 + 8 + 8 + 8) (op := true) (i := 0) (f := (2, dirB [some ([99], 7), some ([98], 6)])) ho (DM_0 _ _)) (h := ?_)
  rintro _ _ ⟨rfl, rfl⟩
  refine WL.move ?_
  refine WL.extract ?_
  refine WL.extract ?_
  refine WL.alloc z55 fun b5 => ?_
  refine WL.stV ?_ agg55
  refine WL.assign ?_
  refine WL.nil ?_
  refine WQ.next ?_
  refine WC.seq ?_
  refine WC.region ?_
  refine WL.move ?_
  refine WL.call (hc := Tryz.call37) (sp := dFind (s := s) (a := a) (c := c) (p := pN 300) (F0 := DM [] []) (Fm := DM [some ([99], 7), some ([98], 6)] []) (W := 0 + 8 + 8 + 8 + 8) (op := true) (d := 0) (nm := [99]) (sl := [some ([99], 7), some ([98], 6)]) (q := 0) (j := 7) ho rfl (DM_0 _ _) hd4 (by decide) rfl) (h := ?_)
  rintro _ _ ⟨rfl, rfl⟩
  refine WL.move ?_
  refine WL.extract ?_
  refine WL.extract ?_
  refine WL.assign ?_
  refine WL.assign ?_
  refine WL.nil ?_
  refine WQ.next ?_
  refine WC.seq ?_
  refine WC.region ?_
  refine WL.move ?_
  refine WL.eqi ?_
  refine WL.move ?_
  refine WL.gT ?_
  refine WL.move ?_
  refine WL.gT ?_
  refine WL.eqi ?_
  refine WL.pickT ?_
  refine WL.move ?_
  refine WL.gT ?_
  refine WL.fa ?_ fo55_1
  refine WL.gT ?_
  refine WL.ld ?_ sc3
  refine WL.cast (d := 55) (u := .int .i64 128) rfl (congrArg (Value.int .i64) (by show ((dirB [some ([99], 7), some ([98], 6)]).length : Int) = 128; rw [dirB_length]; rfl)) ?_
  refine WL.gT ?_
  refine WL.eqi ?_
  refine WL.pickT ?_
  refine WL.move ?_
  refine WL.gT ?_
  refine WL.move ?_
  refine WL.gT ?_
  refine WL.eqi ?_
  refine WL.pickT ?_
  refine WL.move ?_
  refine WL.gT ?_
  refine WL.call (hc := Tryz.call30) (sp := dName (xs := [97])) (h := ?_)
  rintro _ _ ⟨rfl, rfl⟩
  refine WL.pickT ?_
  refine WL.move ?_
  refine WL.gT ?_
  refine WL.call (hc := Tryz.call30) (sp := dName (xs := [46, 46])) (h := ?_)
  rintro _ _ ⟨rfl, rfl⟩
  refine WL.gT ?_
  refine WL.not ?_
  refine WL.pickT ?_
  refine WL.assign ?_
  refine WL.nil ?_
  refine WQ.next ?_
  refine WC.ret (?_)
  exact WQ.ret1 (h1 := .tmp (t := 0) rfl) ⟨_, ⟨rfl, rfl⟩, Am.auto⟩
end Go.Proofs.YtedmihapieleaaaGreat
end
section
namespace Go.Proofs.YtedmihapieleaaaGreat
open Go
open Go.Shelf Go.Sort Go.RowKit
theorem dListE {s a c : Nat} {p : Pl} {F0 Fm : FM} {W : Nat} {op : Bool} {d e : Int} (ho : PlOk p) (he : FindErr [97] Fm d e) (he0 : e ≠ 0) :
    Spec Tryz.prog 39 #[.pointer (some ⟨s, 0, none⟩), .int .i64 d] [IN s a c p F0 Fm W op] fun G v M => v = .tuple #[.slice none 0 0, .int .i64 e] ∧ M = IN s a c p F0 Fm W op :: G := by
  refine Spec.intro Tryz.func39 rfl rfl fun B F => ?_
  simp only [Tryz.ntmps39, List.cons_append, List.nil_append, env0, Nat.reduceAdd]
  refine WC.seq ?_
  refine WC.region ?_
  refine WL.assign ?_
  refine WL.assign ?_
  refine WL.nil ?_
  refine WQ.next ?_
  refine WC.seq ?_
  refine WC.region ?_
  refine WL.move ?_
  refine WL.move ?_
  refine WL.call (hc := Tryz.call73) (sp := dNamesErr (s := s) (a := a) (c := c) (p := p) (F0 := F0) (Fm := Fm) (W := W) (d := d) (op := op) (nm := [97]) ho rfl he) (h := ?_)
  rintro _ _ ⟨rfl, rfl⟩
  refine WL.move ?_
  refine WL.extract ?_
  refine WL.extract ?_
  refine WL.extract ?_
  refine WL.assign ?_
  refine WL.assign ?_
  refine WL.assign ?_
  refine WL.nil ?_
  refine WQ.next ?_
  refine WC.seq ?_
  refine WC.seq ?_
  refine WC.region ?_
  refine WL.move ?_
  refine WL.nei ?_
  refine WL.nil ?_
  refine WQ.next ?_
  refine WC.condT rfl (congrArg Value.bool (by first | (simp; done) | (simp; omega) | omega)) ?_
  refine WC.seq ?_
  refine WC.region ?_
  refine WL.move ?_
  refine WL.assign ?_
  refine WL.assign ?_
  refine WL.nil ?_
  refine WQ.next ?_
  refine WC.ret (WQ.thenRet (?_))
  exact WQ.ret2 (h1 := .tmp (t := 4) rfl) (h2 := .tmp (t := 5) rfl) ⟨_, ⟨rfl, rfl⟩, Am.auto⟩
end Go.Proofs.YtedmihapieleaaaGreat
end
section
namespace Go.Proofs.YtedmihapieleaaaGreat
open Go
theorem z72 : zeroOf Tryz.prog 72 = some (#[.int .i64 0, .int .i64 0, .int .i64 0]) := by kernel_rfl
theorem agg72 : aggOk Tryz.prog 72 3 = true := by kernel_rfl
theorem z73 : zeroOf Tryz.prog 73 = some (#[.int .i64 0, .int .i64 0, .int .i64 0]) := by kernel_rfl
theorem agg73 : aggOk Tryz.prog 73 3 = true := by kernel_rfl
theorem ar72 : arrOk Tryz.prog 72 35 3 1 = true := by kernel_rfl
theorem ar73 : arrOk Tryz.prog 73 3 3 1 = true := by kernel_rfl
theorem bdW3 (v0 v1 v2 : Int) : BuildOk Tryz.prog 72 [(0, .int .i64 v0), (1, .int .i64 v1), (2, .int .i64 v2)] #[.int .i64 v0, .int .i64 v1, .int .i64 v2] := fun w => by kernel_rfl
theorem bdI3 (v0 v1 v2 : Int) : BuildOk Tryz.prog 73 [(0, .int .i64 v0), (1, .int .i64 v1), (2, .int .i64 v2)] #[.int .i64 v0, .int .i64 v1, .int .i64 v2] := fun w => by kernel_rfl
theorem kindsErr (nm : Bytes) (hn : nameOk nm = true) : FindErr nm (DM [] []) 2 6 ∧ FindErr nm (DM [] []) 9 4 ∧ FindErr nm (DM [] []) (-1) 4 :=
  ⟨.inr (.inr ⟨hn, ⟨1, [], by decide, rfl, by decide⟩, rfl⟩), .inr (.inl ⟨hn, rfl, rfl⟩), .inr (.inl ⟨hn, rfl, rfl⟩)⟩
set_option maxRecDepth 8000 in
theorem lawKinds {nm : Bytes} {i : Int} (hi : -9223372036854775808 ≤ i ∧ i ≤ 9223372036854775807) : Spec Tryz.prog 14 #[sv nm, .int .i64 i] [] fun F v M => v = .bool true ∧ M = F := by
  refine Spec.intro Tryz.func14 rfl rfl fun B F => ?_
  simp only [Tryz.ntmps14, List.cons_append, List.nil_append, env0, Nat.reduceAdd]
  rcases (show 300 < nm.length ∨ (¬ 300 < nm.length ∧ i < 0) ∨ (¬ 300 < nm.length ∧ 0 ≤ i ∧ 15 < i) ∨ (¬ 300 < nm.length ∧ 0 ≤ i ∧ i ≤ 15) from by omega) with hc | hc | hc | hc
  · refine WC.seq ?_
    refine WC.region ?_
    refine WL.assign ?_
    refine WL.nil ?_
    refine WQ.next ?_
    refine WC.seq ?_
    refine WC.seq ?_
    refine WC.region ?_
    refine WL.move ?_
    refine WL.lenT _ ?_ st9
    refine WL.gtr ?_
    refine WL.move ?_
    refine WL.cast (d := 20) (u := .bool true) rfl (congrArg Value.bool (by first | (simp; done) | (simp; omega) | omega)) ?_
    refine WL.gF ?_
    refine WL.gF ?_
    refine WL.pickT ?_
    refine WL.move ?_
    refine WL.gF ?_
    refine WL.gF ?_
    refine WL.pickT ?_
    refine WL.nil ?_
    refine WQ.next ?_
    refine WC.condT rfl rfl ?_
    refine WC.seq ?_
    refine WC.region ?_
    refine WL.call (hc := Tryz.call32) (sp := l9Awake) (h := ?_)
    rintro _ _ ⟨rfl, rfl⟩
    refine WL.assign ?_
    refine WL.nil ?_
    refine WQ.next ?_
    refine WC.ret (WQ.thenRet (?_))
    exact WQ.ret1 (h1 := .tmp (t := 4) rfl) ⟨_, ⟨rfl, rfl⟩, Am.auto⟩
  · refine WC.seq ?_
    refine WC.region ?_
    refine WL.assign ?_
    refine WL.nil ?_
    refine WQ.next ?_
    refine WC.seq ?_
    refine WC.seq ?_
    refine WC.region ?_
    refine WL.move ?_
    refine WL.lenT _ ?_ st9
    refine WL.gtr ?_
    refine WL.move ?_
    refine WL.cast (d := 20) (u := .bool false) rfl (congrArg Value.bool (by first | (simp; done) | (simp; omega) | omega)) ?_
    refine WL.gT ?_
    refine WL.move ?_
    refine WL.gT ?_
    refine WL.lss ?_
    refine WL.pickF ?_
    refine WL.move ?_
    refine WL.cast (d := 24) (u := .bool true) rfl (congrArg Value.bool (by first | (simp; done) | (simp; omega) | omega)) ?_
    refine WL.gF ?_
    refine WL.gF ?_
    refine WL.pickT ?_
    refine WL.nil ?_
    refine WQ.next ?_
    refine WC.condT rfl rfl ?_
    refine WC.seq ?_
    refine WC.region ?_
    refine WL.call (hc := Tryz.call32) (sp := l9Awake) (h := ?_)
    rintro _ _ ⟨rfl, rfl⟩
    refine WL.assign ?_
    refine WL.nil ?_
    refine WQ.next ?_
    refine WC.ret (WQ.thenRet (?_))
    exact WQ.ret1 (h1 := .tmp (t := 4) rfl) ⟨_, ⟨rfl, rfl⟩, Am.auto⟩
  · refine WC.seq ?_
    refine WC.region ?_
    refine WL.assign ?_
    refine WL.nil ?_
    refine WQ.next ?_
    refine WC.seq ?_
    refine WC.seq ?_
    refine WC.region ?_
    refine WL.move ?_
    refine WL.lenT _ ?_ st9
    refine WL.gtr ?_
    refine WL.move ?_
    refine WL.cast (d := 20) (u := .bool false) rfl (congrArg Value.bool (by first | (simp; done) | (simp; omega) | omega)) ?_
    refine WL.gT ?_
    refine WL.move ?_
    refine WL.gT ?_
    refine WL.lss ?_
    refine WL.pickF ?_
    refine WL.move ?_
    refine WL.cast (d := 24) (u := .bool false) rfl (congrArg Value.bool (by first | (simp; done) | (simp; omega) | omega)) ?_
    refine WL.gT ?_
    refine WL.move ?_
    refine WL.gT ?_
    refine WL.gtr ?_
    refine WL.pickF ?_
    refine WL.nil ?_
    refine WQ.next ?_
    refine WC.condT rfl (congrArg Value.bool (by first | (simp; done) | (simp; omega) | omega)) ?_
    refine WC.seq ?_
    refine WC.region ?_
    refine WL.call (hc := Tryz.call32) (sp := l9Awake) (h := ?_)
    rintro _ _ ⟨rfl, rfl⟩
    refine WL.assign ?_
    refine WL.nil ?_
    refine WQ.next ?_
    refine WC.ret (WQ.thenRet (?_))
    exact WQ.ret1 (h1 := .tmp (t := 4) rfl) ⟨_, ⟨rfl, rfl⟩, Am.auto⟩
  · have hpn : PlIs (pN 300) := pN_is (by decide) (by decide)
    have ho : PlOk (pN 300) := hpn.ok
    have hk := kindsErr [97] rfl
    cases hn : nameOk nm
    · refine WC.seq ?_
      refine WC.region ?_
      refine WL.assign ?_
      refine WL.nil ?_
      refine WQ.next ?_
      refine WC.seq ?_
      refine WC.seq ?_
      refine WC.region ?_
      refine WL.move ?_
      refine WL.lenT _ ?_ st9
      refine WL.gtr ?_
      refine WL.move ?_
      refine WL.cast (d := 20) (u := .bool false) rfl (congrArg Value.bool (by first | (simp; done) | (simp; omega) | omega)) ?_
      refine WL.gT ?_
      refine WL.move ?_
      refine WL.gT ?_
      refine WL.lss ?_
      refine WL.pickF ?_
      refine WL.move ?_
      refine WL.cast (d := 24) (u := .bool false) rfl (congrArg Value.bool (by first | (simp; done) | (simp; omega) | omega)) ?_
      refine WL.gT ?_
      refine WL.move ?_
      refine WL.gT ?_
      refine WL.gtr ?_
      refine WL.pickF ?_
      refine WL.nil ?_
      refine WQ.next ?_
      refine WC.condF rfl (congrArg Value.bool (by first | (simp; done) | (simp; omega) | omega)) ?_
      refine WC.skip ?_
      refine WQ.next ?_
      refine WC.seq ?_
      refine WC.region ?_
      refine WL.call (hc := Tryz.call33) (sp := l9Fresh (p := pN 300) (pN_is (n := 300) (by decide) (by decide)) rfl (by decide)) (h := ?_)
      rintro _ _ ⟨c, a, s, rfl, rfl⟩
      refine WL.move ?_
      refine WL.extract ?_
      refine WL.extract ?_
      refine WL.extract ?_
      refine WL.extract ?_
      refine WL.assign ?_
      refine WL.assign ?_
      refine WL.assign ?_
      refine WL.assign ?_
      refine WL.nil ?_
      refine WQ.next ?_
      refine WC.seq ?_
      refine WC.seq ?_
      refine WC.region ?_
      refine WL.move ?_
      refine WL.not ?_
      refine WL.nil ?_
      refine WQ.next ?_
      refine WC.condF rfl rfl ?_
      refine WC.skip ?_
      refine WQ.next ?_
      refine WC.seq ?_
      refine WC.region ?_
      refine WL.build ?_ (bdW3 _ _ _)
      refine WL.alloc z72 fun b9 => ?_
      refine WL.stV ?_ agg72
      refine WL.nil ?_
      refine WQ.next ?_
      refine WC.seq ?_
      refine WC.region ?_
      refine WL.build ?_ (bdI3 _ _ _)
      refine WL.alloc z73 fun b10 => ?_
      refine WL.stV ?_ agg73
      refine WL.nil ?_
      refine WQ.next ?_
      refine WC.seq ?_
      refine WC.seq ?_
      refine WC.region ?_
      refine WL.assign ?_
      refine WL.nil ?_
      refine WQ.next ?_
      refine WC.block ?_
      refine WC.loopN 4 (RC.succ ?_)
      refine WC.seq ?_
      refine WC.seq ?_
      refine WC.region ?_
      refine WL.move ?_
      refine WL.lss ?_
      refine WL.nil ?_
      refine WQ.next ?_
      refine WC.condT rfl rfl ?_
      refine WC.skip ?_
      refine WQ.next ?_
      refine WC.seq ?_
      refine WC.block ?_
      refine WC.seq ?_
      refine WC.region ?_
      refine WL.move ?_
      refine WL.idxA ?_ ar72
      refine WL.ld ?_ sc35
      refine WL.assign ?_
      refine WL.nil ?_
      refine WQ.next ?_
      refine WC.seq ?_
      refine WC.region ?_
      refine WL.move ?_
      refine WL.move ?_
      refine WL.idxA ?_ ar73
      refine WL.ld ?_ sc3
      refine WL.call (hc := Tryz.call39) (sp := dListE (s := s) (a := a) (c := c) (p := pN 300) (F0 := DM [] []) (Fm := DM [] []) (W := 0) (d := 2) (op := true) (e := 6) ho hk.1 (by decide)) (h := ?_)
      rintro _ _ ⟨rfl, rfl⟩
      refine WL.move ?_
      refine WL.extract ?_
      refine WL.extract ?_
      refine WL.assign ?_
      refine WL.assign ?_
      refine WL.nil ?_
      refine WQ.next ?_
      refine WC.seq ?_
      refine WC.seq ?_
      refine WC.region ?_
      refine WL.move ?_
      refine WL.move ?_
      refine WL.nei ?_
      refine WL.nil ?_
      refine WQ.next ?_
      refine WC.condF rfl rfl ?_
      refine WC.skip ?_
      refine WQ.next ?_
      refine WC.seq ?_
      refine WC.seq ?_
      refine WC.region ?_
      refine WL.move ?_
      refine WL.call (hc := Tryz.call30) (sp := dName (xs := nm)) (h := ?_)
      rintro _ _ ⟨rfl, rfl⟩
      rw [hn]
      refine WL.not ?_
      refine WL.nil ?_
      refine WQ.next ?_
      refine WC.condT rfl rfl ?_
      refine WC.region ?_
      refine WL.assign ?_
      refine WL.nil ?_
      refine WQ.next ?_
      refine WC.seq ?_
      refine WC.region ?_
      refine WL.move ?_
      refine WL.move ?_
      refine WL.idxA ?_ ar73
      refine WL.ld ?_ sc3
      refine WL.move ?_
      refine WL.call (hc := Tryz.call37) (sp := dFindE (s := s) (a := a) (c := c) (p := pN 300) (F0 := DM [] []) (Fm := DM [] []) (W := 0) (d := 2) (op := true) (nm := nm) (e := 1) ho (.inl ⟨hn, rfl⟩) (by decide)) (h := ?_)
      rintro _ _ ⟨rfl, rfl⟩
      refine WL.move ?_
      refine WL.extract ?_
      refine WL.extract ?_
      refine WL.assign ?_
      refine WL.assign ?_
      refine WL.nil ?_
      refine WQ.next ?_
      refine WC.seq ?_
      refine WC.region ?_
      refine WL.move ?_
      refine WL.move ?_
      refine WL.nei ?_
      refine WL.move ?_
      refine WL.gT ?_
      refine WL.move ?_
      refine WL.gT ?_
      refine WL.move ?_
      refine WL.gT ?_
      refine WL.idxA ?_ ar73
      refine WL.gT ?_
      refine WL.ld ?_ sc3
      refine WL.gT ?_
      refine WL.move ?_
      refine WL.gT ?_
      refine WL.move ?_
      refine WL.gT ?_
      refine WL.call (hc := Tryz.call34) (sp := dAddE (s := s) (a := a) (c := c) (p := pN 300) (F0 := DM [] []) (Fm := DM [] []) (W := 0) (d := 2) (op := true) (nm := nm) (e := 1) (i := .int .i64 i) ho (.inr ⟨rfl, (.inl ⟨hn, rfl⟩)⟩) (by decide)) (h := ?_)
      rintro _ _ ⟨rfl, rfl⟩
      refine WL.gT ?_
      refine WL.move ?_
      refine WL.gT ?_
      refine WL.nei ?_
      refine WL.pickF ?_
      refine WL.move ?_
      refine WL.gT ?_
      refine WL.move ?_
      refine WL.gT ?_
      refine WL.move ?_
      refine WL.gT ?_
      refine WL.idxA ?_ ar73
      refine WL.gT ?_
      refine WL.ld ?_ sc3
      refine WL.gT ?_
      refine WL.move ?_
      refine WL.gT ?_
      refine WL.call (hc := Tryz.call38) (sp := dRemoveE (s := s) (a := a) (c := c) (p := pN 300) (F0 := DM [] []) (Fm := DM [] []) (W := 0) (d := 2) (op := true) (nm := nm) (e := 1) (i := .int .i64 i) ho (.inr ⟨rfl, (.inl ⟨hn, rfl⟩)⟩) (by decide)) (h := ?_)
      rintro _ _ ⟨rfl, rfl⟩
      refine WL.gT ?_
      refine WL.move ?_
      refine WL.gT ?_
      refine WL.nei ?_
      refine WL.pickF ?_
      refine WL.move ?_
      refine WL.gT ?_
      refine WL.move ?_
      refine WL.gT ?_
      refine WL.move ?_
      refine WL.gT ?_
      refine WL.idxA ?_ ar73
      refine WL.gT ?_
      refine WL.ld ?_ sc3
      refine WL.gT ?_
      refine WL.move ?_
      refine WL.gT ?_
      refine WL.move ?_
      refine WL.gT ?_
      refine WL.call (hc := Tryz.call36) (sp := dMoveE (s := s) (a := a) (c := c) (p := pN 300) (F0 := DM [] []) (Fm := DM [] []) (W := 0) (d := 2) (op := true) (nm := nm) (e := 1) (i := .int .i64 i) ho (.inr ⟨rfl, (.inl ⟨hn, rfl⟩)⟩) (by decide)) (h := ?_)
      rintro _ _ ⟨rfl, rfl⟩
      refine WL.gT ?_
      refine WL.move ?_
      refine WL.gT ?_
      refine WL.nei ?_
      refine WL.pickF ?_
      refine WL.nil ?_
      refine WQ.next ?_
      refine WC.condF rfl rfl ?_
      refine WC.skip ?_
      refine WQ.blockNormal ?_
      refine WQ.next ?_
      refine WC.region ?_
      refine WL.move ?_
      refine WL.add ?_
      refine WL.assign ?_
      refine WL.nil ?_
      refine WQ.again (RC.succ ?_)
      refine WC.seq ?_
      refine WC.seq ?_
      refine WC.region ?_
      refine WL.move ?_
      refine WL.lss ?_
      refine WL.nil ?_
      refine WQ.next ?_
      refine WC.condT rfl rfl ?_
      refine WC.skip ?_
      refine WQ.next ?_
      refine WC.seq ?_
      refine WC.block ?_
      refine WC.seq ?_
      refine WC.region ?_
      refine WL.move ?_
      refine WL.idxA ?_ ar72
      refine WL.ld ?_ sc35
      refine WL.assign ?_
      refine WL.nil ?_
      refine WQ.next ?_
      refine WC.seq ?_
      refine WC.region ?_
      refine WL.move ?_
      refine WL.move ?_
      refine WL.idxA ?_ ar73
      refine WL.ld ?_ sc3
      refine WL.call (hc := Tryz.call39) (sp := dListE (s := s) (a := a) (c := c) (p := pN 300) (F0 := DM [] []) (Fm := DM [] []) (W := 0) (d := 9) (op := true) (e := 4) ho hk.2.1 (by decide)) (h := ?_)
      rintro _ _ ⟨rfl, rfl⟩
      refine WL.move ?_
      refine WL.extract ?_
      refine WL.extract ?_
      refine WL.assign ?_
      refine WL.assign ?_
      refine WL.nil ?_
      refine WQ.next ?_
      refine WC.seq ?_
      refine WC.seq ?_
      refine WC.region ?_
      refine WL.move ?_
      refine WL.move ?_
      refine WL.nei ?_
      refine WL.nil ?_
      refine WQ.next ?_
      refine WC.condF rfl rfl ?_
      refine WC.skip ?_
      refine WQ.next ?_
      refine WC.seq ?_
      refine WC.seq ?_
      refine WC.region ?_
      refine WL.move ?_
      refine WL.call (hc := Tryz.call30) (sp := dName (xs := nm)) (h := ?_)
      rintro _ _ ⟨rfl, rfl⟩
      rw [hn]
      refine WL.not ?_
      refine WL.nil ?_
      refine WQ.next ?_
      refine WC.condT rfl rfl ?_
      refine WC.region ?_
      refine WL.assign ?_
      refine WL.nil ?_
      refine WQ.next ?_
      refine WC.seq ?_
      refine WC.region ?_
      refine WL.move ?_
      refine WL.move ?_
      refine WL.idxA ?_ ar73
      refine WL.ld ?_ sc3
      refine WL.move ?_
      refine WL.call (hc := Tryz.call37) (sp := dFindE (s := s) (a := a) (c := c) (p := pN 300) (F0 := DM [] []) (Fm := DM [] []) (W := 0) (d := 9) (op := true) (nm := nm) (e := 1) ho (.inl ⟨hn, rfl⟩) (by decide)) (h := ?_)
      rintro _ _ ⟨rfl, rfl⟩
      refine WL.move ?_
      refine WL.extract ?_
      refine WL.extract ?_
      refine WL.assign ?_
      refine WL.assign ?_
      refine WL.nil ?_
      refine WQ.next ?_
      refine WC.seq ?_
      refine WC.region ?_
      refine WL.move ?_
      refine WL.move ?_
      refine WL.nei ?_
      refine WL.move ?_
      refine WL.gT ?_
      refine WL.move ?_
      refine WL.gT ?_
      refine WL.move ?_
      refine WL.gT ?_
      refine WL.idxA ?_ ar73
      refine WL.gT ?_
      refine WL.ld ?_ sc3
      refine WL.gT ?_
      refine WL.move ?_
      refine WL.gT ?_
      refine WL.move ?_
      refine WL.gT ?_
      refine WL.call (hc := Tryz.call34) (sp := dAddE (s := s) (a := a) (c := c) (p := pN 300) (F0 := DM [] []) (Fm := DM [] []) (W := 0) (d := 9) (op := true) (nm := nm) (e := 1) (i := .int .i64 i) ho (.inr ⟨rfl, (.inl ⟨hn, rfl⟩)⟩) (by decide)) (h := ?_)
      rintro _ _ ⟨rfl, rfl⟩
      refine WL.gT ?_
      refine WL.move ?_
      refine WL.gT ?_
      refine WL.nei ?_
      refine WL.pickF ?_
      refine WL.move ?_
      refine WL.gT ?_
      refine WL.move ?_
      refine WL.gT ?_
      refine WL.move ?_
      refine WL.gT ?_
      refine WL.idxA ?_ ar73
      refine WL.gT ?_
      refine WL.ld ?_ sc3
      refine WL.gT ?_
      refine WL.move ?_
      refine WL.gT ?_
      refine WL.call (hc := Tryz.call38) (sp := dRemoveE (s := s) (a := a) (c := c) (p := pN 300) (F0 := DM [] []) (Fm := DM [] []) (W := 0) (d := 9) (op := true) (nm := nm) (e := 1) (i := .int .i64 i) ho (.inr ⟨rfl, (.inl ⟨hn, rfl⟩)⟩) (by decide)) (h := ?_)
      rintro _ _ ⟨rfl, rfl⟩
      refine WL.gT ?_
      refine WL.move ?_
      refine WL.gT ?_
      refine WL.nei ?_
      refine WL.pickF ?_
      refine WL.move ?_
      refine WL.gT ?_
      refine WL.move ?_
      refine WL.gT ?_
      refine WL.move ?_
      refine WL.gT ?_
      refine WL.idxA ?_ ar73
      refine WL.gT ?_
      refine WL.ld ?_ sc3
      refine WL.gT ?_
      refine WL.move ?_
      refine WL.gT ?_
      refine WL.move ?_
      refine WL.gT ?_
      refine WL.call (hc := Tryz.call36) (sp := dMoveE (s := s) (a := a) (c := c) (p := pN 300) (F0 := DM [] []) (Fm := DM [] []) (W := 0) (d := 9) (op := true) (nm := nm) (e := 1) (i := .int .i64 i) ho (.inr ⟨rfl, (.inl ⟨hn, rfl⟩)⟩) (by decide)) (h := ?_)
      rintro _ _ ⟨rfl, rfl⟩
      refine WL.gT ?_
      refine WL.move ?_
      refine WL.gT ?_
      refine WL.nei ?_
      refine WL.pickF ?_
      refine WL.nil ?_
      refine WQ.next ?_
      refine WC.condF rfl rfl ?_
      refine WC.skip ?_
      refine WQ.blockNormal ?_
      refine WQ.next ?_
      refine WC.region ?_
      refine WL.move ?_
      refine WL.add ?_
      refine WL.assign ?_
      refine WL.nil ?_
      refine WQ.again (RC.succ ?_)
      refine WC.seq ?_
      refine WC.seq ?_
      refine WC.region ?_
      refine WL.move ?_
      refine WL.lss ?_
      refine WL.nil ?_
      refine WQ.next ?_
      refine WC.condT rfl rfl ?_
      refine WC.skip ?_
      refine WQ.next ?_
      refine WC.seq ?_
      refine WC.block ?_
      refine WC.seq ?_
      refine WC.region ?_
      refine WL.move ?_
      refine WL.idxA ?_ ar72
      refine WL.ld ?_ sc35
      refine WL.assign ?_
      refine WL.nil ?_
      refine WQ.next ?_
      refine WC.seq ?_
      refine WC.region ?_
      refine WL.move ?_
      refine WL.move ?_
      refine WL.idxA ?_ ar73
      refine WL.ld ?_ sc3
      refine WL.call (hc := Tryz.call39) (sp := dListE (s := s) (a := a) (c := c) (p := pN 300) (F0 := DM [] []) (Fm := DM [] []) (W := 0) (d := (-1)) (op := true) (e := 4) ho hk.2.2 (by decide)) (h := ?_)
      rintro _ _ ⟨rfl, rfl⟩
      refine WL.move ?_
      refine WL.extract ?_
      refine WL.extract ?_
      refine WL.assign ?_
      refine WL.assign ?_
      refine WL.nil ?_
      refine WQ.next ?_
      refine WC.seq ?_
      refine WC.seq ?_
      refine WC.region ?_
      refine WL.move ?_
      refine WL.move ?_
      refine WL.nei ?_
      refine WL.nil ?_
      refine WQ.next ?_
      refine WC.condF rfl rfl ?_
      refine WC.skip ?_
      refine WQ.next ?_
      refine WC.seq ?_
      refine WC.seq ?_
      refine WC.region ?_
      refine WL.move ?_
      refine WL.call (hc := Tryz.call30) (sp := dName (xs := nm)) (h := ?_)
      rintro _ _ ⟨rfl, rfl⟩
      rw [hn]
      refine WL.not ?_
      refine WL.nil ?_
      refine WQ.next ?_
      refine WC.condT rfl rfl ?_
      refine WC.region ?_
      refine WL.assign ?_
      refine WL.nil ?_
      refine WQ.next ?_
      refine WC.seq ?_
      refine WC.region ?_
      refine WL.move ?_
      refine WL.move ?_
      refine WL.idxA ?_ ar73
      refine WL.ld ?_ sc3
      refine WL.move ?_
      refine WL.call (hc := Tryz.call37) (sp := dFindE (s := s) (a := a) (c := c) (p := pN 300) (F0 := DM [] []) (Fm := DM [] []) (W := 0) (d := (-1)) (op := true) (nm := nm) (e := 1) ho (.inl ⟨hn, rfl⟩) (by decide)) (h := ?_)
      rintro _ _ ⟨rfl, rfl⟩
      refine WL.move ?_
      refine WL.extract ?_
      refine WL.extract ?_
      refine WL.assign ?_
      refine WL.assign ?_
      refine WL.nil ?_
      refine WQ.next ?_
      refine WC.seq ?_
      refine WC.region ?_
      refine WL.move ?_
      refine WL.move ?_
      refine WL.nei ?_
      refine WL.move ?_
      refine WL.gT ?_
      refine WL.move ?_
      refine WL.gT ?_
      refine WL.move ?_
      refine WL.gT ?_
      refine WL.idxA ?_ ar73
      refine WL.gT ?_
      refine WL.ld ?_ sc3
      refine WL.gT ?_
      refine WL.move ?_
      refine WL.gT ?_
      refine WL.move ?_
      refine WL.gT ?_
      refine WL.call (hc := Tryz.call34) (sp := dAddE (s := s) (a := a) (c := c) (p := pN 300) (F0 := DM [] []) (Fm := DM [] []) (W := 0) (d := (-1)) (op := true) (nm := nm) (e := 1) (i := .int .i64 i) ho (.inr ⟨rfl, (.inl ⟨hn, rfl⟩)⟩) (by decide)) (h := ?_)
      rintro _ _ ⟨rfl, rfl⟩
      refine WL.gT ?_
      refine WL.move ?_
      refine WL.gT ?_
      refine WL.nei ?_
      refine WL.pickF ?_
      refine WL.move ?_
      refine WL.gT ?_
      refine WL.move ?_
      refine WL.gT ?_
      refine WL.move ?_
      refine WL.gT ?_
      refine WL.idxA ?_ ar73
      refine WL.gT ?_
      refine WL.ld ?_ sc3
      refine WL.gT ?_
      refine WL.move ?_
      refine WL.gT ?_
      refine WL.call (hc := Tryz.call38) (sp := dRemoveE (s := s) (a := a) (c := c) (p := pN 300) (F0 := DM [] []) (Fm := DM [] []) (W := 0) (d := (-1)) (op := true) (nm := nm) (e := 1) (i := .int .i64 i) ho (.inr ⟨rfl, (.inl ⟨hn, rfl⟩)⟩) (by decide)) (h := ?_)
      rintro _ _ ⟨rfl, rfl⟩
      refine WL.gT ?_
      refine WL.move ?_
      refine WL.gT ?_
      refine WL.nei ?_
      refine WL.pickF ?_
      refine WL.move ?_
      refine WL.gT ?_
      refine WL.move ?_
      refine WL.gT ?_
      refine WL.move ?_
      refine WL.gT ?_
      refine WL.idxA ?_ ar73
      refine WL.gT ?_
      refine WL.ld ?_ sc3
      refine WL.gT ?_
      refine WL.move ?_
      refine WL.gT ?_
      refine WL.move ?_
      refine WL.gT ?_
      refine WL.call (hc := Tryz.call36) (sp := dMoveE (s := s) (a := a) (c := c) (p := pN 300) (F0 := DM [] []) (Fm := DM [] []) (W := 0) (d := (-1)) (op := true) (nm := nm) (e := 1) (i := .int .i64 i) ho (.inr ⟨rfl, (.inl ⟨hn, rfl⟩)⟩) (by decide)) (h := ?_)
      rintro _ _ ⟨rfl, rfl⟩
      refine WL.gT ?_
      refine WL.move ?_
      refine WL.gT ?_
      refine WL.nei ?_
      refine WL.pickF ?_
      refine WL.nil ?_
      refine WQ.next ?_
      refine WC.condF rfl rfl ?_
      refine WC.skip ?_
      refine WQ.blockNormal ?_
      refine WQ.next ?_
      refine WC.region ?_
      refine WL.move ?_
      refine WL.add ?_
      refine WL.assign ?_
      refine WL.nil ?_
      refine WQ.again (RC.succ ?_)
      refine WC.seq ?_
      refine WC.seq ?_
      refine WC.region ?_
      refine WL.move ?_
      refine WL.lss ?_
      refine WL.nil ?_
      refine WQ.next ?_
      refine WC.condF rfl rfl ?_
      refine WC.exit (WQ.thenExit (WQ.thenExit (WQ.blockExit (?_))))
      refine WQ.next ?_
      refine WC.seq ?_
      refine WC.region ?_
      refine WL.call (hc := Tryz.call32) (sp := l9Awake) (h := ?_)
      rintro _ _ ⟨rfl, rfl⟩
      refine WL.assign ?_
      refine WL.nil ?_
      refine WQ.next ?_
      refine WC.ret (?_)
      exact WQ.ret1 (h1 := .tmp (t := 4) rfl) ⟨_, ⟨rfl, rfl⟩, Am.auto⟩
    · have hkn := kindsErr nm hn
      refine WC.seq ?_
      refine WC.region ?_
      refine WL.assign ?_
      refine WL.nil ?_
      refine WQ.next ?_
      refine WC.seq ?_
      refine WC.seq ?_
      refine WC.region ?_
      refine WL.move ?_
      refine WL.lenT _ ?_ st9
      refine WL.gtr ?_
      refine WL.move ?_
      refine WL.cast (d := 20) (u := .bool false) rfl (congrArg Value.bool (by first | (simp; done) | (simp; omega) | omega)) ?_
      refine WL.gT ?_
      refine WL.move ?_
      refine WL.gT ?_
      refine WL.lss ?_
      refine WL.pickF ?_
      refine WL.move ?_
      refine WL.cast (d := 24) (u := .bool false) rfl (congrArg Value.bool (by first | (simp; done) | (simp; omega) | omega)) ?_
      refine WL.gT ?_
      refine WL.move ?_
      refine WL.gT ?_
      refine WL.gtr ?_
      refine WL.pickF ?_
      refine WL.nil ?_
      refine WQ.next ?_
      refine WC.condF rfl (congrArg Value.bool (by first | (simp; done) | (simp; omega) | omega)) ?_
      refine WC.skip ?_
      refine WQ.next ?_
      refine WC.seq ?_
      refine WC.region ?_
      refine WL.call (hc := Tryz.call33) (sp := l9Fresh (p := pN 300) (pN_is (n := 300) (by decide) (by decide)) rfl (by decide)) (h := ?_)
      rintro _ _ ⟨c, a, s, rfl, rfl⟩
      refine WL.move ?_
      refine WL.extract ?_
      refine WL.extract ?_
      refine WL.extract ?_
      refine WL.extract ?_
      refine WL.assign ?_
      refine WL.assign ?_
      refine WL.assign ?_
      refine WL.assign ?_
      refine WL.nil ?_
      refine WQ.next ?_
      refine WC.seq ?_
      refine WC.seq ?_
      refine WC.region ?_
      refine WL.move ?_
      refine WL.not ?_
      refine WL.nil ?_
      refine WQ.next ?_
      refine WC.condF rfl rfl ?_
      refine WC.skip ?_
      refine WQ.next ?_
      refine WC.seq ?_
      refine WC.region ?_
      refine WL.build ?_ (bdW3 _ _ _)
      refine WL.alloc z72 fun b9 => ?_
      refine WL.stV ?_ agg72
      refine WL.nil ?_
      refine WQ.next ?_
      refine WC.seq ?_
      refine WC.region ?_
      refine WL.build ?_ (bdI3 _ _ _)
      refine WL.alloc z73 fun b10 => ?_
      refine WL.stV ?_ agg73
      refine WL.nil ?_
      refine WQ.next ?_
      refine WC.seq ?_
      refine WC.seq ?_
      refine WC.region ?_
      refine WL.assign ?_
      refine WL.nil ?_
      refine WQ.next ?_
      refine WC.block ?_
      refine WC.loopN 4 (RC.succ ?_)
      refine WC.seq ?_
      refine WC.seq ?_
      refine WC.region ?_
      refine WL.move ?_
      refine WL.lss ?_
      refine WL.nil ?_
      refine WQ.next ?_
      refine WC.condT rfl rfl ?_
      refine WC.skip ?_
      refine WQ.next ?_
      refine WC.seq ?_
      refine WC.block ?_
      refine WC.seq ?_
      refine WC.region ?_
      refine WL.move ?_
      refine WL.idxA ?_ ar72
      refine WL.ld ?_ sc35
      refine WL.assign ?_
      refine WL.nil ?_
      refine WQ.next ?_
      refine WC.seq ?_
      refine WC.region ?_
      refine WL.move ?_
      refine WL.move ?_
      refine WL.idxA ?_ ar73
      refine WL.ld ?_ sc3
      refine WL.call (hc := Tryz.call39) (sp := dListE (s := s) (a := a) (c := c) (p := pN 300) (F0 := DM [] []) (Fm := DM [] []) (W := 0) (d := 2) (op := true) (e := 6) ho hk.1 (by decide)) (h := ?_)
      rintro _ _ ⟨rfl, rfl⟩
      refine WL.move ?_
      refine WL.extract ?_
      refine WL.extract ?_
      refine WL.assign ?_
      refine WL.assign ?_
      refine WL.nil ?_
      refine WQ.next ?_
      refine WC.seq ?_
      refine WC.seq ?_
      refine WC.region ?_
      refine WL.move ?_
      refine WL.move ?_
      refine WL.nei ?_
      refine WL.nil ?_
      refine WQ.next ?_
      refine WC.condF rfl rfl ?_
      refine WC.skip ?_
      refine WQ.next ?_
      refine WC.seq ?_
      refine WC.seq ?_
      refine WC.region ?_
      refine WL.move ?_
      refine WL.call (hc := Tryz.call30) (sp := dName (xs := nm)) (h := ?_)
      rintro _ _ ⟨rfl, rfl⟩
      rw [hn]
      refine WL.not ?_
      refine WL.nil ?_
      refine WQ.next ?_
      refine WC.condF rfl rfl ?_
      refine WC.skip ?_
      refine WQ.next ?_
      refine WC.seq ?_
      refine WC.region ?_
      refine WL.move ?_
      refine WL.move ?_
      refine WL.idxA ?_ ar73
      refine WL.ld ?_ sc3
      refine WL.move ?_
      refine WL.call (hc := Tryz.call37) (sp := dFindE (s := s) (a := a) (c := c) (p := pN 300) (F0 := DM [] []) (Fm := DM [] []) (W := 0) (d := 2) (op := true) (nm := nm) (e := 6) ho hkn.1 (by decide)) (h := ?_)
      rintro _ _ ⟨rfl, rfl⟩
      refine WL.move ?_
      refine WL.extract ?_
      refine WL.extract ?_
      refine WL.assign ?_
      refine WL.assign ?_
      refine WL.nil ?_
      refine WQ.next ?_
      refine WC.seq ?_
      refine WC.region ?_
      refine WL.move ?_
      refine WL.move ?_
      refine WL.nei ?_
      refine WL.move ?_
      refine WL.gT ?_
      refine WL.move ?_
      refine WL.gT ?_
      refine WL.move ?_
      refine WL.gT ?_
      refine WL.idxA ?_ ar73
      refine WL.gT ?_
      refine WL.ld ?_ sc3
      refine WL.gT ?_
      refine WL.move ?_
      refine WL.gT ?_
      refine WL.move ?_
      refine WL.gT ?_
      refine WL.call (hc := Tryz.call34) (sp := dAddE (s := s) (a := a) (c := c) (p := pN 300) (F0 := DM [] []) (Fm := DM [] []) (W := 0) (d := 2) (op := true) (nm := nm) (e := 6) (i := .int .i64 i) ho (.inr ⟨rfl, hkn.1⟩) (by decide)) (h := ?_)
      rintro _ _ ⟨rfl, rfl⟩
      refine WL.gT ?_
      refine WL.move ?_
      refine WL.gT ?_
      refine WL.nei ?_
      refine WL.pickF ?_
      refine WL.move ?_
      refine WL.gT ?_
      refine WL.move ?_
      refine WL.gT ?_
      refine WL.move ?_
      refine WL.gT ?_
      refine WL.idxA ?_ ar73
      refine WL.gT ?_
      refine WL.ld ?_ sc3
      refine WL.gT ?_
      refine WL.move ?_
      refine WL.gT ?_
      refine WL.call (hc := Tryz.call38) (sp := dRemoveE (s := s) (a := a) (c := c) (p := pN 300) (F0 := DM [] []) (Fm := DM [] []) (W := 0) (d := 2) (op := true) (nm := nm) (e := 6) (i := .int .i64 i) ho (.inr ⟨rfl, hkn.1⟩) (by decide)) (h := ?_)
      rintro _ _ ⟨rfl, rfl⟩
      refine WL.gT ?_
      refine WL.move ?_
      refine WL.gT ?_
      refine WL.nei ?_
      refine WL.pickF ?_
      refine WL.move ?_
      refine WL.gT ?_
      refine WL.move ?_
      refine WL.gT ?_
      refine WL.move ?_
      refine WL.gT ?_
      refine WL.idxA ?_ ar73
      refine WL.gT ?_
      refine WL.ld ?_ sc3
      refine WL.gT ?_
      refine WL.move ?_
      refine WL.gT ?_
      refine WL.move ?_
      refine WL.gT ?_
      refine WL.call (hc := Tryz.call36) (sp := dMoveE (s := s) (a := a) (c := c) (p := pN 300) (F0 := DM [] []) (Fm := DM [] []) (W := 0) (d := 2) (op := true) (nm := nm) (e := 6) (i := .int .i64 i) ho (.inr ⟨rfl, hkn.1⟩) (by decide)) (h := ?_)
      rintro _ _ ⟨rfl, rfl⟩
      refine WL.gT ?_
      refine WL.move ?_
      refine WL.gT ?_
      refine WL.nei ?_
      refine WL.pickF ?_
      refine WL.nil ?_
      refine WQ.next ?_
      refine WC.condF rfl rfl ?_
      refine WC.skip ?_
      refine WQ.blockNormal ?_
      refine WQ.next ?_
      refine WC.region ?_
      refine WL.move ?_
      refine WL.add ?_
      refine WL.assign ?_
      refine WL.nil ?_
      refine WQ.again (RC.succ ?_)
      refine WC.seq ?_
      refine WC.seq ?_
      refine WC.region ?_
      refine WL.move ?_
      refine WL.lss ?_
      refine WL.nil ?_
      refine WQ.next ?_
      refine WC.condT rfl rfl ?_
      refine WC.skip ?_
      refine WQ.next ?_
      refine WC.seq ?_
      refine WC.block ?_
      refine WC.seq ?_
      refine WC.region ?_
      refine WL.move ?_
      refine WL.idxA ?_ ar72
      refine WL.ld ?_ sc35
      refine WL.assign ?_
      refine WL.nil ?_
      refine WQ.next ?_
      refine WC.seq ?_
      refine WC.region ?_
      refine WL.move ?_
      refine WL.move ?_
      refine WL.idxA ?_ ar73
      refine WL.ld ?_ sc3
      refine WL.call (hc := Tryz.call39) (sp := dListE (s := s) (a := a) (c := c) (p := pN 300) (F0 := DM [] []) (Fm := DM [] []) (W := 0) (d := 9) (op := true) (e := 4) ho hk.2.1 (by decide)) (h := ?_)
      rintro _ _ ⟨rfl, rfl⟩
      refine WL.move ?_
      refine WL.extract ?_
      refine WL.extract ?_
      refine WL.assign ?_
      refine WL.assign ?_
      refine WL.nil ?_
      refine WQ.next ?_
      refine WC.seq ?_
      refine WC.seq ?_
      refine WC.region ?_
      refine WL.move ?_
      refine WL.move ?_
      refine WL.nei ?_
      refine WL.nil ?_
      refine WQ.next ?_
      refine WC.condF rfl rfl ?_
      refine WC.skip ?_
      refine WQ.next ?_
      refine WC.seq ?_
      refine WC.seq ?_
      refine WC.region ?_
      refine WL.move ?_
      refine WL.call (hc := Tryz.call30) (sp := dName (xs := nm)) (h := ?_)
      rintro _ _ ⟨rfl, rfl⟩
      rw [hn]
      refine WL.not ?_
      refine WL.nil ?_
      refine WQ.next ?_
      refine WC.condF rfl rfl ?_
      refine WC.skip ?_
      refine WQ.next ?_
      refine WC.seq ?_
      refine WC.region ?_
      refine WL.move ?_
      refine WL.move ?_
      refine WL.idxA ?_ ar73
      refine WL.ld ?_ sc3
      refine WL.move ?_
      refine WL.call (hc := Tryz.call37) (sp := dFindE (s := s) (a := a) (c := c) (p := pN 300) (F0 := DM [] []) (Fm := DM [] []) (W := 0) (d := 9) (op := true) (nm := nm) (e := 4) ho hkn.2.1 (by decide)) (h := ?_)
      rintro _ _ ⟨rfl, rfl⟩
      refine WL.move ?_
      refine WL.extract ?_
      refine WL.extract ?_
      refine WL.assign ?_
      refine WL.assign ?_
      refine WL.nil ?_
      refine WQ.next ?_
      refine WC.seq ?_
      refine WC.region ?_
      refine WL.move ?_
      refine WL.move ?_
      refine WL.nei ?_
      refine WL.move ?_
      refine WL.gT ?_
      refine WL.move ?_
      refine WL.gT ?_
      refine WL.move ?_
      refine WL.gT ?_
      refine WL.idxA ?_ ar73
      refine WL.gT ?_
      refine WL.ld ?_ sc3
      refine WL.gT ?_
      refine WL.move ?_
      refine WL.gT ?_
      refine WL.move ?_
      refine WL.gT ?_
      refine WL.call (hc := Tryz.call34) (sp := dAddE (s := s) (a := a) (c := c) (p := pN 300) (F0 := DM [] []) (Fm := DM [] []) (W := 0) (d := 9) (op := true) (nm := nm) (e := 4) (i := .int .i64 i) ho (.inr ⟨rfl, hkn.2.1⟩) (by decide)) (h := ?_)
      rintro _ _ ⟨rfl, rfl⟩
      refine WL.gT ?_
      refine WL.move ?_
      refine WL.gT ?_
      refine WL.nei ?_
      refine WL.pickF ?_
      refine WL.move ?_
      refine WL.gT ?_
      refine WL.move ?_
      refine WL.gT ?_
      refine WL.move ?_
      refine WL.gT ?_
      refine WL.idxA ?_ ar73
      refine WL.gT ?_
      refine WL.ld ?_ sc3
      refine WL.gT ?_
      refine WL.move ?_
      refine WL.gT ?_
      refine WL.call (hc := Tryz.call38) (sp := dRemoveE (s := s) (a := a) (c := c) (p := pN 300) (F0 := DM [] []) (Fm := DM [] []) (W := 0) (d := 9) (op := true) (nm := nm) (e := 4) (i := .int .i64 i) ho (.inr ⟨rfl, hkn.2.1⟩) (by decide)) (h := ?_)
      rintro _ _ ⟨rfl, rfl⟩
      refine WL.gT ?_
      refine WL.move ?_
      refine WL.gT ?_
      refine WL.nei ?_
      refine WL.pickF ?_
      refine WL.move ?_
      refine WL.gT ?_
      refine WL.move ?_
      refine WL.gT ?_
      refine WL.move ?_
      refine WL.gT ?_
      refine WL.idxA ?_ ar73
      refine WL.gT ?_
      refine WL.ld ?_ sc3
      refine WL.gT ?_
      refine WL.move ?_
      refine WL.gT ?_
      refine WL.move ?_
      refine WL.gT ?_
      refine WL.call (hc := Tryz.call36) (sp := dMoveE (s := s) (a := a) (c := c) (p := pN 300) (F0 := DM [] []) (Fm := DM [] []) (W := 0) (d := 9) (op := true) (nm := nm) (e := 4) (i := .int .i64 i) ho (.inr ⟨rfl, hkn.2.1⟩) (by decide)) (h := ?_)
      rintro _ _ ⟨rfl, rfl⟩
      refine WL.gT ?_
      refine WL.move ?_
      refine WL.gT ?_
      refine WL.nei ?_
      refine WL.pickF ?_
      refine WL.nil ?_
      refine WQ.next ?_
      refine WC.condF rfl rfl ?_
      refine WC.skip ?_
      refine WQ.blockNormal ?_
      refine WQ.next ?_
      refine WC.region ?_
      refine WL.move ?_
      refine WL.add ?_
      refine WL.assign ?_
      refine WL.nil ?_
      refine WQ.again (RC.succ ?_)
      refine WC.seq ?_
      refine WC.seq ?_
      refine WC.region ?_
      refine WL.move ?_
      refine WL.lss ?_
      refine WL.nil ?_
      refine WQ.next ?_
      refine WC.condT rfl rfl ?_
      refine WC.skip ?_
      refine WQ.next ?_
      refine WC.seq ?_
      refine WC.block ?_
      refine WC.seq ?_
      refine WC.region ?_
      refine WL.move ?_
      refine WL.idxA ?_ ar72
      refine WL.ld ?_ sc35
      refine WL.assign ?_
      refine WL.nil ?_
      refine WQ.next ?_
      refine WC.seq ?_
      refine WC.region ?_
      refine WL.move ?_
      refine WL.move ?_
      refine WL.idxA ?_ ar73
      refine WL.ld ?_ sc3
      refine WL.call (hc := Tryz.call39) (sp := dListE (s := s) (a := a) (c := c) (p := pN 300) (F0 := DM [] []) (Fm := DM [] []) (W := 0) (d := (-1)) (op := true) (e := 4) ho hk.2.2 (by decide)) (h := ?_)
      rintro _ _ ⟨rfl, rfl⟩
      refine WL.move ?_
      refine WL.extract ?_
      refine WL.extract ?_
      refine WL.assign ?_
      refine WL.assign ?_
      refine WL.nil ?_
      refine WQ.next ?_
      refine WC.seq ?_
      refine WC.seq ?_
      refine WC.region ?_
      refine WL.move ?_
      refine WL.move ?_
      refine WL.nei ?_
      refine WL.nil ?_
      refine WQ.next ?_
      refine WC.condF rfl rfl ?_
      refine WC.skip ?_
      refine WQ.next ?_
      refine WC.seq ?_
      refine WC.seq ?_
      refine WC.region ?_
      refine WL.move ?_
      refine WL.call (hc := Tryz.call30) (sp := dName (xs := nm)) (h := ?_)
      rintro _ _ ⟨rfl, rfl⟩
      rw [hn]
      refine WL.not ?_
      refine WL.nil ?_
      refine WQ.next ?_
      refine WC.condF rfl rfl ?_
      refine WC.skip ?_
      refine WQ.next ?_
      refine WC.seq ?_
      refine WC.region ?_
      refine WL.move ?_
      refine WL.move ?_
      refine WL.idxA ?_ ar73
      refine WL.ld ?_ sc3
      refine WL.move ?_
      refine WL.call (hc := Tryz.call37) (sp := dFindE (s := s) (a := a) (c := c) (p := pN 300) (F0 := DM [] []) (Fm := DM [] []) (W := 0) (d := (-1)) (op := true) (nm := nm) (e := 4) ho hkn.2.2 (by decide)) (h := ?_)
      rintro _ _ ⟨rfl, rfl⟩
      refine WL.move ?_
      refine WL.extract ?_
      refine WL.extract ?_
      refine WL.assign ?_
      refine WL.assign ?_
      refine WL.nil ?_
      refine WQ.next ?_
      refine WC.seq ?_
      refine WC.region ?_
      refine WL.move ?_
      refine WL.move ?_
      refine WL.nei ?_
      refine WL.move ?_
      refine WL.gT ?_
      refine WL.move ?_
      refine WL.gT ?_
      refine WL.move ?_
      refine WL.gT ?_
      refine WL.idxA ?_ ar73
      refine WL.gT ?_
      refine WL.ld ?_ sc3
      refine WL.gT ?_
      refine WL.move ?_
      refine WL.gT ?_
      refine WL.move ?_
      refine WL.gT ?_
      refine WL.call (hc := Tryz.call34) (sp := dAddE (s := s) (a := a) (c := c) (p := pN 300) (F0 := DM [] []) (Fm := DM [] []) (W := 0) (d := (-1)) (op := true) (nm := nm) (e := 4) (i := .int .i64 i) ho (.inr ⟨rfl, hkn.2.2⟩) (by decide)) (h := ?_)
      rintro _ _ ⟨rfl, rfl⟩
      refine WL.gT ?_
      refine WL.move ?_
      refine WL.gT ?_
      refine WL.nei ?_
      refine WL.pickF ?_
      refine WL.move ?_
      refine WL.gT ?_
      refine WL.move ?_
      refine WL.gT ?_
      refine WL.move ?_
      refine WL.gT ?_
      refine WL.idxA ?_ ar73
      refine WL.gT ?_
      refine WL.ld ?_ sc3
      refine WL.gT ?_
      refine WL.move ?_
      refine WL.gT ?_
      refine WL.call (hc := Tryz.call38) (sp := dRemoveE (s := s) (a := a) (c := c) (p := pN 300) (F0 := DM [] []) (Fm := DM [] []) (W := 0) (d := (-1)) (op := true) (nm := nm) (e := 4) (i := .int .i64 i) ho (.inr ⟨rfl, hkn.2.2⟩) (by decide)) (h := ?_)
      rintro _ _ ⟨rfl, rfl⟩
      refine WL.gT ?_
      refine WL.move ?_
      refine WL.gT ?_
      refine WL.nei ?_
      refine WL.pickF ?_
      refine WL.move ?_
      refine WL.gT ?_
      refine WL.move ?_
      refine WL.gT ?_
      refine WL.move ?_
      refine WL.gT ?_
      refine WL.idxA ?_ ar73
      refine WL.gT ?_
      refine WL.ld ?_ sc3
      refine WL.gT ?_
      refine WL.move ?_
      refine WL.gT ?_
      refine WL.move ?_
      refine WL.gT ?_
      refine WL.call (hc := Tryz.call36) (sp := dMoveE (s := s) (a := a) (c := c) (p := pN 300) (F0 := DM [] []) (Fm := DM [] []) (W := 0) (d := (-1)) (op := true) (nm := nm) (e := 4) (i := .int .i64 i) ho (.inr ⟨rfl, hkn.2.2⟩) (by decide)) (h := ?_)
      rintro _ _ ⟨rfl, rfl⟩
      refine WL.gT ?_
      refine WL.move ?_
      refine WL.gT ?_
      refine WL.nei ?_
      refine WL.pickF ?_
      refine WL.nil ?_
      refine WQ.next ?_
      refine WC.condF rfl rfl ?_
      refine WC.skip ?_
      refine WQ.blockNormal ?_
      refine WQ.next ?_
      refine WC.region ?_
      refine WL.move ?_
      refine WL.add ?_
      refine WL.assign ?_
      refine WL.nil ?_
      refine WQ.again (RC.succ ?_)
      refine WC.seq ?_
      refine WC.seq ?_
      refine WC.region ?_
      refine WL.move ?_
      refine WL.lss ?_
      refine WL.nil ?_
      refine WQ.next ?_
      refine WC.condF rfl rfl ?_
      refine WC.exit (WQ.thenExit (WQ.thenExit (WQ.blockExit (?_))))
      refine WQ.next ?_
      refine WC.seq ?_
      refine WC.region ?_
      refine WL.call (hc := Tryz.call32) (sp := l9Awake) (h := ?_)
      rintro _ _ ⟨rfl, rfl⟩
      refine WL.assign ?_
      refine WL.nil ?_
      refine WQ.next ?_
      refine WC.ret (?_)
      exact WQ.ret1 (h1 := .tmp (t := 4) rfl) ⟨_, ⟨rfl, rfl⟩, Am.auto⟩
end Go.Proofs.YtedmihapieleaaaGreat
end
section
namespace Go.Proofs.YtedmihapieleaaaGreat.dirKinds
open Go.ChangeShapes Go.WideShapes Go.ChangeAt Go.RowKit
set_option linter.unusedVariables false
theorem own : ownKnob Tryz.prog.godebug = none := by kernel_rfl
theorem in64 {n : Int} (h : (Lit.int .i64 n).wf = true) : -9223372036854775808 ≤ n ∧ n ≤ 9223372036854775807 := by
  simp [Lit.wf, IntKind.min, IntKind.max, IntKind.bits, IntKind.signed] at h; omega
theorem okStr {P : Program} {w : World} {r : Reach} {base : Nat} {t : TypeId} {v : Value} (ht : P.underlying t = some .string) (h : Value.okWide P w r base t v) : ∃ s, v = .string s := by
  simp only [Value.okWide, ht, Cell.okWide] at h
  cases v <;> simp_all [Cell.ok]
theorem shutStr {H : Type} {enc : TypeId × Value → H} {P : Program} {w : World} {base : Nat} {spare : Nat → Bool} {held : Bool} {e : TypeId} {s : ByteArray} (he : P.underlying e = some .string) (hs : s.size ≤ maxLen) : DataW.Trod enc P w base spare held e (.string s) (.lit (.string s.data.toList)) [] := Go.Deep.shut_string_cell he hs
theorem walk (a0 : ByteArray) (a1 : Int) (w1 : (Lit.int .i64 a1).wf = true) (w : World) :
    Calls Tryz.prog 14 #[.string a0, .int .i64 a1] w fun e w' => e = .returned (.bool true) ∧ Below w.heap.size w w' := by
  have key : Calls Tryz.prog 14 #[sv a0.data.toList, .int .i64 a1] w fun e w' => e = .returned (.bool true) ∧ Below w.heap.size w w' := by
    refine (lawKinds (in64 w1) (Base.of w) [whole w] w (Sat.wholeOf w)).mono ?_
    rintro e w' ⟨v, M, rfl, ⟨rfl, rfl⟩, hs⟩
    exact ⟨rfl, hs.belowOld .here⟩
  exact key
set_option maxRecDepth 100000 in
theorem lifted (os : Os) (started : os.Started) (H : Type) (enc : TypeId × Value → H) :
    ReturnsInHanded {} Tryz.checked os 14 .any (Rows.dirKindsSpec.pre6 enc Tryz.prog Tryz.f14 Rows.dirKindsRow.domain false) (Rows.dirKindsSpec.post enc Tryz.prog Tryz.f14 false true false false) := by
  refine returnsInHanded_of_change (C := Tryz.checked) own started (by kernel_rfl) Tryz.func14
    (ChangeSpec.witness6 (enc := enc) (C := Tryz.checked) false ⟨#[], #[.string ⟨#[]⟩, .int .i64 0], []⟩ 8 (by kernel_rfl) (by kernel_rfl) (by kernel_rfl) (by kernel_rfl)) ?_
  intro W base args ds gs before hval0 hW hcnd _
  have hval : ∀ (j : Nat) t v, Tryz.f14.params[j]? = some t → args[j]? = some v → Value.okWide Tryz.prog W .any base t v := hval0
  have hW' := hW
  obtain ⟨p, q, hA0, hV, rfl, hfz, hnd⟩ := hW
  have hA : DataW.TrodAll enc Tryz.prog W 0 (fun _ => true) true Tryz.f14.params.toList args.toList ds p := hA0
  rw [Tryz.params14] at hA hval
  obtain ⟨v0, vs0, d0, ds0, p0, q0, hargs, rfl, rfl, h0, r0⟩ := trodAll_cons hA
  obtain ⟨v1, vs1, d1, ds1, p1, q1, rfl, rfl, rfl, h1, r1⟩ := trodAll_cons r0
  obtain ⟨rfl, rfl, rfl⟩ := trodAll_nil r1
  obtain rfl : args = #[v0, v1] := by cases args; simp_all
  obtain ⟨rfl, rfl⟩ := trodVars_none hV
  obtain ⟨a0, rfl⟩ := okStr Tryz.underlying9 (hval 0 9 v0 rfl rfl)
  obtain ⟨fuel0, hf0⟩ := h0
  obtain ⟨s0, hs0, hx0, hz0⟩ := DataW.trod_string Tryz.underlying9 hf0
  obtain rfl : a0 = s0 := by simpa [Value.cells] using hs0
  obtain ⟨rfl, rfl⟩ := Prod.mk.inj hx0
  obtain ⟨a1, rfl, rfl, rfl, w1⟩ := open_int Tryz.underlying3 (hval 1 3 v1 rfl rfl) h1
  clear hA0 hval0
  simp only [List.append_nil] at hW'
  refine (walk a0 a1 w1 W).mono fun e W' ⟨he, hg⟩ => ?_
  subst he
  refine ⟨_, rfl, _, _, _, [], [], [], by simpa using hW', ?_, ?_, ?_, hg.frame _, fun h => by cases h⟩
  · exact trodAll_cons_mk (shut_bool Tryz.underlying4 _) trodAll_mk0
  · exact trodAll_cons_mk (shutStr Tryz.underlying9 hz0) (trodAll_cons_mk (shut_int Tryz.underlying3 w1) (trodAll_mk0))
  · exact rfl
theorem proved : Rows.DirKindsSaid :=
  OpenClaim.holds_of_wide 14 Tryz.f14 rfl rfl rfl rfl rfl rfl rfl ⟨rfl, rfl, rfl, rfl, rfl⟩ rfl rfl rfl rfl rfl (by kernel_rfl) Tryz.func14 (by kernel_rfl)
    (of_decide_eq_true (by kernel_rfl)) (by unfold Func.isWrapper; first | (rw [if_pos (by decide +kernel)]; kernel_rfl) | (rw [if_neg (by decide +kernel)]; exact ⟨rfl, rfl⟩))
    (fun os started H enc _ => lifted os started H enc)
end Go.Proofs.YtedmihapieleaaaGreat.dirKinds
end
