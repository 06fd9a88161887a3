/- A part of the proof of dirSlots_holds: texts of this work put together. -/
import Derived.Test.YtedmihapieleaaaGreatSl3
import Derived.KernelRfl
import Derived.WideKeyRuns
import Derived.Laws.RangeAny
import Derived.Lib.OthersKept
import Derived.Lib.Bytealg
import Derived.Lib.IndexBytes
import Derived.Scope
import Derived.Laws.Concat
import Derived.Shelf.SlSortCmp.NoneTotal
import Derived.Laws.Cover1
import Derived.Sort.Walk0
import Derived.WalkKit
import Derived.Test.YtedmihapieleaaaGreatRows
import Derived.ProofKit
import Derived.OpenShut
import Derived.Carry
import Derived.ChangeSlices
set_option linter.unusedVariables false
set_option linter.unusedSimpArgs false
set_option linter.unusedSectionVars false
section
namespace Go.Proofs.YtedmihapieleaaaGreat
open Go
theorem read_step {V : Nat → Bytes} {x : Nd} {bs : Bytes} {cur mm at' : Nat} (hb : ∀ q, q < bs.length → fb V x q = bs.getD q 0) (h1 : cur % 512 + mm ≤ 512) (h2 : cur + mm ≤ bs.length) (h3 : at' ≤ cur) (h5 : (V (ptr V x (cur / 512))).length = 512) :
    (bs.drop at').take (cur + mm - at') = (bs.drop at').take (cur - at') ++ ((V (ptr V x (cur / 512))).drop (cur % 512)).take mm := by
  rw [show cur + mm - at' = (cur - at') + mm from by omega, List.take_add, List.drop_drop, show at' + (cur - at') = cur from by omega]
  congr 1
  apply List.ext_getElem?
  intro j
  simp only [List.getElem?_take, List.getElem?_drop]
  by_cases hj : j < mm
  · rw [if_pos hj, if_pos hj]
    have := hb (cur + j) (by omega)
    unfold fb at this
    rw [show (cur + j) / 512 = cur / 512 from by omega, show (cur + j) % 512 = cur % 512 + j from by omega, List.getD_eq_getElem?_getD, List.getD_eq_getElem?_getD, List.getElem?_eq_getElem (by omega), List.getElem?_eq_getElem (by omega)] at this
    rw [List.getElem?_eq_getElem (by omega), List.getElem?_eq_getElem (by omega)]
    exact congrArg some this.symm
  · rw [if_neg hj, if_neg hj]
theorem inRead {s c a : Nat} {p : Pl} {V0 V : Nat → Bytes} {D : List Nat} {op : Bool} {F0 : FM} {i at' k : Nat} {f : Nat × Bytes} (h : Rep p V F0) (ho : PlOk p) (hi : F0 i = some f) (hat : at' ≤ 9223372036854775807) (hk : k ≤ 9223372036854775807) :
    Spec Tryz.prog 23 #[.pointer (some ⟨s, 0, none⟩), nI i, nI at', nI k] [pt s (stO c a p), pt a (alO c p), TR c p.n V0 V D op] fun F v M => ∃ u, v = .tuple #[u, .int .i64 0] ∧ M = rowR 5 1 u ((f.2.drop at').take k).length (bvs ((f.2.drop at').take k)) :: [pt s (stO c a p), pt a (alO c p), TR c p.n V0 V D op] ++ F := by
  refine Spec.intro Tryz.func23 rfl rfl fun B F => ?_
  simp only [Tryz.ntmps23, List.cons_append, List.nil_append, env0, Nat.reduceAdd]
  have hf := h.ok i f hi
  have hsz := hf.sz
  have hbig := hf.big
  have hlt := h.lt hi
  have hi2 := ho.i2
  have hlo := ho.lo
  have htab := ho.tab
  have hnd := repNd (p := p) (V := V) hi
  have hfx := h.inv.fits i _ _ hnd
  have hbl := hfx.bl
  have hnl := ndL_length hbl
  have hcl := h.cntle
  have hszg : (ndL (ldN p V i))[1]? = some (nI f.2.length) := by rw [← hsz]; rfl
  have hmxl : maxLen = 9223372036854775807 := rfl
  have hd138 := dat_le hbig
  rcases (show ¬ at' < f.2.length ∨ (at' < f.2.length ∧ k < f.2.length - at') ∨ (at' < f.2.length ∧ ¬ k < f.2.length - at') from by omega) with hc | ⟨hc, hc2⟩ | ⟨hc, hc2⟩
  · obtain ⟨en, hen, hen1, hen2⟩ : ∃ en, en = f.2.length ∧ en ≤ f.2.length ∧ (f.2.drop at').take k = (f.2.drop at').take (en - at') := ⟨_, rfl, by omega, by rw [List.drop_eq_nil_of_le (by omega), List.take_nil, List.take_nil]⟩
    refine WC.seq ?_
    refine WC.region ?_
    refine WL.assign ?_
    refine WL.assign ?_
    refine WL.nil ?_
    refine WQ.next ?_
    refine WC.seq ?_
    refine WC.region ?_
    refine WL.move ?_
    refine WL.move ?_
    refine WL.call (hc := Tryz.call61) (sp := inLoad (i := i) (V0 := V0) (V := V) (D := D) (op := op) ho (h.lt hi) (h.digI hi)) (h := ?_)
    rintro _ _ ⟨rfl, rfl⟩
    simp only [List.cons_append, List.nil_append]
    refine WL.move ?_
    refine WL.extract ?_
    refine WL.extract ?_
    refine WL.allocL zNd rfl fun b10 => ?_
    refine WL.stLA (xs := ndL nd0) (us := ndL (ldN p V i)) ?_ agg92 hnl rfl (ndL_single _)
    refine WL.assign ?_
    refine WL.nil ?_
    refine WQ.next ?_
    refine WC.seq ?_
    refine WC.seq ?_
    refine WC.region ?_
    refine WL.move ?_
    refine WL.nei ?_
    refine WL.nil ?_
    refine WQ.next ?_
    refine WC.condF rfl rfl ?_
    refine WC.skip ?_
    refine WQ.next ?_
    refine WC.seq ?_
    refine WC.seq ?_
    refine WC.region ?_
    refine WL.move ?_
    refine WL.lss ?_
    refine WL.move ?_
    refine WL.cast (d := 30) (u := .bool false) rfl (congrArg Value.bool (by first | (simp; done) | (simp; omega) | (unfold nI; simp; omega) | omega)) ?_
    refine WL.gT ?_
    refine WL.move ?_
    refine WL.gT ?_
    refine WL.lss ?_
    refine WL.pickF ?_
    refine WL.nil ?_
    refine WQ.next ?_
    refine WC.condF rfl (congrArg Value.bool (by first | (simp; done) | (simp; omega) | (unfold nI; simp; omega) | omega)) ?_
    refine WC.skip ?_
    refine WQ.next ?_
    refine WC.seq ?_
    refine WC.region ?_
    refine WL.fa ?_ fo92_1
    refine WL.ldL (xs := ndL (ldN p V i)) (i := 1) ?_ sc3 hszg
    refine WL.cast (d := 35) (u := nI en) rfl (congrArg nI hen.symm) ?_
    refine WL.assign ?_
    refine WL.nil ?_
    refine WQ.next ?_
    refine WC.seq ?_
    refine WC.seq ?_
    refine WC.region ?_
    refine WL.move ?_
    refine WL.move ?_
    refine WL.lss ?_
    refine WL.move ?_
    refine WL.cast (d := 39) (u := .bool false) rfl (congrArg Value.bool (by first | (simp; done) | (simp; omega) | (unfold nI; simp; omega) | omega)) ?_
    refine WL.gF ?_
    refine WL.gF ?_
    refine WL.gF ?_
    refine WL.gF ?_
    refine WL.gF ?_
    refine WL.pickF ?_
    refine WL.nil ?_
    refine WQ.next ?_
    refine WC.condF rfl rfl ?_
    refine WC.skip ?_
    refine WQ.next ?_
    refine WC.seq ?_
    refine WC.region ?_
    refine WL.assign ?_
    refine WL.emp (A := rowR 5 1 (.slice none 0 0) (at' - at') (bvs ((f.2.drop at').take (at' - at')))) (by rw [Nat.sub_self]; exact rowR.nil _) ?_
    refine WL.nil ?_
    refine WQ.next ?_
    refine WC.seq ?_
    refine WC.block ?_
    refine WC.loopA (σ := Nat × Value) (fun y => [(0, .pointer (some ⟨s, 0, none⟩)), (2, nI y.1), (10, .pointer (some ⟨b10, 0, none⟩)), (12, nI en), (13, y.2)]) (fun y => [rowR 5 1 y.2 (y.1 - at') (bvs ((f.2.drop at').take (y.1 - at'))), row b10 92 (ndL (ldN p V i)), pt s (stO c a p), pt a (alO c p), TR c p.n V0 V D op] ++ F) (fun y => at' ≤ y.1 ∧ (y.1 ≤ en ∨ y.1 = at')) (fun y => en - y.1) (at', .slice none 0 0) ⟨Nat.le_refl _, .inr rfl⟩ ?_
    rintro ⟨cur, u⟩ hy
    obtain ⟨hc1, hc2⟩ := hy
    simp only at hc1 hc2
    refine WC.seq ?_
    refine WC.seq ?_
    refine WC.region ?_
    refine WL.move ?_
    refine WL.move ?_
    refine WL.lss ?_
    refine WL.nil ?_
    refine WQ.next ?_
    refine WC.cond rfl (fun hb => ?_) (fun hb => ?_)
    · have hlt2 : cur < en := by have := of_decide_eq_true hb; omega
      obtain ⟨mm, hmm⟩ : ∃ mm, mm = min (512 - cur % 512) (en - cur) := ⟨_, rfl⟩
      have hSk : stdS (dat f.2.length) (cur / 512) = true := stdS_iff.2 (.inl (by unfold dat; omega))
      have hrk := h.inv.rng i _ _ _ hnd hSk
      have hV200 : 10 ≤ cur / 512 → 245 ≤ (ldN p V i).bl.getD 10 0 ∧ (ldN p V i).bl.getD 10 0 < p.n := fun h10 => by
        have := h.inv.rng i _ _ 200 hnd (stdS_iff.2 (.inr ⟨rfl, by unfold dat; omega⟩))
        rw [ptr_200] at this
        omega
      have hrs := read_step (cur := cur) (mm := mm) (at' := at') hf.byt (by omega) (by omega) hc1 (h.inv.len _)
      refine WC.skip ?_
      refine WQ.next ?_
      refine WC.block ?_
      refine WC.seq ?_
      refine WC.region ?_
      refine WL.move ?_
      refine WL.ldW (xs := ndL (ldN p V i)) ?_ agg92 hnl
      refine WL.move ?_
      refine WL.quo ?_
      refine WL.cast (d := 56) (u := nI (cur / 512)) rfl (congrArg (Value.int .i64) (by omega)) ?_
      refine WL.call (hc := Tryz.call62) (sp := inBlock (x := ldN p V i) (k := cur / 512) (V0 := V0) (V := V) (D := D) (op := op) hbl (by omega) hV200) (h := ?_)
      rintro _ _ ⟨rfl, rfl⟩
      simp only [List.cons_append, List.nil_append]
      refine WL.move ?_
      refine WL.extract ?_
      refine WL.extract ?_
      refine WL.assign ?_
      refine WL.assign ?_
      refine WL.nil ?_
      refine WQ.next ?_
      refine WC.seq ?_
      refine WC.seq ?_
      refine WC.region ?_
      refine WL.move ?_
      refine WL.nei ?_
      refine WL.nil ?_
      refine WQ.next ?_
      refine WC.condF rfl rfl ?_
      refine WC.skip ?_
      refine WQ.next ?_
      refine WC.seq ?_
      refine WC.region ?_
      refine WL.move ?_
      refine WL.nilCheck ?_
      refine WL.fa ?_ fo87_0
      refine WL.ld ?_ sc24
      refine WL.move ?_
      refine WL.call (hc := Tryz.call63) (sp := tRead (n := p.n) (V0 := V0) (V := V) (D := D) (op := op) (k := ptr V (ldN p V i) (cur / 512)) (by omega) (by omega)) (h := ?_)
      rintro _ _ ⟨gb, q, el, rfl, ⟨hq1, hq2, hl5⟩, rfl⟩
      refine WL.move ?_
      refine WL.extract ?_
      refine WL.extract ?_
      refine WL.assign ?_
      refine WL.assign ?_
      refine WL.nil ?_
      refine WQ.next ?_
      refine WC.seq ?_
      refine WC.seq ?_
      refine WC.region ?_
      refine WL.move ?_
      refine WL.nei ?_
      refine WL.nil ?_
      refine WQ.next ?_
      refine WC.condF rfl rfl ?_
      refine WC.skip ?_
      refine WQ.next ?_
      refine WC.seq ?_
      refine WC.region ?_
      refine WL.move ?_
      refine WL.rem ?_
      refine WL.cast (d := 76) (u := nI (cur % 512)) rfl (congrArg (Value.int .i64) (by omega)) ?_
      refine WL.assign ?_
      refine WL.nil ?_
      refine WQ.next ?_
      refine WC.seq ?_
      refine WC.region ?_
      refine WL.move ?_
      refine WL.move ?_
      refine WL.add ?_
      refine WL.move ?_
      refine WL.sub ?_
      refine WL.minI ?_
      refine WL.cast (d := 82) (u := nI (cur % 512 + mm)) rfl (congrArg (Value.int .i64) (by split <;> omega)) ?_
      refine WL.assign ?_
      refine WL.nil ?_
      refine WQ.next ?_
      refine WC.seq ?_
      refine WC.region ?_
      refine WL.move ?_
      refine WL.move ?_
      refine WL.move ?_
      refine WL.move ?_
      refine WL.slcLH ?_ so33
      refine WL.cast (d := 87) (u := .slice (some ⟨gb, cur % 512, none⟩) mm (q - cur % 512)) rfl (by rw [show ((cur % 512 : Nat) : Int).toNat = cur % 512 from Int.toNat_natCast _, show ((cur % 512 + mm : Nat) : Int).toNat = cur % 512 + mm from Int.toNat_natCast _, if_neg (by omega), Nat.zero_add, Nat.mul_one, show cur % 512 + mm - cur % 512 = mm from by omega]) ?_
      have hnews : Reads (buf gb el q (bvs (V (ptr V (ldN p V i) (cur / 512))))) (some ⟨gb, cur % 512, none⟩) (bvs (((V (ptr V (ldN p V i) (cur / 512))).drop (cur % 512)).take mm)) := by
        have := (Reads.buf (g := gb) (e := el) (k := q) (xs := bvs (V (ptr V (ldN p V i) (cur / 512))))).drop (cur % 512)
        rw [Nat.zero_add] at this
        rw [bvs_take, bvs_drop]
        exact this.take mm
      refine WL.appendAny (m := mm) so33 (by decide) (by repeat (first | exact .here | apply Rem.there | apply Repl.there | apply Mem.there)) hnews (by repeat (first | exact .here | apply Rem.there | apply Repl.there | apply Mem.there)) (by rw [bvs_length, List.length_take, List.length_drop, hl5]; omega) (bvs_single _) (by omega) (by omega) ⟨_, z5, rfl⟩ (fun vB hvB => ?_)
      refine WL.assign ?_
      refine WL.nil ?_
      refine WQ.next ?_
      refine WC.region ?_
      refine WL.move ?_
      refine WL.move ?_
      refine WL.move ?_
      refine WL.sub ?_
      refine WL.add ?_
      refine WL.cast (d := 93) (u := nI (cur + mm)) rfl (congrArg (Value.int .i64) (by omega)) ?_
      refine WL.assign ?_
      refine WL.nil ?_
      refine WQ.blockNormal ?_
      refine WQ.to (A := rowR 5 1 vB (cur - at' + mm) (bvs ((f.2.drop at').take (cur - at')) ++ bvs (((V (ptr V (ldN p V i) (cur / 512))).drop (cur % 512)).take mm))) (A' := rowR 5 1 vB (cur + mm - at') (bvs ((f.2.drop at').take (cur + mm - at')))) (fun h hh => by rw [hrs, bvs_append, show cur + mm - at' = cur - at' + mm from by omega]; exact hh) ?_
      exact WQ.back (cur + mm, vB) ⟨by show at' ≤ cur + mm; omega, by show cur + mm ≤ en ∨ cur + mm = at'; omega⟩ (by show en - (cur + mm) < en - cur; omega)
    · have hge : ¬ cur < en := by have := of_decide_eq_false hb; omega
      have hfe : (f.2.drop at').take (cur - at') = (f.2.drop at').take k := by
        rw [hen2]
        rcases hc2 with h1 | h1
        · rw [show cur = en from by omega]
        · rw [show cur - at' = 0 from by omega, show en - at' = 0 from by omega]
      have hfl : ((f.2.drop at').take k).length = cur - at' := by
        rw [← hfe, List.length_take, List.length_drop]
        omega
      refine WC.exit (WQ.thenExit (WQ.thenExit (WQ.blockExit (?_))))
      refine WQ.next ?_
      refine WC.seq ?_
      refine WC.region ?_
      refine WL.move ?_
      refine WL.assign ?_
      refine WL.assign ?_
      refine WL.nil ?_
      refine WQ.next ?_
      refine WC.ret (?_)
      refine WQ.to (A := rowR 5 1 u (cur - at') (bvs ((f.2.drop at').take (cur - at')))) (A' := rowR 5 1 u ((f.2.drop at').take k).length (bvs ((f.2.drop at').take k))) (fun h hh => by rw [hfl, ← hfe]; exact hh) ?_
      exact WQ.ret2 (h1 := .tmp (t := 8) rfl) (h2 := .tmp (t := 9) rfl) ⟨_, ⟨u, rfl, rfl⟩, Am.auto⟩
  · obtain ⟨en, hen, hen1, hen2⟩ : ∃ en, en = at' + k ∧ en ≤ f.2.length ∧ (f.2.drop at').take k = (f.2.drop at').take (en - at') := ⟨_, rfl, by omega, by congr 1; omega⟩
    refine WC.seq ?_
    refine WC.region ?_
    refine WL.assign ?_
    refine WL.assign ?_
    refine WL.nil ?_
    refine WQ.next ?_
    refine WC.seq ?_
    refine WC.region ?_
    refine WL.move ?_
    refine WL.move ?_
    refine WL.call (hc := Tryz.call61) (sp := inLoad (i := i) (V0 := V0) (V := V) (D := D) (op := op) ho (h.lt hi) (h.digI hi)) (h := ?_)
    rintro _ _ ⟨rfl, rfl⟩
    simp only [List.cons_append, List.nil_append]
    refine WL.move ?_
    refine WL.extract ?_
    refine WL.extract ?_
    refine WL.allocL zNd rfl fun b10 => ?_
    refine WL.stLA (xs := ndL nd0) (us := ndL (ldN p V i)) ?_ agg92 hnl rfl (ndL_single _)
    refine WL.assign ?_
    refine WL.nil ?_
    refine WQ.next ?_
    refine WC.seq ?_
    refine WC.seq ?_
    refine WC.region ?_
    refine WL.move ?_
    refine WL.nei ?_
    refine WL.nil ?_
    refine WQ.next ?_
    refine WC.condF rfl rfl ?_
    refine WC.skip ?_
    refine WQ.next ?_
    refine WC.seq ?_
    refine WC.seq ?_
    refine WC.region ?_
    refine WL.move ?_
    refine WL.lss ?_
    refine WL.move ?_
    refine WL.cast (d := 30) (u := .bool false) rfl (congrArg Value.bool (by first | (simp; done) | (simp; omega) | (unfold nI; simp; omega) | omega)) ?_
    refine WL.gT ?_
    refine WL.move ?_
    refine WL.gT ?_
    refine WL.lss ?_
    refine WL.pickF ?_
    refine WL.nil ?_
    refine WQ.next ?_
    refine WC.condF rfl (congrArg Value.bool (by first | (simp; done) | (simp; omega) | (unfold nI; simp; omega) | omega)) ?_
    refine WC.skip ?_
    refine WQ.next ?_
    refine WC.seq ?_
    refine WC.region ?_
    refine WL.fa ?_ fo92_1
    refine WL.ldL (xs := ndL (ldN p V i)) (i := 1) ?_ sc3 hszg
    refine WL.assign ?_
    refine WL.nil ?_
    refine WQ.next ?_
    refine WC.seq ?_
    refine WC.seq ?_
    refine WC.region ?_
    refine WL.move ?_
    refine WL.move ?_
    refine WL.lss ?_
    refine WL.move ?_
    refine WL.cast (d := 39) (u := .bool true) rfl (congrArg Value.bool (by first | (simp; done) | (simp; omega) | (unfold nI; simp; omega) | omega)) ?_
    refine WL.gT ?_
    refine WL.move ?_
    refine WL.gT ?_
    refine WL.move ?_
    refine WL.gT ?_
    refine WL.move ?_
    refine WL.gT ?_
    refine WL.sub ?_
    refine WL.gT ?_
    refine WL.lss ?_
    refine WL.pickT ?_
    refine WL.nil ?_
    refine WQ.next ?_
    refine WC.condT rfl (congrArg Value.bool (by first | (simp; done) | (simp; omega) | (unfold nI; simp; omega) | omega)) ?_
    refine WC.region ?_
    refine WL.move ?_
    refine WL.move ?_
    refine WL.add ?_
    refine WL.cast (d := 48) (u := nI en) rfl (congrArg (Value.int .i64) (by omega)) ?_
    refine WL.assign ?_
    refine WL.nil ?_
    refine WQ.next ?_
    refine WC.seq ?_
    refine WC.region ?_
    refine WL.assign ?_
    refine WL.emp (A := rowR 5 1 (.slice none 0 0) (at' - at') (bvs ((f.2.drop at').take (at' - at')))) (by rw [Nat.sub_self]; exact rowR.nil _) ?_
    refine WL.nil ?_
    refine WQ.next ?_
    refine WC.seq ?_
    refine WC.block ?_
    refine WC.loopA (σ := Nat × Value) (fun y => [(0, .pointer (some ⟨s, 0, none⟩)), (2, nI y.1), (10, .pointer (some ⟨b10, 0, none⟩)), (12, nI en), (13, y.2)]) (fun y => [rowR 5 1 y.2 (y.1 - at') (bvs ((f.2.drop at').take (y.1 - at'))), row b10 92 (ndL (ldN p V i)), pt s (stO c a p), pt a (alO c p), TR c p.n V0 V D op] ++ F) (fun y => at' ≤ y.1 ∧ (y.1 ≤ en ∨ y.1 = at')) (fun y => en - y.1) (at', .slice none 0 0) ⟨Nat.le_refl _, .inr rfl⟩ ?_
    rintro ⟨cur, u⟩ hy
    obtain ⟨hc1, hc2⟩ := hy
    simp only at hc1 hc2
    refine WC.seq ?_
    refine WC.seq ?_
    refine WC.region ?_
    refine WL.move ?_
    refine WL.move ?_
    refine WL.lss ?_
    refine WL.nil ?_
    refine WQ.next ?_
    refine WC.cond rfl (fun hb => ?_) (fun hb => ?_)
    · have hlt2 : cur < en := by have := of_decide_eq_true hb; omega
      obtain ⟨mm, hmm⟩ : ∃ mm, mm = min (512 - cur % 512) (en - cur) := ⟨_, rfl⟩
      have hSk : stdS (dat f.2.length) (cur / 512) = true := stdS_iff.2 (.inl (by unfold dat; omega))
      have hrk := h.inv.rng i _ _ _ hnd hSk
      have hV200 : 10 ≤ cur / 512 → 245 ≤ (ldN p V i).bl.getD 10 0 ∧ (ldN p V i).bl.getD 10 0 < p.n := fun h10 => by
        have := h.inv.rng i _ _ 200 hnd (stdS_iff.2 (.inr ⟨rfl, by unfold dat; omega⟩))
        rw [ptr_200] at this
        omega
      have hrs := read_step (cur := cur) (mm := mm) (at' := at') hf.byt (by omega) (by omega) hc1 (h.inv.len _)
      refine WC.skip ?_
      refine WQ.next ?_
      refine WC.block ?_
      refine WC.seq ?_
      refine WC.region ?_
      refine WL.move ?_
      refine WL.ldW (xs := ndL (ldN p V i)) ?_ agg92 hnl
      refine WL.move ?_
      refine WL.quo ?_
      refine WL.cast (d := 56) (u := nI (cur / 512)) rfl (congrArg (Value.int .i64) (by omega)) ?_
      refine WL.call (hc := Tryz.call62) (sp := inBlock (x := ldN p V i) (k := cur / 512) (V0 := V0) (V := V) (D := D) (op := op) hbl (by omega) hV200) (h := ?_)
      rintro _ _ ⟨rfl, rfl⟩
      simp only [List.cons_append, List.nil_append]
      refine WL.move ?_
      refine WL.extract ?_
      refine WL.extract ?_
      refine WL.assign ?_
      refine WL.assign ?_
      refine WL.nil ?_
      refine WQ.next ?_
      refine WC.seq ?_
      refine WC.seq ?_
      refine WC.region ?_
      refine WL.move ?_
      refine WL.nei ?_
      refine WL.nil ?_
      refine WQ.next ?_
      refine WC.condF rfl rfl ?_
      refine WC.skip ?_
      refine WQ.next ?_
      refine WC.seq ?_
      refine WC.region ?_
      refine WL.move ?_
      refine WL.nilCheck ?_
      refine WL.fa ?_ fo87_0
      refine WL.ld ?_ sc24
      refine WL.move ?_
      refine WL.call (hc := Tryz.call63) (sp := tRead (n := p.n) (V0 := V0) (V := V) (D := D) (op := op) (k := ptr V (ldN p V i) (cur / 512)) (by omega) (by omega)) (h := ?_)
      rintro _ _ ⟨gb, q, el, rfl, ⟨hq1, hq2, hl5⟩, rfl⟩
      refine WL.move ?_
      refine WL.extract ?_
      refine WL.extract ?_
      refine WL.assign ?_
      refine WL.assign ?_
      refine WL.nil ?_
      refine WQ.next ?_
      refine WC.seq ?_
      refine WC.seq ?_
      refine WC.region ?_
      refine WL.move ?_
      refine WL.nei ?_
      refine WL.nil ?_
      refine WQ.next ?_
      refine WC.condF rfl rfl ?_
      refine WC.skip ?_
      refine WQ.next ?_
      refine WC.seq ?_
      refine WC.region ?_
      refine WL.move ?_
      refine WL.rem ?_
      refine WL.cast (d := 76) (u := nI (cur % 512)) rfl (congrArg (Value.int .i64) (by omega)) ?_
      refine WL.assign ?_
      refine WL.nil ?_
      refine WQ.next ?_
      refine WC.seq ?_
      refine WC.region ?_
      refine WL.move ?_
      refine WL.move ?_
      refine WL.add ?_
      refine WL.move ?_
      refine WL.sub ?_
      refine WL.minI ?_
      refine WL.cast (d := 82) (u := nI (cur % 512 + mm)) rfl (congrArg (Value.int .i64) (by split <;> omega)) ?_
      refine WL.assign ?_
      refine WL.nil ?_
      refine WQ.next ?_
      refine WC.seq ?_
      refine WC.region ?_
      refine WL.move ?_
      refine WL.move ?_
      refine WL.move ?_
      refine WL.move ?_
      refine WL.slcLH ?_ so33
      refine WL.cast (d := 87) (u := .slice (some ⟨gb, cur % 512, none⟩) mm (q - cur % 512)) rfl (by rw [show ((cur % 512 : Nat) : Int).toNat = cur % 512 from Int.toNat_natCast _, show ((cur % 512 + mm : Nat) : Int).toNat = cur % 512 + mm from Int.toNat_natCast _, if_neg (by omega), Nat.zero_add, Nat.mul_one, show cur % 512 + mm - cur % 512 = mm from by omega]) ?_
      have hnews : Reads (buf gb el q (bvs (V (ptr V (ldN p V i) (cur / 512))))) (some ⟨gb, cur % 512, none⟩) (bvs (((V (ptr V (ldN p V i) (cur / 512))).drop (cur % 512)).take mm)) := by
        have := (Reads.buf (g := gb) (e := el) (k := q) (xs := bvs (V (ptr V (ldN p V i) (cur / 512))))).drop (cur % 512)
        rw [Nat.zero_add] at this
        rw [bvs_take, bvs_drop]
        exact this.take mm
      refine WL.appendAny (m := mm) so33 (by decide) (by repeat (first | exact .here | apply Rem.there | apply Repl.there | apply Mem.there)) hnews (by repeat (first | exact .here | apply Rem.there | apply Repl.there | apply Mem.there)) (by rw [bvs_length, List.length_take, List.length_drop, hl5]; omega) (bvs_single _) (by omega) (by omega) ⟨_, z5, rfl⟩ (fun vB hvB => ?_)
      refine WL.assign ?_
      refine WL.nil ?_
      refine WQ.next ?_
      refine WC.region ?_
      refine WL.move ?_
      refine WL.move ?_
      refine WL.move ?_
      refine WL.sub ?_
      refine WL.add ?_
      refine WL.cast (d := 93) (u := nI (cur + mm)) rfl (congrArg (Value.int .i64) (by omega)) ?_
      refine WL.assign ?_
      refine WL.nil ?_
      refine WQ.blockNormal ?_
      refine WQ.to (A := rowR 5 1 vB (cur - at' + mm) (bvs ((f.2.drop at').take (cur - at')) ++ bvs (((V (ptr V (ldN p V i) (cur / 512))).drop (cur % 512)).take mm))) (A' := rowR 5 1 vB (cur + mm - at') (bvs ((f.2.drop at').take (cur + mm - at')))) (fun h hh => by rw [hrs, bvs_append, show cur + mm - at' = cur - at' + mm from by omega]; exact hh) ?_
      exact WQ.back (cur + mm, vB) ⟨by show at' ≤ cur + mm; omega, by show cur + mm ≤ en ∨ cur + mm = at'; omega⟩ (by show en - (cur + mm) < en - cur; omega)
    · have hge : ¬ cur < en := by have := of_decide_eq_false hb; omega
      have hfe : (f.2.drop at').take (cur - at') = (f.2.drop at').take k := by
        rw [hen2]
        rcases hc2 with h1 | h1
        · rw [show cur = en from by omega]
        · rw [show cur - at' = 0 from by omega, show en - at' = 0 from by omega]
      have hfl : ((f.2.drop at').take k).length = cur - at' := by
        rw [← hfe, List.length_take, List.length_drop]
        omega
      refine WC.exit (WQ.thenExit (WQ.thenExit (WQ.blockExit (?_))))
      refine WQ.next ?_
      refine WC.seq ?_
      refine WC.region ?_
      refine WL.move ?_
      refine WL.assign ?_
      refine WL.assign ?_
      refine WL.nil ?_
      refine WQ.next ?_
      refine WC.ret (?_)
      refine WQ.to (A := rowR 5 1 u (cur - at') (bvs ((f.2.drop at').take (cur - at')))) (A' := rowR 5 1 u ((f.2.drop at').take k).length (bvs ((f.2.drop at').take k))) (fun h hh => by rw [hfl, ← hfe]; exact hh) ?_
      exact WQ.ret2 (h1 := .tmp (t := 8) rfl) (h2 := .tmp (t := 9) rfl) ⟨_, ⟨u, rfl, rfl⟩, Am.auto⟩
  · obtain ⟨en, hen, hen1, hen2⟩ : ∃ en, en = f.2.length ∧ en ≤ f.2.length ∧ (f.2.drop at').take k = (f.2.drop at').take (en - at') := ⟨_, rfl, by omega, by rw [List.take_of_length_le (by rw [List.length_drop]; omega), List.take_of_length_le (by rw [List.length_drop]; omega)]⟩
    refine WC.seq ?_
    refine WC.region ?_
    refine WL.assign ?_
    refine WL.assign ?_
    refine WL.nil ?_
    refine WQ.next ?_
    refine WC.seq ?_
    refine WC.region ?_
    refine WL.move ?_
    refine WL.move ?_
    refine WL.call (hc := Tryz.call61) (sp := inLoad (i := i) (V0 := V0) (V := V) (D := D) (op := op) ho (h.lt hi) (h.digI hi)) (h := ?_)
    rintro _ _ ⟨rfl, rfl⟩
    simp only [List.cons_append, List.nil_append]
    refine WL.move ?_
    refine WL.extract ?_
    refine WL.extract ?_
    refine WL.allocL zNd rfl fun b10 => ?_
    refine WL.stLA (xs := ndL nd0) (us := ndL (ldN p V i)) ?_ agg92 hnl rfl (ndL_single _)
    refine WL.assign ?_
    refine WL.nil ?_
    refine WQ.next ?_
    refine WC.seq ?_
    refine WC.seq ?_
    refine WC.region ?_
    refine WL.move ?_
    refine WL.nei ?_
    refine WL.nil ?_
    refine WQ.next ?_
    refine WC.condF rfl rfl ?_
    refine WC.skip ?_
    refine WQ.next ?_
    refine WC.seq ?_
    refine WC.seq ?_
    refine WC.region ?_
    refine WL.move ?_
    refine WL.lss ?_
    refine WL.move ?_
    refine WL.cast (d := 30) (u := .bool false) rfl (congrArg Value.bool (by first | (simp; done) | (simp; omega) | (unfold nI; simp; omega) | omega)) ?_
    refine WL.gT ?_
    refine WL.move ?_
    refine WL.gT ?_
    refine WL.lss ?_
    refine WL.pickF ?_
    refine WL.nil ?_
    refine WQ.next ?_
    refine WC.condF rfl (congrArg Value.bool (by first | (simp; done) | (simp; omega) | (unfold nI; simp; omega) | omega)) ?_
    refine WC.skip ?_
    refine WQ.next ?_
    refine WC.seq ?_
    refine WC.region ?_
    refine WL.fa ?_ fo92_1
    refine WL.ldL (xs := ndL (ldN p V i)) (i := 1) ?_ sc3 hszg
    refine WL.cast (d := 35) (u := nI en) rfl (congrArg nI hen.symm) ?_
    refine WL.assign ?_
    refine WL.nil ?_
    refine WQ.next ?_
    refine WC.seq ?_
    refine WC.seq ?_
    refine WC.region ?_
    refine WL.move ?_
    refine WL.move ?_
    refine WL.lss ?_
    refine WL.move ?_
    refine WL.cast (d := 39) (u := .bool true) rfl (congrArg Value.bool (by first | (simp; done) | (simp; omega) | (unfold nI; simp; omega) | omega)) ?_
    refine WL.gT ?_
    refine WL.move ?_
    refine WL.gT ?_
    refine WL.move ?_
    refine WL.gT ?_
    refine WL.move ?_
    refine WL.gT ?_
    refine WL.sub ?_
    refine WL.gT ?_
    refine WL.lss ?_
    refine WL.pickT ?_
    refine WL.nil ?_
    refine WQ.next ?_
    refine WC.condF rfl (congrArg Value.bool (by first | (simp; done) | (simp; omega) | (unfold nI; simp; omega) | omega)) ?_
    refine WC.skip ?_
    refine WQ.next ?_
    refine WC.seq ?_
    refine WC.region ?_
    refine WL.assign ?_
    refine WL.emp (A := rowR 5 1 (.slice none 0 0) (at' - at') (bvs ((f.2.drop at').take (at' - at')))) (by rw [Nat.sub_self]; exact rowR.nil _) ?_
    refine WL.nil ?_
    refine WQ.next ?_
    refine WC.seq ?_
    refine WC.block ?_
    refine WC.loopA (σ := Nat × Value) (fun y => [(0, .pointer (some ⟨s, 0, none⟩)), (2, nI y.1), (10, .pointer (some ⟨b10, 0, none⟩)), (12, nI en), (13, y.2)]) (fun y => [rowR 5 1 y.2 (y.1 - at') (bvs ((f.2.drop at').take (y.1 - at'))), row b10 92 (ndL (ldN p V i)), pt s (stO c a p), pt a (alO c p), TR c p.n V0 V D op] ++ F) (fun y => at' ≤ y.1 ∧ (y.1 ≤ en ∨ y.1 = at')) (fun y => en - y.1) (at', .slice none 0 0) ⟨Nat.le_refl _, .inr rfl⟩ ?_
    rintro ⟨cur, u⟩ hy
    obtain ⟨hc1, hc2⟩ := hy
    simp only at hc1 hc2
    refine WC.seq ?_
    refine WC.seq ?_
    refine WC.region ?_
    refine WL.move ?_
    refine WL.move ?_
    refine WL.lss ?_
    refine WL.nil ?_
    refine WQ.next ?_
    refine WC.cond rfl (fun hb => ?_) (fun hb => ?_)
    · have hlt2 : cur < en := by have := of_decide_eq_true hb; omega
      obtain ⟨mm, hmm⟩ : ∃ mm, mm = min (512 - cur % 512) (en - cur) := ⟨_, rfl⟩
      have hSk : stdS (dat f.2.length) (cur / 512) = true := stdS_iff.2 (.inl (by unfold dat; omega))
      have hrk := h.inv.rng i _ _ _ hnd hSk
      have hV200 : 10 ≤ cur / 512 → 245 ≤ (ldN p V i).bl.getD 10 0 ∧ (ldN p V i).bl.getD 10 0 < p.n := fun h10 => by
        have := h.inv.rng i _ _ 200 hnd (stdS_iff.2 (.inr ⟨rfl, by unfold dat; omega⟩))
        rw [ptr_200] at this
        omega
      have hrs := read_step (cur := cur) (mm := mm) (at' := at') hf.byt (by omega) (by omega) hc1 (h.inv.len _)
      refine WC.skip ?_
      refine WQ.next ?_
      refine WC.block ?_
      refine WC.seq ?_
      refine WC.region ?_
      refine WL.move ?_
      refine WL.ldW (xs := ndL (ldN p V i)) ?_ agg92 hnl
      refine WL.move ?_
      refine WL.quo ?_
      refine WL.cast (d := 56) (u := nI (cur / 512)) rfl (congrArg (Value.int .i64) (by omega)) ?_
      refine WL.call (hc := Tryz.call62) (sp := inBlock (x := ldN p V i) (k := cur / 512) (V0 := V0) (V := V) (D := D) (op := op) hbl (by omega) hV200) (h := ?_)
      rintro _ _ ⟨rfl, rfl⟩
      simp only [List.cons_append, List.nil_append]
      refine WL.move ?_
      refine WL.extract ?_
      refine WL.extract ?_
      refine WL.assign ?_
      refine WL.assign ?_
      refine WL.nil ?_
      refine WQ.next ?_
      refine WC.seq ?_
      refine WC.seq ?_
      refine WC.region ?_
      refine WL.move ?_
      refine WL.nei ?_
      refine WL.nil ?_
      refine WQ.next ?_
      refine WC.condF rfl rfl ?_
      refine WC.skip ?_
      refine WQ.next ?_
      refine WC.seq ?_
      refine WC.region ?_
      refine WL.move ?_
      refine WL.nilCheck ?_
      refine WL.fa ?_ fo87_0
      refine WL.ld ?_ sc24
      refine WL.move ?_
      refine WL.call (hc := Tryz.call63) (sp := tRead (n := p.n) (V0 := V0) (V := V) (D := D) (op := op) (k := ptr V (ldN p V i) (cur / 512)) (by omega) (by omega)) (h := ?_)
      rintro _ _ ⟨gb, q, el, rfl, ⟨hq1, hq2, hl5⟩, rfl⟩
      refine WL.move ?_
      refine WL.extract ?_
      refine WL.extract ?_
      refine WL.assign ?_
      refine WL.assign ?_
      refine WL.nil ?_
      refine WQ.next ?_
      refine WC.seq ?_
      refine WC.seq ?_
      refine WC.region ?_
      refine WL.move ?_
      refine WL.nei ?_
      refine WL.nil ?_
      refine WQ.next ?_
      refine WC.condF rfl rfl ?_
      refine WC.skip ?_
      refine WQ.next ?_
      refine WC.seq ?_
      refine WC.region ?_
      refine WL.move ?_
      refine WL.rem ?_
      refine WL.cast (d := 76) (u := nI (cur % 512)) rfl (congrArg (Value.int .i64) (by omega)) ?_
      refine WL.assign ?_
      refine WL.nil ?_
      refine WQ.next ?_
      refine WC.seq ?_
      refine WC.region ?_
      refine WL.move ?_
      refine WL.move ?_
      refine WL.add ?_
      refine WL.move ?_
      refine WL.sub ?_
      refine WL.minI ?_
      refine WL.cast (d := 82) (u := nI (cur % 512 + mm)) rfl (congrArg (Value.int .i64) (by split <;> omega)) ?_
      refine WL.assign ?_
      refine WL.nil ?_
      refine WQ.next ?_
      refine WC.seq ?_
      refine WC.region ?_
      refine WL.move ?_
      refine WL.move ?_
      refine WL.move ?_
      refine WL.move ?_
      refine WL.slcLH ?_ so33
      refine WL.cast (d := 87) (u := .slice (some ⟨gb, cur % 512, none⟩) mm (q - cur % 512)) rfl (by rw [show ((cur % 512 : Nat) : Int).toNat = cur % 512 from Int.toNat_natCast _, show ((cur % 512 + mm : Nat) : Int).toNat = cur % 512 + mm from Int.toNat_natCast _, if_neg (by omega), Nat.zero_add, Nat.mul_one, show cur % 512 + mm - cur % 512 = mm from by omega]) ?_
      have hnews : Reads (buf gb el q (bvs (V (ptr V (ldN p V i) (cur / 512))))) (some ⟨gb, cur % 512, none⟩) (bvs (((V (ptr V (ldN p V i) (cur / 512))).drop (cur % 512)).take mm)) := by
        have := (Reads.buf (g := gb) (e := el) (k := q) (xs := bvs (V (ptr V (ldN p V i) (cur / 512))))).drop (cur % 512)
        rw [Nat.zero_add] at this
        rw [bvs_take, bvs_drop]
        exact this.take mm
      refine WL.appendAny (m := mm) so33 (by decide) (by repeat (first | exact .here | apply Rem.there | apply Repl.there | apply Mem.there)) hnews (by repeat (first | exact .here | apply Rem.there | apply Repl.there | apply Mem.there)) (by rw [bvs_length, List.length_take, List.length_drop, hl5]; omega) (bvs_single _) (by omega) (by omega) ⟨_, z5, rfl⟩ (fun vB hvB => ?_)
      refine WL.assign ?_
      refine WL.nil ?_
      refine WQ.next ?_
      refine WC.region ?_
      refine WL.move ?_
      refine WL.move ?_
      refine WL.move ?_
      refine WL.sub ?_
      refine WL.add ?_
      refine WL.cast (d := 93) (u := nI (cur + mm)) rfl (congrArg (Value.int .i64) (by omega)) ?_
      refine WL.assign ?_
      refine WL.nil ?_
      refine WQ.blockNormal ?_
      refine WQ.to (A := rowR 5 1 vB (cur - at' + mm) (bvs ((f.2.drop at').take (cur - at')) ++ bvs (((V (ptr V (ldN p V i) (cur / 512))).drop (cur % 512)).take mm))) (A' := rowR 5 1 vB (cur + mm - at') (bvs ((f.2.drop at').take (cur + mm - at')))) (fun h hh => by rw [hrs, bvs_append, show cur + mm - at' = cur - at' + mm from by omega]; exact hh) ?_
      exact WQ.back (cur + mm, vB) ⟨by show at' ≤ cur + mm; omega, by show cur + mm ≤ en ∨ cur + mm = at'; omega⟩ (by show en - (cur + mm) < en - cur; omega)
    · have hge : ¬ cur < en := by have := of_decide_eq_false hb; omega
      have hfe : (f.2.drop at').take (cur - at') = (f.2.drop at').take k := by
        rw [hen2]
        rcases hc2 with h1 | h1
        · rw [show cur = en from by omega]
        · rw [show cur - at' = 0 from by omega, show en - at' = 0 from by omega]
      have hfl : ((f.2.drop at').take k).length = cur - at' := by
        rw [← hfe, List.length_take, List.length_drop]
        omega
      refine WC.exit (WQ.thenExit (WQ.thenExit (WQ.blockExit (?_))))
      refine WQ.next ?_
      refine WC.seq ?_
      refine WC.region ?_
      refine WL.move ?_
      refine WL.assign ?_
      refine WL.assign ?_
      refine WL.nil ?_
      refine WQ.next ?_
      refine WC.ret (?_)
      refine WQ.to (A := rowR 5 1 u (cur - at') (bvs ((f.2.drop at').take (cur - at')))) (A' := rowR 5 1 u ((f.2.drop at').take k).length (bvs ((f.2.drop at').take k))) (fun h hh => by rw [hfl, ← hfe]; exact hh) ?_
      exact WQ.ret2 (h1 := .tmp (t := 8) rfl) (h2 := .tmp (t := 9) rfl) ⟨_, ⟨u, rfl, rfl⟩, Am.auto⟩
end Go.Proofs.YtedmihapieleaaaGreat
end
section
namespace Go.Proofs.YtedmihapieleaaaGreat
open Go
theorem Spec.mid {P : Program} {f : FuncId} {args : Array Value} {X Y Z : HP} {R : List HP → Value → List HP → Prop} (h : Spec P f args [X, Z] R) : Spec P f args [X, Y, Z] fun F v M => R (Y :: F) v M := fun B F w hs => h B (Y :: F) w (Am.wk Am.auto B w hs)
structure IP (p : Pl) (F0 F : FM) (W : Nat) (y : (Nat → Bytes) × (Nat → Bytes) × List Nat) : Prop where
  r0 : Rep p y.1 F0
  r : Rep p y.2.1 F
  dk : Dk p y.2.2
  wt : wt p y.2.2 ≤ W
def inLs (s a c : Nat) (p : Pl) (op : Bool) (y : (Nat → Bytes) × (Nat → Bytes) × List Nat) : List HP := [pt s (stO c a p), pt a (alO c p), TR c p.n y.1 y.2.1 y.2.2 op]
def IN (s a c : Nat) (p : Pl) (F0 F : FM) (W : Nat) (op : Bool) : HP := fun h => ∃ y, IP p F0 F W y ∧ star (inLs s a c p op y) h
theorem IN.opens (s a c : Nat) (p : Pl) (F0 F : FM) (W : Nat) (op : Bool) : Opens (IN s a c p F0 F W op) (IP p F0 F W) (inLs s a c p op) := ⟨fun h hh => hh, fun x hp h hh => ⟨x, hp, hh⟩⟩
attribute [irreducible] IN
def Rw (p : Pl) (W c : Nat) : Prop := p.n ≤ 304 ∨ (p.tb - 245) + W + c ≤ 60
theorem Rw.rm {p : Pl} {W c : Nat} {D : List Nat} (h : Rw p W c) (hw : wt p D ≤ W) : Rm p D c := by
  unfold Rw at h; unfold Rm
  rcases h with h | h
  · exact .inl h
  · exact .inr (by omega)
theorem Spec.re {P : Program} {f : FuncId} {args : Array Value} {L L' : List HP} {R : List HP → Value → List HP → Prop} (h : Spec P f args L R) (hk : ∀ F, Wk (L' ++ F) (L ++ F)) : Spec P f args L' R := fun B F w hs => h B F w (hk F B w hs)
theorem Rep.imapF {p : Pl} {V : Nat → Bytes} {F : FM} (h : Rep p V F) {j : Nat} (hj : j < p.ino) : dig V p.im j = (F j).isSome := by
  rw [h.inv.imap j hj]
  unfold ndOf
  cases F j <;> rfl
variable {s a c : Nat} {p : Pl} {F0 F : FM} {W : Nat} {op : Bool}
theorem nStat {i : Nat} {f : Nat × Bytes} (ho : PlOk p) (hi : F i = some f) : Spec Tryz.prog 29 #[.pointer (some ⟨s, 0, none⟩), nI i] [IN s a c p F0 F W op] fun G v M => v = .tuple #[.agg #[nI f.1, nI f.2.length], .int .i64 0] ∧ M = IN s a c p F0 F W op :: G := by
  refine Spec.opens (IN.opens s a c p F0 F W op) fun y hy => (inStat (s := s) (c := c) (a := a) (V0 := y.1) (V := y.2.1) (D := y.2.2) (op := op) (i := i) ho (hy.r.lt hi) (hy.r.digI hi)).post ?_
  rintro G v M ⟨rfl, rfl⟩
  have hf := hy.r.ok i f hi
  rw [hf.kd, hf.sz]
  exact ⟨_, ⟨rfl, rfl⟩, Wk.shutR (M := G) (IN.opens s a c p F0 F W op) y hy⟩
theorem nRead {i at' k : Nat} {f : Nat × Bytes} (ho : PlOk p) (hi : F i = some f) (hat : at' ≤ 9223372036854775807) (hk : k ≤ 9223372036854775807) : Spec Tryz.prog 23 #[.pointer (some ⟨s, 0, none⟩), nI i, nI at', nI k] [IN s a c p F0 F W op] fun G v M => ∃ u, v = .tuple #[u, .int .i64 0] ∧ M = rowR 5 1 u ((f.2.drop at').take k).length (bvs ((f.2.drop at').take k)) :: IN s a c p F0 F W op :: G := by
  refine Spec.opens (IN.opens s a c p F0 F W op) fun y hy => (inRead (s := s) (c := c) (a := a) (V0 := y.1) (V := y.2.1) (D := y.2.2) (op := op) hy.r ho hi hat hk).post ?_
  rintro G v M ⟨u, rfl, rfl⟩
  exact ⟨_, ⟨u, rfl, rfl⟩, fun B w hs => Sat.front (.there .here) (Sat.shuts (M := rowR _ _ _ _ _ :: G) (IN.opens s a c p F0 F W op) hy (Am.wk Am.auto B w hs))⟩
theorem nWrite {i at' m cc : Nat} {f : Nat × Bytes} {R : HP} {A : Option Addr} {bs : Bytes} (ho : PlOk p) (hi : F i = some f) (hw : Rw p W (has (max f.2.length (at' + m)) - has f.2.length + (m + 511) / 512 + 10)) (hR : bs = [] ∨ Reads R A (bvs bs)) (hm : bs.length = m) (hcc : m ≤ cc) (hcb : cc ≤ maxLen) (hat : at' ≤ f.2.length) (hbg : at' + m ≤ 70656) (hfit : tot F p.ino + has (max f.2.length (at' + m)) ≤ p.dc + has f.2.length) :
    Spec Tryz.prog 20 #[.pointer (some ⟨s, 0, none⟩), nI i, nI at', .slice A m cc] [IN s a c p F0 F W true, R] fun G v M => v = okV ∧ M = IN s a c p F0 (updM F i (some (f.1, wrB f.2 at' bs))) (W + (has (max f.2.length (at' + m)) - has f.2.length) + (m + 511) / 512 + 5) true :: R :: G := by
  refine Spec.opens (IN.opens s a c p F0 F W true) fun y hy => ((inWrite (s := s) (c := c) (a := a) (V0 := y.1) (V := y.2.1) (D := y.2.2) (cc := cc) hy.r ho hi hy.dk (hw.rm hy.wt) hR hm hcc hcb hat hbg).re (fun G B w hs => Sat.front (.there (.there (.there .here))) hs)).post ?_
  rintro G v M (⟨hfull, rfl, rfl⟩ | ⟨hle, V1, D1, hrep, ⟨hdk, hwt⟩, rfl, rfl⟩)
  · omega
  · have hw1 := hy.wt
    exact ⟨_, ⟨rfl, rfl⟩, Wk.trans (Am.wk Am.auto) (Wk.shutR (M := R :: G) (IN.opens s a c p F0 (updM F i (some (f.1, wrB f.2 at' bs))) (W + (has (max f.2.length (at' + m)) - has f.2.length) + (m + 511) / 512 + 5) true) (y.1, V1, D1) ⟨hy.r0, hrep, hdk, by show wt p D1 ≤ _; omega⟩)⟩
def rootM : FM := fun i => if i = 0 then some (2, []) else none
def freshW (p : Pl) : Nat → Bytes := svV p (freshV p) 0 ⟨2, 0, List.replicate 11 0⟩
theorem fresh_len5 {p : Pl} : Len5 (freshV p) := fun k => by
  unfold freshV fmtA
  rw [fmtV_at]
  split
  · exact fmtZ_length _ _ _
  · rw [fmtV_at]
    split
    · exact fmtZ_length _ _ _
    · exact zeros_length
theorem fresh_rep {p : Pl} (h : PlIs p) : Rep p (freshW p) rootM := by
  have ho := h.ok
  have hlo := ho.lo
  have htd := ho.tbda
  have hi1 := ho.i1
  have hi2 := ho.i2
  have htab := ho.tab
  have hfx : Fits ⟨2, 0, List.replicate 11 0⟩ := kFits (by decide)
  have hld : ldN p (freshW p) 0 = ⟨2, 0, List.replicate 11 0⟩ := ldN_svV fresh_len5 hfx
  have hnd : ∀ i x S, ndOf p (freshW p) rootM i = some (x, S) → i = 0 ∧ x = ⟨2, 0, List.replicate 11 0⟩ ∧ ∀ k, S k = false := by
    intro i x S hi
    unfold ndOf rootM at hi
    by_cases h0 : i = 0
    · subst h0
      rw [if_pos rfl] at hi
      have hi' : some (ldN p (freshW p) 0, stdS (dat ([] : Bytes).length)) = some (x, S) := hi
      injection hi' with hi'
      injection hi' with e1 e2
      exact ⟨rfl, by rw [← e1, hld], fun k => by rw [← e2]; exact stdS_zero k⟩
    · rw [if_neg h0] at hi; cases hi
  have hV : ∀ v, v < p.tb → freshW p v = freshV p v := fun v hv => wr_other _ _ (by omega)
  have hbm : ∀ k, k < p.dc → dig (freshW p) p.bm k = false := fun k hk => by
    have := ho.mapAt hk
    rw [← fresh_bm h hk]
    unfold dig
    rw [hV _ (by omega)]
  refine ⟨⟨svV_len fresh_len5 _ _, ?_, ?_, ?_, ?_, ?_, ?_, ?_⟩, ?_, ?_, rfl⟩
  · intro i x S hi; obtain ⟨_, h2, _⟩ := hnd i x S hi; rw [h2]; exact hfx
  · intro i x S hi; obtain ⟨_, _, h3⟩ := hnd i x S hi; exact ⟨fun k hk => (by rw [h3 k] at hk; cases hk), fun k hk => (by rw [h3 k] at hk; cases hk)⟩
  · intro i x S hi; obtain ⟨h1, _, _⟩ := hnd i x S hi; omega
  · intro i x S k hi hk; obtain ⟨_, _, h3⟩ := hnd i x S hi; rw [h3 k] at hk; cases hk
  · intro i x S k j y T l hi hk; obtain ⟨_, _, h3⟩ := hnd i x S hi; rw [h3 k] at hk; cases hk
  · intro b hb
    rw [hbm b hb]
    refine ⟨fun hh => (by cases hh), ?_⟩
    rintro ⟨i, x, S, k, hi, hk, _⟩
    obtain ⟨_, _, h3⟩ := hnd i x S hi
    rw [h3 k] at hk; cases hk
  · intro i hi
    have h1 : dig (freshW p) p.im i = decide (i = 0) := by
      rw [← fresh_im h hi]
      unfold dig
      rw [hV _ (by omega)]
    rw [h1]
    unfold ndOf rootM
    by_cases h0 : i = 0
    · rw [if_pos h0, decide_eq_true h0]; rfl
    · rw [if_neg h0, decide_eq_false h0]; rfl
  · intro i f hi
    unfold rootM at hi
    by_cases h0 : i = 0
    · subst h0
      rw [if_pos rfl] at hi
      cases hi
      rw [hld]
      exact ⟨rfl, .inr rfl, rfl, Nat.zero_le _, fun q hq => by cases hq⟩
    · rw [if_neg h0] at hi; cases hi
  · have h1 : ∀ n, tot rootM n = 0 := by
      intro n
      induction n with
      | zero => rfl
      | succ n ih =>
        unfold tot
        rw [ih]
        unfold rootM
        by_cases h0 : n = 0
        · rw [if_pos h0]; rfl
        · rw [if_neg h0]; rfl
    rw [h1]
    unfold cnt
    rw [List.filter_eq_nil_iff.2 (fun k hk => by rw [hbm k (List.mem_range.1 hk)]; decide)]
    rfl
theorem tot_root (n : Nat) : tot rootM n = 0 := by
  induction n with
  | zero => rfl
  | succ n ih =>
    unfold tot
    rw [ih]
    unfold rootM
    by_cases h0 : n = 0
    · rw [if_pos h0]; rfl
    · rw [if_neg h0]; rfl
theorem fmtB_few {p : Pl} (h : PlIs p) : (fmtB p []).length + 1 ≤ 60 := by
  have h1 := fmtD_length (fmtD [] p.im ((p.ino + 4095) / 4096)) p.bm ((p.dc + 4095) / 4096)
  have h2 := fmtD_length [] p.im ((p.ino + 4095) / 4096)
  have h3 := h.i2
  have h4 := h.n2
  have h5 := h.dc
  have h6 := h.i1
  have h7 := h.da
  have h8 := h.m1
  have h9 := h.bm
  unfold fmtB
  have : ([] : List Nat).length = 0 := rfl
  omega
end Go.Proofs.YtedmihapieleaaaGreat
end
section
namespace Go.Proofs.YtedmihapieleaaaGreat
open Go
section
variable {P : Program} {B : Base} {n : Nat} {Q Q' : Exit → Act → World → Prop} {e : Env} {L : List HP} {ops : Array Oper} {l : List Oper}
variable {d : Nat} {ty : TypeId} {pos : String} {af : Array Edge} {x y z : Operand} {gd : Option (Nat × Bool)}
theorem Qt.remT {p q : Int} {t u : TypeId} (hx : evo e x = some (.int .i64 p) := by rfl) (hy : evo e y = some (.int .i64 q) := by rfl) (hq : 1 ≤ q := by omega) :
    Qt P B n e L ⟨some d, .binOp .rem t x y u, ty, pos, af, gd⟩ (.int .i64 (p.tmod q)) :=
  Qt.bin (run_ints fun w => by
    have : q ≠ 0 := by omega
    simp [binOp_ints, Op.intDiv, this]) hx hy
theorem WL.remT {p q : Int} {t u : TypeId} (h : WL P B n ops l Q ((d, .int .i64 (p.tmod q)) :: e) L) (hx : evo e x = some (.int .i64 p) := by rfl) (hy : evo e y = some (.int .i64 q) := by rfl) (hq : 1 ≤ q := by omega) (hd : Nat.ble (d + 1) n = true := by rfl) :
    WL P B n ops (⟨some d, .binOp .rem t x y u, ty, pos, af, none⟩ :: l) Q e L :=
  WL.pure h hd (Qt.remT (hq := hq) (hx := hx) (hy := hy))
end
end Go.Proofs.YtedmihapieleaaaGreat
end
section
namespace Go.Proofs.YtedmihapieleaaaGreat
open Go
section
variable {P : Program}
def arrIntOk (P : Program) (t el k : Nat) : Bool := arrOk P t el k 1 && intAny P el
theorem arrInt_of {t el k : Nat} (h : arrIntOk P t el k = true) : P.underlying t = some (.array k el) ∧ (∃ i, P.info? el = some i ∧ i.size = 1) ∧ intAny P el = true := by
  unfold arrIntOk at h
  rw [Bool.and_eq_true] at h
  obtain ⟨h1, h2⟩ := arr_of h.1
  exact ⟨h1, h2, h.2⟩
theorem cellsOf_of {el : Nat} {i : TypeInfo} (hi : P.info? el = some i) : P.cellsOf el = i.size := by
  unfold Program.cellsOf
  simp [hi]
theorem bvs_at {xs : Bytes} {i : Nat} (h : i < xs.length) : (bvs xs).toArray[i]? = some (bv xs[i]) := by
  simp [bvs, h]
theorem run_eqItems_bytes {el : Nat} (hk : intAny P el = true) (d : Nat) (xs ys : Bytes) (w : World) : ∀ (is : List Nat), (∀ i ∈ is, i < xs.length ∧ i < ys.length) →
    (Op.eqItems (d + 1) el 1 (bvs xs).toArray (bvs ys).toArray is).run P w = .ok (decide (∀ i ∈ is, xs[i]? = ys[i]?)) w
  | [], _ => by simp [Op.eqItems]
  | i :: is, h => by
    obtain ⟨hx, hy⟩ := h i (List.mem_cons_self ..)
    have px := run_part_int (P := P) hk (cs := (bvs xs).toArray) (i := i) (bvs_at hx) w
    have py := run_part_int (P := P) hk (cs := (bvs ys).toArray) (i := i) (bvs_at hy) w
    obtain ⟨k, hu⟩ := int_any hk
    have pe := run_equalIn_int (P := P) w d el .u8 k (xs[i].toNat : Int) (ys[i].toNat : Int) hu
    have ih := run_eqItems_bytes hk d xs ys w is (fun j hj => h j (List.mem_cons_of_mem _ hj))
    rw [Op.eqItems, Nat.mul_one]
    simp only [Sem.run_bind, px, py, Result.andThen_ok]
    rw [show bv xs[i] = .int .u8 (xs[i].toNat : Int) from rfl, show bv ys[i] = .int .u8 (ys[i].toNat : Int) from rfl, pe]
    simp only [Result.andThen_ok]
    by_cases hxy : xs[i] = ys[i]
    · rw [hxy]
      simp only [beq_self_eq_true, decide_true, Bool.not_true, Bool.false_eq_true, if_false]
      rw [ih]
      congr 1
      rw [decide_eq_decide]
      simp [hx, hy, hxy]
    · have hne : ¬ ((xs[i].toNat : Int) = (ys[i].toNat : Int)) := fun hh => hxy (UInt8.toNat_inj.1 (by omega))
      have : ¬ (∀ j ∈ i :: is, xs[j]? = ys[j]?) := fun hh => hxy (by
        have := hh i (List.mem_cons_self ..)
        rwa [List.getElem?_eq_getElem hx, List.getElem?_eq_getElem hy, Option.some.injEq] at this)
      rw [decide_eq_false this]
      simp [hne]
theorem run_equal_bytes {t el n : Nat} (h : arrIntOk P t el n = true) (d : Nat) {xs ys : Bytes} (hx : xs.length = n) (hy : ys.length = n) (w : World) :
    (Op.equalIn (d + 2) t (.agg (bvs xs).toArray) (.agg (bvs ys).toArray)).run P w = .ok (decide (xs = ys)) w := by
  obtain ⟨hu, ⟨i, hi, hs⟩, hk⟩ := arrInt_of h
  rw [run_equalIn_array w (d + 1) _ _ hu hi, cellsOf_of hi, hs, run_eqItems_bytes hk d xs ys w _ (fun j hj => by have := List.mem_range.1 hj; omega)]
  congr 1
  rw [decide_eq_decide]
  constructor
  · intro hh
    apply List.ext_getElem?
    intro j
    by_cases hj : j < n
    · exact hh j (List.mem_range.2 hj)
    · rw [List.getElem?_eq_none (by omega), List.getElem?_eq_none (by omega)]
  · intro hh j _
    rw [hh]
theorem run_check_items (emp : Bool) (m : Nat) {el : Nat} {i : TypeInfo} (hi : P.info? el = some i) (hs : i.size = 1) (hk : intAny P el = true) (xs : Bytes) (w : World) : ∀ (is : List Nat), (∀ j ∈ is, j < xs.length) →
    (forIn (m := Sem) is PUnit.unit (fun i _ => do
      Instr.checkKey emp (m + 1) el (← part el (bvs xs).toArray (i * (← sizeOf el)))
      pure (ForInStep.yield PUnit.unit))).run P w = .ok PUnit.unit w
  | [], _ => by simp
  | j :: is, h => by
    have px := run_part_int (P := P) hk (cs := (bvs xs).toArray) (i := j) (bvs_at (h j (List.mem_cons_self ..))) w
    obtain ⟨k, hu⟩ := int_any hk
    have pc := checkKey_int hu emp m .u8 (xs[j]'(h j (List.mem_cons_self ..))).toNat w
    have ih := run_check_items emp m hi hs hk xs w is (fun q hq => h q (List.mem_cons_of_mem _ hq))
    simp only [List.forIn_cons, Sem.run_bind, run_sizeOf w hi, Result.andThen_ok, cellsOf_of hi, hs, Nat.mul_one, px]
    rw [show bv (xs[j]'(h j (List.mem_cons_self ..))) = .int .u8 ((xs[j]'(h j (List.mem_cons_self ..))).toNat : Int) from rfl, pc]
    simp only [Result.andThen_ok, Sem.run_pure]
    exact ih
theorem run_check_bytes {t el n : Nat} (h : arrIntOk P t el n = true) (emp : Bool) (m : Nat) {xs : Bytes} (hx : xs.length = n) (w : World) : (Instr.checkKey emp (m + 2) t (.agg (bvs xs).toArray)).run P w = .ok () w := by
  obtain ⟨hu, ⟨i, hi, hs⟩, hk⟩ := arrInt_of h
  have := run_check_items (P := P) emp m hi hs hk xs w (List.range' 0 n) (fun j hj => by have := List.mem_range'.1 hj; omega)
  rw [Instr.checkKey]
  simp only [Sem.run_bind, run_underlying hu, Result.andThen_ok]
  simp only [Std.Legacy.Range.forIn_eq_forIn_range', Std.Legacy.Range.size, Nat.sub_zero, Nat.add_one_sub_one, Nat.div_one]
  rw [this]
  rfl
theorem sameBits_bytes (n : Nat) (xs : Bytes) : Instr.sameBits (n + 1) (.agg (bvs xs).toArray) (.agg (bvs xs).toArray) = true := by
  simp only [Instr.sameBits, beq_self_eq_true, Bool.true_and, List.all_eq_true]
  intro p hp
  have : ∀ (l : List Value), p ∈ l.zip l → p.1 = p.2 ∧ p.1 ∈ l := by
    intro l
    induction l with
    | nil => intro h; cases h
    | cons a l ih =>
      intro h
      simp only [List.zip_cons_cons, List.mem_cons] at h
      rcases h with rfl | h
      · simp
      · have := ih h
        exact ⟨this.1, List.mem_cons_of_mem _ this.2⟩
  obtain ⟨h1, h2⟩ := this _ hp
  simp only [List.toList_toArray, bvs, List.mem_map] at h2
  obtain ⟨a, _, ha⟩ := h2
  obtain ⟨x, y⟩ := p
  simp only at h1 ha ⊢
  subst h1
  rw [← ha]
  exact sameBits_int _ _ _
theorem arrKeys {κ : Type} [DecidableEq κ] (f : κ → Bytes) {kt el n : Nat} (h : arrIntOk P kt el n = true) (hf : ∀ k, (f k).length = n) (inj : ∀ a b, f a = f b → a = b) : KeyLaw P kt (fun k => Value.agg (bvs (f k)).toArray) where
  check emp k w := run_check_bytes h emp 9998 (hf k) w
  find k ks es w hk := by
    obtain ⟨h1, _⟩ := arrInt_of h
    have hask : ∀ (ks : List κ) (es : List MapEntry) (i : Nat) (w : World), es.map (·.key) = ks.map (fun k => Value.agg (bvs (f k)).toArray) →
        (Instr.findAsking kt (Value.agg (bvs (f k)).toArray) es i).run P w = .ok (findPure k ks es i) w := by
      intro ks
      induction ks with
      | nil =>
        intro es i w h
        have : es = [] := by simpa using h
        subst this
        simp [Instr.findAsking, findPure]
      | cons k' ks ih =>
        intro es i w h'
        cases es with
        | nil => simp at h'
        | cons e es =>
          simp only [List.map_cons, List.cons.injEq] at h'
          have he : (Op.equal kt (Value.agg (bvs (f k)).toArray) e.key).run P w = .ok (decide (f k = f k')) w := by
            rw [h'.1]
            exact run_equal_bytes h 9998 (hf k) (hf k') w
          simp only [Instr.findAsking, Sem.run_bind, he, Result.andThen_ok, findPure]
          by_cases hkk : k = k'
          · subst hkk; simp
          · have : ¬ f k = f k' := fun e => hkk (inj _ _ e)
            simp only [this, decide_false, Bool.false_eq_true, if_false, hkk]
            exact ih es (i + 1) w h'.2
    rw [run_findKey_eq w (by rw [h1])]
    exact hask ks es 0 w hk
  stays k := sameBits_bytes _ _
end
end Go.Proofs.YtedmihapieleaaaGreat
end
section
namespace Go.Proofs.YtedmihapieleaaaGreat
open Go
def bstr (xs : Bytes) : ByteArray := ⟨xs.toArray⟩
theorem bstr_size (xs : Bytes) : (bstr xs).size = xs.length := by simp [bstr, ByteArray.size]
theorem bstr_get {xs : Bytes} {i : Nat} (h : i < (bstr xs).size) : (bstr xs)[i] = xs[i]'(by rw [bstr_size] at h; exact h) := by
  have h1 := Lib.data_getElem? (bstr xs) i h
  have h2 : (bstr xs).data.toList = xs := rfl
  rw [h2, List.getElem?_eq_getElem (by rw [bstr_size] at h; exact h), Option.some.injEq] at h1
  exact h1.symm
theorem sv_bstr (xs : Bytes) : sv xs = .string (bstr xs) := rfl
section
variable {P : Program} {B : Base} {n : Nat} {Q Q' : Exit → Act → World → Prop} {e : Env} {L : List HP} {ops : Array Oper} {l : List Oper}
variable {d : Nat} {ty : TypeId} {pos : String} {af : Array Edge} {x y z : Operand} {gd : Option (Nat × Bool)}
theorem Qt.lenT {t : TypeId} (xs : Bytes) (ht : strOk P t = true) (hx : evo e x = some (sv xs) := by rfl) :
    Qt P B n e L ⟨some d, .call ⟨.builtin .len, #[x], #[t]⟩, ty, pos, af, gd⟩ (.int .i64 (xs.length : Int)) :=
  fun a w ha hs => by
    simp [execOp, resolve, invoke, builtin, ha.eval hx, Builtin.len_, run_underlying (str_of ht), sv_bstr, bstr_size, goInt]
theorem WL.lenT {t : TypeId} (xs : Bytes) (h : WL P B n ops l Q ((d, .int .i64 (xs.length : Int)) :: e) L) (ht : strOk P t = true) (hx : evo e x = some (sv xs) := by rfl) (hd : Nat.ble (d + 1) n = true := by rfl) :
    WL P B n ops (⟨some d, .call ⟨.builtin .len, #[x], #[t]⟩, ty, pos, af, none⟩ :: l) Q e L := WL.pure h hd (Qt.lenT xs ht hx)
theorem Qt.ixT {t : Nat} {p : Int} {kk : IntKind} {v : UInt8} (xs : Bytes) (ht : strOk P t = true) (hv : xs[p.toNat]? = some v) (hx : evo e x = some (sv xs) := by rfl) (hy : evo e y = some (.int kk p) := by rfl) (hp : 0 ≤ p := by omega) :
    Qt P B n e L ⟨some d, .index t x y, ty, pos, af, gd⟩ (.int .u8 (v.toNat : Int)) :=
  fun a w ha hs => by
    have h1 : (bstr xs)[p.toNat]? = some v := by
      have hlt : p.toNat < xs.length := (List.getElem?_eq_some_iff.1 hv).1
      rw [getElem?_pos (bstr xs) p.toNat (by rw [bstr_size]; exact hlt), bstr_get]
      rw [List.getElem?_eq_getElem hlt] at hv
      exact hv
    simp [execOp, ha.eval hx, ha.eval hy, Instr.index, asIntOf, run_underlying (str_of ht), sv_bstr, hp, h1]
theorem WL.ixT {t : Nat} {p : Int} {kk : IntKind} {v : UInt8} (xs : Bytes) (h : WL P B n ops l Q ((d, .int .u8 (v.toNat : Int)) :: e) L) (ht : strOk P t = true) (hv : xs[p.toNat]? = some v) (hx : evo e x = some (sv xs) := by rfl) (hy : evo e y = some (.int kk p) := by rfl) (hp : 0 ≤ p := by omega) (hd : Nat.ble (d + 1) n = true := by rfl) :
    WL P B n ops (⟨some d, .index t x y, ty, pos, af, none⟩ :: l) Q e L := WL.pure h hd (Qt.ixT xs ht hv hx hy hp)
def strIt (it : Nat) (xs : Bytes) (k : Nat) : HP := pt it (.stringIter (bstr xs) k)
theorem WL.rangeT {t : Nat} (xs : Bytes) (ht : strOk P t = true) (h : ∀ it, WL P B n ops l Q ((d, .pointer (some ⟨it, 0, none⟩)) :: e) (strIt it xs 0 :: L)) (hx : evo e x = some (sv xs) := by rfl) (hd : Nat.ble (d + 1) n = true := by rfl) :
    WL P B n ops (⟨some d, .range t x, ty, pos, af, none⟩ :: l) Q e L :=
  WL.step rfl fun a w ha hs => by
    refine ⟨_, w.alloc (.stringIter (bstr xs) 0), _, _, ?_, ha.put hd _, hs.new _, h w.heap.size⟩
    simp [execOp, ha.eval hx, Instr.range, run_underlying (str_of ht), newObj, Sem.run, sv_bstr]
def rune (xs : Bytes) (k : Nat) : Nat × Nat := Utf8.decode (bstr xs) k
theorem WL.nextT {it k : Nat} (xs : Bytes) {M : List HP}
    (h0 : ¬ k < xs.length → WL P B n ops l Q ((d, .tuple #[.bool false]) :: e) (strIt it xs k :: M))
    (h1 : k < xs.length → WL P B n ops l Q ((d, .tuple #[.bool true, .int .i64 (k : Int), .int .i32 ((rune xs k).1 : Int)]) :: e) (strIt it xs (k + (rune xs k).2) :: M))
    (hx : evo e x = some (.pointer (some ⟨it, 0, none⟩)) := by rfl) (r : Rem L (strIt it xs k) M := by repeat (first | exact .here | apply Rem.there)) (hd : Nat.ble (d + 1) n = true := by rfl) :
    WL P B n ops (⟨some d, .next x true, ty, pos, af, none⟩ :: l) Q e L :=
  WL.step rfl fun a w ha hs => by
    have hs1 := hs.front r
    have hb := hs1.get .here
    by_cases hk : k < xs.length
    · refine ⟨_, _, _, _, ?_, ha.put hd _, hs1.set (o' := .stringIter (bstr xs) (k + (rune xs k).2)) .here, h1 hk⟩
      have := Lib.run_next_any_at (P := P) w it (bstr xs) k ty hb (by rw [bstr_size]; exact hk)
      simp only [execOp, ha.eval hx, Sem.run_bind, this, Result.andThen_ok, Sem.run_pure]
      rfl
    · refine ⟨_, w, _, _, ?_, ha.put hd _, hs1, h0 hk⟩
      have := Lib.run_next_end_at (P := P) w it (bstr xs) k ty hb (by rw [bstr_size]; exact hk)
      simp only [execOp, ha.eval hx, Sem.run_bind, this, Result.andThen_ok, Sem.run_pure]
theorem WL.callX {f : FuncId} {xs : List Operand} {tys : Array TypeId} {vs : List Value} {v : Value} (hx : evos e xs = some vs := by rfl)
    (hc : ∀ w, (callFunc f vs.toArray).run P w = .ok (.value v) w) (h : WL P B n ops l Q ((d, v) :: e) L) (hd : Nat.ble (d + 1) n = true := by rfl) :
    WL P B n ops (⟨some d, .call ⟨.value (.func f), xs.toArray, tys⟩, ty, pos, af, none⟩ :: l) Q e L := by
  intro a w ha hs
  refine wpList_plain rfl fun K hK => ?_
  have hargs : xs.map a.eval = vs := evos_eval ha hx
  have hrun : (execOp a.eval ⟨some d, .call ⟨.value (.func f), xs.toArray, tys⟩, ty, pos, af, none⟩).run P w = .ok (.value v) w := by
    have he : a.eval (.func f) = .func (.func f) #[] #[] := rfl
    simp [execOp, resolve, Deferred.ofValue, he, invoke, hargs, hc]
  unfold Oper.wp
  rw [hrun]
  simp only [Oper.upon_value]
  exact hK _ _ (h _ w (ha.put hd v) hs)
theorem Qt.subT {t : Nat} {p : Int} (xs : Bytes) (ht : strOk P t = true) (hx : evo e x = some (sv xs) := by rfl) (hy : evo e y = some (.int .i64 p) := by rfl) (hp : 0 ≤ p ∧ p ≤ xs.length := by omega) :
    Qt P B n e L ⟨some d, .slice t x (some y) none none, ty, pos, af, gd⟩ (sv (xs.drop p.toNat)) :=
  fun a w ha hs => by
    have h1 : (bstr xs).extract p.toNat xs.length = bstr (xs.drop p.toNat) := by
      apply ByteArray.ext
      simp [bstr, ByteArray.data_extract, List.take_of_length_le]
    simp [execOp, ha.eval hx, ha.eval hy, Instr.sliceAt, Instr.sureAddr, Instr.slice, Instr.sliceBounds, Instr.sliceBound, asIntOf, run_underlying (str_of ht), sv_bstr, hp, h1, bstr_size]
theorem WC.scope {c : Code} (h : WC P B n c (Exit.noGoto Q) e L) : WC P B n (.scope c) Q e L := fun a w ha hs => wp_scope_straight (h a w ha hs)
theorem WQ.scopeRet (h : WQ B n Q .ret e L) : WQ B n (Exit.noGoto Q) .ret e L := fun a w ha hs => h a w ha hs
theorem NoPanic.scope (h : NoPanic Q) : NoPanic (Exit.noGoto Q) := h
theorem NoPanic.autoS (h : NoPanic Q := by repeat (first | exact NoPanic.body | refine NoPanic.then ?_ | refine NoPanic.block ?_ | refine NoPanic.join ?_ | refine NoPanic.scope ?_)) : NoPanic Q := h
theorem Qt.cvtRT {s t : Nat} {k kk : IntKind} {p : Int} (hs : P.underlying s = some (.int k)) (ht : strOk P t = true) (hx : evo e x = some (.int kk p) := by rfl) :
    Qt P B n e L ⟨some d, .convert s t x, ty, pos, af, gd⟩ (sv (Utf8.encode p).data.toList) :=
  fun a w ha hs' => by
    have : (convert s t (.int kk p)).run P w = .ok (.string (Utf8.encode p)) w := by
      simp [convert, run_underlying hs, run_underlying (str_of ht), Conv.intToString]
    simp only [execOp, ha.eval hx, Sem.run_bind, this, Result.andThen_ok, Sem.run_pure]
    rfl
end
section
variable {P : Program} {B : Base} {n : Nat} {Q Q' : Exit → Act → World → Prop} {e : Env} {L : List HP} {ops : Array Oper} {l : List Oper}
variable {d : Nat} {ty : TypeId} {pos : String} {af : Array Edge} {x y z : Operand} {gd : Option (Nat × Bool)}
theorem Qt.slcArrL {t el k b : Nat} {q : Int} (ht : arrOk P t el k 1 = true) (hx : evo e x = some (.pointer (some ⟨b, 0, none⟩)) := by rfl) (hy : evo e y = some (.int .i64 q) := by rfl) (hq : 0 ≤ q ∧ q < k := by omega) :
    Qt P B n e L ⟨some d, .slice t x (some y) none none, ty, pos, af, gd⟩ (.slice (some ⟨b, q.toNat, none⟩) (k - q.toNat) (k - q.toNat)) :=
  fun a w ha hs => by
    obtain ⟨hu, i, hi, hsz⟩ := arr_of ht
    have h1 : ¬ k = q.toNat := by omega
    have h2 : q ≤ (k : Int) := by omega
    simp [execOp, ha.eval hx, ha.eval hy, Instr.sliceAt, run_underlying hu, Instr.sureAddr, Instr.sliceBounds, Instr.sliceBound, asIntOf, sizeOf, typeInfo, hi, hsz, add_plain', hq.1, h2, h1]
theorem WL.slcArrL {t el k b : Nat} {q : Int} (h : WL P B n ops l Q ((d, .slice (some ⟨b, q.toNat, none⟩) (k - q.toNat) (k - q.toNat)) :: e) L) (ht : arrOk P t el k 1 = true) (hx : evo e x = some (.pointer (some ⟨b, 0, none⟩)) := by rfl) (hy : evo e y = some (.int .i64 q) := by rfl) (hq : 0 ≤ q ∧ q < k := by omega) (hd : Nat.ble (d + 1) n = true := by rfl) :
    WL P B n ops (⟨some d, .slice t x (some y) none none, ty, pos, af, none⟩ :: l) Q e L := WL.pure h hd (Qt.slcArrL ht hx hy hq)
theorem buf_of_row {b el k : Nat} {xs : List Value} (hk : xs.length = k) : ∀ h, row b el xs h → buf b el k xs h := by
  intro h hh
  subst hk
  unfold row at hh
  exact buf_of_pt (cs := xs.toArray) rfl h hh
theorem row_of_buf {b el k : Nat} {xs : List Value} (hk : xs.length = k) : ∀ h, buf b el k xs h → row b el xs h := by
  intro h hh
  obtain ⟨cs, ⟨h1, h2, _⟩, h3⟩ := pt_of_buf h hh
  have h4 : cs = xs.toArray := by
    rw [List.take_of_length_le (by rw [Array.length_toList]; omega)] at h2
    rw [← h2]
  unfold row
  rw [← h4]
  exact h3
end
theorem rune_low {xs : Bytes} {k : Nat} (h : k < xs.length) (hb : xs[k].toNat < 128) : rune xs k = (xs[k].toNat, 1) := by
  unfold rune
  have hk : k < (bstr xs).size := by rw [bstr_size]; exact h
  have := decode_ascii (bstr xs) k hk (by rw [bstr_get hk]; exact hb)
  rw [this, bstr_get hk]
theorem bget {xs : Bytes} {k : Nat} (h : k < xs.length) : (bstr xs).get! k = xs[k] := by
  have hk : k < (bstr xs).size := by rw [bstr_size]; exact h
  have := get_at (bstr xs) k hk
  rw [Nat.add_zero] at this
  rw [this, bstr_get hk]
theorem rune_high {xs : Bytes} {k : Nat} (h : k < xs.length) (hb : 128 ≤ xs[k].toNat) :
    128 ≤ (rune xs k).1 ∧ 1 ≤ (rune xs k).2 ∧ ∀ j, k ≤ j → j < k + (rune xs k).2 → ∀ (hj : j < xs.length), 128 ≤ xs[j].toNat := by
  have hk : k < (bstr xs).size := by rw [bstr_size]; exact h
  have h1 := decode_high (bstr xs) k hk (by rw [bstr_get hk]; exact hb)
  refine ⟨h1.1, h1.2, ?_⟩
  intro j hj1 hj2 hj
  by_cases hjk : j = k
  · subst hjk; exact hb
  unfold rune at hj2
  have key : ∀ q, 1 ≤ q → (decide (k + q < (bstr xs).size) && ((bstr xs).get! (k + q)).toNat / 64 == 2) = true → ∀ (hq : k + q < xs.length), 128 ≤ xs[k + q].toNat := by
    intro q _ hq hlt
    rw [Bool.and_eq_true] at hq
    have := hq.2
    rw [bget hlt] at this
    have : xs[k + q].toNat / 64 = 2 := by simpa using this
    omega
  have b0 : ((bstr xs).get! (k + 0)).toNat = xs[k].toNat := congrArg UInt8.toNat (bget h)
  simp only [Utf8.decode, b0] at hj2
  rw [if_neg (by omega)] at hj2
  obtain ⟨q, rfl⟩ : ∃ q, j = k + q := ⟨j - k, by omega⟩
  have hq1 : 1 ≤ q := by omega
  split at hj2
  · rename_i hc
    rw [Bool.and_eq_true] at hc
    have : q < 2 := by split at hj2 <;> simp only at hj2 <;> omega
    obtain rfl : q = 1 := by omega
    exact key 1 (by omega) hc.2 hj
  · split at hj2
    · rename_i hc
      rw [Bool.and_eq_true, Bool.and_eq_true] at hc
      have : q < 3 := by split at hj2 <;> simp only at hj2 <;> omega
      rcases (show q = 1 ∨ q = 2 by omega) with rfl | rfl
      · exact key 1 (by omega) hc.1.2 hj
      · exact key 2 (by omega) hc.2 hj
    · split at hj2
      · rename_i hc
        rw [Bool.and_eq_true, Bool.and_eq_true, Bool.and_eq_true] at hc
        have : q < 4 := by split at hj2 <;> simp only at hj2 <;> omega
        rcases (show q = 1 ∨ q = 2 ∨ q = 3 by omega) with rfl | rfl | rfl
        · exact key 1 (by omega) hc.1.1.2 hj
        · exact key 2 (by omega) hc.1.2 hj
        · exact key 3 (by omega) hc.2 hj
      · simp only at hj2
        omega
theorem rune_pos {xs : Bytes} {k : Nat} (h : k < xs.length) : 1 ≤ (rune xs k).2 := by
  by_cases hb : xs[k].toNat < 128
  · rw [rune_low h hb]; exact Nat.le_refl _
  · exact (rune_high h (by omega)).2.1
theorem rune_le (xs : Bytes) (k : Nat) : (rune xs k).1 ≤ 2147483647 := decode_le _ _
theorem encode_high {c : Nat} (h : 128 ≤ c) : ∃ l : Bytes, (Utf8.encode (c : Int)).data.toList = l ∧ 2 ≤ l.length ∧ l.length ≤ 4 ∧ (∀ x, l.getLast? = some x → 128 ≤ x.toNat) := by
  refine ⟨_, rfl, ?_⟩
  have hmod : ∀ m : Nat, 128 ≤ (UInt8.ofNat (128 + m % 64)).toNat := by
    intro m
    rw [UInt8.toNat_ofNat']
    omega
  unfold Utf8.encode
  have hc : ∃ q : Nat, (if Utf8.valid (c : Int) then (c : Int).toNat else Utf8.runeError) = q ∧ 128 ≤ q := by
    split
    · exact ⟨c, Int.toNat_natCast c, h⟩
    · exact ⟨_, rfl, by decide⟩
  obtain ⟨q, hq, hq8⟩ := hc
  simp only [hq]
  rw [if_neg (by omega)]
  split
  · simp; omega
  · split
    · simp; omega
    · simp; omega
end Go.Proofs.YtedmihapieleaaaGreat
end
section
namespace Go.Proofs.YtedmihapieleaaaGreat
open Go
theorem un21 : Tryz.prog.underlying 21 = some (.int .i32) := by kernel_rfl
def sepIn (xs : Bytes) : Bool := xs.any fun b => b == 47 || b == 0
theorem sepIn_no {xs : Bytes} (h : ∀ (j : Nat) (hj : j < xs.length), xs[j] ≠ 47 ∧ xs[j] ≠ 0) : sepIn xs = false := by
  unfold sepIn
  rw [List.any_eq_false]
  intro b hb
  obtain ⟨j, hj, rfl⟩ := List.mem_iff_getElem.1 hb
  obtain ⟨h1, h2⟩ := h j hj
  simp [h1, h2]
theorem sepIn_yes {xs : Bytes} {j : Nat} (hj : j < xs.length) (h : xs[j] = 47 ∨ xs[j] = 0) : sepIn xs = true := by
  unfold sepIn
  rw [List.any_eq_true]
  exact ⟨xs[j], List.getElem_mem hj, by rcases h with h | h <;> simp [h]⟩
theorem idxByteX (xs : Bytes) (c : Int) (w : World) : (callFunc 178 #[sv xs, .int .u8 c]).run Tryz.prog w = .ok (.value (.int .i64 (Lib.indexByte xs c.toNat.toUInt8))) w := by
  rw [run_callFunc_extern Tryz.func178 (by kernel_rfl) (by kernel_rfl) (by kernel_rfl) (e := Extern.BytealgIndexByte.indexByte) (by kernel_rfl), sv_bstr, Lib.run_indexByteString]
  rfl
theorem sep_low : ∀ c : Nat, c < 128 → decide ((0 : Int) ≤ Lib.indexByte [47, 0] (c : Int).toNat.toUInt8) = decide (c = 47 ∨ c = 0) := by decide +kernel
theorem rune_sep0 : rune [47, 0] 0 = (47, 1) := rune_low (by decide) (by decide)
theorem rune_sep1 : rune [47, 0] 1 = (0, 1) := rune_low (by decide) (by decide)
def validR (c : Nat) : Bool := decide (c < 55296) || (decide (57343 < c) && decide (c ≤ 1114111))
theorem idxByteL {xs : Bytes} {c : Int} : Spec Tryz.prog 175 #[sv xs, .int .u8 c] [] fun F v M => v = .int .i64 (Lib.indexByte xs c.toNat.toUInt8) ∧ M = F := by
  refine Spec.intro Tryz.func175 rfl rfl fun B F => ?_
  simp only [Tryz.ntmps175, List.cons_append, List.nil_append, env0, Nat.reduceAdd]
  refine WC.seq ?_
  refine WC.region ?_
  refine WL.assign ?_
  refine WL.nil ?_
  refine WQ.next ?_
  refine WC.seq ?_
  refine WC.region ?_
  refine WL.move ?_
  refine WL.move ?_
  refine WL.callX (hc := idxByteX xs c) (h := ?_)
  refine WL.assign ?_
  refine WL.nil ?_
  refine WQ.next ?_
  refine WC.ret (?_)
  exact WQ.ret1 (h1 := .tmp (t := 4) rfl) ⟨_, ⟨rfl, rfl⟩, Am.auto⟩
theorem idxByte {xs : Bytes} {c : Int} : Spec Tryz.prog 162 #[sv xs, .int .u8 c] [] fun F v M => v = .int .i64 (Lib.indexByte xs c.toNat.toUInt8) ∧ M = F := by
  refine Spec.intro Tryz.func162 rfl rfl fun B F => ?_
  simp only [Tryz.ntmps162, List.cons_append, List.nil_append, env0, Nat.reduceAdd]
  refine WC.seq ?_
  refine WC.region ?_
  refine WL.assign ?_
  refine WL.nil ?_
  refine WQ.next ?_
  refine WC.seq ?_
  refine WC.region ?_
  refine WL.move ?_
  refine WL.move ?_
  refine WL.call (hc := Tryz.call175) (sp := idxByteL) (h := ?_)
  rintro _ _ ⟨rfl, rfl⟩
  refine WL.assign ?_
  refine WL.nil ?_
  refine WQ.next ?_
  refine WC.ret (?_)
  exact WQ.ret1 (h1 := .tmp (t := 4) rfl) ⟨_, ⟨rfl, rfl⟩, Am.auto⟩
theorem validRune {c : Nat} : Spec Tryz.prog 163 #[.int .i32 (c : Int)] [] fun F v M => v = .bool (validR c) ∧ M = F := by
  refine Spec.intro Tryz.func163 rfl rfl fun B F => ?_
  simp only [Tryz.ntmps163, List.cons_append, List.nil_append, env0, Nat.reduceAdd]
  unfold validR
  rcases (show c < 55296 ∨ (¬ c < 55296 ∧ 57343 < c ∧ c ≤ 1114111) ∨ (¬ c < 55296 ∧ ¬ 57343 < c) ∨ (¬ c < 55296 ∧ 57343 < c ∧ ¬ c ≤ 1114111) from by omega) with hc | hc | hc | hc
  · refine WC.seq ?_
    refine WC.region ?_
    refine WL.assign ?_
    refine WL.nil ?_
    refine WQ.next ?_
    refine WC.seq ?_
    refine WC.block ?_
    refine WC.seq ?_
    refine WC.region ?_
    refine WL.move ?_
    refine WL.leq ?_
    refine WL.move ?_
    refine WL.cast (d := 6) (u := .bool true) rfl (congrArg Value.bool (by first | (simp; done) | (simp; omega) | omega)) ?_
    refine WL.gT ?_
    refine WL.move ?_
    refine WL.gT ?_
    refine WL.lss ?_
    refine WL.pickT ?_
    refine WL.assign ?_
    refine WL.nil ?_
    refine WQ.next ?_
    refine WC.condT rfl (congrArg Value.bool (by first | (simp; done) | (simp; omega) | omega)) ?_
    refine WC.seq ?_
    refine WC.region ?_
    refine WL.assign ?_
    refine WL.nil ?_
    refine WQ.next ?_
    refine WC.ret (WQ.blockRet (WQ.thenRet (?_)))
    exact WQ.ret1 (h1 := .tmp (t := 2) rfl) ⟨_, ⟨by simp [hc], rfl⟩, Am.auto⟩
  · refine WC.seq ?_
    refine WC.region ?_
    refine WL.assign ?_
    refine WL.nil ?_
    refine WQ.next ?_
    refine WC.seq ?_
    refine WC.block ?_
    refine WC.seq ?_
    refine WC.region ?_
    refine WL.move ?_
    refine WL.leq ?_
    refine WL.move ?_
    refine WL.cast (d := 6) (u := .bool true) rfl (congrArg Value.bool (by first | (simp; done) | (simp; omega) | omega)) ?_
    refine WL.gT ?_
    refine WL.move ?_
    refine WL.gT ?_
    refine WL.lss ?_
    refine WL.pickT ?_
    refine WL.assign ?_
    refine WL.nil ?_
    refine WQ.next ?_
    refine WC.condF rfl (congrArg Value.bool (by first | (simp; done) | (simp; omega) | omega)) ?_
    refine WC.seq ?_
    refine WC.region ?_
    refine WL.move ?_
    refine WL.lss ?_
    refine WL.move ?_
    refine WL.cast (d := 13) (u := .bool true) rfl (congrArg Value.bool (by first | (simp; done) | (simp; omega) | omega)) ?_
    refine WL.gT ?_
    refine WL.move ?_
    refine WL.gT ?_
    refine WL.leq ?_
    refine WL.pickT ?_
    refine WL.assign ?_
    refine WL.nil ?_
    refine WQ.next ?_
    refine WC.condT rfl (congrArg Value.bool (by first | (simp; done) | (simp; omega) | omega)) ?_
    refine WC.seq ?_
    refine WC.region ?_
    refine WL.assign ?_
    refine WL.nil ?_
    refine WQ.next ?_
    refine WC.ret (WQ.blockRet (WQ.thenRet (?_)))
    exact WQ.ret1 (h1 := .tmp (t := 2) rfl) ⟨_, ⟨by simp [hc], rfl⟩, Am.auto⟩
  · refine WC.seq ?_
    refine WC.region ?_
    refine WL.assign ?_
    refine WL.nil ?_
    refine WQ.next ?_
    refine WC.seq ?_
    refine WC.block ?_
    refine WC.seq ?_
    refine WC.region ?_
    refine WL.move ?_
    refine WL.leq ?_
    refine WL.move ?_
    refine WL.cast (d := 6) (u := .bool true) rfl (congrArg Value.bool (by first | (simp; done) | (simp; omega) | omega)) ?_
    refine WL.gT ?_
    refine WL.move ?_
    refine WL.gT ?_
    refine WL.lss ?_
    refine WL.pickT ?_
    refine WL.assign ?_
    refine WL.nil ?_
    refine WQ.next ?_
    refine WC.condF rfl (congrArg Value.bool (by first | (simp; done) | (simp; omega) | omega)) ?_
    refine WC.seq ?_
    refine WC.region ?_
    refine WL.move ?_
    refine WL.lss ?_
    refine WL.move ?_
    refine WL.cast (d := 13) (u := .bool false) rfl (congrArg Value.bool (by first | (simp; done) | (simp; omega) | omega)) ?_
    refine WL.gF ?_
    refine WL.gF ?_
    refine WL.pickF ?_
    refine WL.assign ?_
    refine WL.nil ?_
    refine WQ.next ?_
    refine WC.condF rfl rfl ?_
    refine WC.skip ?_
    refine WQ.blockNormal ?_
    refine WQ.next ?_
    refine WC.seq ?_
    refine WC.region ?_
    refine WL.assign ?_
    refine WL.nil ?_
    refine WQ.next ?_
    refine WC.ret (?_)
    exact WQ.ret1 (h1 := .tmp (t := 2) rfl) ⟨_, ⟨by simp [hc], rfl⟩, Am.auto⟩
  · refine WC.seq ?_
    refine WC.region ?_
    refine WL.assign ?_
    refine WL.nil ?_
    refine WQ.next ?_
    refine WC.seq ?_
    refine WC.block ?_
    refine WC.seq ?_
    refine WC.region ?_
    refine WL.move ?_
    refine WL.leq ?_
    refine WL.move ?_
    refine WL.cast (d := 6) (u := .bool true) rfl (congrArg Value.bool (by first | (simp; done) | (simp; omega) | omega)) ?_
    refine WL.gT ?_
    refine WL.move ?_
    refine WL.gT ?_
    refine WL.lss ?_
    refine WL.pickT ?_
    refine WL.assign ?_
    refine WL.nil ?_
    refine WQ.next ?_
    refine WC.condF rfl (congrArg Value.bool (by first | (simp; done) | (simp; omega) | omega)) ?_
    refine WC.seq ?_
    refine WC.region ?_
    refine WL.move ?_
    refine WL.lss ?_
    refine WL.move ?_
    refine WL.cast (d := 13) (u := .bool true) rfl (congrArg Value.bool (by first | (simp; done) | (simp; omega) | omega)) ?_
    refine WL.gT ?_
    refine WL.move ?_
    refine WL.gT ?_
    refine WL.leq ?_
    refine WL.pickT ?_
    refine WL.assign ?_
    refine WL.nil ?_
    refine WQ.next ?_
    refine WC.condF rfl (congrArg Value.bool (by first | (simp; done) | (simp; omega) | omega)) ?_
    refine WC.skip ?_
    refine WQ.blockNormal ?_
    refine WQ.next ?_
    refine WC.seq ?_
    refine WC.region ?_
    refine WL.assign ?_
    refine WL.nil ?_
    refine WQ.next ?_
    refine WC.ret (?_)
    exact WQ.ret1 (h1 := .tmp (t := 2) rfl) ⟨_, ⟨by simp [hc], rfl⟩, Am.auto⟩
theorem idxRune {c : Nat} : Spec Tryz.prog 135 #[sv [47, 0], .int .i32 (c : Int)] [] fun F v M => ∃ r : Int, v = .int .i64 r ∧ decide (0 ≤ r) = decide (c = 47 ∨ c = 0) ∧ M = F := by
  refine Spec.intro Tryz.func135 rfl rfl fun B F => ?_
  simp only [Tryz.ntmps135, List.cons_append, List.nil_append, env0, Nat.reduceAdd]
  rcases (show c < 128 ∨ c = 65533 ∨ (¬ c < 128 ∧ c ≠ 65533) from by omega) with hc | hc | hc
  · refine WC.seq ?_
    refine WC.region ?_
    refine WL.assign ?_
    refine WL.nil ?_
    refine WQ.next ?_
    refine WC.block ?_
    refine WC.seq ?_
    refine WC.region ?_
    refine WL.move ?_
    refine WL.leq ?_
    refine WL.move ?_
    refine WL.cast (d := 163) (u := .bool true) rfl (congrArg Value.bool (by first | (simp; done) | (simp; omega) | omega)) ?_
    refine WL.gT ?_
    refine WL.move ?_
    refine WL.gT ?_
    refine WL.lss ?_
    refine WL.pickT ?_
    refine WL.assign ?_
    refine WL.nil ?_
    refine WQ.next ?_
    refine WC.condT rfl (congrArg Value.bool (by first | (simp; done) | (simp; omega) | omega)) ?_
    refine WC.seq ?_
    refine WC.region ?_
    refine WL.move ?_
    refine WL.move ?_
    refine WL.cvt ?_ un21 un5
    refine WL.cast (d := 169) (u := .int .u8 (c : Int)) rfl (congrArg (Value.int .u8) (IntWalk.u8_in _ (by omega))) ?_
    refine WL.call (hc := Tryz.call162) (sp := idxByte (xs := [47, 0]) (c := (c : Int))) (h := ?_)
    rintro _ _ ⟨rfl, rfl⟩
    refine WL.assign ?_
    refine WL.nil ?_
    refine WQ.next ?_
    refine WC.ret (WQ.blockRet (?_))
    exact WQ.ret1 (h1 := .tmp (t := 4) rfl) ⟨_, ⟨_, rfl, sep_low c hc, rfl⟩, Am.auto⟩
  · subst hc
    refine WC.seq ?_
    refine WC.region ?_
    refine WL.assign ?_
    refine WL.nil ?_
    refine WQ.next ?_
    refine WC.block ?_
    refine WC.seq ?_
    refine WC.region ?_
    refine WL.move ?_
    refine WL.leq ?_
    refine WL.move ?_
    refine WL.cast (d := 163) (u := .bool true) rfl (congrArg Value.bool (by first | (simp; done) | (simp; omega) | omega)) ?_
    refine WL.gT ?_
    refine WL.move ?_
    refine WL.gT ?_
    refine WL.lss ?_
    refine WL.pickT ?_
    refine WL.assign ?_
    refine WL.nil ?_
    refine WQ.next ?_
    refine WC.condF rfl (congrArg Value.bool (by first | (simp; done) | (simp; omega) | omega)) ?_
    refine WC.seq ?_
    refine WC.region ?_
    refine WL.move ?_
    refine WL.eqi ?_
    refine WL.assign ?_
    refine WL.nil ?_
    refine WQ.next ?_
    refine WC.condT rfl rfl ?_
    refine WC.seq ?_
    refine WC.seq ?_
    refine WC.region ?_
    refine WL.move ?_
    refine WL.rangeT [47, 0] st9 (fun it => ?_)
    refine WL.nil ?_
    refine WQ.next ?_
    refine WC.block ?_
    refine WC.loopN 3 (RC.succ ?_)
    refine WC.seq ?_
    refine WC.region ?_
    refine WL.nextT (k := 0) [47, 0] (fun hk => absurd (by decide) hk) (fun _ => ?_)
    rw [rune_sep0]
    refine WL.extract ?_
    refine WL.nil ?_
    refine WQ.next ?_
    refine WC.seq ?_
    refine WC.condT rfl rfl ?_
    refine WC.skip ?_
    refine WQ.next ?_
    refine WC.block ?_
    refine WC.seq ?_
    refine WC.region ?_
    refine WL.extract ?_
    refine WL.extract ?_
    refine WL.assign ?_
    refine WL.assign ?_
    refine WL.nil ?_
    refine WQ.next ?_
    refine WC.seq ?_
    refine WC.region ?_
    refine WL.move ?_
    refine WL.eqi ?_
    refine WL.nil ?_
    refine WQ.next ?_
    refine WC.condF rfl rfl ?_
    refine WC.skip ?_
    refine WQ.blockNormal ?_
    refine WQ.again (RC.succ ?_)
    refine WC.seq ?_
    refine WC.region ?_
    refine WL.nextT (k := 1) [47, 0] (fun hk => absurd (by decide) hk) (fun _ => ?_)
    rw [rune_sep1]
    refine WL.extract ?_
    refine WL.nil ?_
    refine WQ.next ?_
    refine WC.seq ?_
    refine WC.condT rfl rfl ?_
    refine WC.skip ?_
    refine WQ.next ?_
    refine WC.block ?_
    refine WC.seq ?_
    refine WC.region ?_
    refine WL.extract ?_
    refine WL.extract ?_
    refine WL.assign ?_
    refine WL.assign ?_
    refine WL.nil ?_
    refine WQ.next ?_
    refine WC.seq ?_
    refine WC.region ?_
    refine WL.move ?_
    refine WL.eqi ?_
    refine WL.nil ?_
    refine WQ.next ?_
    refine WC.condF rfl rfl ?_
    refine WC.skip ?_
    refine WQ.blockNormal ?_
    refine WQ.again (RC.succ ?_)
    refine WC.seq ?_
    refine WC.region ?_
    refine WL.nextT (k := 2) [47, 0] (fun _ => ?_) (fun hk => absurd hk (by decide))
    refine WL.extract ?_
    refine WL.nil ?_
    refine WQ.next ?_
    refine WC.seq ?_
    refine WC.condF rfl rfl ?_
    refine WC.exit (WQ.thenExit (WQ.thenExit (WQ.blockExit (?_))))
    refine WQ.next ?_
    refine WC.seq ?_
    refine WC.region ?_
    refine WL.assign ?_
    refine WL.nil ?_
    refine WQ.next ?_
    refine WC.ret (WQ.blockRet (?_))
    exact WQ.ret1 (h1 := .tmp (t := 4) rfl) ⟨_, ⟨_, rfl, by decide, rfl⟩, Am.auto⟩
  · obtain ⟨l, hl, hl2, hl4, hlast⟩ := encode_high (c := c) (by omega)
    refine WC.seq ?_
    refine WC.region ?_
    refine WL.assign ?_
    refine WL.nil ?_
    refine WQ.next ?_
    refine WC.block ?_
    refine WC.seq ?_
    refine WC.region ?_
    refine WL.move ?_
    refine WL.leq ?_
    refine WL.move ?_
    refine WL.cast (d := 163) (u := .bool true) rfl (congrArg Value.bool (by first | (simp; done) | (simp; omega) | omega)) ?_
    refine WL.gT ?_
    refine WL.move ?_
    refine WL.gT ?_
    refine WL.lss ?_
    refine WL.pickT ?_
    refine WL.assign ?_
    refine WL.nil ?_
    refine WQ.next ?_
    refine WC.condF rfl (congrArg Value.bool (by first | (simp; done) | (simp; omega) | omega)) ?_
    refine WC.seq ?_
    refine WC.region ?_
    refine WL.move ?_
    refine WL.eqi ?_
    refine WL.assign ?_
    refine WL.nil ?_
    refine WQ.next ?_
    refine WC.condF rfl (congrArg Value.bool (by first | (simp; done) | (simp; omega) | omega)) ?_
    refine WC.seq ?_
    refine WC.region ?_
    refine WL.move ?_
    refine WL.call (hc := Tryz.call163) (sp := validRune (c := c)) (h := ?_)
    rintro _ _ ⟨rfl, rfl⟩
    refine WL.not ?_
    refine WL.assign ?_
    refine WL.nil ?_
    refine WQ.next ?_
    cases hv : validR c
    · refine WC.condT rfl rfl ?_
      refine WC.seq ?_
      refine WC.region ?_
      refine WL.assign ?_
      refine WL.nil ?_
      refine WQ.next ?_
      refine WC.ret (WQ.blockRet (?_))
      exact WQ.ret1 (h1 := .tmp (t := 4) rfl) ⟨_, ⟨_, rfl, by rw [decide_eq_false (by decide), decide_eq_false (by omega)], rfl⟩, Am.auto⟩
    · refine WC.condF rfl rfl ?_
      refine WC.scope ?_
      refine WC.seq ?_
      refine WC.region ?_
      refine WL.move ?_
      refine WL.pure ?_ rfl (Qt.cvtRT un21 st9)
      rw [hl]
      refine WL.assign ?_
      refine WL.nil ?_
      refine WQ.next ?_
      refine WC.seq ?_
      refine WC.region ?_
      refine WL.move ?_
      refine WL.lenT _ ?_ st9
      refine WL.sub ?_
      refine WL.assign ?_
      refine WL.nil ?_
      refine WQ.next ?_
      refine WC.seq ?_
      refine WC.region ?_
      refine WL.move ?_
      refine WL.assign ?_
      refine WL.nil ?_
      refine WQ.next ?_
      refine WC.seq ?_
      refine WC.region ?_
      refine WL.assign ?_
      refine WL.nil ?_
      refine WQ.next ?_
      refine WC.seq ?_
      refine WC.block ?_
      rcases (show l.length = 2 ∨ 3 ≤ l.length from by omega) with hl3 | hl3
      · obtain ⟨x, hx⟩ : ∃ x, l[1]? = some x := ⟨_, List.getElem?_eq_getElem (by omega)⟩
        have hx8 : 128 ≤ x.toNat := hlast x (by rw [List.getLast?_eq_getElem?, hl3]; exact hx)
        rw [hl3]
        refine WC.loopN 2 (RC.succ ?_)
        refine WC.seq ?_
        refine WC.seq ?_
        refine WC.region ?_
        refine WL.move ?_
        refine WL.move ?_
        refine WL.lenT _ ?_ st9
        refine WL.lss ?_
        refine WL.nil ?_
        refine WQ.next ?_
        refine WC.condT rfl rfl ?_
        refine WC.skip ?_
        refine WQ.next ?_
        refine WC.block ?_
        refine WC.scope ?_
        refine WC.seq ?_
        refine WC.seq ?_
        refine WC.draw ([]) [] 7 #[false, false, false, false, false, false, false] mixed (by kernel_rfl) NoPanic.autoS ?_
        refine WD.take (i := 0) #[true, false, false, false, false, false, false] rfl (by kernel_rfl) (Qt.move ) ?_
        refine WD.take (i := 1) #[true, true, false, false, false, false, false] rfl (by kernel_rfl) (Qt.move ) ?_
        refine WD.take (i := 2) #[true, true, true, false, false, false, false] rfl (by kernel_rfl) (Qt.ixT (p := 1) (v := 0) [47, 0] st9 rfl) ?_
        refine WD.take (i := 3) #[true, true, true, true, false, false, false] rfl (by kernel_rfl) (Qt.move ) ?_
        refine WD.take (i := 4) #[true, true, true, true, true, false, false] rfl (by kernel_rfl) (Qt.move ) ?_
        refine WD.take (i := 5) #[true, true, true, true, true, true, false] rfl (by kernel_rfl) (Qt.ixT (p := 1) (v := x) l st9 hx) ?_
        refine WD.take (i := 6) #[true, true, true, true, true, true, true] rfl (by kernel_rfl) ((Qt.nei).eq (v' := .bool true) (congrArg Value.bool (show (!decide ((0 : Int) = (x.toNat : Int))) = true from by rw [decide_eq_false (by omega)]; rfl))) ?_
        refine WD.done (by kernel_rfl) ?_
        refine WQ.next ?_
        refine WC.condT rfl rfl ?_
        refine WC.seq ?_
        refine WC.draw ([]) [] 9 #[false, false, false, false, false, false, false, false, false] mixed (by kernel_rfl) NoPanic.autoS ?_
        refine WD.take (i := 0) #[true, false, false, false, false, false, false, false, false] rfl (by kernel_rfl) (Qt.move ) ?_
        refine WD.take (i := 1) #[true, true, false, false, false, false, false, false, false] rfl (by kernel_rfl) (Qt.move ) ?_
        refine WD.take (i := 2) #[true, true, true, false, false, false, false, false, false] rfl (by kernel_rfl) (Qt.add ) ?_
        refine WD.take (i := 3) #[true, true, true, true, false, false, false, false, false] rfl (by kernel_rfl) (Qt.subT (p := 1 + 1) [47, 0] st9 (hp := ⟨by decide, by decide⟩)) ?_
        refine WD.take (i := 4) #[true, true, true, true, true, false, false, false, false] rfl (by kernel_rfl) (Qt.move ) ?_
        refine WD.take (i := 5) #[true, true, true, true, true, true, false, false, false] rfl (by kernel_rfl) (Qt.move ) ?_
        refine WD.take (i := 6) #[true, true, true, true, true, true, true, false, false] rfl (by kernel_rfl) (Qt.ixT (p := 1) (v := x) l st9 hx) ?_
        refine WD.one (i := 7) #[true, true, true, true, true, true, true, true, false] rfl (by kernel_rfl) fun hnp => ?_
        refine WL.call (hc := Tryz.call162) (sp := idxByte (xs := []) (c := (x.toNat : Int))) (h := ?_)
        rintro _ _ ⟨rfl, rfl⟩
        refine WL.nil (WQ.wd hnp (.inl Am.auto) ?_)
        refine WD.take (i := 8) #[true, true, true, true, true, true, true, true, true] rfl (by kernel_rfl) (Qt.assign ) ?_
        refine WD.done (by kernel_rfl) ?_
        refine WQ.next ?_
        refine WC.seq ?_
        refine WC.seq ?_
        refine WC.region ?_
        refine WL.move ?_
        refine WL.lss ?_
        refine WL.nil ?_
        refine WQ.next ?_
        refine WC.condT rfl rfl ?_
        refine WC.seq ?_
        refine WC.region ?_
        refine WL.assign ?_
        refine WL.nil ?_
        refine WQ.next ?_
        refine WC.ret (WQ.thenRet (WQ.thenRet (WQ.scopeRet (WQ.blockRet (WQ.thenRet (WQ.blockRet (WQ.thenRet (WQ.scopeRet (WQ.blockRet (?_))))))))))
        exact WQ.ret1 (h1 := .tmp (t := 4) rfl) ⟨_, ⟨_, rfl, by rw [decide_eq_false (by decide), decide_eq_false (by omega)], rfl⟩, Am.auto⟩
      · refine WC.loopN 1 (RC.succ ?_)
        refine WC.seq ?_
        refine WC.seq ?_
        refine WC.region ?_
        refine WL.move ?_
        refine WL.move ?_
        refine WL.lenT _ ?_ st9
        refine WL.lss ?_
        refine WL.nil ?_
        refine WQ.next ?_
        refine WC.condF rfl (congrArg Value.bool (by first | (simp; done) | (simp; omega) | omega)) ?_
        refine WC.exit (WQ.thenExit (WQ.thenExit (WQ.blockExit (?_))))
        refine WQ.next ?_
        refine WC.seq ?_
        refine WC.seq ?_
        refine WC.region ?_
        refine WL.assign ?_
        refine WL.nil ?_
        refine WQ.next ?_
        refine WC.ret (WQ.thenRet (WQ.scopeRet (WQ.blockRet (?_))))
        exact WQ.ret1 (h1 := .tmp (t := 4) rfl) ⟨_, ⟨_, rfl, by rw [decide_eq_false (by decide), decide_eq_false (by omega)], rfl⟩, Am.auto⟩
end Go.Proofs.YtedmihapieleaaaGreat
end
section
namespace Go.Proofs.YtedmihapieleaaaGreat
open Go
theorem agg189 : aggOk Tryz.prog 189 256 = true := by kernel_rfl
theorem z189 : zeroOf Tryz.prog 189 = some (Array.replicate 256 (.bool false)) := by kernel_rfl
theorem ar189 : arrOk Tryz.prog 189 4 256 1 = true := by kernel_rfl
def sepA : List Value := ((List.replicate 256 (Value.bool false)).set 47 (.bool true)).set 0 (.bool true)
theorem sepA_length : sepA.length = 256 := by unfold sepA; rw [List.length_set, List.length_set, List.length_replicate]
theorem sepA_single : ∀ v ∈ sepA, Value.single v = true := by
  intro v hv
  unfold sepA at hv
  rcases List.mem_or_eq_of_mem_set hv with hv | rfl
  · rcases List.mem_or_eq_of_mem_set hv with hv | rfl
    · rw [List.eq_of_mem_replicate hv]; rfl
    · rfl
  · rfl
theorem bool_arr : Array.replicate 256 (Value.bool false) = (List.replicate 256 (Value.bool false)).toArray := (List.toArray_replicate ..).symm
theorem sepA_get (x : UInt8) : sepA[x.toNat]? = some (.bool (x == 47 || x == 0)) := by
  have hx : x.toNat < 256 := x.toNat_lt
  unfold sepA
  by_cases h0 : x = 0
  · subst h0
    exact List.getElem?_set_self (by rw [List.length_set, List.length_replicate]; decide)
  · have h0' : 0 ≠ x.toNat := fun h => h0 (UInt8.toNat_inj.1 h.symm)
    rw [List.getElem?_set_ne h0']
    by_cases h47 : x = 47
    · subst h47
      exact List.getElem?_set_self (by rw [List.length_replicate]; decide)
    · have h47' : 47 ≠ x.toNat := fun h => h47 (UInt8.toNat_inj.1 h.symm)
      rw [List.getElem?_set_ne h47', List.getElem?_replicate, if_pos hx]
      simp [h0, h47]
def nameOk (xs : Bytes) : Bool := !decide (xs = []) && (decide (xs.length ≤ 50) && (!sepIn xs && (!decide (xs = [46]) && !decide (xs = [46, 46]))))
theorem mkSet : Spec Tryz.prog 137 #[sv [47, 0]] [] fun F v M => v = .tuple #[.agg sepA.toArray, .bool true] ∧ M = F := by
  refine Spec.intro Tryz.func137 rfl rfl fun B F => ?_
  simp only [Tryz.ntmps137, List.cons_append, List.nil_append, env0, Nat.reduceAdd]
  refine WC.seq ?_
  refine WC.region ?_
  refine WL.allocL (us := List.replicate 256 (Value.bool false)) z189 bool_arr fun b2 => ?_
  refine WL.assign ?_
  refine WL.nil ?_
  refine WQ.next ?_
  refine WC.seq ?_
  refine WC.seq ?_
  refine WC.region ?_
  refine WL.assign ?_
  refine WL.nil ?_
  refine WQ.next ?_
  refine WC.block ?_
  refine WC.loopN 3 (RC.succ ?_)
  refine WC.seq ?_
  refine WC.seq ?_
  refine WC.region ?_
  refine WL.move ?_
  refine WL.move ?_
  refine WL.lenT _ ?_ st9
  refine WL.lss ?_
  refine WL.nil ?_
  refine WQ.next ?_
  refine WC.condT rfl rfl ?_
  refine WC.skip ?_
  refine WQ.next ?_
  refine WC.seq ?_
  refine WC.block ?_
  refine WC.seq ?_
  refine WC.region ?_
  refine WL.move ?_
  refine WL.move ?_
  refine WL.ixT (p := 0) (v := 47) [47, 0] ?_ st9 rfl
  refine WL.cast (d := 14) (u := .int .u8 47) rfl rfl ?_
  refine WL.assign ?_
  refine WL.nil ?_
  refine WQ.next ?_
  refine WC.seq ?_
  refine WC.seq ?_
  refine WC.region ?_
  refine WL.move ?_
  refine WL.geq ?_
  refine WL.nil ?_
  refine WQ.next ?_
  refine WC.condF rfl rfl ?_
  refine WC.skip ?_
  refine WQ.next ?_
  refine WC.region ?_
  refine WL.move ?_
  refine WL.idxA ?_ ar189
  refine WL.stL (xs := (List.replicate 256 (Value.bool false))) (i := 47) ?_ sc4 (by first | (rw [List.length_set, List.length_replicate]; decide) | (rw [List.length_replicate]; decide))
  refine WL.nil ?_
  refine WQ.blockNormal ?_
  refine WQ.next ?_
  refine WC.region ?_
  refine WL.move ?_
  refine WL.add ?_
  refine WL.assign ?_
  refine WL.nil ?_
  refine WQ.again (RC.succ ?_)
  refine WC.seq ?_
  refine WC.seq ?_
  refine WC.region ?_
  refine WL.move ?_
  refine WL.move ?_
  refine WL.lenT _ ?_ st9
  refine WL.lss ?_
  refine WL.nil ?_
  refine WQ.next ?_
  refine WC.condT rfl rfl ?_
  refine WC.skip ?_
  refine WQ.next ?_
  refine WC.seq ?_
  refine WC.block ?_
  refine WC.seq ?_
  refine WC.region ?_
  refine WL.move ?_
  refine WL.move ?_
  refine WL.ixT (p := 1) (v := 0) [47, 0] ?_ st9 rfl
  refine WL.cast (d := 14) (u := .int .u8 0) rfl rfl ?_
  refine WL.assign ?_
  refine WL.nil ?_
  refine WQ.next ?_
  refine WC.seq ?_
  refine WC.seq ?_
  refine WC.region ?_
  refine WL.move ?_
  refine WL.geq ?_
  refine WL.nil ?_
  refine WQ.next ?_
  refine WC.condF rfl rfl ?_
  refine WC.skip ?_
  refine WQ.next ?_
  refine WC.region ?_
  refine WL.move ?_
  refine WL.idxA ?_ ar189
  refine WL.stL (xs := ((List.replicate 256 (Value.bool false)).set 47 (.bool true))) (i := 0) ?_ sc4 (by first | (rw [List.length_set, List.length_replicate]; decide) | (rw [List.length_replicate]; decide))
  refine WL.nil ?_
  refine WQ.blockNormal ?_
  refine WQ.next ?_
  refine WC.region ?_
  refine WL.move ?_
  refine WL.add ?_
  refine WL.assign ?_
  refine WL.nil ?_
  refine WQ.again (RC.succ ?_)
  refine WC.seq ?_
  refine WC.seq ?_
  refine WC.region ?_
  refine WL.move ?_
  refine WL.move ?_
  refine WL.lenT _ ?_ st9
  refine WL.lss ?_
  refine WL.nil ?_
  refine WQ.next ?_
  refine WC.condF rfl rfl ?_
  refine WC.exit (WQ.thenExit (WQ.thenExit (WQ.blockExit (?_))))
  refine WQ.next ?_
  refine WC.seq ?_
  refine WC.region ?_
  refine WL.ldW (xs := sepA) ?_ agg189 sepA_length
  refine WL.stLA (xs := sepA) (us := sepA) ?_ agg189 sepA_length sepA_length sepA_single
  refine WL.assign ?_
  refine WL.nil ?_
  refine WQ.next ?_
  refine WC.ret (?_)
  exact WQ.ret2 (h1 := RV.aggL rfl agg189 (by repeat (first | exact .here | apply Rem.there | apply Repl.there | apply Mem.there)) sepA_length) (h2 := .tmp rfl) ⟨_, ⟨rfl, rfl⟩, Am.auto⟩
theorem setHas {b : Nat} {x : UInt8} : Spec Tryz.prog 138 #[.pointer (some ⟨b, 0, none⟩), .int .u8 (x.toNat : Int)] [row b 189 sepA] fun F v M => v = .bool (x == 47 || x == 0) ∧ M = row b 189 sepA :: F := by
  refine Spec.intro Tryz.func138 rfl rfl fun B F => ?_
  simp only [Tryz.ntmps138, List.cons_append, List.nil_append, env0, Nat.reduceAdd]
  have hx : x.toNat < 256 := x.toNat_lt
  refine WC.seq ?_
  refine WC.region ?_
  refine WL.assign ?_
  refine WL.nil ?_
  refine WQ.next ?_
  refine WC.seq ?_
  refine WC.region ?_
  refine WL.move ?_
  refine WL.move ?_
  refine WL.nilCheck ?_
  refine WL.idxA ?_ ar189
  refine WL.ldL (xs := sepA) (i := 0 + ((x.toNat : Nat) : Int).toNat * 1) ?_ sc4 (by rw [Nat.zero_add, Nat.mul_one, Int.toNat_natCast]; exact sepA_get x)
  refine WL.assign ?_
  refine WL.nil ?_
  refine WQ.next ?_
  refine WC.ret (?_)
  exact WQ.ret1 (h1 := .tmp (t := 4) rfl) ⟨_, ⟨rfl, rfl⟩, Am.auto⟩
theorem useSet {k : Int} : Spec Tryz.prog 136 #[.int .i64 k] [] fun F v M => v = .bool (decide (8 < k)) ∧ M = F := by
  refine Spec.intro Tryz.func136 rfl rfl fun B F => ?_
  simp only [Tryz.ntmps136, List.cons_append, List.nil_append, env0, Nat.reduceAdd]
  refine WC.seq ?_
  refine WC.region ?_
  refine WL.assign ?_
  refine WL.nil ?_
  refine WQ.next ?_
  refine WC.seq ?_
  refine WC.region ?_
  refine WL.move ?_
  refine WL.gtr ?_
  refine WL.assign ?_
  refine WL.nil ?_
  refine WQ.next ?_
  refine WC.ret (?_)
  exact WQ.ret1 (h1 := .tmp (t := 2) rfl) ⟨_, ⟨rfl, rfl⟩, Am.auto⟩
theorem idxAny {xs : Bytes} (hl : xs.length ≤ 65536) : Spec Tryz.prog 115 #[sv xs, sv [47, 0]] [] fun F v M => ∃ r : Int, v = .int .i64 r ∧ decide (0 ≤ r) = sepIn xs ∧ M = F := by
  refine Spec.intro Tryz.func115 rfl rfl fun B F => ?_
  simp only [Tryz.ntmps115, List.cons_append, List.nil_append, env0, Nat.reduceAdd]
  refine WC.seq ?_
  refine WC.region ?_
  refine WL.assign ?_
  refine WL.nil ?_
  refine WQ.next ?_
  refine WC.seq ?_
  refine WC.seq ?_
  refine WC.region ?_
  refine WL.move ?_
  refine WL.eqS _ _ ?_
  refine WL.nil ?_
  refine WQ.next ?_
  refine WC.condF rfl rfl ?_
  refine WC.skip ?_
  refine WQ.next ?_
  refine WC.seq ?_
  refine WC.seq ?_
  refine WC.region ?_
  refine WL.move ?_
  refine WL.lenT _ ?_ st9
  refine WL.eqi ?_
  refine WL.nil ?_
  refine WQ.next ?_
  refine WC.condF rfl rfl ?_
  refine WC.skip ?_
  refine WQ.next ?_
  refine WC.seq ?_
  refine WC.seq ?_
  refine WC.region ?_
  refine WL.move ?_
  refine WL.lenT _ ?_ st9
  refine WL.call (hc := Tryz.call136) (sp := useSet (k := (xs.length : Int))) (h := ?_)
  rintro _ _ ⟨rfl, hM⟩
  obtain rfl := hM.symm
  refine WL.nil ?_
  refine WQ.next ?_
  refine WC.cond rfl (fun h8 => ?_) (fun h8 => ?_)
  · refine WC.seq ?_
    refine WC.region ?_
    refine WL.move ?_
    refine WL.call (hc := Tryz.call137) (sp := mkSet) (h := ?_)
    rintro _ _ ⟨rfl, hM2⟩
    obtain rfl := hM2.symm
    refine WL.move ?_
    refine WL.extract ?_
    refine WL.extract ?_
    refine WL.allocL (us := List.replicate 256 (Value.bool false)) z189 bool_arr fun b6 => ?_
    refine WL.stLA (xs := List.replicate 256 (Value.bool false)) (us := sepA) ?_ agg189 sepA_length List.length_replicate sepA_single
    refine WL.assign ?_
    refine WL.nil ?_
    refine WQ.next ?_
    refine WC.seq ?_
    refine WC.region ?_
    refine WL.move ?_
    refine WL.nil ?_
    refine WQ.next ?_
    refine WC.condT rfl rfl ?_
    refine WC.seq ?_
    refine WC.seq ?_
    refine WC.region ?_
    refine WL.assign ?_
    refine WL.nil ?_
    refine WQ.next ?_
    refine WC.block ?_
    refine WC.loopA (σ := Nat) (fun i => [(0, sv xs), (6, .pointer (some ⟨b6, 0, none⟩)), (8, .int .i64 (i : Int))]) (fun i => row b6 189 sepA :: F) (fun i => i ≤ xs.length ∧ ∀ (j : Nat), j < i → ∀ (hj : j < xs.length), xs[j] ≠ 47 ∧ xs[j] ≠ 0) (fun i => xs.length - i) 0 ⟨Nat.zero_le _, fun j hj => by omega⟩ ?_
    rintro i hi
    refine WC.seq ?_
    refine WC.seq ?_
    refine WC.region ?_
    refine WL.move ?_
    refine WL.move ?_
    refine WL.lenT _ ?_ st9
    refine WL.lss ?_
    refine WL.nil ?_
    refine WQ.next ?_
    refine WC.cond rfl (fun hb => ?_) (fun hb => ?_)
    · have hlt : i < xs.length := by have h : (i : Int) < (xs.length : Int) := of_decide_eq_true hb; omega
      have hx : xs[((i : Nat) : Int).toNat]? = some xs[i] := by rw [Int.toNat_natCast]; exact List.getElem?_eq_getElem hlt
      refine WC.skip ?_
      refine WQ.next ?_
      refine WC.seq ?_
      refine WC.block ?_
      refine WC.seq ?_
      refine WC.region ?_
      refine WL.move ?_
      refine WL.move ?_
      refine WL.ixT (p := (i : Int)) (v := xs[i]) xs ?_ st9 hx
      refine WL.call (hc := Tryz.call138) (sp := setHas (b := b6) (x := xs[i])) (h := ?_)
      rintro _ _ ⟨rfl, rfl⟩
      refine WL.nil ?_
      refine WQ.next ?_
      refine WC.cond rfl (fun hq => ?_) (fun hq => ?_)
      · refine WC.seq ?_
        refine WC.region ?_
        refine WL.move ?_
        refine WL.assign ?_
        refine WL.nil ?_
        refine WQ.next ?_
        refine WC.ret (WQ.blockRet (WQ.thenRet (WQ.thenRet (WQ.blockRet (WQ.thenRet (WQ.thenRet (?_)))))))
        exact WQ.ret1 (h1 := .tmp (t := 4) rfl) ⟨_, ⟨_, rfl, by rw [decide_eq_true (by omega), sepIn_yes hlt (by simpa using hq)], rfl⟩, Am.auto⟩
      · refine WC.skip ?_
        refine WQ.blockNormal ?_
        refine WQ.next ?_
        refine WC.region ?_
        refine WL.move ?_
        refine WL.add ?_
        refine WL.assign ?_
        refine WL.nil ?_
        refine WQ.cast (d := 8) (u := .int .i64 ((i + 1 : Nat) : Int)) rfl (congrArg (Value.int .i64) (by omega)) ?_
        exact WQ.back (i + 1) ⟨by omega, fun j hj hl => by by_cases hji : j = i; (subst hji; simpa using hq); exact hi.2 j (by omega) hl⟩ (by omega)
    · have hge : ¬ i < xs.length := by have h : ¬ (i : Int) < (xs.length : Int) := of_decide_eq_false hb; omega
      refine WC.exit (WQ.thenExit (WQ.thenExit (WQ.blockExit (?_))))
      refine WQ.next ?_
      refine WC.seq ?_
      refine WC.region ?_
      refine WL.assign ?_
      refine WL.nil ?_
      refine WQ.next ?_
      refine WC.ret (WQ.thenRet (?_))
      exact WQ.ret1 (h1 := .tmp (t := 4) rfl) ⟨_, ⟨_, rfl, by rw [decide_eq_false (by decide), sepIn_no (fun j hj => hi.2 j (by omega) hj)], rfl⟩, Am.auto⟩
  · refine WC.skip ?_
    refine WQ.next ?_
    refine WC.seq ?_
    refine WC.seq ?_
    refine WC.region ?_
    refine WL.move ?_
    refine WL.rangeT xs st9 (fun it => ?_)
    refine WL.nil ?_
    refine WQ.next ?_
    refine WC.block ?_
    refine WC.loopA (σ := Nat) (fun k => [(0, sv xs), (1, sv [47, 0]), (45, .pointer (some ⟨it, 0, none⟩))]) (fun k => strIt it xs k :: F) (fun k => ∀ (j : Nat), j < k → ∀ (hj : j < xs.length), xs[j] ≠ 47 ∧ xs[j] ≠ 0) (fun k => xs.length - k) 0 (fun j hj => by omega) ?_
    rintro k hi
    refine WC.seq ?_
    refine WC.region ?_
    refine WL.nextT (k := k) xs (fun hk => ?_) (fun hk => ?_)
    · refine WL.extract ?_
      refine WL.nil ?_
      refine WQ.next ?_
      refine WC.seq ?_
      refine WC.condF rfl rfl ?_
      refine WC.exit (WQ.thenExit (WQ.thenExit (WQ.blockExit (?_))))
      refine WQ.next ?_
      refine WC.seq ?_
      refine WC.region ?_
      refine WL.assign ?_
      refine WL.nil ?_
      refine WQ.next ?_
      refine WC.ret (?_)
      exact WQ.ret1 (h1 := .tmp (t := 4) rfl) ⟨_, ⟨_, rfl, by rw [decide_eq_false (by decide), sepIn_no (fun j hj => hi j (by omega) hj)], rfl⟩, Am.auto⟩
    · have hpos := rune_pos hk
      have hle := rune_le xs k
      obtain ⟨c, hc⟩ : ∃ c, (rune xs k).1 = c := ⟨_, rfl⟩
      obtain ⟨d, hd⟩ : ∃ d, (rune xs k).2 = d := ⟨_, rfl⟩
      rw [hc, hd]
      rw [hd] at hpos
      have hyes : c = 47 ∨ c = 0 → sepIn xs = true := by
        intro h
        by_cases hb : xs[k].toNat < 128
        · rw [rune_low hk hb] at hc
          refine sepIn_yes hk ?_
          have hc : xs[k].toNat = c := hc
          rcases h with h | h
          · exact .inl (UInt8.toNat_inj.1 (by rw [hc, h]; rfl))
          · exact .inr (UInt8.toNat_inj.1 (by rw [hc, h]; rfl))
        · have := (rune_high hk (by omega)).1
          omega
      have hno : ¬ (c = 47 ∨ c = 0) → ∀ (j : Nat), j < k + d → ∀ (hj : j < xs.length), xs[j] ≠ 47 ∧ xs[j] ≠ 0 := by
        intro h j hj hjl
        by_cases hjk : j < k
        · exact hi j hjk hjl
        by_cases hb : xs[k].toNat < 128
        · rw [rune_low hk hb] at hc hd
          have hc : xs[k].toNat = c := hc
          have hd : 1 = d := hd
          obtain rfl : j = k := by omega
          refine ⟨fun h2 => h (.inl ?_), fun h2 => h (.inr ?_)⟩
          · rw [← hc, h2]; rfl
          · rw [← hc, h2]; rfl
        · have h3 := (rune_high hk (by omega)).2.2 j (by omega) (by rw [hd]; exact hj) hjl
          refine ⟨fun h2 => ?_, fun h2 => ?_⟩
          · rw [h2] at h3; exact absurd h3 (by decide)
          · rw [h2] at h3; exact absurd h3 (by decide)
      refine WL.extract ?_
      refine WL.nil ?_
      refine WQ.next ?_
      refine WC.seq ?_
      refine WC.condT rfl rfl ?_
      refine WC.skip ?_
      refine WQ.next ?_
      refine WC.block ?_
      refine WC.seq ?_
      refine WC.region ?_
      refine WL.extract ?_
      refine WL.extract ?_
      refine WL.assign ?_
      refine WL.assign ?_
      refine WL.nil ?_
      refine WQ.next ?_
      refine WC.seq ?_
      refine WC.region ?_
      refine WL.move ?_
      refine WL.move ?_
      refine WL.call (hc := Tryz.call135) (sp := idxRune (c := c)) (h := ?_)
      rintro _ _ ⟨r, rfl, hr, rfl⟩
      by_cases hq : c = 47 ∨ c = 0
      · have hr0 : 0 ≤ r := of_decide_eq_true (by rw [hr]; exact decide_eq_true hq)
        refine WL.geq ?_
        refine WL.nil ?_
        refine WQ.next ?_
        refine WC.condT rfl (congrArg Value.bool (by first | (simp; done) | (simp; omega) | omega)) ?_
        refine WC.seq ?_
        refine WC.region ?_
        refine WL.move ?_
        refine WL.assign ?_
        refine WL.nil ?_
        refine WQ.next ?_
        refine WC.ret (WQ.blockRet (WQ.thenRet (WQ.blockRet (WQ.thenRet (?_)))))
        exact WQ.ret1 (h1 := .tmp (t := 4) rfl) ⟨_, ⟨_, rfl, by rw [decide_eq_true (by omega), hyes hq], rfl⟩, Am.auto⟩
      · have hr0 : ¬ 0 ≤ r := of_decide_eq_false (by rw [hr]; exact decide_eq_false hq)
        refine WL.geq ?_
        refine WL.nil ?_
        refine WQ.next ?_
        refine WC.condF rfl (congrArg Value.bool (by first | (simp; done) | (simp; omega) | omega)) ?_
        refine WC.skip ?_
        refine WQ.blockNormal ?_
        exact WQ.back (k + d) (hno hq) (by show xs.length - (k + d) < xs.length - k; omega)
theorem hasAny {xs : Bytes} (hl : xs.length ≤ 65536) : Spec Tryz.prog 69 #[sv xs, sv [47, 0]] [] fun F v M => v = .bool (sepIn xs) ∧ M = F := by
  refine Spec.intro Tryz.func69 rfl rfl fun B F => ?_
  simp only [Tryz.ntmps69, List.cons_append, List.nil_append, env0, Nat.reduceAdd]
  refine WC.seq ?_
  refine WC.region ?_
  refine WL.assign ?_
  refine WL.nil ?_
  refine WQ.next ?_
  refine WC.seq ?_
  refine WC.region ?_
  refine WL.move ?_
  refine WL.move ?_
  refine WL.call (hc := Tryz.call115) (sp := idxAny hl) (h := ?_)
  rintro _ _ ⟨r, rfl, hr, rfl⟩
  refine WL.geq ?_
  refine WL.assign ?_
  refine WL.nil ?_
  refine WQ.next ?_
  refine WC.ret (?_)
  exact WQ.ret1 (h1 := .tmp (t := 4) rfl) ⟨_, ⟨congrArg Value.bool hr, rfl⟩, Am.auto⟩
theorem dName {xs : Bytes} : Spec Tryz.prog 30 #[sv xs] [] fun F v M => v = .bool (nameOk xs) ∧ M = F := by
  refine Spec.intro Tryz.func30 rfl rfl fun B F => ?_
  simp only [Tryz.ntmps30, List.cons_append, List.nil_append, env0, Nat.reduceAdd]
  unfold nameOk
  by_cases h1 : xs = []
  · refine WC.seq ?_
    refine WC.region ?_
    refine WL.assign ?_
    refine WL.nil ?_
    refine WQ.next ?_
    refine WC.seq ?_
    refine WC.region ?_
    refine WL.move ?_
    refine WL.neS _ _ ?_
    refine WL.cast (d := 4) (u := .bool false) rfl (congrArg Value.bool (by simp [h1])) ?_
    refine WL.move ?_
    refine WL.gF ?_
    refine WL.gF ?_
    refine WL.gF ?_
    refine WL.pickF ?_
    refine WL.move ?_
    refine WL.gF ?_
    refine WL.gF ?_
    refine WL.gF ?_
    refine WL.pickF ?_
    refine WL.move ?_
    refine WL.gF ?_
    refine WL.gF ?_
    refine WL.pickF ?_
    refine WL.move ?_
    refine WL.gF ?_
    refine WL.gF ?_
    refine WL.pickF ?_
    refine WL.assign ?_
    refine WL.nil ?_
    refine WQ.next ?_
    refine WC.ret (?_)
    exact WQ.ret1 (h1 := .tmp (t := 2) rfl) ⟨_, ⟨by simp [h1], rfl⟩, Am.auto⟩
  · by_cases h2 : xs.length ≤ 50
    · cases h3 : sepIn xs
      · by_cases h4 : xs = [46]
        · refine WC.seq ?_
          refine WC.region ?_
          refine WL.assign ?_
          refine WL.nil ?_
          refine WQ.next ?_
          refine WC.seq ?_
          refine WC.region ?_
          refine WL.move ?_
          refine WL.neS _ _ ?_
          refine WL.cast (d := 4) (u := .bool true) rfl (congrArg Value.bool (by simp [h1])) ?_
          refine WL.move ?_
          refine WL.gT ?_
          refine WL.move ?_
          refine WL.gT ?_
          refine WL.lenT _ ?_ st9
          refine WL.gT ?_
          refine WL.leq ?_
          refine WL.pickT ?_
          refine WL.move ?_
          refine WL.cast (d := 10) (u := .bool true) rfl (congrArg Value.bool (by first | (simp; done) | (simp; omega) | omega)) ?_
          refine WL.gT ?_
          refine WL.move ?_
          refine WL.gT ?_
          refine WL.call (hc := Tryz.call69) (sp := hasAny (xs := xs) (by omega)) (h := ?_)
          rintro _ _ ⟨rfl, rfl⟩
          refine WL.gT ?_
          refine WL.not ?_
          refine WL.cast (d := 13) (u := .bool true) rfl (congrArg Value.bool (by rw [h3]; rfl)) ?_
          refine WL.pickT ?_
          refine WL.move ?_
          refine WL.gT ?_
          refine WL.move ?_
          refine WL.gT ?_
          refine WL.neS _ _ ?_
          refine WL.cast (d := 17) (u := .bool false) rfl (congrArg Value.bool (by simp [h4])) ?_
          refine WL.pickT ?_
          refine WL.move ?_
          refine WL.gF ?_
          refine WL.gF ?_
          refine WL.pickF ?_
          refine WL.assign ?_
          refine WL.nil ?_
          refine WQ.next ?_
          refine WC.ret (?_)
          exact WQ.ret1 (h1 := .tmp (t := 2) rfl) ⟨_, ⟨by subst h4; rfl, rfl⟩, Am.auto⟩
        · refine WC.seq ?_
          refine WC.region ?_
          refine WL.assign ?_
          refine WL.nil ?_
          refine WQ.next ?_
          refine WC.seq ?_
          refine WC.region ?_
          refine WL.move ?_
          refine WL.neS _ _ ?_
          refine WL.cast (d := 4) (u := .bool true) rfl (congrArg Value.bool (by simp [h1])) ?_
          refine WL.move ?_
          refine WL.gT ?_
          refine WL.move ?_
          refine WL.gT ?_
          refine WL.lenT _ ?_ st9
          refine WL.gT ?_
          refine WL.leq ?_
          refine WL.pickT ?_
          refine WL.move ?_
          refine WL.cast (d := 10) (u := .bool true) rfl (congrArg Value.bool (by first | (simp; done) | (simp; omega) | omega)) ?_
          refine WL.gT ?_
          refine WL.move ?_
          refine WL.gT ?_
          refine WL.call (hc := Tryz.call69) (sp := hasAny (xs := xs) (by omega)) (h := ?_)
          rintro _ _ ⟨rfl, rfl⟩
          refine WL.gT ?_
          refine WL.not ?_
          refine WL.cast (d := 13) (u := .bool true) rfl (congrArg Value.bool (by rw [h3]; rfl)) ?_
          refine WL.pickT ?_
          refine WL.move ?_
          refine WL.gT ?_
          refine WL.move ?_
          refine WL.gT ?_
          refine WL.neS _ _ ?_
          refine WL.cast (d := 17) (u := .bool true) rfl (congrArg Value.bool (by simp [h4])) ?_
          refine WL.pickT ?_
          refine WL.move ?_
          refine WL.gT ?_
          refine WL.move ?_
          refine WL.gT ?_
          refine WL.neS _ _ ?_
          refine WL.pickT ?_
          refine WL.assign ?_
          refine WL.nil ?_
          refine WQ.next ?_
          refine WC.ret (?_)
          exact WQ.ret1 (h1 := .tmp (t := 2) rfl) ⟨_, ⟨by simp [*], rfl⟩, Am.auto⟩
      · refine WC.seq ?_
        refine WC.region ?_
        refine WL.assign ?_
        refine WL.nil ?_
        refine WQ.next ?_
        refine WC.seq ?_
        refine WC.region ?_
        refine WL.move ?_
        refine WL.neS _ _ ?_
        refine WL.cast (d := 4) (u := .bool true) rfl (congrArg Value.bool (by simp [h1])) ?_
        refine WL.move ?_
        refine WL.gT ?_
        refine WL.move ?_
        refine WL.gT ?_
        refine WL.lenT _ ?_ st9
        refine WL.gT ?_
        refine WL.leq ?_
        refine WL.pickT ?_
        refine WL.move ?_
        refine WL.cast (d := 10) (u := .bool true) rfl (congrArg Value.bool (by first | (simp; done) | (simp; omega) | omega)) ?_
        refine WL.gT ?_
        refine WL.move ?_
        refine WL.gT ?_
        refine WL.call (hc := Tryz.call69) (sp := hasAny (xs := xs) (by omega)) (h := ?_)
        rintro _ _ ⟨rfl, rfl⟩
        refine WL.gT ?_
        refine WL.not ?_
        refine WL.cast (d := 13) (u := .bool false) rfl (congrArg Value.bool (by rw [h3]; rfl)) ?_
        refine WL.pickT ?_
        refine WL.move ?_
        refine WL.gF ?_
        refine WL.gF ?_
        refine WL.pickF ?_
        refine WL.move ?_
        refine WL.gF ?_
        refine WL.gF ?_
        refine WL.pickF ?_
        refine WL.assign ?_
        refine WL.nil ?_
        refine WQ.next ?_
        refine WC.ret (?_)
        exact WQ.ret1 (h1 := .tmp (t := 2) rfl) ⟨_, ⟨by simp [*], rfl⟩, Am.auto⟩
    · refine WC.seq ?_
      refine WC.region ?_
      refine WL.assign ?_
      refine WL.nil ?_
      refine WQ.next ?_
      refine WC.seq ?_
      refine WC.region ?_
      refine WL.move ?_
      refine WL.neS _ _ ?_
      refine WL.cast (d := 4) (u := .bool true) rfl (congrArg Value.bool (by simp [h1])) ?_
      refine WL.move ?_
      refine WL.gT ?_
      refine WL.move ?_
      refine WL.gT ?_
      refine WL.lenT _ ?_ st9
      refine WL.gT ?_
      refine WL.leq ?_
      refine WL.pickT ?_
      refine WL.move ?_
      refine WL.cast (d := 10) (u := .bool false) rfl (congrArg Value.bool (by first | (simp; done) | (simp; omega) | omega)) ?_
      refine WL.gF ?_
      refine WL.gF ?_
      refine WL.gF ?_
      refine WL.pickF ?_
      refine WL.move ?_
      refine WL.gF ?_
      refine WL.gF ?_
      refine WL.pickF ?_
      refine WL.move ?_
      refine WL.gF ?_
      refine WL.gF ?_
      refine WL.pickF ?_
      refine WL.assign ?_
      refine WL.nil ?_
      refine WQ.next ?_
      refine WC.ret (?_)
      exact WQ.ret1 (h1 := .tmp (t := 2) rfl) ⟨_, ⟨by simp [*], rfl⟩, Am.auto⟩
end Go.Proofs.YtedmihapieleaaaGreat
end
section
namespace Go.Proofs.YtedmihapieleaaaGreat
open Go
abbrev Slot := Option (Bytes × Nat)
def keyB (nm : Bytes) : Bytes := (UInt8.ofNat nm.length :: (nm ++ List.replicate 50 0)).take 51
theorem keyB_length (nm : Bytes) : (keyB nm).length = 51 := by
  unfold keyB
  rw [List.length_take, List.length_cons, List.length_append, List.length_replicate]
  omega
abbrev K51 := {xs : Bytes // xs.length = 51}
def keyK (nm : Bytes) : K51 := ⟨keyB nm, keyB_length nm⟩
theorem keyB_head (nm : Bytes) : (keyB nm)[0]? = some (UInt8.ofNat nm.length) := by
  unfold keyB; rfl
theorem keyB_inj {a b : Bytes} (ha : a.length ≤ 50) (hb : b.length ≤ 50) (h : keyB a = keyB b) : a = b := by
  have h0 : UInt8.ofNat a.length = UInt8.ofNat b.length := by
    have := congrArg (fun l : Bytes => l[0]?) h
    simp only [keyB_head, Option.some.injEq] at this
    exact this
  have hl : a.length = b.length := by
    have := congrArg UInt8.toNat h0
    rw [UInt8.toNat_ofNat', UInt8.toNat_ofNat'] at this
    omega
  have h1 : (a ++ List.replicate 50 0).take 50 = (b ++ List.replicate 50 0).take 50 := by
    unfold keyB at h
    rw [List.take_succ_cons, List.take_succ_cons] at h
    exact (List.cons.inj h).2
  have h2 := congrArg (List.take a.length) h1
  rw [List.take_take, List.take_take, Nat.min_eq_left ha, List.take_append_of_le_length (Nat.le_refl _), List.take_length, hl, List.take_append_of_le_length (Nat.le_refl _), List.take_length] at h2
  exact h2
theorem put4_append {a b : Bytes} (h : 4 ≤ a.length) (v : Nat) : put4 (a ++ b) 0 v = put4 a 0 v ++ b := by
  simp only [put4, put, putN, Bool.false_eq_true, if_false]
  rw [List.set_append_left _ _ (by omega), List.set_append_left _ _ (by rw [List.length_set]; omega), List.set_append_left _ _ (by rw [List.length_set, List.length_set]; omega), List.set_append_left _ _ (by rw [List.length_set, List.length_set, List.length_set]; omega)]
def slotB : Slot → Bytes
  | none => List.replicate 64 0
  | some (nm, i) => put4 (List.replicate 4 0) 0 i ++ (keyB nm ++ List.replicate 9 0)
theorem slotB_made {nm : Bytes} (i : Nat) : (put4 (List.replicate 64 0) 0 i).take 4 ++ keyB nm ++ (put4 (List.replicate 64 0) 0 i).drop 55 = slotB (some (nm, i)) := by
  have h1 : (List.replicate 64 (0 : UInt8)) = List.replicate 4 0 ++ List.replicate 60 0 := rfl
  have h4 : (put4 (List.replicate 4 0) 0 i).length = 4 := by rw [put4_length]; rfl
  rw [h1, put4_append (by rw [List.length_replicate]; decide), List.take_left' h4, show 55 = 4 + 51 from rfl, ← List.drop_drop, List.drop_left' h4, List.append_assoc]
  rfl
theorem keyB_made {nm : Bytes} (h : nm.length ≤ 50) : (UInt8.ofNat nm.length :: List.replicate 50 0).take 1 ++ nm.take (min nm.length 50) ++ (UInt8.ofNat nm.length :: List.replicate 50 0).drop (1 + min nm.length 50) = keyB nm := by
  rw [Nat.min_eq_left h, List.take_length, show 1 + nm.length = nm.length + 1 from by omega, List.drop_succ_cons, List.drop_replicate]
  have h1 : (nm ++ List.replicate 50 (0 : UInt8)).take 50 = nm ++ List.replicate (50 - nm.length) 0 := by
    rw [List.take_append, List.take_of_length_le h, List.take_replicate, Nat.min_eq_left (by omega)]
  show _ = UInt8.ofNat nm.length :: ((nm ++ List.replicate 50 0).take 50)
  rw [h1]
  rfl
theorem slotB_length (s : Slot) : (slotB s).length = 64 := by
  cases s with
  | none => exact List.length_replicate
  | some x => rw [slotB, List.length_append, put4_length, List.length_append, keyB_length, List.length_replicate, List.length_replicate]
def dirB (sl : List Slot) : Bytes := sl.flatMap slotB
theorem dirB_nil : dirB [] = [] := rfl
theorem dirB_append (a b : List Slot) : dirB (a ++ b) = dirB a ++ dirB b := List.flatMap_append
theorem dirB_length : ∀ sl : List Slot, (dirB sl).length = 64 * sl.length
  | [] => rfl
  | s :: sl => by
    have := dirB_length sl
    unfold dirB at this ⊢
    rw [List.flatMap_cons, List.length_append, slotB_length, this, List.length_cons]; omega
theorem dirB_split {sl : List Slot} {q : Nat} (h : q < sl.length) : dirB sl = dirB (sl.take q) ++ (slotB sl[q] ++ dirB (sl.drop (q + 1))) := by
  have h1 : dirB [sl[q]] = slotB sl[q] := by unfold dirB; rw [List.flatMap_cons, List.flatMap_nil, List.append_nil]
  rw [← h1, ← dirB_append, ← dirB_append]
  congr 1
  rw [List.singleton_append, List.getElem_cons_drop, List.take_append_drop]
theorem dirB_at {sl : List Slot} {q r k : Nat} (h : q < sl.length) (hk : r + k ≤ 64) : ((dirB sl).drop (64 * q + r)).take k = ((slotB sl[q]).drop r).take k := by
  have hl : (dirB (sl.take q)).length = 64 * q := by rw [dirB_length, List.length_take]; omega
  rw [dirB_split h, ← hl, ← List.drop_drop, List.drop_left, List.drop_append_of_le_length (by rw [slotB_length]; omega), List.take_append_of_le_length (by rw [List.length_drop, slotB_length]; omega)]
def keyOf : Slot → Bytes
  | none => List.replicate 51 0
  | some (nm, _) => keyB nm
theorem slotB_key (s : Slot) : ((slotB s).drop 4).take 51 = keyOf s := by
  cases s with
  | none => rfl
  | some x =>
    obtain ⟨nm, i⟩ := x
    have h4 : (put4 (List.replicate 4 0) 0 i).length = 4 := by rw [put4_length]; rfl
    show ((put4 (List.replicate 4 0) 0 i ++ (keyB nm ++ List.replicate 9 0)).drop 4).take 51 = keyB nm
    rw [List.drop_left' h4, List.take_left' (keyB_length nm)]
theorem dirB_key {sl : List Slot} {q : Nat} (h : q < sl.length) : ((dirB sl).drop (64 * q + 4)).take 51 = keyOf sl[q] := by
  rw [dirB_at h (by decide), slotB_key]
theorem keyOf_length (s : Slot) : (keyOf s).length = 51 := by
  cases s with
  | none => exact List.length_replicate
  | some x => exact keyB_length x.1
theorem num_take {xs : Bytes} {q : Nat} : num xs q = num ((xs.drop q).take 4) 0 := by
  unfold num
  simp only [List.getD_eq_getElem?_getD, List.getElem?_take, List.getElem?_drop, Nat.add_zero, Nat.zero_add]
  rfl
theorem dirB_num {sl : List Slot} {q : Nat} {nm : Bytes} {i : Nat} (h : q < sl.length) (hs : sl[q] = some (nm, i)) (hi : i < 4294967296) : num (dirB sl) (64 * q) = i := by
  have h1 := dirB_at (r := 0) (k := 4) h (by decide)
  have h4 : (put4 (List.replicate 4 0) 0 i).length = 4 := by rw [put4_length]; rfl
  rw [num_take, show 64 * q = 64 * q + 0 from rfl, h1, hs, List.drop_zero]
  show num ((put4 (List.replicate 4 0) 0 i ++ (keyB nm ++ List.replicate 9 0)).take 4) 0 = i
  rw [List.take_left' h4]
  exact num_put4 (by rw [List.length_replicate]; decide) hi
def setS (sl : List Slot) (q : Nat) (s : Slot) : List Slot := sl.take q ++ s :: sl.drop (q + 1)
theorem setS_length {sl : List Slot} {q : Nat} (h : q ≤ sl.length) (s : Slot) : (setS sl q s).length = max sl.length (q + 1) := by
  unfold setS
  rw [List.length_append, List.length_take, List.length_cons, List.length_drop]; omega
theorem setS_same {sl : List Slot} {q : Nat} (h : q ≤ sl.length) (s : Slot) : (setS sl q s)[q]? = some s := by
  unfold setS
  rw [List.getElem?_append_right (by rw [List.length_take]; omega), List.length_take, Nat.min_eq_left h, Nat.sub_self]
  rfl
theorem setS_other {sl : List Slot} {q j : Nat} (h : q ≤ sl.length) (hj : j ≠ q) (s : Slot) : (setS sl q s)[j]? = sl[j]? := by
  unfold setS
  rcases Nat.lt_or_gt_of_ne hj with hlt | hgt
  · rw [List.getElem?_append_left (by rw [List.length_take]; omega), List.getElem?_take, if_pos hlt]
  · rw [List.getElem?_append_right (by rw [List.length_take]; omega), List.length_take, Nat.min_eq_left h, show j - q = (j - q - 1) + 1 from by omega, List.getElem?_cons_succ, List.getElem?_drop]
    congr 1; omega
theorem setS_wr {sl : List Slot} {q : Nat} (h : q ≤ sl.length) (s : Slot) : wrB (dirB sl) (64 * q) (slotB s) = dirB (setS sl q s) := by
  have hl := dirB_length sl
  have ht : (dirB (sl.take q)).length = 64 * q := by rw [dirB_length, List.length_take]; omega
  have h1 : dirB (s :: sl.drop (q + 1)) = slotB s ++ dirB (sl.drop (q + 1)) := by unfold dirB; rw [List.flatMap_cons]
  unfold setS
  rw [dirB_append, h1]
  unfold wrB splice
  by_cases hq : q < sl.length
  · have hx : ext (dirB sl) (64 * q + (slotB s).length) = dirB sl := by
      unfold ext
      rw [slotB_length, show 64 * q + 64 - (dirB sl).length = 0 from by omega, List.replicate_zero, List.append_nil]
    have e1 : (dirB sl).take (64 * q) = dirB (sl.take q) := by
      rw [dirB_split hq, List.take_left' ht]
    have e2 : (dirB sl).drop (64 * q + (slotB s).length) = dirB (sl.drop (q + 1)) := by
      rw [dirB_split hq, ← List.append_assoc, List.drop_left' (by rw [List.length_append, ht, slotB_length, slotB_length])]
    simp only [hx, e1, e2, List.append_assoc]
  · have hqe : q = sl.length := by omega
    have e0 : sl.take q = sl := by rw [hqe, List.take_length]
    have e3 : sl.drop (q + 1) = [] := List.drop_eq_nil_of_le (by omega)
    rw [e0, e3, dirB_nil, List.append_nil]
    have e1 : (ext (dirB sl) (64 * q + (slotB s).length)).take (64 * q) = dirB sl := by
      unfold ext
      rw [List.take_left' (by omega)]
    have e2 : (ext (dirB sl) (64 * q + (slotB s).length)).drop (64 * q + (slotB s).length) = [] := by
      refine List.drop_eq_nil_of_le ?_
      unfold ext
      rw [List.length_append, List.length_replicate, slotB_length]; omega
    simp only [e1, e2, List.append_nil]
def foundV (at' i : Nat) : Value := .agg #[nI at', nI i]
def stepK (kv : List (K51 × Value)) (q : Nat) : Slot → List (K51 × Value)
  | none => kv
  | some (nm, i) => kput kv (keyK nm) (foundV (64 * q) i)
def kvF (sl : List Slot) : Nat → List (K51 × Value)
  | 0 => []
  | q + 1 => match sl[q]? with
    | some s => stepK (kvF sl q) q s
    | none => kvF sl q
def freeF (sl : List Slot) : Nat → Option Nat
  | 0 => none
  | q + 1 => match freeF sl q with
    | some r => some r
    | none => if sl[q]? = some none then some q else none
def freeS (sl : List Slot) : Nat := (freeF sl sl.length).getD sl.length
theorem freeF_some {sl : List Slot} : ∀ {n r : Nat}, freeF sl n = some r → r < n ∧ sl[r]? = some none ∧ ∀ j, j < r → sl[j]? ≠ some none
  | n + 1, r, h => by
    rw [freeF] at h
    cases hf : freeF sl n with
    | some r' =>
      rw [hf] at h
      obtain rfl : r' = r := by simpa using h
      obtain ⟨h1, h2⟩ := freeF_some hf
      exact ⟨by omega, h2⟩
    | none =>
      rw [hf] at h
      simp only at h
      split at h
      · rename_i hs
        obtain rfl : n = r := by simpa using h
        refine ⟨by omega, hs, fun j hj hh => ?_⟩
        have := freeF_none (sl := sl) hf j hj
        exact this hh
      · cases h
where
  freeF_none {sl : List Slot} : ∀ {n : Nat}, freeF sl n = none → ∀ j, j < n → sl[j]? ≠ some none
  | n + 1, h, j, hj => by
    rw [freeF] at h
    cases hf : freeF sl n with
    | some r' => rw [hf] at h; cases h
    | none =>
      rw [hf] at h
      simp only at h
      split at h
      · cases h
      · rename_i hs
        by_cases hjn : j = n
        · subst hjn; exact hs
        · exact freeF_none hf j (by omega)
theorem freeS_le (sl : List Slot) : freeS sl ≤ sl.length := by
  unfold freeS
  cases h : freeF sl sl.length with
  | none => exact Nat.le_refl _
  | some r => exact Nat.le_of_lt (freeF_some h).1
structure DirOk (sl : List Slot) : Prop where
  nm : ∀ (q : Nat) (n : Bytes) (i : Nat), sl[q]? = some (some (n, i)) → (1 ≤ n.length ∧ n.length ≤ 50) ∧ i < 4294967296
  one : ∀ (q r : Nat) (n : Bytes) (i j : Nat), sl[q]? = some (some (n, i)) → sl[r]? = some (some (n, j)) → q = r
theorem DirOk.nil : DirOk [] := ⟨fun q n i h => (by cases h), fun q r n i j h => (by cases h)⟩
theorem keyK_inj {a b : Bytes} (ha : a.length ≤ 50) (hb : b.length ≤ 50) (h : keyK a = keyK b) : a = b := keyB_inj ha hb (congrArg Subtype.val h)
theorem kvF_has {sl : List Slot} (hd : DirOk sl) {q i : Nat} {n : Bytes} (h : sl[q]? = some (some (n, i))) : ∀ m, q < m → kget (kvF sl m) (keyK n) = some (foundV (64 * q) i)
  | m + 1, hm => by
    rw [kvF]
    by_cases hq : q = m
    · subst hq
      rw [h]
      show kget (kput (kvF sl q) (keyK n) (foundV (64 * q) i)) (keyK n) = _
      rw [kget_put, if_pos rfl]
    · have ih := kvF_has hd h m (by omega)
      cases hs : sl[m]? with
      | none => exact ih
      | some s =>
        cases s with
        | none => exact ih
        | some x =>
          obtain ⟨n', i'⟩ := x
          show kget (kput (kvF sl m) (keyK n') (foundV (64 * m) i')) (keyK n) = _
          rw [kget_put, if_neg, ih]
          intro hk
          have := keyK_inj (hd.nm _ _ _ h).1.2 (hd.nm _ _ _ hs).1.2 hk
          subst this
          exact hq (hd.one _ _ _ _ _ h hs)
theorem kvF_no {sl : List Slot} (hd : DirOk sl) {n : Bytes} (hn : n.length ≤ 50) (h : ∀ (q i : Nat), sl[q]? ≠ some (some (n, i))) : ∀ m, kget (kvF sl m) (keyK n) = none
  | 0 => rfl
  | m + 1 => by
    rw [kvF]
    have ih := kvF_no hd hn h m
    cases hs : sl[m]? with
    | none => exact ih
    | some s =>
      cases s with
      | none => exact ih
      | some x =>
        obtain ⟨n', i'⟩ := x
        show kget (kput (kvF sl m) (keyK n') (foundV (64 * m) i')) (keyK n) = _
        rw [kget_put, if_neg, ih]
        intro hk
        have := keyK_inj hn (hd.nm _ _ _ hs).1.2 hk
        subst this
        exact h _ _ hs
theorem DirOk.set {sl : List Slot} (hd : DirOk sl) {q : Nat} (hq : q ≤ sl.length) {n : Bytes} {i : Nat} (hn : 1 ≤ n.length ∧ n.length ≤ 50) (hi : i < 4294967296)
    (h : ∀ (r j : Nat), r ≠ q → sl[r]? ≠ some (some (n, j))) : DirOk (setS sl q (some (n, i))) := by
  have get : ∀ (r : Nat) (n' : Bytes) (i' : Nat), (setS sl q (some (n, i)))[r]? = some (some (n', i')) → (r = q ∧ n' = n ∧ i' = i) ∨ (r ≠ q ∧ sl[r]? = some (some (n', i'))) := by
    intro r n' i' hr
    by_cases hrq : r = q
    · subst hrq
      rw [setS_same hq] at hr
      injection hr with hr
      injection hr with hr
      injection hr with h1 h2
      exact .inl ⟨rfl, h1.symm, h2.symm⟩
    · rw [setS_other hq hrq] at hr
      exact .inr ⟨hrq, hr⟩
  refine ⟨fun r n' i' hr => ?_, fun r t n' i' j' hr ht => ?_⟩
  · rcases get _ _ _ hr with ⟨_, rfl, rfl⟩ | ⟨_, hr⟩
    · exact ⟨hn, hi⟩
    · exact hd.nm _ _ _ hr
  · rcases get _ _ _ hr with ⟨h1, h2, h3⟩ | ⟨hrq, hr2⟩
    · rcases get _ _ _ ht with ⟨h4, _, _⟩ | ⟨htq, ht2⟩
      · rw [h1, h4]
      · rw [h2] at ht2
        exact absurd ht2 (h _ _ htq)
    · rcases get _ _ _ ht with ⟨h4, h5, h6⟩ | ⟨htq, ht2⟩
      · rw [h5] at hr2
        exact absurd hr2 (h _ _ hrq)
      · exact hd.one _ _ _ _ _ hr2 ht2
theorem DirOk.gone {sl : List Slot} (hd : DirOk sl) {q : Nat} (hq : q ≤ sl.length) : DirOk (setS sl q none) := by
  have get : ∀ (r : Nat) (n' : Bytes) (i' : Nat), (setS sl q none)[r]? = some (some (n', i')) → sl[r]? = some (some (n', i')) := by
    intro r n' i' hr
    by_cases hrq : r = q
    · subst hrq; rw [setS_same hq] at hr; injection hr with hr; cases hr
    · rwa [setS_other hq hrq] at hr
  exact ⟨fun r n i hr => hd.nm _ _ _ (get _ _ _ hr), fun r t n i j hr ht => hd.one _ _ _ _ _ (get _ _ _ hr) (get _ _ _ ht)⟩
end Go.Proofs.YtedmihapieleaaaGreat
end
section
namespace Go.Proofs.YtedmihapieleaaaGreat
open Go
theorem agg124 : aggOk Tryz.prog 124 51 = true := by kernel_rfl
theorem ar124 : arrOk Tryz.prog 124 5 51 1 = true := by kernel_rfl
theorem un124 : Tryz.prog.underlying 124 = some (.array 51 5) := by kernel_rfl
theorem fo55_0 : fieldOk Tryz.prog 55 0 0 = true := by kernel_rfl
theorem fo55_1 : fieldOk Tryz.prog 55 1 1 = true := by kernel_rfl
theorem mp117 : mapOk Tryz.prog 117 124 121 = true := by kernel_rfl
theorem key0 : zeroOf Tryz.prog 124 = some (bvs (List.replicate 51 0)).toArray := by kernel_rfl
theorem keyB_single (nm : Bytes) : ∀ v ∈ bvs (keyB nm), Value.single v = true := bvs_single _
theorem bvsK_length (nm : Bytes) : (bvs (keyB nm)).length = 51 := by rw [bvs_length, keyB_length]
theorem dOf {nm : Bytes} (hn : nm.length ≤ 50) : Spec Tryz.prog 71 #[sv nm] [] fun F v M => v = arrV (keyB nm) ∧ M = F := by
  refine Spec.intro Tryz.func71 rfl rfl fun B F => ?_
  simp only [Tryz.ntmps71, List.cons_append, List.nil_append, env0, Nat.reduceAdd]
  refine WC.seq ?_
  refine WC.region ?_
  refine WL.allocL (us := bvs (List.replicate 51 0)) key0 rfl fun b2 => ?_
  refine WL.nil ?_
  refine WQ.next ?_
  refine WC.seq ?_
  refine WC.region ?_
  refine WL.move ?_
  refine WL.lenT _ ?_ st9
  refine WL.cvt ?_ un3 un5
  refine WL.cast (d := 5) (u := bv (UInt8.ofNat nm.length)) rfl (congrArg (Value.int .u8) (by rw [UInt8.toNat_ofNat', IntWalk.u8_in _ (by omega)]; omega)) ?_
  refine WL.idxA ?_ ar124
  refine WL.stL (xs := bvs (List.replicate 51 0)) (i := 0) ?_ sc5 (by rw [bvs_length, List.length_replicate]; decide)
  refine WL.to (A := row b2 124 ((bvs (List.replicate 51 0)).set 0 (bv (UInt8.ofNat nm.length)))) (A' := buf b2 124 51 (bvs (UInt8.ofNat nm.length :: List.replicate 50 0))) (fun h hh => buf_of_row (by rw [bvs_length]; rfl) h hh) ?_
  refine WL.nil ?_
  refine WQ.next ?_
  refine WC.seq ?_
  refine WC.region ?_
  refine WL.slcArrL ?_ ar124
  refine WL.move ?_
  refine WL.copyS nm so33 ?_ (hdl := by rw [bvs_length]; exact Nat.le_refl _)
  refine WL.to (A := buf b2 124 51 ((bvs (UInt8.ofNat nm.length :: List.replicate 50 0)).take 1 ++ (bvs nm).take (min nm.length 50) ++ (bvs (UInt8.ofNat nm.length :: List.replicate 50 0)).drop (1 + min nm.length 50))) (A' := row b2 124 (bvs (keyB nm))) (fun h hh => row_of_buf (bvsK_length nm) h (by rw [← keyB_made hn, bvs_append, bvs_append, bvs_take, bvs_take, bvs_drop]; exact hh)) ?_
  refine WL.nil ?_
  refine WQ.next ?_
  refine WC.seq ?_
  refine WC.region ?_
  refine WL.ldW (xs := bvs (keyB nm)) ?_ agg124 (bvsK_length nm)
  refine WL.stLA (xs := bvs (keyB nm)) (us := bvs (keyB nm)) ?_ agg124 (bvsK_length nm) (bvsK_length nm) (keyB_single nm)
  refine WL.nil ?_
  refine WQ.next ?_
  refine WC.ret (?_)
  exact WQ.ret1 (h1 := RV.aggL rfl agg124 (by repeat (first | exact .here | apply Rem.there | apply Repl.there | apply Mem.there)) (bvsK_length nm)) ⟨_, ⟨rfl, rfl⟩, Am.auto⟩
theorem IN.more {s a c : Nat} {p : Pl} {F0 F : FM} {W W' : Nat} {op : Bool} (h : W ≤ W') : ∀ k, IN s a c p F0 F W op k → IN s a c p F0 F W' op k := by
  intro k hk
  obtain ⟨y, hy, hs⟩ := (IN.opens s a c p F0 F W op).to k hk
  exact (IN.opens s a c p F0 F W' op).of y ⟨hy.r0, hy.r, hy.dk, Nat.le_trans hy.wt h⟩ k hs
theorem Rw.less {p : Pl} {W c c' : Nat} (h : Rw p W c) (hc : c' ≤ c) : Rw p W c' := by
  unfold Rw at h ⊢
  omega
theorem has_slot (n q : Nat) (h : 64 * q ≤ 64 * n) : has (max (64 * n) (64 * q + 64)) - has (64 * n) ≤ 2 := by
  have h1 : dat (max (64 * n) (64 * q + 64)) ≤ dat (64 * n) + 1 := by unfold dat; omega
  unfold has
  split <;> split <;> omega
theorem slotP {nm : Bytes} (i : Nat) : (bvs (put4 (List.replicate 64 0) 0 i)).take 4 ++ (bvs (keyB nm)).take 51 ++ (bvs (put4 (List.replicate 64 0) 0 i)).drop 55 = bvs (slotB (some (nm, i))) := by
  rw [← slotB_made, bvs_append, bvs_append, bvs_take, bvs_drop, List.take_of_length_le (Nat.le_of_eq (bvsK_length nm))]
theorem bdFound (v0 v1 : Int) : BuildOk Tryz.prog 121 [(0, .int .i64 v0), (1, .int .i64 v1)] #[.int .i64 v0, .int .i64 v1] := fun w => by kernel_rfl
theorem arrOkK : arrIntOk Tryz.prog 124 5 51 = true := by kernel_rfl
def encK : K51 → Value := fun k => Value.agg (bvs k.1).toArray
theorem klN : KeyLaw Tryz.prog 124 encK := arrKeys (fun k : K51 => k.1) arrOkK (fun k => k.2) (fun a b h => Subtype.ext h)
def freeI (sl : List Slot) (q : Nat) : Int := match freeF sl q with
  | some r => ((64 * r : Nat) : Int)
  | none => -1
theorem dLay {s a c : Nat} {p : Pl} {F0 Fm : FM} {W d q i : Nat} {nm : Bytes} {sl : List Slot} (ho : PlOk p) (hF : Fm d = some (2, dirB sl)) (hq : q ≤ sl.length) (hq2 : q < 1104) (hn : nm.length ≤ 50) (hi : i < 4294967296) (hw : Rw p W 13) (hfit : tot Fm p.ino + has (max (64 * sl.length) (64 * q + 64)) ≤ p.dc + has (64 * sl.length)) :
    Spec Tryz.prog 72 #[.pointer (some ⟨s, 0, none⟩), nI d, nI (64 * q), sv nm, nI i] [IN s a c p F0 Fm W true] fun G v M => v = okV ∧ M = IN s a c p F0 (updM Fm d (some (2, dirB (setS sl q (some (nm, i)))))) (W + 8) true :: G := by
  refine Spec.intro Tryz.func72 rfl rfl fun B F => ?_
  simp only [Tryz.ntmps72, List.cons_append, List.nil_append, env0, Nat.reduceAdd]
  have hdl := dirB_length sl
  have hsl := slotB_length (some (nm, i))
  have hhs := has_slot sl.length q (by omega)
  refine WC.seq ?_
  refine WC.region ?_
  refine WL.assign ?_
  refine WL.nil ?_
  refine WQ.next ?_
  refine WC.seq ?_
  refine WC.region ?_
  refine WL.mkSN 64 z5 so33 (by decide) (by decide) fun b15 => ?_
  refine WL.to (A' := buf b15 5 64 (bvs (List.replicate 64 0))) (fun h hh => by rw [bvs_replicate]; exact hh) ?_
  refine WL.move ?_
  refine WL.cvt ?_ un3 un138
  refine WL.cast (d := 17) (u := .int .u64 (i : Int)) rfl (congrArg (Value.int .u64) (IntWalk.u64_in _ (by omega))) ?_
  refine WL.call (hc := Tryz.call116) (sp := bitsPut (n := 64) (xs := List.replicate 64 0) (p := 0) (size := 4) (big := false) (v := i) Reads.buf List.length_replicate (by decide) (by decide) (by decide) (by decide) (by omega)) (h := ?_)
  rintro _ _ ⟨gb, qq, ⟨rfl, h1, h2⟩, rfl⟩
  refine WL.move ?_
  refine WL.extract ?_
  refine WL.extract ?_
  refine WL.assign ?_
  refine WL.assign ?_
  refine WL.nil ?_
  refine WQ.next ?_
  refine WC.seq ?_
  refine WC.region ?_
  refine WL.move ?_
  refine WL.call (hc := Tryz.call71) (sp := dOf hn) (h := ?_)
  rintro _ _ ⟨rfl, rfl⟩
  refine WL.allocL (us := bvs (List.replicate 51 0)) key0 rfl fun b13 => ?_
  refine WL.stLA (xs := bvs (List.replicate 51 0)) (us := bvs (keyB nm)) ?_ agg124 (bvsK_length nm) rfl (keyB_single nm)
  refine WL.to (A := row b13 124 (bvs (keyB nm))) (A' := buf b13 124 51 (bvs (keyB nm))) (fun h hh => buf_of_row (bvsK_length nm) h hh) ?_
  refine WL.nil ?_
  refine WQ.next ?_
  refine WC.seq ?_
  refine WC.draw ([]) [] 4 #[false, false, false, false] mixed (by kernel_rfl) NoPanic.autoJ ?_
  refine WD.take (i := 0) #[true, false, false, false] rfl (by kernel_rfl) (Qt.move ) ?_
  refine WD.take (i := 1) #[true, true, false, false] rfl (by kernel_rfl) ((Qt.slcL so33).eq (v' := .slice (some ⟨gb, 4, none⟩) 60 (qq - 4)) (by rw [if_neg (by show ¬ qq = 4; omega)]; rfl)) ?_
  refine WD.take (i := 2) #[true, true, true, false] rfl (by kernel_rfl) (Qt.slcArr un124 (by kernel_rfl)) ?_
  refine WD.one (i := 3) #[true, true, true, true] rfl (by kernel_rfl) fun hnp => ?_
  refine WL.copy (R := buf b13 124 51 (bvs (keyB nm))) (m := 51) (g := gb) (off := 4) (dl := 60) (k := qq) (xs := bvs (put4 (List.replicate 64 0) 0 i)) (ys := bvs (keyB nm)) so33 Reads.buf (bvsK_length nm) (bvs_single _) ?_ (hdl := by rw [bvs_length, put4_length, List.length_replicate]; decide)
  refine WL.to (A' := buf gb 5 qq (bvs (slotB (some (nm, i))))) (fun h hh => by rw [← slotP]; exact hh) ?_
  refine WL.nil (WQ.wd hnp (.inl Am.auto) ?_)
  refine WD.done (by kernel_rfl) ?_
  refine WQ.next ?_
  refine WC.seq ?_
  refine WC.region ?_
  refine WL.move ?_
  refine WL.move ?_
  refine WL.move ?_
  refine WL.move ?_
  refine WL.call (hc := Tryz.call20) (sp := nWrite (s := s) (a := a) (c := c) (p := p) (F0 := F0) (F := Fm) (W := W) (i := d) (at' := 64 * q) (f := (2, dirB sl)) (bs := slotB (some (nm, i))) (m := 64) ho hF (hw.less (by show has (max (dirB sl).length (64 * q + 64)) - has (dirB sl).length + (64 + 511) / 512 + 10 ≤ 13; rw [hdl]; omega)) (.inr Reads.buf) hsl (by omega) h2 (by show 64 * q ≤ (dirB sl).length; omega) (by omega) (by show tot Fm p.ino + has (max (dirB sl).length (64 * q + 64)) ≤ p.dc + has (dirB sl).length; rw [hdl]; exact hfit)) (h := ?_)
  rintro _ _ ⟨rfl, rfl⟩
  refine WL.assign ?_
  refine WL.nil ?_
  refine WQ.next ?_
  refine WC.ret (?_)
  simp only [setS_wr hq]
  refine WQ.to (A' := IN s a c p F0 (updM Fm d (some (2, dirB (setS sl q (some (nm, i)))))) (W + 8) true) (fun h hh => IN.more (by show W + (has (max (dirB sl).length (64 * q + 64)) - has (dirB sl).length) + (64 + 511) / 512 + 5 ≤ W + 8; rw [hdl]; omega) h hh) ?_
  exact WQ.ret1 (h1 := .tmp (t := 10) rfl) ⟨_, ⟨rfl, rfl⟩, Am.auto⟩
theorem freeI_pos {sl : List Slot} {q r : Nat} (h : freeF sl q = some r) : freeI sl q = ((64 * r : Nat) : Int) := by unfold freeI; rw [h]
theorem freeI_neg {sl : List Slot} {q : Nat} (h : freeF sl q = none) : freeI sl q = -1 := by unfold freeI; rw [h]
theorem freeI_keep {sl : List Slot} {q r : Nat} (h : freeF sl q = some r) : freeI sl (q + 1) = ((64 * r : Nat) : Int) := freeI_pos (by rw [freeF, h])
theorem freeI_new {sl : List Slot} {q : Nat} (h : freeF sl q = none) (hs : sl[q]? = some none) : freeI sl (q + 1) = ((64 * q : Nat) : Int) := freeI_pos (by rw [freeF, h]; simp [hs])
theorem freeI_full {sl : List Slot} {q : Nat} {x : Bytes × Nat} (hs : sl[q]? = some (some x)) : freeI sl (q + 1) = freeI sl q := by
  unfold freeI
  rw [freeF]
  cases h : freeF sl q with
  | some r => rfl
  | none => simp [hs]
theorem keyOf_single (s : Slot) : ∀ v ∈ bvs (keyOf s), Value.single v = true := bvs_single _
theorem bvsO_length (s : Slot) : (bvs (keyOf s)).length = 51 := by rw [bvs_length, keyOf_length]
theorem dNames {s a c : Nat} {p : Pl} {F0 Fm : FM} {W d : Nat} {op : Bool} {sl : List Slot} (ho : PlOk p) (hF : Fm d = some (2, dirB sl)) (hd : DirOk sl) (hsz : sl.length ≤ 1104) :
    Spec Tryz.prog 73 #[.pointer (some ⟨s, 0, none⟩), nI d] [IN s a c p F0 Fm W op] fun G v M => ∃ mp es cl, v = .tuple #[.map (some mp), nI (64 * freeS sl), .int .i64 0] ∧ MapIs encK es cl (kvF sl sl.length) ∧ M = pt mp (.map es cl) :: IN s a c p F0 Fm W op :: G := by
  refine Spec.intro Tryz.func73 rfl rfl fun B F => ?_
  simp only [Tryz.ntmps73, List.cons_append, List.nil_append, env0, Nat.reduceAdd]
  have hdl := dirB_length sl
  refine WC.seq ?_
  refine WC.region ?_
  refine WL.assign ?_
  refine WL.assign ?_
  refine WL.assign ?_
  refine WL.nil ?_
  refine WQ.next ?_
  refine WC.seq ?_
  refine WC.region ?_
  refine WL.move ?_
  refine WL.move ?_
  refine WL.call (hc := Tryz.call29) (sp := nStat (s := s) (a := a) (c := c) (p := p) (F0 := F0) (F := Fm) (W := W) (op := op) (i := d) (f := (2, dirB sl)) ho hF) (h := ?_)
  rintro _ _ ⟨rfl, rfl⟩
  refine WL.move ?_
  refine WL.extract ?_
  refine WL.extract ?_
  refine WL.alloc z55 fun b7 => ?_
  refine WL.stV ?_ agg55
  refine WL.assign ?_
  refine WL.nil ?_
  refine WQ.next ?_
  refine WC.seq ?_
  refine WC.seq ?_
  refine WC.region ?_
  refine WL.move ?_
  refine WL.nei ?_
  refine WL.nil ?_
  refine WQ.next ?_
  refine WC.condF rfl rfl ?_
  refine WC.skip ?_
  refine WQ.next ?_
  refine WC.seq ?_
  refine WC.seq ?_
  refine WC.region ?_
  refine WL.fa ?_ fo55_0
  refine WL.ld ?_ sc3
  refine WL.nei ?_
  refine WL.nil ?_
  refine WQ.next ?_
  refine WC.condF rfl rfl ?_
  refine WC.skip ?_
  refine WQ.next ?_
  refine WC.seq ?_
  refine WC.region ?_
  refine WL.move ?_
  refine WL.move ?_
  refine WL.fa ?_ fo55_1
  refine WL.ld ?_ sc3
  refine WL.call (hc := Tryz.call23) (sp := nRead (s := s) (a := a) (c := c) (p := p) (F0 := F0) (F := Fm) (W := W) (op := op) (i := d) (at' := 0) (k := (dirB sl).length) (f := (2, dirB sl)) ho hF (by decide) (by omega)) (h := ?_)
  rintro _ _ ⟨u, rfl, rfl⟩
  simp only [List.drop_zero, List.take_length]
  refine WL.move ?_
  refine WL.extract ?_
  refine WL.extract ?_
  refine WL.assign ?_
  refine WL.assign ?_
  refine WL.nil ?_
  refine WQ.next ?_
  refine WC.seq ?_
  refine WC.seq ?_
  refine WC.region ?_
  refine WL.move ?_
  refine WL.nei ?_
  refine WL.nil ?_
  refine WQ.next ?_
  refine WC.condF rfl rfl ?_
  refine WC.skip ?_
  refine WQ.next ?_
  refine WC.seq ?_
  refine WC.region ?_
  refine WL.mkMap fun m36 => ?_
  refine WL.assign ?_
  refine WL.assign ?_
  refine WL.nil ?_
  refine WQ.next ?_
  refine WC.seq ?_
  refine WC.seq ?_
  refine WC.region ?_
  refine WL.assign ?_
  refine WL.nil ?_
  refine WQ.next ?_
  refine WC.block ?_
  refine WC.fact (rowR_shape (el := 5) (size := 1) (v := u) (k := (dirB sl).length) (xs := bvs (dirB sl))) (fun ⟨A2, c2, hv2, hR2, hk2, hc2, hl2⟩ => ?_)
  subst hv2
  refine WC.loopA (σ := Nat × Array MapEntry × Nat) (fun y => [(4, .map (some m36)), (5, .int .i64 (freeI sl y.1)), (8, .slice A2 (dirB sl).length c2), (9, nI (64 * y.1))]) (fun y => [pt m36 (.map y.2.1 y.2.2), rowR 5 1 (.slice A2 (dirB sl).length c2) (dirB sl).length (bvs (dirB sl)), IN s a c p F0 Fm W op] ++ F) (fun y => y.1 ≤ sl.length ∧ MapIs encK y.2.1 y.2.2 (kvF sl y.1)) (fun y => sl.length - y.1) (0, #[], 0) ⟨Nat.zero_le _, MapIs.empty _ _⟩ ?_
  rintro y hy
  obtain ⟨q, es, cl⟩ := y
  obtain ⟨hq, hm⟩ := hy
  simp only at hq hm
  refine WC.seq ?_
  refine WC.seq ?_
  refine WC.region ?_
  refine WL.move ?_
  refine WL.move ?_
  refine WL.lenS ?_ sl33
  refine WL.lss ?_
  refine WL.nil ?_
  refine WQ.next ?_
  refine WC.cond rfl (fun hb => ?_) (fun hb => ?_)
  · have hlt : q < sl.length := by have h : ((64 * q : Nat) : Int) < ((dirB sl).length : Int) := of_decide_eq_true hb; omega
    rcases A2 with _ | ⟨ab, ao, asp⟩
    · exact absurd hR2 (fun h => by have h2 : bvs (dirB sl) = [] := h; have h3 : (dirB sl).length = 0 := (by have := congrArg List.length h2; rwa [bvs_length] at this); omega)
    have hsp : asp = none := hR2.1
    subst hsp
    have hp1 : (((64 * q : Nat) : Int) + 4).toNat = 64 * q + 4 := by omega
    have hp2 : (((64 * q : Nat) : Int) + 4 + 51).toNat = 64 * q + 55 := by omega
    have hgs : sl[q]? = some sl[q] := List.getElem?_eq_getElem hlt
    obtain ⟨sq, hsq⟩ : ∃ sq, sl[q] = sq := ⟨_, rfl⟩
    have hkq := dirB_key hlt
    rw [hsq] at hgs hkq
    have hkv : kvF sl (q + 1) = stepK (kvF sl q) q sq := by rw [kvF, hgs]
    refine WC.skip ?_
    refine WQ.next ?_
    refine WC.seq ?_
    refine WC.block ?_
    refine WC.seq ?_
    refine WC.region ?_
    refine WL.move ?_
    refine WL.move ?_
    refine WL.add ?_
    refine WL.move ?_
    refine WL.add ?_
    refine WL.add ?_
    refine WL.slcLH ?_ so33
    refine WL.cast (d := 49) (u := .slice (some ⟨ab, ao + (64 * q + 4), none⟩) 51 (c2 - (64 * q + 4))) rfl (by rw [hp1, hp2, if_neg (show ¬ c2 = 64 * q + 4 by omega), Nat.mul_one, show 64 * q + 55 - (64 * q + 4) = 51 from by omega]) ?_
    refine WL.toArr ?_ un124
    refine WL.ldAR (i := 64 * q + 4) (xs := bvs (dirB sl)) (us := bvs (keyOf sq)) ?_ agg124 hR2 (by rw [← bvs_drop, ← bvs_take, hkq]) (by rw [bvs_length]; omega)
    refine WL.allocL (us := bvs (List.replicate 51 0)) key0 rfl fun b10 => ?_
    refine WL.stLA (xs := bvs (List.replicate 51 0)) (us := bvs (keyOf sq)) ?_ agg124 (bvsO_length sq) rfl (keyOf_single sq)
    refine WL.nil ?_
    refine WQ.next ?_
    refine WC.seq ?_
    refine WC.seq ?_
    refine WC.region ?_
    refine WL.idxA ?_ ar124
    cases sq
    · refine WL.ldL (xs := bvs (keyOf none)) (i := 0) (v := .int .u8 0) ?_ sc5 rfl
      refine WL.eqi ?_
      refine WL.nil ?_
      refine WQ.next ?_
      refine WC.condT rfl rfl ?_
      refine WC.seq ?_
      refine WC.seq ?_
      refine WC.region ?_
      refine WL.move ?_
      refine WL.lss ?_
      refine WL.nil ?_
      refine WQ.next ?_
      cases hfr : freeF sl q
      · rw [freeI_neg hfr]
        refine WC.condT rfl rfl ?_
        refine WC.region ?_
        refine WL.move ?_
        refine WL.assign ?_
        refine WL.nil ?_
        refine WQ.next ?_
        refine WC.exit (WQ.thenExit (WQ.blockExit (?_)))
        refine WQ.next ?_
        refine WC.region ?_
        refine WL.move ?_
        refine WL.add ?_
        refine WL.assign ?_
        refine WL.nil ?_
        refine WQ.cast (d := 9) (u := nI (64 * (q + 1))) rfl (congrArg (Value.int .i64) (by omega)) ?_
        refine WQ.cast (d := 5) (u := .int .i64 (freeI sl (q + 1))) rfl (congrArg (Value.int .i64) (by rw [freeI_new hfr hgs])) ?_
        exact WQ.back (q + 1, es, cl) ⟨by show q + 1 ≤ sl.length; omega, (by rw [hkv]; exact hm)⟩ (by show sl.length - (q + 1) < sl.length - q; omega)
      · rename_i r
        rw [freeI_pos hfr]
        refine WC.condF rfl (congrArg Value.bool (by first | (simp; done) | (simp; omega) | omega)) ?_
        refine WC.skip ?_
        refine WQ.next ?_
        refine WC.exit (WQ.thenExit (WQ.blockExit (?_)))
        refine WQ.next ?_
        refine WC.region ?_
        refine WL.move ?_
        refine WL.add ?_
        refine WL.assign ?_
        refine WL.nil ?_
        refine WQ.cast (d := 9) (u := nI (64 * (q + 1))) rfl (congrArg (Value.int .i64) (by omega)) ?_
        refine WQ.cast (d := 5) (u := .int .i64 (freeI sl (q + 1))) rfl (congrArg (Value.int .i64) (by rw [freeI_keep hfr])) ?_
        exact WQ.back (q + 1, es, cl) ⟨by show q + 1 ≤ sl.length; omega, (by rw [hkv]; exact hm)⟩ (by show sl.length - (q + 1) < sl.length - q; omega)
    · rename_i x
      obtain ⟨nm, i⟩ := x
      have hnm := hd.nm q nm i hgs
      have hnum := dirB_num hlt hsq hnm.2
      have hx0 : (bvs (keyOf (some (nm, i))))[0]? = some (bv (UInt8.ofNat nm.length)) := by show (bvs (keyB nm))[0]? = _; unfold bvs; rw [List.getElem?_map, keyB_head]; rfl
      have hxn : ((UInt8.ofNat nm.length).toNat : Int) ≠ 0 := by rw [UInt8.toNat_ofNat']; omega
      refine WL.ldL (xs := bvs (keyOf (some (nm, i)))) (i := 0) (v := bv (UInt8.ofNat nm.length)) ?_ sc5 hx0
      refine WL.eqi ?_
      refine WL.cast (d := 54) (u := .bool false) rfl (congrArg Value.bool (decide_eq_false hxn)) ?_
      refine WL.nil ?_
      refine WQ.next ?_
      refine WC.condF rfl rfl ?_
      refine WC.skip ?_
      refine WQ.next ?_
      refine WC.seq ?_
      refine WC.region ?_
      refine WL.move ?_
      refine WL.move ?_
      refine WL.call (hc := Tryz.call117) (sp := bitsGet (A := ⟨ab, ao, none⟩) (n := (dirB sl).length) (c := c2) (xs := dirB sl) (p := ((64 * q : Nat) : Int)) (size := 4) (big := false) hR2 rfl (by omega) (by decide) (by omega) (by omega)) (h := ?_)
      rintro _ _ ⟨rfl, rfl⟩
      refine WL.cast (d := 61) (u := .tuple #[.int .u64 (i : Int), .bool true]) rfl (by rw [show (((64 * q : Nat) : Int)).toNat = 64 * q from by omega, show (4 : Int).toNat = 4 from rfl, num_seg (by omega), hnum]) ?_
      refine WL.move ?_
      refine WL.extract ?_
      refine WL.extract ?_
      refine WL.assign ?_
      refine WL.assign ?_
      refine WL.nil ?_
      refine WQ.next ?_
      refine WC.region ?_
      refine WL.move ?_
      refine WL.ldW (xs := bvs (keyOf (some (nm, i)))) ?_ agg124 (bvsO_length _)
      refine WL.move ?_
      refine WL.move ?_
      refine WL.cvt ?_ un138 un3
      refine WL.cast (d := 68) (u := nI i) rfl (congrArg (Value.int .i64) (IntWalk.i64_in _ (by omega))) ?_
      refine WL.build ?_ (bdFound _ _)
      refine WL.upd (k := keyK nm) (v := foundV (64 * q) i) klN hm mp117 fun es_1 c_1 hm_1 => ?_
      refine WL.nil ?_
      refine WQ.blockNormal ?_
      refine WQ.next ?_
      refine WC.region ?_
      refine WL.move ?_
      refine WL.add ?_
      refine WL.assign ?_
      refine WL.nil ?_
      refine WQ.cast (d := 9) (u := nI (64 * (q + 1))) rfl (congrArg (Value.int .i64) (by omega)) ?_
      refine WQ.cast (d := 5) (u := .int .i64 (freeI sl (q + 1))) rfl (congrArg (Value.int .i64) (by rw [freeI_full hgs])) ?_
      exact WQ.back (q + 1, es_1, c_1) ⟨by show q + 1 ≤ sl.length; omega, (by rw [hkv]; exact hm_1)⟩ (by show sl.length - (q + 1) < sl.length - q; omega)
  · have hge : ¬ q < sl.length := by have h : ¬ ((64 * q : Nat) : Int) < ((dirB sl).length : Int) := of_decide_eq_false hb; omega
    have hqe : q = sl.length := by omega
    subst hqe
    refine WC.exit (WQ.thenExit (WQ.thenExit (WQ.blockExit (?_))))
    refine WQ.next ?_
    refine WC.seq ?_
    refine WC.seq ?_
    refine WC.region ?_
    refine WL.move ?_
    refine WL.lss ?_
    refine WL.nil ?_
    refine WQ.next ?_
    cases hfr : freeF sl sl.length
    · have hfs : freeS sl = sl.length := by unfold freeS; rw [hfr]; rfl
      rw [freeI_neg hfr]
      refine WC.condT rfl rfl ?_
      refine WC.region ?_
      refine WL.move ?_
      refine WL.lenS ?_ sl33
      refine WL.assign ?_
      refine WL.nil ?_
      refine WQ.next ?_
      refine WC.seq ?_
      refine WC.region ?_
      refine WL.move ?_
      refine WL.move ?_
      refine WL.assign ?_
      refine WL.assign ?_
      refine WL.assign ?_
      refine WL.nil ?_
      refine WQ.next ?_
      refine WC.ret (?_)
      exact WQ.ret3 (h1 := .tmp (t := 4) rfl) (h2 := .tmp (t := 5) rfl) (h3 := .tmp (t := 6) rfl) ⟨_, ⟨m36, es, cl, by rw [hfs, ← hdl]; rfl, hm, rfl⟩, Am.auto⟩
    · rename_i r
      have hfs : freeS sl = r := by unfold freeS; rw [hfr]; rfl
      rw [freeI_pos hfr]
      refine WC.condF rfl (congrArg Value.bool (by first | (simp; done) | (simp; omega) | omega)) ?_
      refine WC.skip ?_
      refine WQ.next ?_
      refine WC.seq ?_
      refine WC.region ?_
      refine WL.move ?_
      refine WL.move ?_
      refine WL.assign ?_
      refine WL.assign ?_
      refine WL.assign ?_
      refine WL.nil ?_
      refine WQ.next ?_
      refine WC.ret (?_)
      exact WQ.ret3 (h1 := .tmp (t := 4) rfl) (h2 := .tmp (t := 5) rfl) (h3 := .tmp (t := 6) rfl) ⟨_, ⟨m36, es, cl, by rw [hfs]; rfl, hm, rfl⟩, Am.auto⟩
end Go.Proofs.YtedmihapieleaaaGreat
end
section
namespace Go.Proofs.YtedmihapieleaaaGreat
open Go
theorem zv121 : zvOf Tryz.prog 121 = some (.agg (#[.int .i64 0, .int .i64 0])) := by kernel_rfl
theorem z121 : zeroOf Tryz.prog 121 = some (#[.int .i64 0, .int .i64 0]) := by kernel_rfl
theorem agg121 : aggOk Tryz.prog 121 2 = true := by kernel_rfl
theorem fo121_1 : fieldOk Tryz.prog 121 1 1 = true := by kernel_rfl
theorem fo121_0 : fieldOk Tryz.prog 121 0 0 = true := by kernel_rfl
theorem nReady {s a c : Nat} {p : Pl} {F0 Fm : FM} {W : Nat} {op : Bool} : Spec Tryz.prog 49 #[.pointer (some ⟨s, 0, none⟩)] [IN s a c p F0 Fm W op] fun G v M => v = .bool op ∧ M = IN s a c p F0 Fm W op :: G := by
  refine Spec.opens (IN.opens s a c p F0 Fm W op) fun y hy => ((inReady (s := s) (c := c) (a := a) (n := p.n) (p := p) (V0 := y.1) (V := y.2.1) (D := y.2.2) (op := op)).mid).post ?_
  rintro G v M ⟨rfl, rfl⟩
  exact ⟨_, ⟨rfl, rfl⟩, Wk.trans (Am.wk Am.auto) (Wk.shutR (M := G) (IN.opens s a c p F0 Fm W op) y hy)⟩
theorem nameOk_len {nm : Bytes} (h : nameOk nm = true) : 1 ≤ nm.length ∧ nm.length ≤ 50 := by
  unfold nameOk at h
  simp only [Bool.and_eq_true, Bool.not_eq_true', decide_eq_false_iff_not, decide_eq_true_iff] at h
  obtain ⟨h1, h2, _⟩ := h
  refine ⟨?_, h2⟩
  cases nm with
  | nil => exact absurd rfl h1
  | cons _ _ => rw [List.length_cons]; omega
theorem dChg {s a c : Nat} {p : Pl} {F0 Fm : FM} {W : Nat} {d : Nat} {nm : Bytes} {sl : List Slot} (ho : PlOk p) (hn : nameOk nm = true) (hF : Fm d = some (2, dirB sl)) (hd : DirOk sl) (hsz : sl.length ≤ 1104) :
    Spec Tryz.prog 70 #[.pointer (some ⟨s, 0, none⟩), nI d, sv nm] [IN s a c p F0 Fm W true] fun G v M => ∃ mp es cl, v = .tuple #[.map (some mp), nI (64 * freeS sl), .int .i64 0] ∧ MapIs encK es cl (kvF sl sl.length) ∧ M = pt mp (.map es cl) :: IN s a c p F0 Fm W true :: G := by
  refine Spec.intro Tryz.func70 rfl rfl fun B F => ?_
  simp only [Tryz.ntmps70, List.cons_append, List.nil_append, env0, Nat.reduceAdd]
  refine WC.seq ?_
  refine WC.region ?_
  refine WL.assign ?_
  refine WL.assign ?_
  refine WL.assign ?_
  refine WL.nil ?_
  refine WQ.next ?_
  refine WC.seq ?_
  refine WC.seq ?_
  refine WC.region ?_
  refine WL.move ?_
  refine WL.call (hc := Tryz.call49) (sp := nReady (s := s) (a := a) (c := c) (p := p) (F0 := F0) (Fm := Fm) (W := W) (op := true)) (h := ?_)
  rintro _ _ ⟨rfl, rfl⟩
  refine WL.not ?_
  refine WL.nil ?_
  refine WQ.next ?_
  refine WC.condF rfl rfl ?_
  refine WC.skip ?_
  refine WQ.next ?_
  refine WC.seq ?_
  refine WC.seq ?_
  refine WC.region ?_
  refine WL.move ?_
  refine WL.call (hc := Tryz.call30) (sp := dName (xs := nm)) (h := ?_)
  rintro _ _ ⟨rfl, rfl⟩
  rw [hn]
  refine WL.not ?_
  refine WL.nil ?_
  refine WQ.next ?_
  refine WC.condF rfl rfl ?_
  refine WC.skip ?_
  refine WQ.next ?_
  refine WC.seq ?_
  refine WC.region ?_
  refine WL.move ?_
  refine WL.move ?_
  refine WL.call (hc := Tryz.call73) (sp := dNames (s := s) (a := a) (c := c) (p := p) (F0 := F0) (Fm := Fm) (W := W) (d := d) (op := true) ho hF hd hsz) (h := ?_)
  rintro _ _ ⟨mp, es, cl, rfl, hm, rfl⟩
  refine WL.extract ?_
  refine WL.extract ?_
  refine WL.extract ?_
  refine WL.assign ?_
  refine WL.assign ?_
  refine WL.assign ?_
  refine WL.nil ?_
  refine WQ.next ?_
  refine WC.ret (?_)
  exact WQ.ret3 (h1 := .tmp (t := 6) rfl) (h2 := .tmp (t := 7) rfl) (h3 := .tmp (t := 8) rfl) ⟨_, ⟨mp, es, cl, rfl, hm, rfl⟩, Am.auto⟩
theorem dAdd {s a c : Nat} {p : Pl} {F0 Fm : FM} {W : Nat} {d : Nat} {nm : Bytes} {sl : List Slot} (ho : PlOk p) (hn : nameOk nm = true) (hF : Fm d = some (2, dirB sl)) (hd : DirOk sl) (hsz : sl.length ≤ 1104) (hno : ∀ (q i : Nat), sl[q]? ≠ some (some (nm, i))) {i : Nat} (hi : i < 4294967296) (hw : Rw p W 13) (hfs : freeS sl < 1104) (hfit : tot Fm p.ino + has (max (64 * sl.length) (64 * freeS sl + 64)) ≤ p.dc + has (64 * sl.length)) : Spec Tryz.prog 34 #[.pointer (some ⟨s, 0, none⟩), nI d, sv nm, nI i] [IN s a c p F0 Fm W true] fun G v M => v = okV ∧ M = IN s a c p F0 (updM Fm d (some (2, dirB (setS sl (freeS sl) (some (nm, i)))))) (W + 8) true :: G := by
  refine Spec.intro Tryz.func34 rfl rfl fun B F => ?_
  simp only [Tryz.ntmps34, List.cons_append, List.nil_append, env0, Nat.reduceAdd]
  refine WC.seq ?_
  refine WC.region ?_
  refine WL.assign ?_
  refine WL.nil ?_
  refine WQ.next ?_
  refine WC.seq ?_
  refine WC.region ?_
  refine WL.move ?_
  refine WL.move ?_
  refine WL.move ?_
  refine WL.call (hc := Tryz.call70) (sp := dChg (s := s) (a := a) (c := c) (p := p) (F0 := F0) (Fm := Fm) (W := W) (d := d) (nm := nm) ho hn hF hd hsz) (h := ?_)
  rintro _ _ ⟨mp, es, cl, rfl, hm, rfl⟩
  refine WL.move ?_
  refine WL.extract ?_
  refine WL.extract ?_
  refine WL.extract ?_
  refine WL.assign ?_
  refine WL.assign ?_
  refine WL.assign ?_
  refine WL.nil ?_
  refine WQ.next ?_
  refine WC.seq ?_
  refine WC.seq ?_
  refine WC.region ?_
  refine WL.move ?_
  refine WL.nei ?_
  refine WL.nil ?_
  refine WQ.next ?_
  refine WC.condF rfl rfl ?_
  refine WC.skip ?_
  refine WQ.next ?_
  refine WC.seq ?_
  refine WC.seq ?_
  refine WC.region ?_
  refine WL.move ?_
  refine WL.move ?_
  refine WL.call (hc := Tryz.call71) (sp := dOf (nameOk_len hn).2) (h := ?_)
  rintro _ _ ⟨rfl, rfl⟩
  refine WL.lookOk (k := keyK nm) klN hm mp117 zv121 ?_
  refine WL.cast (d := 29) (u := .tuple #[.agg #[.int .i64 0, .int .i64 0], .bool false]) rfl (by rw [kvF_no hd (nameOk_len hn).2 hno]; rfl) ?_
  refine WL.move ?_
  refine WL.extract ?_
  refine WL.extract ?_
  refine WL.alloc z121 fun b12 => ?_
  refine WL.stV ?_ agg121
  refine WL.assign ?_
  refine WL.nil ?_
  refine WQ.next ?_
  refine WC.seq ?_
  refine WC.region ?_
  refine WL.move ?_
  refine WL.nil ?_
  refine WQ.next ?_
  refine WC.condF rfl rfl ?_
  refine WC.skip ?_
  refine WQ.next ?_
  refine WC.seq ?_
  refine WC.region ?_
  refine WL.move ?_
  refine WL.move ?_
  refine WL.move ?_
  refine WL.move ?_
  refine WL.move ?_
  refine WL.call (hc := Tryz.call72) (sp := dLay (s := s) (a := a) (c := c) (p := p) (F0 := F0) (Fm := Fm) (W := W) (d := d) (q := freeS sl) (i := i) (nm := nm) (sl := sl) ho hF (freeS_le sl) hfs (nameOk_len hn).2 hi hw hfit) (h := ?_)
  rintro _ _ ⟨rfl, rfl⟩
  refine WL.assign ?_
  refine WL.nil ?_
  refine WQ.next ?_
  refine WC.ret (?_)
  exact WQ.ret1 (h1 := .tmp (t := 8) rfl) ⟨_, ⟨rfl, rfl⟩, Am.auto⟩
theorem dAddExist {s a c : Nat} {p : Pl} {F0 Fm : FM} {W : Nat} {d : Nat} {nm : Bytes} {sl : List Slot} (ho : PlOk p) (hn : nameOk nm = true) (hF : Fm d = some (2, dirB sl)) (hd : DirOk sl) (hsz : sl.length ≤ 1104) {q j : Nat} (hq : sl[q]? = some (some (nm, j))) {i : Value} : Spec Tryz.prog 34 #[.pointer (some ⟨s, 0, none⟩), nI d, sv nm, i] [IN s a c p F0 Fm W true] fun G v M => v = .int .i64 5 ∧ M = IN s a c p F0 Fm W true :: G := by
  refine Spec.intro Tryz.func34 rfl rfl fun B F => ?_
  simp only [Tryz.ntmps34, List.cons_append, List.nil_append, env0, Nat.reduceAdd]
  have hlt : q < sl.length := by
    by_cases h : q < sl.length
    · exact h
    · rw [List.getElem?_eq_none (by omega)] at hq; cases hq
  refine WC.seq ?_
  refine WC.region ?_
  refine WL.assign ?_
  refine WL.nil ?_
  refine WQ.next ?_
  refine WC.seq ?_
  refine WC.region ?_
  refine WL.move ?_
  refine WL.move ?_
  refine WL.move ?_
  refine WL.call (hc := Tryz.call70) (sp := dChg (s := s) (a := a) (c := c) (p := p) (F0 := F0) (Fm := Fm) (W := W) (d := d) (nm := nm) ho hn hF hd hsz) (h := ?_)
  rintro _ _ ⟨mp, es, cl, rfl, hm, rfl⟩
  refine WL.move ?_
  refine WL.extract ?_
  refine WL.extract ?_
  refine WL.extract ?_
  refine WL.assign ?_
  refine WL.assign ?_
  refine WL.assign ?_
  refine WL.nil ?_
  refine WQ.next ?_
  refine WC.seq ?_
  refine WC.seq ?_
  refine WC.region ?_
  refine WL.move ?_
  refine WL.nei ?_
  refine WL.nil ?_
  refine WQ.next ?_
  refine WC.condF rfl rfl ?_
  refine WC.skip ?_
  refine WQ.next ?_
  refine WC.seq ?_
  refine WC.seq ?_
  refine WC.region ?_
  refine WL.move ?_
  refine WL.move ?_
  refine WL.call (hc := Tryz.call71) (sp := dOf (nameOk_len hn).2) (h := ?_)
  rintro _ _ ⟨rfl, rfl⟩
  refine WL.lookOk (k := keyK nm) klN hm mp117 zv121 ?_
  refine WL.cast (d := 29) (u := .tuple #[.agg #[nI (64 * q), nI j], .bool true]) rfl (by rw [kvF_has hd hq sl.length hlt]; rfl) ?_
  refine WL.move ?_
  refine WL.extract ?_
  refine WL.extract ?_
  refine WL.alloc z121 fun b12 => ?_
  refine WL.stV ?_ agg121
  refine WL.assign ?_
  refine WL.nil ?_
  refine WQ.next ?_
  refine WC.seq ?_
  refine WC.region ?_
  refine WL.move ?_
  refine WL.nil ?_
  refine WQ.next ?_
  refine WC.condT rfl rfl ?_
  refine WC.seq ?_
  refine WC.region ?_
  refine WL.assign ?_
  refine WL.nil ?_
  refine WQ.next ?_
  refine WC.ret (WQ.thenRet (?_))
  exact WQ.ret1 (h1 := .tmp (t := 8) rfl) ⟨_, ⟨rfl, rfl⟩, Am.auto⟩
theorem dFind {s a c : Nat} {p : Pl} {F0 Fm : FM} {W : Nat} {d : Nat} {op : Bool} {nm : Bytes} {sl : List Slot} (ho : PlOk p) (hn : nameOk nm = true) (hF : Fm d = some (2, dirB sl)) (hd : DirOk sl) (hsz : sl.length ≤ 1104) {q j : Nat} (hq : sl[q]? = some (some (nm, j))) : Spec Tryz.prog 37 #[.pointer (some ⟨s, 0, none⟩), nI d, sv nm] [IN s a c p F0 Fm W op] fun G v M => v = .tuple #[nI j, .int .i64 0] ∧ M = IN s a c p F0 Fm W op :: G := by
  refine Spec.intro Tryz.func37 rfl rfl fun B F => ?_
  simp only [Tryz.ntmps37, List.cons_append, List.nil_append, env0, Nat.reduceAdd]
  have hlt : q < sl.length := by
    by_cases h : q < sl.length
    · exact h
    · rw [List.getElem?_eq_none (by omega)] at hq; cases hq
  refine WC.seq ?_
  refine WC.region ?_
  refine WL.assign ?_
  refine WL.assign ?_
  refine WL.nil ?_
  refine WQ.next ?_
  refine WC.seq ?_
  refine WC.seq ?_
  refine WC.region ?_
  refine WL.move ?_
  refine WL.call (hc := Tryz.call30) (sp := dName (xs := nm)) (h := ?_)
  rintro _ _ ⟨rfl, rfl⟩
  rw [hn]
  refine WL.not ?_
  refine WL.nil ?_
  refine WQ.next ?_
  refine WC.condF rfl rfl ?_
  refine WC.skip ?_
  refine WQ.next ?_
  refine WC.seq ?_
  refine WC.region ?_
  refine WL.move ?_
  refine WL.move ?_
  refine WL.call (hc := Tryz.call73) (sp := dNames (s := s) (a := a) (c := c) (p := p) (F0 := F0) (Fm := Fm) (W := W) (d := d) (op := op) ho hF hd hsz) (h := ?_)
  rintro _ _ ⟨mp, es, cl, rfl, hm, rfl⟩
  refine WL.move ?_
  refine WL.extract ?_
  refine WL.extract ?_
  refine WL.extract ?_
  refine WL.assign ?_
  refine WL.assign ?_
  refine WL.assign ?_
  refine WL.nil ?_
  refine WQ.next ?_
  refine WC.seq ?_
  refine WC.seq ?_
  refine WC.region ?_
  refine WL.move ?_
  refine WL.nei ?_
  refine WL.nil ?_
  refine WQ.next ?_
  refine WC.condF rfl rfl ?_
  refine WC.skip ?_
  refine WQ.next ?_
  refine WC.seq ?_
  refine WC.region ?_
  refine WL.move ?_
  refine WL.move ?_
  refine WL.call (hc := Tryz.call71) (sp := dOf (nameOk_len hn).2) (h := ?_)
  rintro _ _ ⟨rfl, rfl⟩
  refine WL.lookOk (k := keyK nm) klN hm mp117 zv121 ?_
  refine WL.cast (d := 30) (u := .tuple #[.agg #[nI (64 * q), nI j], .bool true]) rfl (by rw [kvF_has hd hq sl.length hlt]; rfl) ?_
  refine WL.move ?_
  refine WL.extract ?_
  refine WL.extract ?_
  refine WL.alloc z121 fun b11 => ?_
  refine WL.stV ?_ agg121
  refine WL.assign ?_
  refine WL.nil ?_
  refine WQ.next ?_
  refine WC.seq ?_
  refine WC.seq ?_
  refine WC.region ?_
  refine WL.move ?_
  refine WL.not ?_
  refine WL.nil ?_
  refine WQ.next ?_
  refine WC.condF rfl rfl ?_
  refine WC.skip ?_
  refine WQ.next ?_
  refine WC.seq ?_
  refine WC.region ?_
  refine WL.fa ?_ fo121_1
  refine WL.ld ?_ sc3
  refine WL.assign ?_
  refine WL.assign ?_
  refine WL.nil ?_
  refine WQ.next ?_
  refine WC.ret (?_)
  exact WQ.ret2 (h1 := .tmp (t := 6) rfl) (h2 := .tmp (t := 7) rfl) ⟨_, ⟨rfl, rfl⟩, Am.auto⟩
theorem dRemoveNo {s a c : Nat} {p : Pl} {F0 Fm : FM} {W : Nat} {d : Nat} {nm : Bytes} {sl : List Slot} (ho : PlOk p) (hn : nameOk nm = true) (hF : Fm d = some (2, dirB sl)) (hd : DirOk sl) (hsz : sl.length ≤ 1104) (hno : ∀ (q i : Nat), sl[q]? ≠ some (some (nm, i))) : Spec Tryz.prog 38 #[.pointer (some ⟨s, 0, none⟩), nI d, sv nm] [IN s a c p F0 Fm W true] fun G v M => v = .int .i64 4 ∧ M = IN s a c p F0 Fm W true :: G := by
  refine Spec.intro Tryz.func38 rfl rfl fun B F => ?_
  simp only [Tryz.ntmps38, List.cons_append, List.nil_append, env0, Nat.reduceAdd]
  refine WC.seq ?_
  refine WC.region ?_
  refine WL.assign ?_
  refine WL.nil ?_
  refine WQ.next ?_
  refine WC.seq ?_
  refine WC.region ?_
  refine WL.move ?_
  refine WL.move ?_
  refine WL.move ?_
  refine WL.call (hc := Tryz.call70) (sp := dChg (s := s) (a := a) (c := c) (p := p) (F0 := F0) (Fm := Fm) (W := W) (d := d) (nm := nm) ho hn hF hd hsz) (h := ?_)
  rintro _ _ ⟨mp, es, cl, rfl, hm, rfl⟩
  refine WL.move ?_
  refine WL.extract ?_
  refine WL.extract ?_
  refine WL.extract ?_
  refine WL.assign ?_
  refine WL.assign ?_
  refine WL.assign ?_
  refine WL.nil ?_
  refine WQ.next ?_
  refine WC.seq ?_
  refine WC.seq ?_
  refine WC.region ?_
  refine WL.move ?_
  refine WL.nei ?_
  refine WL.nil ?_
  refine WQ.next ?_
  refine WC.condF rfl rfl ?_
  refine WC.skip ?_
  refine WQ.next ?_
  refine WC.seq ?_
  refine WC.region ?_
  refine WL.move ?_
  refine WL.move ?_
  refine WL.call (hc := Tryz.call71) (sp := dOf (nameOk_len hn).2) (h := ?_)
  rintro _ _ ⟨rfl, rfl⟩
  refine WL.lookOk (k := keyK nm) klN hm mp117 zv121 ?_
  refine WL.cast (d := 27) (u := .tuple #[.agg #[.int .i64 0, .int .i64 0], .bool false]) rfl (by rw [kvF_no hd (nameOk_len hn).2 hno]; rfl) ?_
  refine WL.move ?_
  refine WL.extract ?_
  refine WL.extract ?_
  refine WL.alloc z121 fun b10 => ?_
  refine WL.stV ?_ agg121
  refine WL.assign ?_
  refine WL.nil ?_
  refine WQ.next ?_
  refine WC.seq ?_
  refine WC.seq ?_
  refine WC.region ?_
  refine WL.move ?_
  refine WL.not ?_
  refine WL.nil ?_
  refine WQ.next ?_
  refine WC.condT rfl rfl ?_
  refine WC.seq ?_
  refine WC.region ?_
  refine WL.assign ?_
  refine WL.nil ?_
  refine WQ.next ?_
  refine WC.ret (WQ.thenRet (?_))
  exact WQ.ret1 (h1 := .tmp (t := 6) rfl) ⟨_, ⟨rfl, rfl⟩, Am.auto⟩
theorem dRemove {s a c : Nat} {p : Pl} {F0 Fm : FM} {W : Nat} {d : Nat} {nm : Bytes} {sl : List Slot} (ho : PlOk p) (hn : nameOk nm = true) (hF : Fm d = some (2, dirB sl)) (hd : DirOk sl) (hsz : sl.length ≤ 1104) {q j : Nat} (hq : sl[q]? = some (some (nm, j))) (hw : Rw p W 13) (hfit : tot Fm p.ino ≤ p.dc) : Spec Tryz.prog 38 #[.pointer (some ⟨s, 0, none⟩), nI d, sv nm] [IN s a c p F0 Fm W true] fun G v M => v = okV ∧ M = IN s a c p F0 (updM Fm d (some (2, dirB (setS sl q none)))) (W + 8) true :: G := by
  refine Spec.intro Tryz.func38 rfl rfl fun B F => ?_
  simp only [Tryz.ntmps38, List.cons_append, List.nil_append, env0, Nat.reduceAdd]
  have hlt : q < sl.length := by
    by_cases h : q < sl.length
    · exact h
    · rw [List.getElem?_eq_none (by omega)] at hq; cases hq
  have hmx : max (64 * sl.length) (64 * q + 64) = 64 * sl.length := by omega
  have hdl := dirB_length sl
  have hsl := slotB_length none
  have hhs := has_slot sl.length q (by omega)
  refine WC.seq ?_
  refine WC.region ?_
  refine WL.assign ?_
  refine WL.nil ?_
  refine WQ.next ?_
  refine WC.seq ?_
  refine WC.region ?_
  refine WL.move ?_
  refine WL.move ?_
  refine WL.move ?_
  refine WL.call (hc := Tryz.call70) (sp := dChg (s := s) (a := a) (c := c) (p := p) (F0 := F0) (Fm := Fm) (W := W) (d := d) (nm := nm) ho hn hF hd hsz) (h := ?_)
  rintro _ _ ⟨mp, es, cl, rfl, hm, rfl⟩
  refine WL.move ?_
  refine WL.extract ?_
  refine WL.extract ?_
  refine WL.extract ?_
  refine WL.assign ?_
  refine WL.assign ?_
  refine WL.assign ?_
  refine WL.nil ?_
  refine WQ.next ?_
  refine WC.seq ?_
  refine WC.seq ?_
  refine WC.region ?_
  refine WL.move ?_
  refine WL.nei ?_
  refine WL.nil ?_
  refine WQ.next ?_
  refine WC.condF rfl rfl ?_
  refine WC.skip ?_
  refine WQ.next ?_
  refine WC.seq ?_
  refine WC.region ?_
  refine WL.move ?_
  refine WL.move ?_
  refine WL.call (hc := Tryz.call71) (sp := dOf (nameOk_len hn).2) (h := ?_)
  rintro _ _ ⟨rfl, rfl⟩
  refine WL.lookOk (k := keyK nm) klN hm mp117 zv121 ?_
  refine WL.cast (d := 27) (u := .tuple #[.agg #[nI (64 * q), nI j], .bool true]) rfl (by rw [kvF_has hd hq sl.length hlt]; rfl) ?_
  refine WL.move ?_
  refine WL.extract ?_
  refine WL.extract ?_
  refine WL.alloc z121 fun b10 => ?_
  refine WL.stV ?_ agg121
  refine WL.assign ?_
  refine WL.nil ?_
  refine WQ.next ?_
  refine WC.seq ?_
  refine WC.seq ?_
  refine WC.region ?_
  refine WL.move ?_
  refine WL.not ?_
  refine WL.nil ?_
  refine WQ.next ?_
  refine WC.condF rfl rfl ?_
  refine WC.skip ?_
  refine WQ.next ?_
  refine WC.seq ?_
  refine WC.draw ([pt b10 (.cells #[nI (64 * q), nI j] 121 (0, 0))]) [] 7 #[false, false, false, false, false, false, false] mixed (by kernel_rfl) NoPanic.autoJ ?_
  refine WD.take (i := 0) #[true, false, false, false, false, false, false] rfl (by kernel_rfl) (Qt.move ) ?_
  refine WD.take (i := 1) #[true, true, false, false, false, false, false] rfl (by kernel_rfl) (Qt.move ) ?_
  refine WD.take (i := 2) #[true, true, true, false, false, false, false] rfl (by kernel_rfl) (Qt.fa fo121_0) ?_
  refine WD.take (i := 3) #[true, true, true, true, false, false, false] rfl (by kernel_rfl) (Qt.ld sc3) ?_
  refine WD.one (i := 4) #[true, true, true, true, true, false, false] rfl (by kernel_rfl) fun hnp => ?_
  refine WL.mkSN 64 z5 so33 (by decide) (by decide) fun b36 => ?_
  refine WL.nil (WQ.wd hnp (.inl Am.auto) ?_)
  refine WD.one (i := 5) #[true, true, true, true, true, true, false] rfl (by kernel_rfl) fun hnp => ?_
  refine WL.to (A' := buf b36 5 64 (bvs (slotB none))) (fun h hh => by show buf _ _ _ (bvs (List.replicate 64 0)) _; rw [bvs_replicate]; exact hh) ?_
  refine WL.call (hc := Tryz.call20) (sp := nWrite (s := s) (a := a) (c := c) (p := p) (F0 := F0) (F := Fm) (W := W) (i := d) (at' := 64 * q) (f := (2, dirB sl)) (bs := slotB none) (m := 64) ho hF (hw.less (by show has (max (dirB sl).length (64 * q + 64)) - has (dirB sl).length + (64 + 511) / 512 + 10 ≤ 13; rw [hdl]; omega)) (.inr Reads.buf) hsl (Nat.le_refl _) (by decide) (by show 64 * q ≤ (dirB sl).length; omega) (by omega) (by show tot Fm p.ino + has (max (dirB sl).length (64 * q + 64)) ≤ p.dc + has (dirB sl).length; rw [hdl, hmx]; omega)) (h := ?_)
  rintro _ _ ⟨rfl, rfl⟩
  refine WL.nil (WQ.wd hnp (.inl Am.auto) ?_)
  refine WD.take (i := 6) #[true, true, true, true, true, true, true] rfl (by kernel_rfl) (Qt.assign ) ?_
  refine WD.done (by kernel_rfl) ?_
  refine WQ.next ?_
  refine WC.ret (?_)
  simp only [setS_wr (Nat.le_of_lt hlt)]
  refine WQ.to (A' := IN s a c p F0 (updM Fm d (some (2, dirB (setS sl q none)))) (W + 8) true) (fun h hh => IN.more (by show W + (has (max (dirB sl).length (64 * q + 64)) - has (dirB sl).length) + (64 + 511) / 512 + 5 ≤ W + 8; rw [hdl]; omega) h hh) ?_
  exact WQ.ret1 (h1 := .tmp (t := 6) rfl) ⟨_, ⟨rfl, rfl⟩, Am.auto⟩
end Go.Proofs.YtedmihapieleaaaGreat
end
section
namespace Go.Proofs.YtedmihapieleaaaGreat
open Go
def pN (n : Nat) : Pl := ⟨n, 16, 246, 247, 248, 250, n - 250⟩
theorem pN_is {n : Nat} (h1 : 251 ≤ n) (h2 : n ≤ 4000) : PlIs (pN n) := by
  constructor <;> simp only [pN] <;> omega
theorem root_one (j : Nat) (h : j < 1) : rootM j ≠ none := by
  have : j = 0 := by omega
  subst this
  intro hh
  cases hh
end Go.Proofs.YtedmihapieleaaaGreat
end
section
namespace Go.Proofs.YtedmihapieleaaaGreat
open Go
theorem fmtD_dk {p : Pl} {D : List Nat} {first : Nat} (hd : Dk p D) : ∀ n, (∀ v, first ≤ v → v < first + n → 245 ≤ v ∧ v < p.n) → Dk p (fmtD D first n)
  | 0, _ => hd
  | n + 1, h => (fmtD_dk hd n (fun v h1 h2 => h v h1 (by omega))).ins (h _ (by omega) (by omega)).1 (h _ (by omega) (by omega)).2
theorem fmtB_dk {p : Pl} (h : PlIs p) : Dk p (insD (fmtB p []) (p.tb + 0 / 8)) := by
  have ho := h.ok; have hlo := ho.lo; have h1 := ho.i2; have h2 := ho.tbl; have h3 := ho.apart; have h4 := ho.dat; have h5 := ho.tab; have h6 := ho.i1
  refine Dk.ins ?_ (by omega) (by omega)
  unfold fmtB
  exact fmtD_dk (fmtD_dk (Dk.nil p) _ (fun v h1 h2 => by omega)) _ (fun v h1 h2 => by omega)
theorem mkT {s a c : Nat} {p : Pl} {V0 V : Nat → Bytes} {D : List Nat} {F : FM} {i k : Nat} (ho : PlOk p) (hr : Rep p V F) (hdk : Dk p D) (hrm : Rm p D 1) (hk : k = 1 ∨ k = 2) (hi : i < p.ino) (h0 : F i = none) (hb : ∀ j < i, F j ≠ none) :
    Spec Tryz.prog 17 #[.pointer (some ⟨s, 0, none⟩), nI k] [pt s (stO c a p), pt a (alO c p), TR c p.n V0 V D true] fun G v M => v = .tuple #[nI i, .int .i64 0] ∧ M = [pt s (stO c a p), pt a (alO c p), TR c p.n V0 (svV p (setD V p.im i true) i ⟨k, 0, List.replicate 11 0⟩) (mkD p D i) true] ++ G := by
  refine (inMake (s := s) (c := c) (a := a) (V0 := V0) (V := V) (D := D) (k := k) ho hk hdk hrm).post ?_
  rintro G v M (⟨j, hj, hj0, hjb, rfl, rfl⟩ | ⟨hall, _, _⟩)
  · rw [hr.imapF hj] at hj0
    have hji : j = i := by
      rcases Nat.lt_trichotomy j i with h1 | h1 | h1
      · have := hb j h1
        cases hF : F j with
        | none => exact absurd hF this
        | some f => rw [hF] at hj0; cases hj0
      · exact h1
      · have := hjb i h1
        rw [hr.imapF hi, h0] at this
        cases this
    subst hji
    exact ⟨_, ⟨rfl, rfl⟩, fun B w hs => hs⟩
  · have := hall i hi
    rw [hr.imapF hi, h0] at this
    cases this
def DM (s0 s1 : List Slot) : FM := fun j => if j = 0 then some (2, dirB s0) else if j = 1 then some (2, dirB s1) else if j = 2 then some (1, []) else none
theorem DM_0 (s0 s1 : List Slot) : DM s0 s1 0 = some (2, dirB s0) := rfl
theorem DM_upd0 (s0 s1 t : List Slot) : updM (DM s0 s1) 0 (some (2, dirB t)) = DM t s1 := by
  funext j
  unfold updM DM
  by_cases h : j = 0
  · subst h; rfl
  · simp only [if_neg h]
theorem DM_upd1 (s0 s1 t : List Slot) : updM (DM s0 s1) 1 (some (2, dirB t)) = DM s0 t := by
  funext j
  unfold updM DM
  by_cases h : j = 1
  · subst h; rfl
  · simp only [if_neg h]
theorem DM_made : updM (updM rootM 1 (some (2, []))) 2 (some (1, [])) = DM [] [] := by
  funext j
  unfold updM rootM DM
  by_cases h2 : j = 2
  · subst h2; rfl
  · by_cases h1 : j = 1
    · subst h1; rfl
    · simp only [if_neg h1, if_neg h2]; rfl
theorem tot_DM (s0 s1 : List Slot) {n : Nat} (h : 3 ≤ n) : tot (DM s0 s1) n = has (64 * s0.length) + has (64 * s1.length) := by
  have h0 : has 0 = 0 := rfl
  have e0 : tot (DM [] []) n = 0 := by
    have a1 := tot_upd' rootM (show 1 < n by omega) (some (2, []))
    have a2 := tot_upd' (updM rootM 1 (some (2, []))) (show 2 < n by omega) (some (1, []))
    rw [DM_made] at a2
    have b1 : hasO (rootM 1) = 0 := rfl
    have b2 : hasO (updM rootM 1 (some (2, [])) 2) = 0 := rfl
    have b3 : hasO (some (2, ([] : Bytes))) = 0 := rfl
    have b4 : hasO (some (1, ([] : Bytes))) = 0 := rfl
    rw [tot_root] at a1
    omega
  have e1 := tot_upd' (DM [] []) (show 0 < n by omega) (some (2, dirB s0))
  have e2 := tot_upd' (DM s0 []) (show 1 < n by omega) (some (2, dirB s1))
  rw [DM_upd0] at e1
  rw [DM_upd1] at e2
  have b1 : hasO (DM [] [] 0) = 0 := rfl
  have b2 : hasO (DM s0 [] 1) = 0 := rfl
  have b3 : hasO (some (2, dirB s0)) = has (64 * s0.length) := by show has (dirB s0).length = _; rw [dirB_length]
  have b4 : hasO (some (2, dirB s1)) = has (64 * s1.length) := by show has (dirB s1).length = _; rw [dirB_length]
  omega
theorem has64 {n : Nat} (h : n ≤ 72) : has (64 * n) ≤ 9 := by
  have h1 : dat (64 * n) ≤ 9 := by unfold dat; omega
  unfold has
  split <;> omega
theorem l9Fresh {p : Pl} (h : PlIs p) (h16 : p.ino = 16) (h304 : p.n ≤ 304) : Spec Tryz.prog 33 #[.int .i64 (p.n : Int)] [] fun F v M => ∃ c a s, v = .tuple #[.pointer (some ⟨c, 0, none⟩), .pointer (some ⟨a, 0, none⟩), .pointer (some ⟨s, 0, none⟩), .bool true] ∧ M = IN s a c p (DM [] []) (DM [] []) 0 true :: F := by
  refine Spec.intro Tryz.func33 rfl rfl fun B F => ?_
  simp only [Tryz.ntmps33, List.cons_append, List.nil_append, env0, Nat.reduceAdd]
  have hn2 := h.n2
  have h246 : 246 ≤ p.n := by have := h.bm; have := h.m1; have := h.da; have := h.dc; have := h.d1; omega
  have hfew := fmtB_few h
  have ho := h.ok
  have hr0 := fresh_rep h
  have hd0 := fmtB_dk h
  have hr1 : Rep p (svV p (setD (freshW p) p.im 1 true) 1 ⟨2, 0, List.replicate 11 0⟩) (updM rootM 1 (some (2, []))) := hr0.made ho (by omega) (by rw [hr0.imapF (by omega)]; rfl) (.inr rfl)
  have hd1 := (mkD_ok ho hd0 (i := 1) (by omega)).1
  have hr2 : Rep p (svV p (setD (svV p (setD (freshW p) p.im 1 true) 1 ⟨2, 0, List.replicate 11 0⟩) p.im 2 true) 2 ⟨1, 0, List.replicate 11 0⟩) (DM [] []) := DM_made ▸ hr1.made ho (by omega) (by rw [hr1.imapF (by omega)]; rfl) (.inl rfl)
  have hmk := layMake h
  rw [show (p.ino : Int) = 16 from by omega] at hmk
  refine WC.seq ?_
  refine WC.region ?_
  refine WL.assign ?_
  refine WL.assign ?_
  refine WL.assign ?_
  refine WL.assign ?_
  refine WL.nil ?_
  refine WQ.next ?_
  refine WC.seq ?_
  refine WC.region ?_
  refine WL.move ?_
  refine WL.call (hc := Tryz.call40) (sp := hmk) (h := ?_)
  rintro _ _ ⟨rfl, rfl⟩
  refine WL.move ?_
  refine WL.extract ?_
  refine WL.extract ?_
  refine WL.alloc z28 fun b6 => ?_
  refine WL.stV ?_ agg28
  refine WL.to (A := pt b6 (.cells p.cells 28 (0, 0))) (A' := pt b6 (.cells p.cells 28 (0, 0))) (fun h hh => hh) ?_
  refine WL.assign ?_
  refine WL.nil ?_
  refine WQ.next ?_
  refine WC.seq ?_
  refine WC.region ?_
  refine WL.move ?_
  refine WL.call (hc := Tryz.call41) (sp := devNew (n := p.n) (by omega) hn2) (h := ?_)
  rintro _ _ ⟨d, rfl, rfl⟩
  refine WL.move ?_
  refine WL.extract ?_
  refine WL.extract ?_
  refine WL.assign ?_
  refine WL.assign ?_
  refine WL.nil ?_
  refine WQ.next ?_
  refine WC.seq ?_
  refine WC.seq ?_
  refine WC.region ?_
  refine WL.move ?_
  refine WL.nei ?_
  refine WL.move ?_
  refine WL.gT ?_
  refine WL.move ?_
  refine WL.gT ?_
  refine WL.nei ?_
  refine WL.pickF ?_
  refine WL.move ?_
  refine WL.gT ?_
  refine WL.move ?_
  refine WL.gT ?_
  refine WL.eqNil ?_ ptr76
  refine WL.pickF ?_
  refine WL.move ?_
  refine WL.gT ?_
  refine WL.move ?_
  refine WL.gT ?_
  refine WL.call (hc := Tryz.call42) (sp := jFormat (n := p.n) (t := 0) (cur := zeroD) h246 (by decide)) (h := ?_)
  rintro _ _ ⟨rfl, rfl⟩
  refine WL.gT ?_
  refine WL.nei ?_
  refine WL.pickF ?_
  refine WL.nil ?_
  refine WQ.next ?_
  refine WC.condF rfl rfl ?_
  refine WC.skip ?_
  refine WQ.next ?_
  refine WC.seq ?_
  refine WC.region ?_
  refine WL.move ?_
  refine WL.call (hc := Tryz.call43) (sp := jOpen (n := p.n) (cur := formatted zeroD) h246 hn2 formatted0 (fun i _ => formattedH _ i)) (h := ?_)
  rintro _ _ ⟨j, rfl, rfl⟩
  refine WL.move ?_
  refine WL.extract ?_
  refine WL.extract ?_
  refine WL.assign ?_
  refine WL.assign ?_
  refine WL.nil ?_
  refine WQ.next ?_
  refine WC.seq ?_
  refine WC.region ?_
  refine WL.move ?_
  refine WL.call (hc := Tryz.call44) (sp := cNew (n := p.n) h246 hn2) (h := ?_)
  rintro _ _ ⟨c, rfl, rfl⟩
  refine WL.shutR (TR.opens c p.n zeroD zeroD [] false) (j, d, ⟨⟨beNat (seg (formatted zeroD 0) 8 8 false), 0, [], formatted zeroD⟩, [], false, false⟩) ⟨rfl, (fun k h1 h2 => formattedK (by omega)), (fun k h1 h2 => formattedK (by omega)), rfl⟩ ?_
  refine WL.assign ?_
  refine WL.nil ?_
  refine WQ.next ?_
  refine WC.seq ?_
  refine WC.region ?_
  refine WL.move ?_
  refine WL.ldA ?_ agg28
  refine WL.call (hc := Tryz.call45) (sp := alNew (p := p)) (h := ?_)
  rintro _ _ ⟨a, rfl, rfl⟩
  refine WL.assign ?_
  refine WL.nil ?_
  refine WQ.next ?_
  refine WC.seq ?_
  refine WC.region ?_
  refine WL.move ?_
  refine WL.move ?_
  refine WL.ldA ?_ agg28
  refine WL.call (hc := Tryz.call46) (sp := inNew (p := p)) (h := ?_)
  rintro _ _ ⟨s, rfl, rfl⟩
  refine WL.assign ?_
  refine WL.nil ?_
  refine WQ.next ?_
  refine WC.seq ?_
  refine WC.seq ?_
  refine WC.region ?_
  refine WL.move ?_
  refine WL.nei ?_
  refine WL.move ?_
  refine WL.gT ?_
  refine WL.move ?_
  refine WL.gT ?_
  refine WL.eqNil ?_ ptr24
  refine WL.pickF ?_
  refine WL.move ?_
  refine WL.gT ?_
  refine WL.move ?_
  refine WL.gT ?_
  refine WL.eqNil ?_ ptr25
  refine WL.pickF ?_
  refine WL.move ?_
  refine WL.gT ?_
  refine WL.move ?_
  refine WL.gT ?_
  refine WL.eqNil ?_ ptr26
  refine WL.pickF ?_
  refine WL.move ?_
  refine WL.gT ?_
  refine WL.move ?_
  refine WL.gT ?_
  refine WL.call (hc := Tryz.call22) (sp := tBegin (n := p.n) (V0 := zeroD) (V := zeroD) (D := [])) (h := ?_)
  rintro _ _ ⟨rfl, rfl⟩
  refine WL.gT ?_
  refine WL.nei ?_
  refine WL.pickF ?_
  refine WL.move ?_
  refine WL.gT ?_
  refine WL.move ?_
  refine WL.gT ?_
  refine WL.call (hc := Tryz.call47) (sp := alFormat (V0 := zeroD) (V := zeroD) h.ok) (h := ?_)
  rintro _ _ ⟨rfl, rfl⟩
  simp only [List.cons_append, List.nil_append]
  refine WL.gT ?_
  refine WL.nei ?_
  refine WL.pickF ?_
  refine WL.move ?_
  refine WL.gT ?_
  refine WL.move ?_
  refine WL.gT ?_
  refine WL.call (hc := Tryz.call48) (sp := inFormat (V0 := zeroD) (V := freshV p) (D := fmtB p []) h.ok (by unfold Room; omega)) (h := ?_)
  rintro _ _ ⟨rfl, rfl⟩
  simp only [List.cons_append, List.nil_append]
  refine WL.gT ?_
  refine WL.nei ?_
  refine WL.pickF ?_
  refine WL.nil ?_
  refine WQ.next ?_
  refine WC.condF rfl rfl ?_
  refine WC.skip ?_
  refine WQ.next ?_
  refine WC.seq ?_
  refine WC.region ?_
  refine WL.move ?_
  refine WL.call (hc := Tryz.call17) (sp := mkT (p := p) (V0 := zeroD) (i := 1) (k := 2) ho hr0 hd0 (.inl h304) (.inr rfl) (by omega) rfl root_one) (h := ?_)
  rintro _ _ ⟨rfl, rfl⟩
  simp only [List.cons_append, List.nil_append]
  refine WL.move ?_
  refine WL.extract ?_
  refine WL.extract ?_
  refine WL.assign ?_
  refine WL.assign ?_
  refine WL.nil ?_
  refine WQ.next ?_
  refine WC.seq ?_
  refine WC.region ?_
  refine WL.move ?_
  refine WL.call (hc := Tryz.call17) (sp := mkT (p := p) (V0 := zeroD) (i := 2) (k := 1) ho hr1 hd1 (.inl h304) (.inl rfl) (by omega) rfl (fun j hj => by rcases (show j = 0 ∨ j = 1 by omega) with rfl | rfl <;> (intro hh; cases hh))) (h := ?_)
  rintro _ _ ⟨rfl, rfl⟩
  simp only [List.cons_append, List.nil_append]
  refine WL.move ?_
  refine WL.extract ?_
  refine WL.extract ?_
  refine WL.assign ?_
  refine WL.assign ?_
  refine WL.nil ?_
  refine WQ.next ?_
  refine WC.seq ?_
  refine WC.seq ?_
  refine WC.region ?_
  refine WL.move ?_
  refine WL.nei ?_
  refine WL.move ?_
  refine WL.gT ?_
  refine WL.move ?_
  refine WL.gT ?_
  refine WL.nei ?_
  refine WL.pickF ?_
  refine WL.move ?_
  refine WL.gT ?_
  refine WL.move ?_
  refine WL.gT ?_
  refine WL.nei ?_
  refine WL.pickF ?_
  refine WL.move ?_
  refine WL.gT ?_
  refine WL.move ?_
  refine WL.gT ?_
  refine WL.nei ?_
  refine WL.pickF ?_
  refine WL.move ?_
  refine WL.gT ?_
  refine WL.move ?_
  refine WL.gT ?_
  refine WL.call (hc := Tryz.call21) (sp := tCommit (n := p.n) (V0 := zeroD) (V := (svV p (setD (svV p (setD (freshW p) p.im 1 true) 1 ⟨2, 0, List.replicate 11 0⟩) p.im 2 true) 2 ⟨1, 0, List.replicate 11 0⟩)) (D := (mkD p (mkD p (insD (fmtB p []) (p.tb + 0 / 8)) 1) 2))) (h := ?_)
  rintro _ _ ⟨rfl, rfl⟩
  refine WL.gT ?_
  refine WL.nei ?_
  refine WL.pickF ?_
  refine WL.nil ?_
  refine WQ.next ?_
  refine WC.condF rfl rfl ?_
  refine WC.skip ?_
  refine WQ.next ?_
  refine WC.seq ?_
  refine WC.region ?_
  refine WL.move ?_
  refine WL.move ?_
  refine WL.move ?_
  refine WL.move ?_
  refine WL.call (hc := Tryz.call22) (sp := tBegin (n := p.n) (V0 := (svV p (setD (svV p (setD (freshW p) p.im 1 true) 1 ⟨2, 0, List.replicate 11 0⟩) p.im 2 true) 2 ⟨1, 0, List.replicate 11 0⟩)) (V := (svV p (setD (svV p (setD (freshW p) p.im 1 true) 1 ⟨2, 0, List.replicate 11 0⟩) p.im 2 true) 2 ⟨1, 0, List.replicate 11 0⟩)) (D := [])) (h := ?_)
  rintro _ _ ⟨rfl, rfl⟩
  refine WL.shutR (IN.opens s a c p (DM [] []) (DM [] []) 0 true) ((svV p (setD (svV p (setD (freshW p) p.im 1 true) 1 ⟨2, 0, List.replicate 11 0⟩) p.im 2 true) 2 ⟨1, 0, List.replicate 11 0⟩), (svV p (setD (svV p (setD (freshW p) p.im 1 true) 1 ⟨2, 0, List.replicate 11 0⟩) p.im 2 true) 2 ⟨1, 0, List.replicate 11 0⟩), []) ⟨hr2, hr2, Dk.nil p, Nat.zero_le _⟩ ?_
  refine WL.eqi ?_
  refine WL.assign ?_
  refine WL.assign ?_
  refine WL.assign ?_
  refine WL.assign ?_
  refine WL.nil ?_
  refine WQ.next ?_
  refine WC.ret (?_)
  exact WQ.ret4 (h1 := .tmp (t := 2) rfl) (h2 := .tmp (t := 3) rfl) (h3 := .tmp (t := 4) rfl) (h4 := .tmp (t := 5) rfl) ⟨_, ⟨c, a, s, rfl, rfl⟩, Am.auto⟩
end Go.Proofs.YtedmihapieleaaaGreat
end
section
namespace Go.Proofs.YtedmihapieleaaaGreat
open Go
theorem l9Awake : Spec Tryz.prog 32 #[] [] fun F v M => v = .bool true ∧ M = F := by
  refine Spec.intro Tryz.func32 rfl rfl fun B F => ?_
  simp only [Tryz.ntmps32, List.cons_append, List.nil_append, env0, Nat.reduceAdd]
  have hpn : PlIs (pN 300) := pN_is (by decide) (by decide)
  have ho : PlOk (pN 300) := hpn.ok
  have hd1 : DirOk [some ([97], 5)] := DirOk.nil.set (q := 0) (n := [97]) (i := 5) (Nat.le_refl _) (by decide) (by decide) (by intro r j hr h; simp at h)
  have hd2 : DirOk [some ([97], 5), some ([98], 6)] := hd1.set (q := 1) (n := [98]) (i := 6) (by decide) (by decide) (by decide) (by intro r j hr h; rcases r with _ | r <;> simp at h)
  have hd3 : DirOk [none, some ([98], 6)] := hd2.gone (q := 0) (by decide)
  have hd4 : DirOk [some ([99], 7), some ([98], 6)] := hd3.set (q := 0) (n := [99]) (i := 7) (by decide) (by decide) (by decide) (by intro r j hr h; rcases r with _ | _ | r <;> simp at h)
  refine WC.seq ?_
  refine WC.region ?_
  refine WL.assign ?_
  refine WL.nil ?_
  refine WQ.next ?_
  refine WC.seq ?_
  refine WC.region ?_
  refine WL.call (hc := Tryz.call33) (sp := l9Fresh (p := pN 300) (pN_is (n := 300) (by decide) (by decide)) rfl (by decide)) (h := ?_)
  rintro _ _ ⟨c, a, s, rfl, rfl⟩
  refine WL.move ?_
  refine WL.extract ?_
  refine WL.extract ?_
  refine WL.extract ?_
  refine WL.extract ?_
  refine WL.assign ?_
  refine WL.assign ?_
  refine WL.assign ?_
  refine WL.assign ?_
  refine WL.nil ?_
  refine WQ.next ?_
  refine WC.seq ?_
  refine WC.seq ?_
  refine WC.region ?_
  refine WL.move ?_
  refine WL.not ?_
  refine WL.move ?_
  refine WL.gT ?_
  refine WL.move ?_
  refine WL.gT ?_
  refine WL.call (hc := Tryz.call34) (sp := dAdd (s := s) (a := a) (c := c) (p := pN 300) (F0 := DM [] []) (Fm := DM [] []) (W := 0) (d := 0) (nm := [97]) (sl := []) ho rfl (DM_0 _ _) DirOk.nil (by decide) (by intro q i h; rcases q with _ | _ | q <;> simp at h) (i := 5) (by decide) (.inl (by decide)) (by decide) (by rw [tot_DM _ _ (by decide)]; decide)) (h := ?_)
  rintro _ _ ⟨rfl, rfl⟩
  rw [DM_upd0, show setS [] (freeS []) (some ([97], 5)) = [some ([97], 5)] from rfl]
  refine WL.gT ?_
  refine WL.nei ?_
  refine WL.pickF ?_
  refine WL.move ?_
  refine WL.gT ?_
  refine WL.move ?_
  refine WL.gT ?_
  refine WL.call (hc := Tryz.call34) (sp := dAdd (s := s) (a := a) (c := c) (p := pN 300) (F0 := DM [] []) (Fm := DM [some ([97], 5)] []) (W := 0 + 8) (d := 0) (nm := [98]) (sl := [some ([97], 5)]) ho rfl (DM_0 _ _) hd1 (by decide) (by intro q i h; rcases q with _ | _ | q <;> simp at h) (i := 6) (by decide) (.inl (by decide)) (by decide) (by rw [tot_DM _ _ (by decide)]; decide)) (h := ?_)
  rintro _ _ ⟨rfl, rfl⟩
  rw [DM_upd0, show setS [some ([97], 5)] (freeS [some ([97], 5)]) (some ([98], 6)) = [some ([97], 5), some ([98], 6)] from rfl]
  refine WL.gT ?_
  refine WL.nei ?_
  refine WL.pickF ?_
  refine WL.move ?_
  refine WL.gT ?_
  refine WL.move ?_
  refine WL.gT ?_
  refine WL.call (hc := Tryz.call38) (sp := dRemove (s := s) (a := a) (c := c) (p := pN 300) (F0 := DM [] []) (Fm := DM [some ([97], 5), some ([98], 6)] []) (W := 0 + 8 + 8) (d := 0) (nm := [97]) (sl := [some ([97], 5), some ([98], 6)]) (q := 0) (j := 5) ho rfl (DM_0 _ _) hd2 (by decide) rfl (.inl (by decide)) (by rw [tot_DM _ _ (by decide)]; decide)) (h := ?_)
  rintro _ _ ⟨rfl, rfl⟩
  rw [DM_upd0, show setS [some ([97], 5), some ([98], 6)] 0 none = [none, some ([98], 6)] from rfl]
  refine WL.gT ?_
  refine WL.nei ?_
  refine WL.pickF ?_
  refine WL.move ?_
  refine WL.gT ?_
  refine WL.move ?_
  refine WL.gT ?_
  refine WL.call (hc := Tryz.call34) (sp := dAdd (s := s) (a := a) (c := c) (p := pN 300) (F0 := DM [] []) (Fm := DM [none, some ([98], 6)] []) (W := 0 + 8 + 8 + 8) (d := 0) (nm := [99]) (sl := [none, some ([98], 6)]) ho rfl (DM_0 _ _) hd3 (by decide) (by intro q i h; rcases q with _ | _ | q <;> simp at h) (i := 7) (by decide) (.inl (by decide)) (by decide) (by rw [tot_DM _ _ (by decide)]; decide)) (h := ?_)
  rintro _ _ ⟨rfl, rfl⟩
  rw [DM_upd0, show setS [none, some ([98], 6)] (freeS [none, some ([98], 6)]) (some ([99], 7)) = [some ([99], 7), some ([98], 6)] from rfl]
  refine WL.gT ?_
  refine WL.nei ?_
  refine WL.pickF ?_
  refine WL.nil ?_
  refine WQ.next ?_
  refine WC.condF rfl rfl ?_
  refine WC.skip ?_
  refine WQ.next ?_
  refine WC.seq ?_
  refine WC.region ?_
  refine WL.move ?_
  refine WL.call (hc := Tryz.call29) (sp := nStat (s := s) (a := a) (c := c) (p := pN 300) (F0 := DM [] []) (F := DM [some ([99], 7), some ([98], 6)] []) (W := 0 + 8 + 8 + 8 + 8) (op := true) (i := 0) (f := (2, dirB [some ([99], 7), some ([98], 6)])) ho (DM_0 _ _)) (h := ?_)
  rintro _ _ ⟨rfl, rfl⟩
  refine WL.move ?_
  refine WL.extract ?_
  refine WL.extract ?_
  refine WL.alloc z55 fun b5 => ?_
  refine WL.stV ?_ agg55
  refine WL.assign ?_
  refine WL.nil ?_
  refine WQ.next ?_
  refine WC.seq ?_
  refine WC.region ?_
  refine WL.move ?_
  refine WL.call (hc := Tryz.call37) (sp := dFind (s := s) (a := a) (c := c) (p := pN 300) (F0 := DM [] []) (Fm := DM [some ([99], 7), some ([98], 6)] []) (W := 0 + 8 + 8 + 8 + 8) (op := true) (d := 0) (nm := [99]) (sl := [some ([99], 7), some ([98], 6)]) (q := 0) (j := 7) ho rfl (DM_0 _ _) hd4 (by decide) rfl) (h := ?_)
  rintro _ _ ⟨rfl, rfl⟩
  refine WL.move ?_
  refine WL.extract ?_
  refine WL.extract ?_
  refine WL.assign ?_
  refine WL.assign ?_
  refine WL.nil ?_
  refine WQ.next ?_
  refine WC.seq ?_
  refine WC.region ?_
  refine WL.move ?_
  refine WL.eqi ?_
  refine WL.move ?_
  refine WL.gT ?_
  refine WL.move ?_
  refine WL.gT ?_
  refine WL.eqi ?_
  refine WL.pickT ?_
  refine WL.move ?_
  refine WL.gT ?_
  refine WL.fa ?_ fo55_1
  refine WL.gT ?_
  refine WL.ld ?_ sc3
  refine WL.cast (d := 55) (u := .int .i64 128) rfl (congrArg (Value.int .i64) (by show ((dirB [some ([99], 7), some ([98], 6)]).length : Int) = 128; rw [dirB_length]; rfl)) ?_
  refine WL.gT ?_
  refine WL.eqi ?_
  refine WL.pickT ?_
  refine WL.move ?_
  refine WL.gT ?_
  refine WL.move ?_
  refine WL.gT ?_
  refine WL.eqi ?_
  refine WL.pickT ?_
  refine WL.move ?_
  refine WL.gT ?_
  refine WL.call (hc := Tryz.call30) (sp := dName (xs := [97])) (h := ?_)
  rintro _ _ ⟨rfl, rfl⟩
  refine WL.pickT ?_
  refine WL.move ?_
  refine WL.gT ?_
  refine WL.call (hc := Tryz.call30) (sp := dName (xs := [46, 46])) (h := ?_)
  rintro _ _ ⟨rfl, rfl⟩
  refine WL.gT ?_
  refine WL.not ?_
  refine WL.pickT ?_
  refine WL.assign ?_
  refine WL.nil ?_
  refine WQ.next ?_
  refine WC.ret (?_)
  exact WQ.ret1 (h1 := .tmp (t := 0) rfl) ⟨_, ⟨rfl, rfl⟩, Am.auto⟩
end Go.Proofs.YtedmihapieleaaaGreat
end
section
namespace Go.Proofs.YtedmihapieleaaaGreat
open Go
section
variable {P : Program} {B : Base} {n : Nat} {Q Q' : Exit → Act → World → Prop} {e : Env} {L : List HP} {ops : Array Oper} {l : List Oper}
variable {d : Nat} {ty : TypeId} {pos : String} {af : Array Edge} {x y z : Operand} {gd : Option (Nat × Bool)}
theorem bstr_append (xs ys : Bytes) : bstr xs ++ bstr ys = bstr (xs ++ ys) := by
  apply ByteArray.ext
  simp [bstr]
theorem Qt.catS {t u : TypeId} (xs ys : Bytes) (hl : xs.length + ys.length ≤ 9223372036854775807) (hx : evo e x = some (sv xs) := by rfl) (hy : evo e y = some (sv ys) := by rfl) :
    Qt P B n e L ⟨some d, .binOp .add t x y u, ty, pos, af, gd⟩ (sv (xs ++ ys)) :=
  Qt.strs (xs := bstr xs) (ys := bstr ys) (fun w => by
    rw [binOp_string_add, run_string_add_sum w _ _ (by rw [bstr_size, bstr_size]; exact hl), bstr_append]; rfl) hx hy
theorem WL.catS {t u : TypeId} (xs ys : Bytes) (h : WL P B n ops l Q ((d, sv (xs ++ ys)) :: e) L) (hl : xs.length + ys.length ≤ 9223372036854775807) (hx : evo e x = some (sv xs) := by rfl) (hy : evo e y = some (sv ys) := by rfl) (hd : Nat.ble (d + 1) n = true := by rfl) :
    WL P B n ops (⟨some d, .binOp .add t x y u, ty, pos, af, none⟩ :: l) Q e L := WL.pure h hd (Qt.catS xs ys hl hx hy)
end
end Go.Proofs.YtedmihapieleaaaGreat
end
section
namespace Go.Proofs.YtedmihapieleaaaGreat
open Go
theorem bs2B (v0 v1 : Int) : BuildSOk Tryz.prog 33 2 [(0, .int .u8 v0), (1, .int .u8 v1)] 5 #[.int .u8 v0, .int .u8 v1] := fun w => by kernel_rfl
def nameN (i : Nat) : Bytes := [110, UInt8.ofNat (97 + i % 26), UInt8.ofNat (97 + i / 26)]
theorem nameN_ok : ∀ i, i < 41 → nameOk (nameN i) = true := by decide +kernel
theorem nameN_inj : ∀ i, i < 41 → ∀ j, j < 41 → nameN i = nameN j → i = j := by decide +kernel
theorem l9Name {i : Nat} (hi : i < 4000) : Spec Tryz.prog 35 #[nI i] [] fun F v M => v = sv (nameN i) ∧ M = F := by
  refine Spec.intro Tryz.func35 rfl rfl fun B F => ?_
  simp only [Tryz.ntmps35, List.cons_append, List.nil_append, env0, Nat.reduceAdd]
  refine WC.seq ?_
  refine WC.region ?_
  refine WL.assign ?_
  refine WL.nil ?_
  refine WQ.next ?_
  refine WC.seq ?_
  refine WC.region ?_
  refine WL.move ?_
  refine WL.rem ?_
  refine WL.add ?_
  refine WL.cvt ?_ un3 un5
  refine WL.cast (d := 6) (u := bv (UInt8.ofNat (97 + i % 26))) rfl (congrArg (Value.int .u8) (by rw [UInt8.toNat_ofNat', IntWalk.u8_in _ (by omega)]; omega)) ?_
  refine WL.move ?_
  refine WL.quo ?_
  refine WL.add ?_
  refine WL.cvt ?_ un3 un5
  refine WL.cast (d := 10) (u := bv (UInt8.ofNat (97 + i / 26))) rfl (congrArg (Value.int .u8) (by rw [UInt8.toNat_ofNat', IntWalk.u8_in _ (by omega)]; omega)) ?_
  refine WL.buildS (fun b11 => ?_) (bs2B _ _)
  refine WL.to (A' := buf b11 5 2 (bvs [UInt8.ofNat (97 + i % 26), UInt8.ofNat (97 + i / 26)])) (buf_of_pt rfl) ?_
  refine WL.cvtBS (xs := [UInt8.ofNat (97 + i % 26), UInt8.ofNat (97 + i / 26)]) ?_ by33 st9 Reads.buf rfl
  refine WL.catS [110] [UInt8.ofNat (97 + i % 26), UInt8.ofNat (97 + i / 26)] ?_ (Nat.le_of_ble_eq_true rfl)
  refine WL.assign ?_
  refine WL.nil ?_
  refine WQ.next ?_
  refine WC.ret (?_)
  exact WQ.ret1 (h1 := .tmp (t := 2) rfl) ⟨_, ⟨rfl, rfl⟩, Am.auto⟩
theorem any_room {s0 : List Slot} (h : s0.length ≤ 72) : tot (DM s0 []) (pN 300).ino ≤ (pN 300).dc := by
  rw [tot_DM _ _ (by decide)]
  have h1 := has64 h
  show has (64 * s0.length) + 0 ≤ 50
  omega
end Go.Proofs.YtedmihapieleaaaGreat
end
section
namespace Go.Proofs.YtedmihapieleaaaGreat
open Go Go.Sort
theorem flatK_list {α : Type} [Inhabited α] {enc : α → List Value} {m : Nat} (hk : ∀ x, (enc x).length = m) (l : List α) : (flatK enc m l.toArray).toList = l.flatMap enc := by
  have hlen : ∀ l : List α, (l.flatMap enc).length = l.length * m := by
    intro l
    induction l with
    | nil => simp
    | cons x l ih => rw [List.flatMap_cons, List.length_append, hk, ih, List.length_cons, Nat.succ_mul]; omega
  have hget : ∀ (l : List α) (t : Nat), t < l.length * m → (l.flatMap enc)[t]? = (enc l[t / m]!)[t % m]? := by
    intro l
    induction l with
    | nil => intro t ht; simp at ht
    | cons x l ih =>
      intro t ht
      have hm : 0 < m := by
        rcases Nat.eq_zero_or_pos m with h | h
        · subst h; simp at ht
        · exact h
      rw [List.flatMap_cons]
      by_cases h : t < m
      · rw [List.getElem?_append_left (by rw [hk]; exact h), Nat.div_eq_of_lt h, Nat.mod_eq_of_lt h]
        rfl
      · rw [List.getElem?_append_right (by rw [hk]; omega), hk, ih _ (by rw [List.length_cons, Nat.succ_mul] at ht; omega)]
        have h1 : t = (t - m) + m := by omega
        have h2 : t / m = (t - m) / m + 1 := by
          conv => lhs; rw [h1]
          exact Nat.add_div_right _ hm
        have h3 : t % m = (t - m) % m := by
          conv => lhs; rw [h1]
          exact Nat.add_mod_right _ _
        rw [h2, h3]
        rfl
  apply List.ext_getElem?
  intro t
  by_cases ht : t < l.length * m
  · rw [hget l t ht]
    have h1 := get_flatK enc m l.toArray t (by simpa using ht)
    have hs : t < (flatK enc m l.toArray).size := by rw [size_flatK]; simpa using ht
    rw [getElem!_pos (flatK enc m l.toArray) t hs] at h1
    rw [Array.getElem?_toList, Array.getElem?_eq_getElem hs, h1]
    have hm : 0 < m := by
      rcases Nat.eq_zero_or_pos m with h | h
      · subst h; simp at ht
      · exact h
    have h4 : t % m < (enc l[t / m]!).length := by rw [hk]; exact Nat.mod_lt _ hm
    have e : l.toArray[t / m]! = l[t / m]! := by simp
    rw [e, getElem!_pos (enc l[t / m]!) (t % m) h4, List.getElem?_eq_getElem h4]
  · rw [List.getElem?_eq_none (l := l.flatMap enc) (by rw [hlen]; omega), List.getElem?_eq_none (by simp; omega)]
theorem flat_length {α : Type} {enc : α → List Value} {m : Nat} (hk : ∀ x, (enc x).length = m) (l : List α) : (l.flatMap enc).length = l.length * m := by
  induction l with
  | nil => simp
  | cons x l ih => rw [List.flatMap_cons, List.length_append, hk, ih, List.length_cons, Nat.succ_mul]; omega
section
variable {B : Base} {α : Type} [Inhabited α] {enc : α → List Value} {m : Nat}
theorem Sat.holdsK (hk : ∀ x, (enc x).length = m) {w : World} {M : List HP} {el g cap : Nat} {l : List α} (hs : Sat B w (rowR el m (.slice (some ⟨g, 0, none⟩) l.length cap) l.length (l.flatMap enc) :: M)) :
    HoldsK enc m w g 0 l.toArray ∧ g < w.heap.size := by
  obtain ⟨h1, h2⟩ := Sat.ownsRow hs
  rcases h2 with ⟨h2, _⟩ | ⟨g', cap', cur, h2, _, h3, h4, h5, h6, h7⟩
  · cases h2
  · injection h2 with h21 _ h22
    injection h21 with h21
    injection h21 with h21
    subst h21
    refine ⟨fun j hj => ?_, (Array.getElem?_eq_some_iff.1 h3).1⟩
    rw [size_flatK] at hj
    have hj' : j < l.length * m := by simpa using hj
    have hs : j < (flatK enc m l.toArray).size := by rw [size_flatK]; exact hj
    refine ⟨?_, by simp [World.frozen?, h3]⟩
    rw [cell_of h3, Nat.zero_add]
    have e1 : cur[j]? = (cur.toList.take (l.length * m))[j]? := by rw [List.getElem?_take, if_pos hj']; simp
    rw [e1, h7, ← flatK_list hk, Array.getElem?_toList, getElem!_pos (flatK enc m l.toArray) j hs]
    exact Array.getElem?_eq_getElem hs
theorem Sat.sortedK (hk : ∀ x, (enc x).length = m) {w : World} {M : List HP} {el g cap q : Nat} {os : Array Obj} {l l' : List α} (hl : l'.length = l.length) (hs : Sat B w (rowR el m (.slice (some ⟨g, 0, none⟩) l.length cap) l.length (l.flatMap enc) :: M)) :
    Sat B (sortWorldK enc m w g 0 q l'.toArray os) (rowR el m (.slice (some ⟨g, 0, none⟩) l.length cap) l.length (l'.flatMap enc) :: M) := by
  obtain ⟨h1, h2⟩ := Sat.ownsRow hs
  rcases h2 with ⟨h2, _⟩ | ⟨g', cap', cur, h2, _, h3, h4, h5, h6, h7⟩
  · cases h2
  · injection h2 with h21 _ h22
    injection h21 with h21
    injection h21 with h21
    subst h21
    subst h22
    have hgs := (Array.getElem?_eq_some_iff.1 h3).1
    have hheap : ∀ k, k < w.heap.size → (sortWorldK enc m w g 0 q l'.toArray os).heap[k]? = if g = k then some (.cells (putCells id 0 (flatK enc m l'.toArray) cur) el (0, 0)) else w.heap[k]? := by
      intro k hkk
      show (w.heap.modify g (onCells (putCells id 0 (flatK enc m l'.toArray))) ++ os)[k]? = _
      rw [Array.getElem?_append_left (by simpa using hkk), Array.getElem?_modify]
      by_cases hgk : g = k
      · subst hgk
        rw [if_pos rfl, if_pos rfl, h3]
        rfl
      · rw [if_neg hgk, if_neg hgk]
    refine Sat.rowGrown hs ⟨by rw [flat_length hk, hl], .inr ⟨g, cap, putCells id 0 (flatK enc m l'.toArray) cur, rfl, Nat.zero_le _, ?_, h4, h5, ?_, ?_⟩⟩ ⟨rfl, rfl, rfl, ?_, ?_⟩ (.inl rfl)
    · rw [hheap g hgs, if_pos rfl]
    · unfold putCells
      simp [h6]
    · rw [← flatK_list hk]
      have hfs : (flatK enc m l'.toArray).size = l.length * m := by rw [size_flatK]; simp [hl]
      apply List.ext_getElem?
      intro j
      rw [List.getElem?_take]
      by_cases hj : j < l.length * m
      · rw [if_pos hj]
        have hcur : j < cur.size := by
          rw [h6]
          exact Nat.lt_of_lt_of_le hj (Nat.mul_le_mul_right _ h4)
        unfold putCells
        rw [Array.getElem?_toList, Array.getElem?_toList, Array.getElem?_mapIdx, Array.getElem?_eq_getElem hcur, Option.map_some, if_pos ⟨Nat.zero_le _, by omega⟩, Nat.sub_zero, getElem!_pos (flatK enc m l'.toArray) j (by omega)]
        exact (Array.getElem?_eq_getElem _).symm
      · rw [if_neg hj, List.getElem?_eq_none (by rw [Array.length_toList]; omega)]
    · show w.heap.size ≤ (w.heap.modify g _ ++ os).size
      simp
    · intro k hkk hne
      rw [hheap k hkk, if_neg]
      intro hgk
      subst hgk
      exact hne rfl
end
def cmpT (a b : Bytes) : Int := if a < b then -1 else if a = b then 0 else 1
theorem cmpT_lt (a b : Bytes) : decide (cmpT a b < 0) = decide (a < b) := by
  unfold cmpT
  by_cases h : a < b
  · simp [h]
  · by_cases h2 : a = b
    · subst h2; simp [List.lt_irrefl]
    · simp [h, h2]
theorem swoT {α : Type} (f : α → Bytes) : SWO (ltOf fun x y : α => cmpT (f x) (f y)) where
  irrefl x := by
    show decide (cmpT (f x) (f x) < 0) = false
    rw [cmpT_lt]; exact decide_eq_false (List.lt_irrefl _)
  trans x y z h1 h2 := by
    have h1 : decide (cmpT (f x) (f y) < 0) = true := h1
    have h2 : decide (cmpT (f y) (f z) < 0) = true := h2
    show decide (cmpT (f x) (f z) < 0) = true
    rw [cmpT_lt] at *
    exact decide_eq_true (List.lt_trans (of_decide_eq_true h1) (of_decide_eq_true h2))
  ntrans x y z h1 h2 := by
    have h1 : decide (cmpT (f x) (f y) < 0) = false := h1
    have h2 : decide (cmpT (f y) (f z) < 0) = false := h2
    show decide (cmpT (f x) (f z) < 0) = false
    rw [cmpT_lt] at *
    refine decide_eq_false fun h => ?_
    have a1 : ¬ f x < f y := of_decide_eq_false h1
    have a2 : ¬ f y < f z := of_decide_eq_false h2
    have b1 : f y ≤ f x := a1
    have b2 : f z ≤ f y := a2
    exact (List.le_trans b2 b1) h
section
variable {P : Program} {B : Base} {n : Nat} {Q Q' : Exit → Act → World → Prop} {e : Env} {L : List HP} {ops : Array Oper} {l : List Oper}
variable {d : Nat} {ty : TypeId} {pos : String} {af : Array Edge} {x y z : Operand} {gd : Option (Nat × Bool)}
theorem Qt.slcArrLH {t el k b : Nat} {p q : Int} {kp kq : IntKind} (ht : arrOk P t el k 1 = true) (hx : evo e x = some (.pointer (some ⟨b, 0, none⟩)) := by rfl) (hy : evo e y = some (.int kp p) := by rfl) (hz : evo e z = some (.int kq q) := by rfl) (hp : 0 ≤ p ∧ p ≤ q := by omega) (hq : q ≤ k := by omega) (hk : p.toNat < k := by omega) :
    Qt P B n e L ⟨some d, .slice t x (some y) (some z) none, ty, pos, af, gd⟩ (.slice (some ⟨b, p.toNat, none⟩) (q.toNat - p.toNat) (k - p.toNat)) :=
  fun a w ha hs => by
    obtain ⟨hu, i, hi, hsz⟩ := arr_of ht
    have h0 : 0 ≤ q := by omega
    have h1 : ¬ k = p.toNat := by omega
    have h3 : p ≤ ((q.toNat : Nat) : Int) := by omega
    have h4 : p ≤ max q 0 := by omega
    simp [execOp, ha.eval hx, ha.eval hy, ha.eval hz, Instr.sliceAt, run_underlying hu, Instr.sureAddr, Instr.sliceBounds, Instr.sliceBound, asIntOf, sizeOf, typeInfo, hi, hsz, add_plain', hp.1, hq, h0, h1, h4]
theorem WL.slcArrLH {t el k b : Nat} {p q : Int} {kp kq : IntKind} (h : WL P B n ops l Q ((d, .slice (some ⟨b, p.toNat, none⟩) (q.toNat - p.toNat) (k - p.toNat)) :: e) L) (ht : arrOk P t el k 1 = true) (hx : evo e x = some (.pointer (some ⟨b, 0, none⟩)) := by rfl) (hy : evo e y = some (.int kp p) := by rfl) (hz : evo e z = some (.int kq q) := by rfl) (hp : 0 ≤ p ∧ p ≤ q := by omega) (hq : q ≤ k := by omega) (hk : p.toNat < k := by omega) (hd : Nat.ble (d + 1) n = true := by rfl) :
    WL P B n ops (⟨some d, .slice t x (some y) (some z) none, ty, pos, af, none⟩ :: l) Q e L := WL.pure h hd (Qt.slcArrLH ht hx hy hz hp hq hk)
end
theorem left_cons {es : Array MapEntry} {seen : Array Nat} {m : MapEntry} (hp : (es.toList.map (·.born)).Pairwise (· < ·)) (hm : m ∈ left es seen) : (left es seen).Perm (m :: left es (seen.push m.born)) := by
  have h1 : left es (seen.push m.born) = (left es seen).filter fun x => !(x.born == m.born) := by
    unfold left
    rw [List.filter_filter]
    apply List.filter_congr
    intro x _
    rw [Bool.eq_iff_iff]
    simp [Array.mem_push, and_comm]
  have hsub : ((left es seen).map (·.born)).Pairwise (· < ·) := by
    unfold left
    exact (hp.sublist (List.Sublist.map _ List.filter_sublist))
  rw [h1]
  generalize left es seen = l at hm hsub
  clear h1
  induction l with
  | nil => cases hm
  | cons x l ih =>
    simp only [List.map_cons, List.pairwise_cons] at hsub
    rcases List.mem_cons.1 hm with rfl | hm
    · rw [List.filter_cons_of_neg (by simp)]
      have : l.filter (fun x => !(x.born == m.born)) = l := by
        rw [List.filter_eq_self]
        intro y hy
        have := hsub.1 y.born (List.mem_map_of_mem hy)
        simp; omega
      rw [this]
    · have h2 := hsub.1 m.born (List.mem_map_of_mem hm)
      rw [List.filter_cons_of_pos (by simp; omega)]
      exact ((ih hm hsub.2).cons x).trans (List.Perm.swap m x _)
theorem left_nil (es : Array MapEntry) : left es #[] = es.toList := by
  unfold left
  rw [List.filter_eq_self]
  intro x _
  simp
theorem kput_new {κ α : Type} [DecidableEq κ] {l : List (κ × α)} {k : κ} {v : α} (h : kget l k = none) : kput l k v = l ++ [(k, v)] := by
  induction l with
  | nil => rfl
  | cons p l ih =>
    obtain ⟨a, b⟩ := p
    simp only [kget] at h
    split at h
    · cases h
    · rename_i hne
      simp only [kput, if_neg hne, ih h, List.cons_append]
theorem MapIs.mapped {κ β : Type} [DecidableEq κ] {enc : κ → Value} {es : Array MapEntry} {c : Nat} {kvs : List (κ × Value)} (h : MapIs enc es c kvs) (f : Value → Value → β) : (es.toList.map fun m => f m.key m.val) = kvs.map fun p => f (enc p.1) p.2 := by
  have hl : es.toList.length = kvs.length := by simpa using h.length
  apply List.ext_getElem?
  intro i
  have h1 : (es.toList.map (·.key))[i]? = (kvs.map fun p => enc p.1)[i]? := by rw [h.keys]
  have h2 : (es.toList.map (·.val))[i]? = (kvs.map (·.2))[i]? := by rw [h.vals]
  simp only [List.getElem?_map] at h1 h2 ⊢
  cases hi : es.toList[i]? with
  | none =>
    rw [hi] at h1
    cases hk : kvs[i]? with
    | none => rfl
    | some p => rw [hk] at h1; cases h1
  | some m =>
    rw [hi] at h1 h2
    cases hk : kvs[i]? with
    | none => rw [hk] at h1; cases h1
    | some p =>
      rw [hk] at h1 h2
      simp only [Option.map_some, Option.some.injEq] at h1 h2 ⊢
      rw [h1, h2]
end Go.Proofs.YtedmihapieleaaaGreat
end
section
namespace Go.Proofs.YtedmihapieleaaaGreat
open Go
theorem z70 : zeroOf Tryz.prog 70 = some (#[.string ⟨#[]⟩, .int .i64 0]) := by kernel_rfl
theorem so66 : sliceOk Tryz.prog 66 70 2 24 = true := by kernel_rfl
open Go.Shelf Go.Sort Go.RowKit
theorem kput_mem_same {κ α : Type} [DecidableEq κ] {l : List (κ × α)} {k k' : κ} {v u : α} (h : (k, v) ∈ kput l k' u) (hk : k = k') : v = u ∨ (k, v) ∈ l := by
  induction l with
  | nil =>
    simp only [kput, List.mem_singleton, Prod.mk.injEq] at h
    exact .inl h.2
  | cons p l ih =>
    obtain ⟨a, b⟩ := p
    simp only [kput] at h
    split at h
    · rcases List.mem_cons.1 h with h | h
      · injection h with _ h; exact .inl h
      · exact .inr (List.mem_cons_of_mem _ h)
    · rcases List.mem_cons.1 h with h | h
      · exact .inr (h ▸ List.mem_cons_self ..)
      · rcases ih h with h | h
        · exact .inl h
        · exact .inr (List.mem_cons_of_mem _ h)
theorem kput_mem_other {κ α : Type} [DecidableEq κ] {l : List (κ × α)} {k k' : κ} {v u : α} (h : (k, v) ∈ kput l k' u) (hk : k ≠ k') : (k, v) ∈ l := by
  induction l with
  | nil =>
    simp only [kput, List.mem_singleton, Prod.mk.injEq] at h
    exact absurd h.1 hk
  | cons p l ih =>
    obtain ⟨a, b⟩ := p
    simp only [kput] at h
    split at h
    · rename_i he
      rcases List.mem_cons.1 h with h | h
      · injection h with h _; exact absurd (h.trans he.symm) hk
      · exact List.mem_cons_of_mem _ h
    · rcases List.mem_cons.1 h with h | h
      · exact h ▸ List.mem_cons_self ..
      · exact List.mem_cons_of_mem _ (ih h)
def laysSF_ren : Go.Shelf.Ren := ⟨fun | 6 => 75 | 14 => 118 | 15 => 119 | 20 => 140 | 21 => 141 | 22 => 142 | 23 => 143 | 24 => 144 | 25 => 145 | 26 => 146 | 27 => 147 | 28 => 148 | 29 => 149 | 46 => 166 | 47 => 167 | 48 => 168 | 49 => 169 | 50 => 170 | 57 => 176 | n => n, fun | 0 => 0 | 3 => 3 | 4 => 4 | 5 => 5 | 9 => 9 | 22 => 66 | 24 => 70 | 25 => 131 | 39 => 170 | 45 => 195 | 46 => 196 | 50 => 200 | 53 => 203 | 55 => 138 | 66 => 212 | 70 => 132 | 76 => 219 | 77 => 47 | n => n, fun n => n⟩
theorem laysSF : SlLaysF0.n6 Tryz.prog laysSF_ren where
  mixed := by kernel_rfl
  f6 := ⟨ "slices.SortFunc[[]bollard/dir.Entry,bollard/dir.Entry]", by decide, Tryz.func75.trans (congrArg some (by kernel_rfl))⟩
  f14 := ⟨ "slices.pdqsortCmpFunc[bollard/dir.Entry]", by decide, Tryz.func118.trans (congrArg some (by kernel_rfl))⟩
  f15 := Tryz.func119.trans (congrArg some (by kernel_rfl))
  f20 := ⟨ "slices.insertionSortCmpFunc[bollard/dir.Entry]", by decide, Tryz.func140.trans (congrArg some (by kernel_rfl))⟩
  f21 := ⟨ "slices.heapSortCmpFunc[bollard/dir.Entry]", by decide, Tryz.func141.trans (congrArg some (by kernel_rfl))⟩
  f22 := ⟨ "slices.breakPatternsCmpFunc[bollard/dir.Entry]", by decide, Tryz.func142.trans (congrArg some (by kernel_rfl))⟩
  f23 := ⟨ "slices.choosePivotCmpFunc[bollard/dir.Entry]", by decide, Tryz.func143.trans (congrArg some (by kernel_rfl))⟩
  f24 := ⟨ "slices.reverseRangeCmpFunc[bollard/dir.Entry]", by decide, Tryz.func144.trans (congrArg some (by kernel_rfl))⟩
  f25 := ⟨ "slices.partialInsertionSortCmpFunc[bollard/dir.Entry]", by decide, Tryz.func145.trans (congrArg some (by kernel_rfl))⟩
  f26 := ⟨ "slices.partitionEqualCmpFunc[bollard/dir.Entry]", by decide, Tryz.func146.trans (congrArg some (by kernel_rfl))⟩
  f27 := ⟨ "slices.partitionCmpFunc[bollard/dir.Entry]", by decide, Tryz.func147.trans (congrArg some (by kernel_rfl))⟩
  f28 := Tryz.func148.trans (congrArg some (by kernel_rfl))
  f29 := Tryz.func149.trans (congrArg some (by kernel_rfl))
  f46 := ⟨ "slices.siftDownCmpFunc[bollard/dir.Entry]", by decide, Tryz.func166.trans (congrArg some (by kernel_rfl))⟩
  f47 := Tryz.func167.trans (congrArg some (by kernel_rfl))
  f48 := Tryz.func168.trans (congrArg some (by kernel_rfl))
  f49 := ⟨ "slices.medianAdjacentCmpFunc[bollard/dir.Entry]", by decide, Tryz.func169.trans (congrArg some (by kernel_rfl))⟩
  f50 := ⟨ "slices.medianCmpFunc[bollard/dir.Entry]", by decide, Tryz.func170.trans (congrArg some (by kernel_rfl))⟩
  f57 := ⟨ "slices.order2CmpFunc[bollard/dir.Entry]", by decide, Tryz.func176.trans (congrArg some (by kernel_rfl))⟩
  t0 := Tryz.underlying0
  a0 := Tryz.isAgg0
  z0 := Tryz.sizeOf0
  v0 := Tryz.zeroValue0
  t3 := Tryz.underlying3
  a3 := Tryz.isAgg3
  z3 := Tryz.sizeOf3
  v3 := Tryz.zeroValue3
  t4 := Tryz.underlying4
  a4 := Tryz.isAgg4
  z4 := Tryz.sizeOf4
  v4 := Tryz.zeroValue4
  t5 := Tryz.underlying5
  a5 := Tryz.isAgg5
  z5 := Tryz.sizeOf5
  v5 := Tryz.zeroValue5
  t9 := Tryz.underlying9
  a9 := Tryz.isAgg9
  z9 := Tryz.sizeOf9
  v9 := Tryz.zeroValue9
  t22 := Tryz.underlying66
  a22 := Tryz.isAgg66
  z22 := Tryz.sizeOf66
  v22 := Tryz.zeroValue66
  t25 := Tryz.underlying131
  a25 := Tryz.isAgg131
  z25 := Tryz.sizeOf131
  v25 := Tryz.zeroValue131
  t39 := Tryz.underlying170
  a39 := Tryz.isAgg170
  z39 := Tryz.sizeOf170
  v39 := Tryz.zeroValue170
  t45 := Tryz.underlying195
  a45 := Tryz.isAgg195
  z45 := Tryz.sizeOf195
  v45 := Tryz.zeroValue195
  t46 := Tryz.underlying196
  a46 := Tryz.isAgg196
  z46 := Tryz.sizeOf196
  v46 := Tryz.zeroValue196
  t50 := Tryz.underlying200
  a50 := Tryz.isAgg200
  z50 := Tryz.sizeOf200
  v50 := Tryz.zeroValue200
  t53 := Tryz.underlying203
  a53 := Tryz.isAgg203
  z53 := Tryz.sizeOf203
  v53 := Tryz.zeroValue203
  t55 := Tryz.underlying138
  a55 := Tryz.isAgg138
  z55 := Tryz.sizeOf138
  v55 := Tryz.zeroValue138
  t66 := Tryz.underlying212
  a66 := Tryz.isAgg212
  z66 := Tryz.sizeOf212
  v66 := Tryz.zeroValue212
  t70 := Tryz.underlying132
  a70 := Tryz.isAgg132
  z70 := Tryz.sizeOf132
  v70 := Tryz.zeroValue132
  t76 := Tryz.underlying219
  a76 := Tryz.isAgg219
  z76 := Tryz.sizeOf219
  v76 := Tryz.zeroValue219
  t77 := Tryz.underlying47
  a77 := Tryz.isAgg47
  z77 := Tryz.sizeOf47
  v77 := Tryz.zeroValue47
abbrev Ent := Bytes × Nat
def entL (x : Ent) : List Value := [sv x.1, nI x.2]
theorem readsRow {b el : Nat} {xs : List Value} : Reads (row b el xs) (some ⟨b, 0, none⟩) xs := by
  unfold row
  exact Reads.pt
theorem bdEnt (s : ByteArray) (i : Int) : BuildOk Tryz.prog 70 [(0, .string s), (1, .int .i64 i)] #[.string s, .int .i64 i] := fun w => by kernel_rfl
theorem bsEnt (s : ByteArray) (i : Int) : BuildSOk Tryz.prog 66 1 [(0, .agg #[.string s, .int .i64 i])] 70 #[.string s, .int .i64 i] := fun w => by kernel_rfl
theorem nanS (s : ByteArray) (w : World) : Calls Tryz.prog 120 #[.string s] w fun e w' => e = .returned (.bool false) ∧ w' = w := by
  go_enter Tryz.func120, Tryz.ntmps120
  go_wp2
  go_ret
  exact ⟨by simp, rfl⟩
theorem cmpS (x y : Bytes) (w : World) : Calls Tryz.prog 77 #[sv x, sv y] w fun e w' => e = .returned (.int .i64 (cmpT x y)) ∧ w' = w := by
  show Calls Tryz.prog 77 #[.string (bstr x), .string (bstr y)] w _
  have hn := fun s W => nanS s W
  have h1 : Op.bytesLess (bstr x).toList (bstr y).toList = decide (x < y) := by rw [bytesLess_eq, ByteArray.toList_eq, ByteArray.toList_eq]; rfl
  have h2 : ((bstr x).toList == (bstr y).toList) = decide (x = y) := by rw [ByteArray.toList_eq, ByteArray.toList_eq]; show (x == y) = _; by_cases h : x = y <;> simp [h]
  go_enter Tryz.func77, Tryz.ntmps77
  go_wp2_with (go_at_call 120; refine (hn _ _).mono ?_; rintro e w' ⟨rfl, rfl⟩)
  all_goals (go_ret; refine ⟨?_, rfl⟩; unfold cmpT; simp_all)
theorem entCmp (x y : Ent) (W : World) : Calls Tryz.prog 76 #[.agg (entL x).toArray, .agg (entL y).toArray] W fun e w' => e = .returned (.int .i64 (cmpT x.1 y.1)) ∧ ∃ q os', w' = grow (W.drewN q) os' := by
  have hcon := fun W' => cmpS x.1 y.1 W'
  show Calls Tryz.prog 76 #[.agg #[.string (bstr x.1), .int .i64 x.2], .agg #[.string (bstr y.1), .int .i64 y.2]] W _
  change ∀ W', Calls Tryz.prog 77 #[.string (bstr x.1), .string (bstr y.1)] W' _ at hcon
  generalize cmpT x.1 y.1 = r at hcon ⊢
  go_enter Tryz.func76, Tryz.ntmps76
  go_wp2_with (go_at_call 77; refine (hcon _).mono ?_; rintro e w' ⟨rfl, rfl⟩)
  go_ret
  exact ⟨rfl, 0, _, by rw [alloc_eq_grow, alloc_eq_grow, grow_grow]; rfl⟩
theorem entL_length (x : Ent) : (entL x).length = 2 := rfl
theorem entL_one (x : Ent) : ∀ v ∈ entL x, v.oneCell' = true := by
  intro v hv
  unfold entL at hv
  simp only [List.mem_cons, List.not_mem_nil, or_false] at hv
  rcases hv with rfl | rfl <;> rfl
theorem sortEnts {v : Value} {l : List Ent} (hl : l.length < 4611686018427387904) : Spec Tryz.prog 75 #[v, .func (.func 76) #[] #[]] [rowR 70 2 v l.length (l.flatMap entL)] fun F u M => ∃ l' : List Ent, (l'.Perm l ∧ l'.Pairwise fun a b => ¬ b.1 < a.1) ∧ M = rowR 70 2 v l.length (l'.flatMap entL) :: F := by
  intro B F w hs
  have hsh := Sat.ownsRow hs
  rcases hsh.2 with ⟨rfl, h0⟩ | ⟨g, cap, cur, rfl, _, _⟩
  · obtain rfl : l = [] := List.eq_nil_of_length_eq_zero h0
    have := AnyF.slices_SortFunc_none (P := Tryz.prog) laysSF none 0 (.func (.func 76) #[] #[]) w
    change Calls Tryz.prog 75 _ _ _ at this
    refine this.mono ?_
    rintro e w' ⟨rfl, rfl⟩
    exact ⟨_, _, rfl, ⟨[], ⟨List.Perm.refl _, List.Pairwise.nil⟩, rfl⟩, hs⟩
  · obtain ⟨hH, hg⟩ := Sat.holdsK entL_length hs
    have hcon := AnyQ.slices_SortFunc (P := Tryz.prog) laysSF 2 Tryz.isAgg70 Tryz.sizeOf70 entL entL_length entL_one (fun x y : Ent => cmpT x.1 y.1) (swoT fun x : Ent => x.1) 76 #[] g 0 cap l.toArray w (enters_of Tryz.func76 (by kernel_rfl) rfl) (fun _ _ _ _ x y => entCmp x y _) hH hg (by simpa using hl)
    change Calls Tryz.prog 75 #[.slice (some ⟨g, 0, none⟩) l.length cap, _] _ _ at hcon
    refine hcon.mono ?_
    rintro e w' ⟨rfl, d', q, os, hp, hso, rfl⟩
    obtain ⟨hsz, _, hperm⟩ := hp
    have hsz' : d'.size = l.length := by simpa using hsz
    have hperm' : d'.toList.Perm l := by
      have e1 : (d'.extract 0 l.toArray.size) = d' := by rw [← hsz]; simp
      have e2 : (l.toArray.extract 0 l.toArray.size) = l.toArray := by simp
      rw [e1, e2] at hperm
      exact hperm
    refine ⟨_, _, rfl, ⟨d'.toList, ⟨hperm', ?_⟩, rfl⟩, ?_⟩
    · rw [List.pairwise_iff_getElem]
      intro i j hi hj hij
      have h1 := hso i j (Nat.zero_le _) hij (by simpa [hsz'] using hj)
      have hi' : i < d'.size := by simpa using hi
      have hj' : j < d'.size := by simpa using hj
      rw [getElem!_pos d' i hi', getElem!_pos d' j hj'] at h1
      have h2 : decide (cmpT d'[j].1 d'[i].1 < 0) = false := h1
      rw [cmpT_lt] at h2
      simpa using of_decide_eq_false h2
    · have := Sat.sortedK (B := B) (q := q) (os := os) (l' := d'.toList) entL_length (by simpa using hsz') hs
      simpa using this
def entKV (k v : Value) : Ent := (match k with
  | .agg ks => (((ks.toList.map fun x => match x with
    | .int _ n => UInt8.ofNat n.toNat
    | _ => 0).drop 1).take (match ks.toList.head? with
    | some (.int _ n) => n.toNat
    | _ => 0))
  | _ => [], match v with
  | .agg xs => (match xs.toList.drop 1 with
    | .int _ n :: _ => n.toNat
    | _ => 0)
  | _ => 0)
theorem entKV_eq {nm : Bytes} (h : nm.length ≤ 50) (q i : Nat) : entKV (encK (keyK nm)) (foundV (64 * q) i) = (nm, i) := by
  have h1 : ((bvs (keyB nm)).map fun x => match x with
    | .int _ n => UInt8.ofNat n.toNat
    | _ => 0) = keyB nm := by
    unfold bvs
    rw [List.map_map]
    apply List.ext_getElem?
    intro j
    rw [List.getElem?_map]
    cases (keyB nm)[j]? with
    | none => rfl
    | some b => simp [bv]
  have h3 : (keyB nm).drop 1 = (nm ++ List.replicate 50 0).take 50 := by unfold keyB; rw [List.take_succ_cons]; rfl
  have h4 : (UInt8.ofNat nm.length).toNat = nm.length := by rw [UInt8.toNat_ofNat']; omega
  have h2 : (bvs (keyB nm)).head? = some (.int .u8 ((nm.length : Nat) : Int)) := by
    rw [List.head?_eq_getElem?]
    unfold bvs
    rw [List.getElem?_map, keyB_head]
    show some (bv (UInt8.ofNat nm.length)) = _
    unfold bv
    rw [h4]
  unfold entKV encK keyK foundV
  simp only [h1, h2, h3]
  refine Prod.ext ?_ ?_
  · show ((nm ++ List.replicate 50 0).take 50).take ((nm.length : Nat) : Int).toNat = nm
    rw [List.take_take, Int.toNat_natCast, Nat.min_eq_left h, List.take_append_of_le_length (Nat.le_refl _), List.take_length]
  · show ((i : Nat) : Int).toNat = i
    exact Int.toNat_natCast i
def entsS (sl : List Slot) : List Ent := sl.filterMap id
theorem kvF_ents {sl : List Slot} (hd : DirOk sl) : ∀ m, m ≤ sl.length → ((kvF sl m).map fun p => entKV (encK p.1) p.2) = entsS (sl.take m)
  | 0, _ => rfl
  | m + 1, hm => by
    have ih := kvF_ents hd m (by omega)
    have hlt : m < sl.length := by omega
    have hs : sl[m]? = some sl[m] := List.getElem?_eq_getElem hlt
    have ht : sl.take (m + 1) = sl.take m ++ [sl[m]] := List.take_succ_eq_append_getElem hlt
    have he : entsS (sl.take (m + 1)) = entsS (sl.take m) ++ entsS [sl[m]] := by unfold entsS; rw [ht, List.filterMap_append]
    rw [kvF, hs, he]
    obtain ⟨x, hx⟩ : ∃ x, sl[m] = x := ⟨_, rfl⟩
    rw [hx] at hs ⊢
    cases x with
    | none => show ((kvF sl m).map _) = _; rw [ih]; simp [entsS]
    | some x =>
      obtain ⟨nm, i⟩ := x
      have hnm := hd.nm _ _ _ hs
      have hno : kget (kvF sl m) (keyK nm) = none := by
        have key : ∀ k, k ≤ m → kget (kvF sl k) (keyK nm) = none := by
          intro k
          induction k with
          | zero => intro _; rfl
          | succ k ih2 =>
            intro hk
            have ih2 := ih2 (by omega)
            rw [kvF]
            cases hsk : sl[k]? with
            | none => exact ih2
            | some y =>
              cases y with
              | none => exact ih2
              | some y =>
                obtain ⟨n', i'⟩ := y
                show kget (kput (kvF sl k) (keyK n') (foundV (64 * k) i')) (keyK nm) = none
                rw [kget_put, if_neg, ih2]
                intro hkk
                have := keyK_inj hnm.1.2 (hd.nm _ _ _ hsk).1.2 hkk
                subst this
                have := hd.one _ _ _ _ _ hs hsk
                omega
        exact key m (Nat.le_refl _)
      show ((kput (kvF sl m) (keyK nm) (foundV (64 * m) i)).map _) = _
      rw [kput_new hno, List.map_append, ih]
      show _ ++ [entKV (encK (keyK nm)) (foundV (64 * m) i)] = _
      rw [entKV_eq hnm.1.2]
      rfl
theorem kvF_key {sl : List Slot} (hd : DirOk sl) {k : K51} {v : Value} : ∀ m, m ≤ sl.length → (k, v) ∈ kvF sl m → ∃ nm q i, k = keyK nm ∧ v = foundV (64 * q) i ∧ nm.length ≤ 50 ∧ 1 ≤ nm.length ∧ i < 4294967296
  | 0, _, h => by cases h
  | m + 1, hm, h => by
    rw [kvF] at h
    have hlt : m < sl.length := by omega
    rw [List.getElem?_eq_getElem hlt] at h
    have hs : sl[m]? = some sl[m] := List.getElem?_eq_getElem hlt
    obtain ⟨x, hx⟩ : ∃ x, sl[m] = x := ⟨_, rfl⟩
    rw [hx] at h hs
    cases x with
    | none => exact kvF_key hd m (by omega) h
    | some x =>
      obtain ⟨nm, i⟩ := x
      have hnm := hd.nm _ _ _ hs
      have h : (k, v) ∈ kput (kvF sl m) (keyK nm) (foundV (64 * m) i) := h
      by_cases hk : k = keyK nm
      · have h2 := kput_mem_same h hk
        rcases h2 with h2 | h2
        · exact ⟨nm, m, i, hk, h2, hnm.1.2, hnm.1.1, hnm.2⟩
        · exact kvF_key hd m (by omega) h2
      · exact kvF_key hd m (by omega) (kput_mem_other h hk)
theorem entsS_length {sl : List Slot} : (entsS sl).length ≤ sl.length := List.length_filterMap_le ..
theorem dText {nm : Bytes} (hn : nm.length ≤ 50) : Spec Tryz.prog 74 #[arrV (keyB nm)] [] fun F v M => v = sv nm ∧ M = F := by
  refine Spec.intro Tryz.func74 rfl rfl fun B F => ?_
  simp only [Tryz.ntmps74, List.cons_append, List.nil_append, env0, Nat.reduceAdd]
  have hk := keyB_length nm
  have h4 : (UInt8.ofNat nm.length).toNat = nm.length := by rw [UInt8.toNat_ofNat']; omega
  have hx0 : (bvs (keyB nm))[0]? = some (.int .u8 (nm.length : Int)) := by
    unfold bvs
    rw [List.getElem?_map, keyB_head]
    show some (bv (UInt8.ofNat nm.length)) = _
    unfold bv
    rw [h4]
  have h3 : ((bvs (keyB nm)).drop 1).take nm.length = bvs nm := by
    rw [← bvs_drop, ← bvs_take]
    have e : (keyB nm).drop 1 = (nm ++ List.replicate 50 0).take 50 := by unfold keyB; rw [List.take_succ_cons]; rfl
    rw [e, List.take_take, Nat.min_eq_left hn, List.take_append_of_le_length (Nat.le_refl _), List.take_length]
  refine WC.seq ?_
  refine WC.region ?_
  refine WL.boxL (us := bvs (keyB nm)) fun b1 => ?_
  refine WL.assign ?_
  refine WL.nil ?_
  refine WQ.next ?_
  refine WC.seq ?_
  refine WC.region ?_
  refine WL.idxA ?_ ar124
  refine WL.ldL (xs := bvs (keyB nm)) (i := 0) (v := .int .u8 (nm.length : Int)) ?_ sc5 hx0
  refine WL.addw ?_
  refine WL.cast (d := 5) (u := .int .u8 ((1 : Int) + (nm.length : Int))) rfl (congrArg (Value.int .u8) (IntWalk.u8_in _ (by omega))) ?_
  refine WL.slcArrLH ?_ ar124
  refine WL.cvtBS (xs := nm) (R := row b1 124 (bvs (keyB nm))) ?_ by33 st9 (by rw [← h3]; exact ((readsRow (b := b1) (el := 124) (xs := bvs (keyB nm))).drop 1).take nm.length) (by show nm.length = (1 + (nm.length : Int)).toNat - (1 : Int).toNat; omega)
  refine WL.assign ?_
  refine WL.nil ?_
  refine WQ.next ?_
  refine WC.ret (?_)
  exact WQ.ret1 (h1 := .tmp (t := 2) rfl) ⟨_, ⟨rfl, rfl⟩, Am.auto⟩
structure ListI (es : Array MapEntry) (seen : Array Nat) (acc : List MapEntry) : Prop where
  perm : (acc ++ left es seen).Perm es.toList
theorem ListI.start (es : Array MapEntry) : ListI es #[] [] := ⟨by rw [left_nil]; exact List.Perm.refl _⟩
theorem ListI.step {es : Array MapEntry} {seen : Array Nat} {acc : List MapEntry} (hp : (es.toList.map (·.born)).Pairwise (· < ·)) (h : ListI es seen acc) {m : MapEntry} (hm : m ∈ left es seen) : ListI es (seen.push m.born) (acc ++ [m]) := by
  refine ⟨?_⟩
  rw [List.append_assoc]
  exact ((left_cons hp hm).symm.append_left acc).trans h.perm
theorem ListI.few {es : Array MapEntry} {seen : Array Nat} {acc : List MapEntry} (h : ListI es seen acc) : acc.length ≤ es.size := by
  have := h.perm.length_eq
  rw [List.length_append, Array.length_toList] at this
  exact Nat.le_trans (Nat.le_add_right _ _) (Nat.le_of_eq this)
def entM (m : MapEntry) : Ent := entKV m.key m.val
theorem dList {s a c : Nat} {p : Pl} {F0 Fm : FM} {W d : Nat} {op : Bool} {sl : List Slot} (ho : PlOk p) (hF : Fm d = some (2, dirB sl)) (hd : DirOk sl) (hsz : sl.length ≤ 1104) :
    Spec Tryz.prog 39 #[.pointer (some ⟨s, 0, none⟩), nI d] [IN s a c p F0 Fm W op] fun G v M => ∃ u l, v = .tuple #[u, .int .i64 0] ∧ ((l : List Ent).Perm (entsS sl) ∧ l.Pairwise fun x y => ¬ y.1 < x.1) ∧ M = rowR 70 2 u l.length (l.flatMap entL) :: IN s a c p F0 Fm W op :: G := by
  refine Spec.intro Tryz.func39 rfl rfl fun B F => ?_
  simp only [Tryz.ntmps39, List.cons_append, List.nil_append, env0, Nat.reduceAdd]
  refine WC.seq ?_
  refine WC.region ?_
  refine WL.assign ?_
  refine WL.assign ?_
  refine WL.nil ?_
  refine WQ.next ?_
  refine WC.seq ?_
  refine WC.region ?_
  refine WL.move ?_
  refine WL.move ?_
  refine WL.call (hc := Tryz.call73) (sp := dNames (s := s) (a := a) (c := c) (p := p) (F0 := F0) (Fm := Fm) (W := W) (d := d) (op := op) ho hF hd hsz) (h := ?_)
  rintro _ _ ⟨mp, es, cl, rfl, hm, rfl⟩
  refine WL.move ?_
  refine WL.extract ?_
  refine WL.extract ?_
  refine WL.extract ?_
  refine WL.assign ?_
  refine WL.assign ?_
  refine WL.assign ?_
  refine WL.nil ?_
  refine WQ.next ?_
  refine WC.seq ?_
  refine WC.seq ?_
  refine WC.region ?_
  refine WL.move ?_
  refine WL.nei ?_
  refine WL.nil ?_
  refine WQ.next ?_
  refine WC.condF rfl rfl ?_
  refine WC.skip ?_
  refine WQ.next ?_
  refine WC.seq ?_
  refine WC.region ?_
  refine WL.assign ?_
  refine WL.emp (rowR.nil (e := 70) (size := 2) _) ?_
  refine WL.nil ?_
  refine WQ.next ?_
  refine WC.seq ?_
  refine WC.seq ?_
  refine WC.region ?_
  refine WL.move ?_
  have hkl : (kvF sl sl.length).length ≤ 1104 := by
    have h1 := congrArg List.length (kvF_ents hd sl.length (Nat.le_refl _))
    rw [List.length_map, List.take_length] at h1
    have h2 := entsS_length (sl := sl)
    omega
  have hes : es.size ≤ 1104 := by have := hm.length; omega
  refine WL.range mp117 fun it => ?_
  refine WL.nil ?_
  refine WQ.next ?_
  refine WC.block ?_
  refine WC.loopA (σ := Array Nat × Value × List MapEntry) (fun y => [(9, y.2.1), (23, .pointer (some ⟨it, 0, none⟩))]) (fun y => [pt it (.mapIter (some mp) cl y.1 cl), rowR 70 2 y.2.1 (y.2.2.map entM).length ((y.2.2.map entM).flatMap entL), pt mp (.map es cl), IN s a c p F0 Fm W op] ++ F) (fun y => ListI es y.1 y.2.2) (fun y => (left es y.1).length) (#[], .slice none 0 0, []) (ListI.start es) ?_
  rintro ⟨seen, u, acc⟩ hi
  refine WC.seq ?_
  refine WC.region ?_
  refine WL.next hm.lt (fun h0 => ?_) (fun m hmm => ?_)
  · have hpm : (acc.map entM).Perm (entsS sl) := by
      have h1 := hi.perm
      rw [h0, List.append_nil] at h1
      have h2 := h1.map entM
      rw [show es.toList.map entM = (kvF sl sl.length).map (fun p => entKV (encK p.1) p.2) from hm.mapped entKV, kvF_ents hd sl.length (Nat.le_refl _), List.take_length] at h2
      exact h2
    have hfew : acc.length ≤ es.size := hi.few
    refine WL.extract ?_
    refine WL.nil ?_
    refine WQ.next ?_
    refine WC.seq ?_
    refine WC.condF rfl rfl ?_
    refine WC.exit (WQ.thenExit (WQ.thenExit (WQ.blockExit (?_))))
    refine WQ.next ?_
    refine WC.seq ?_
    refine WC.region ?_
    refine WL.move ?_
    refine WL.call (hc := Tryz.call75) (sp := sortEnts (v := u) (l := acc.map entM) (by show (acc.map entM).length < _; rw [List.length_map]; omega)) (h := ?_)
    rintro _ _ ⟨l', ⟨hp', hs'⟩, rfl⟩
    refine WL.nil ?_
    refine WQ.next ?_
    refine WC.seq ?_
    refine WC.region ?_
    refine WL.move ?_
    refine WL.assign ?_
    refine WL.assign ?_
    refine WL.nil ?_
    refine WQ.next ?_
    refine WC.ret (?_)
    rw [← hp'.length_eq]
    exact WQ.ret2 (h1 := .tmp (t := 4) rfl) (h2 := .tmp (t := 5) rfl) ⟨_, ⟨u, l', rfl, ⟨hp'.trans hpm, hs'⟩, rfl⟩, Am.auto⟩
  · have hme := (List.mem_filter.1 hmm).1
    obtain ⟨k, hk, hkv⟩ := hm.entry hme
    obtain ⟨nm, q, i, rfl, hv, hn1, hn2, hi3⟩ := kvF_key hd sl.length (Nat.le_refl _) ((kget_mem hm.nodup).1 hkv)
    have hem : entM m = (nm, i) := by unfold entM; rw [hk, hv]; exact entKV_eq hn1 q i
    have hfew := (hi.step hm.born hmm).few
    rw [List.length_append] at hfew
    simp only [List.length_cons, List.length_nil] at hfew
    have hal : (acc.map entM).length = acc.length := List.length_map ..
    refine WL.extract ?_
    refine WL.nil ?_
    refine WQ.next ?_
    refine WC.seq ?_
    refine WC.condT rfl rfl ?_
    refine WC.skip ?_
    refine WQ.next ?_
    refine WC.block ?_
    refine WC.seq ?_
    refine WC.region ?_
    refine WL.entry hme hm.born ?_
    refine WL.extract ?_
    refine WL.cast (d := 27) (u := arrV (keyB nm)) rfl hk ?_
    refine WL.extract ?_
    refine WL.cast (d := 28) (u := .agg #[nI (64 * q), nI i]) rfl hv ?_
    refine WL.allocL (us := bvs (List.replicate 51 0)) key0 rfl fun b10 => ?_
    refine WL.alloc z121 fun b11 => ?_
    refine WL.stLA (xs := bvs (List.replicate 51 0)) (us := bvs (keyB nm)) ?_ agg124 (bvsK_length nm) rfl (keyB_single nm)
    refine WL.stV ?_ agg121
    refine WL.nil ?_
    refine WQ.next ?_
    refine WC.draw ([row b10 124 (bvs (keyB nm)), pt b11 (.cells #[nI (64 * q), nI i] 121 (0, 0))]) [] 9 #[false, false, false, false, false, false, false, false, false] mixed (by kernel_rfl) NoPanic.autoJ ?_
    refine WD.take (i := 0) #[true, false, false, false, false, false, false, false, false] rfl (by kernel_rfl) (Qt.move ) ?_
    refine WD.take (i := 1) #[true, true, false, false, false, false, false, false, false] rfl (by kernel_rfl) (Qt.ldW (xs := bvs (keyB nm)) agg124 (bvsK_length nm)) ?_
    refine WD.take (i := 3) #[true, true, false, true, false, false, false, false, false] rfl (by kernel_rfl) (Qt.fa fo121_1) ?_
    refine WD.take (i := 4) #[true, true, false, true, true, false, false, false, false] rfl (by kernel_rfl) (Qt.ld sc3) ?_
    refine WD.one (i := 2) #[true, true, true, true, true, false, false, false, false] rfl (by kernel_rfl) fun hnp => ?_
    refine WL.call (hc := Tryz.call74) (sp := dText hn1) (h := ?_)
    rintro _ _ ⟨rfl, rfl⟩
    refine WL.nil (WQ.wd hnp (.inl Am.auto) ?_)
    refine WD.take (i := 5) #[true, true, true, true, true, true, false, false, false] rfl (by kernel_rfl) (Qt.build (bdEnt _ _)) ?_
    refine WD.one (i := 6) #[true, true, true, true, true, true, true, false, false] rfl (by kernel_rfl) fun hnp => ?_
    refine WL.buildS (fun b35 => ?_) (bsEnt _ _)
    refine WL.nil (WQ.wd hnp (.inl Am.auto) ?_)
    refine WD.one (i := 7) #[true, true, true, true, true, true, true, true, false] rfl (by kernel_rfl) fun hnp => ?_
    refine WL.append (m := 1) so66 (by decide) (by repeat (first | exact .here | apply Rem.there | apply Repl.there | apply Mem.there)) Reads.pt (by repeat (first | exact .here | apply Rem.there | apply Repl.there | apply Mem.there)) rfl (by intro x hx; simp only [List.mem_cons, List.not_mem_nil, or_false] at hx; rcases hx with rfl | rfl <;> rfl) (by show (acc.map entM).length + 1 ≤ maxLen; unfold maxLen; omega) (by show ((acc.map entM).length + 1) * _ ≤ _; omega) ⟨_, z70, rfl⟩ (fun u2 hu2 => ?_)
    refine WL.nil (WQ.wd hnp (.inl Am.auto) ?_)
    refine WD.take (i := 8) #[true, true, true, true, true, true, true, true, true] rfl (by kernel_rfl) (Qt.assign ) ?_
    refine WD.done (by kernel_rfl) ?_
    refine WQ.blockNormal ?_
    refine WQ.to (A := rowR 70 2 u2 ((acc.map entM).length + 1) ((acc.map entM).flatMap entL ++ entL (nm, i))) (A' := rowR 70 2 u2 ((acc ++ [m]).map entM).length (((acc ++ [m]).map entM).flatMap entL)) (fun h hh => by
      rw [List.map_append, List.map_cons, List.map_nil, hem, List.length_append, List.flatMap_append]
      simp only [List.flatMap_cons, List.flatMap_nil, List.append_nil]
      exact hh) ?_
    exact WQ.back (seen.push m.born, u2, acc ++ [m]) (hi.step hm.born hmm) (left_push hmm)
end Go.Proofs.YtedmihapieleaaaGreat
end
section
namespace Go.Proofs.YtedmihapieleaaaGreat
open Go
theorem sl66 : Tryz.prog.underlying 66 = some (.slice 70) := by kernel_rfl
end Go.Proofs.YtedmihapieleaaaGreat
end
section
namespace Go.Proofs.YtedmihapieleaaaGreat
open Go
theorem z4 : zeroOf Tryz.prog 4 = some (#[.bool false]) := by kernel_rfl
theorem so71 : sliceOk Tryz.prog 71 4 1 1 = true := by kernel_rfl
structure SI (th : List Bool) (sl : List Slot) : Prop where
  len : th.length = 12
  ok : DirOk sl
  has : ∀ (q : Nat) (nm : Bytes) (i : Nat), sl[q]? = some (some (nm, i)) → ∃ k, k < 12 ∧ th[k]? = some true ∧ nm = nameN k
  all : ∀ k, th[k]? = some true → ∃ q : Nat, sl[q]? = some (some (nameN k, 1))
theorem SI.no {th : List Bool} {sl : List Slot} (h : SI th sl) {K : Nat} (hK : K < 12) (hf : th[K]? = some false) : ∀ (q i : Nat), sl[q]? ≠ some (some (nameN K, i)) := by
  intro q i hq
  obtain ⟨k, h1, h2, h3⟩ := h.has _ _ _ hq
  have := nameN_inj K (by omega) k (by omega) h3
  subst this
  rw [hf] at h2; cases h2
theorem ents_set {sl : List Slot} {q : Nat} (h : q < sl.length) (x : Slot) : (entsS (setS sl q x)).length + (if sl[q].isSome then 1 else 0) = (entsS sl).length + (if x.isSome then 1 else 0) := by
  have e0 : sl = sl.take q ++ (sl[q] :: sl.drop (q + 1)) := by rw [List.getElem_cons_drop, List.take_append_drop]
  have e1 : (entsS sl).length = (entsS (sl.take q)).length + ((if sl[q].isSome then 1 else 0) + (entsS (sl.drop (q + 1))).length) := by
    conv => lhs; rw [e0]
    unfold entsS
    rw [List.filterMap_append, List.length_append]
    congr 1
    cases hx : sl[q] with
    | none => simp
    | some y => simp; omega
  have e2 : (entsS (setS sl q x)).length = (entsS (sl.take q)).length + ((if x.isSome then 1 else 0) + (entsS (sl.drop (q + 1))).length) := by
    unfold setS entsS
    rw [List.filterMap_append, List.length_append]
    congr 1
    cases x with
    | none => simp
    | some y => simp; omega
  omega
theorem ents_full {sl : List Slot} (h : freeF sl sl.length = none) : (entsS sl).length = sl.length := by
  have hno := freeF_some.freeF_none h
  clear h
  induction sl with
  | nil => rfl
  | cons x sl ih =>
    have h0 := hno 0 (by simp)
    have ih := ih (fun j hj => by have := hno (j + 1) (by simpa using hj); simpa using this)
    cases x with
    | none => exact absurd rfl h0
    | some y =>
      show (entsS sl).length + 1 = sl.length + 1
      omega
theorem SI.gone {th : List Bool} {sl : List Slot} (h : SI th sl) {K q : Nat} {j : Nat} (hK : K < 12) (hq : sl[q]? = some (some (nameN K, j))) : SI (th.set K false) (setS sl q none) ∧ (entsS (setS sl q none)).length + 1 = (entsS sl).length ∧ (setS sl q none).length = sl.length := by
  have hlt : q < sl.length := by
    by_cases h : q < sl.length
    · exact h
    · rw [List.getElem?_eq_none (by omega)] at hq; cases hq
  have hat : sl[q] = some (nameN K, j) := by rw [List.getElem?_eq_getElem hlt] at hq; exact Option.some.inj hq
  have hle : q ≤ sl.length := by omega
  refine ⟨⟨by rw [List.length_set]; exact h.len, h.ok.gone hle, fun r nm i hr => ?_, fun k hk => ?_⟩, ?_, ?_⟩
  · by_cases hrq : r = q
    · subst hrq; rw [setS_same hle] at hr; injection hr with hr; cases hr
    · rw [setS_other hle hrq] at hr
      obtain ⟨k, h1, h2, h3⟩ := h.has _ _ _ hr
      refine ⟨k, h1, ?_, h3⟩
      rw [List.getElem?_set_ne, h2]
      intro hkk
      subst hkk
      subst h3
      exact hrq (h.ok.one _ _ _ _ _ hr hq)
  · have hkK : k ≠ K := by
      rintro rfl
      rw [List.getElem?_set_self (by rw [h.len]; exact hK)] at hk; cases hk
    rw [List.getElem?_set_ne (Ne.symm hkK)] at hk
    obtain ⟨r, hr⟩ := h.all k hk
    refine ⟨r, ?_⟩
    rw [setS_other hle, hr]
    rintro rfl
    rw [hq] at hr
    injection hr with hr
    injection hr with hr
    injection hr with hr _
    have hk12 : k < 12 := by
      by_cases hk12 : k < 12
      · exact hk12
      · rw [List.getElem?_eq_none (by rw [h.len]; omega)] at hk; cases hk
    exact hkK (nameN_inj k (by omega) K (by omega) hr.symm)
  · have := ents_set hlt none
    rw [hat] at this
    simpa using this
  · rw [setS_length hle]; omega
theorem SI.comes {th : List Bool} {sl : List Slot} (h : SI th sl) {K : Nat} (hK : K < 12) (hf : th[K]? = some false) : SI (th.set K true) (setS sl (freeS sl) (some (nameN K, 1))) ∧ (entsS (setS sl (freeS sl) (some (nameN K, 1)))).length = (entsS sl).length + 1 ∧
    (setS sl (freeS sl) (some (nameN K, 1))).length = max sl.length ((entsS sl).length + 1) := by
  have hle := freeS_le sl
  have hno := h.no hK hf
  refine ⟨⟨by rw [List.length_set]; exact h.len, h.ok.set hle (nameOk_len (nameN_ok K (by omega))) (by decide) (fun r j _ => hno r j), fun r nm i hr => ?_, fun k hk => ?_⟩, ?_⟩
  · by_cases hrq : r = freeS sl
    · subst hrq
      rw [setS_same hle] at hr
      injection hr with hr
      injection hr with hr
      injection hr with hr _
      exact ⟨K, hK, List.getElem?_set_self (by rw [h.len]; exact hK), hr.symm⟩
    · rw [setS_other hle hrq] at hr
      obtain ⟨k, h1, h2, h3⟩ := h.has _ _ _ hr
      refine ⟨k, h1, ?_, h3⟩
      rw [List.getElem?_set_ne, h2]
      rintro rfl
      rw [hf] at h2; cases h2
  · by_cases hkK : k = K
    · subst hkK; exact ⟨freeS sl, setS_same hle _⟩
    · rw [List.getElem?_set_ne (Ne.symm hkK)] at hk
      obtain ⟨r, hr⟩ := h.all k hk
      have hlt : r < sl.length := by
        by_cases h : r < sl.length
        · exact h
        · rw [List.getElem?_eq_none (by omega)] at hr; cases hr
      refine ⟨r, ?_⟩
      rw [setS_other hle, hr]
      rintro rfl
      -- a free slot has no name
      unfold freeS at hr
      cases hfr : freeF sl sl.length with
      | none => unfold freeS at hlt; rw [hfr] at hlt; exact absurd hlt (by simp)
      | some q =>
        rw [hfr] at hr
        have := (freeF_some hfr).2.1
        rw [show (some q).getD sl.length = q from rfl, this] at hr
        injection hr with hr
        cases hr
  · cases hfr : freeF sl sl.length with
    | none =>
      have hfs : freeS sl = sl.length := by unfold freeS; rw [hfr]; rfl
      have hfu := ents_full hfr
      have e1 : setS sl (freeS sl) (some (nameN K, 1)) = sl ++ [some (nameN K, 1)] := by
        unfold setS
        rw [hfs, List.take_length, List.drop_eq_nil_of_le (by omega)]
      rw [e1]
      unfold entsS at hfu ⊢
      rw [List.filterMap_append, List.length_append, List.length_append, hfu]
      refine ⟨rfl, ?_⟩
      show sl.length + 1 = max sl.length (sl.length + 1)
      omega
    | some q =>
      have hfs : freeS sl = q := by unfold freeS; rw [hfr]; rfl
      obtain ⟨h1, h2, _⟩ := freeF_some hfr
      have hat : sl[q] = none := by rw [List.getElem?_eq_getElem h1] at h2; exact Option.some.inj h2
      have h3 := ents_set h1 (some (nameN K, 1))
      rw [hat] at h3
      have h4 : (entsS (setS sl q (some (nameN K, 1)))).length = (entsS sl).length + 1 := by simpa using h3
      have h5 := setS_length (sl := sl) (q := q) (by omega) (some (nameN K, 1))
      have h6 := entsS_length (sl := setS sl q (some (nameN K, 1)))
      rw [hfs]
      refine ⟨h4, ?_⟩
      rw [h5]
      omega
theorem SI.start : SI (List.replicate 12 false) [] := by
  refine ⟨rfl, DirOk.nil, fun q nm i h => (by cases h), fun k h => ?_⟩
  rw [List.getElem?_replicate] at h
  split at h <;> cases h
theorem add_room {sl : List Slot} (h : sl.length ≤ 71) : tot (DM sl []) (pN 300).ino + has (max (64 * sl.length) (64 * freeS sl + 64)) ≤ (pN 300).dc + has (64 * sl.length) := by
  rw [tot_DM _ _ (by decide)]
  have h0 := freeS_le sl
  have h1 := has64 (n := max sl.length (freeS sl + 1)) (by omega)
  have hmx : max (64 * sl.length) (64 * freeS sl + 64) = 64 * max sl.length (freeS sl + 1) := by omega
  rw [hmx]
  show has (64 * sl.length) + 0 + has (64 * max sl.length (freeS sl + 1)) ≤ 50 + has (64 * sl.length)
  omega
def boolsV (l : List Bool) : List Value := l.map Value.bool
theorem boolsV_get {l : List Bool} {k : Nat} {b : Bool} (h : l[k]? = some b) : (boolsV l)[k]? = some (.bool b) := by
  unfold boolsV
  rw [List.getElem?_map, h]; rfl
theorem boolsV_set (l : List Bool) (k : Nat) (b : Bool) : (boolsV l).set k (.bool b) = boolsV (l.set k b) := by
  unfold boolsV
  rw [List.map_set]
theorem boolsV_length (l : List Bool) : (boolsV l).length = l.length := List.length_map ..
set_option maxHeartbeats 2000000 in
theorem lawSlots {R : HP} {A : Option Addr} {m c0 : Nat} {xs : List Int} (hR0 : xs = [] ∨ Reads R A (ints xs)) (hm : xs.length = m) (hxs : ∀ x ∈ xs, -9223372036854775808 ≤ x ∧ x ≤ 9223372036854775807) (hbig : m ≤ 9223372036854775807) : Spec Tryz.prog 13 #[.slice A m c0] [R] fun F v M => v = .bool true ∧ M = R :: F := by
  refine Spec.intro Tryz.func13 rfl rfl fun B F => ?_
  simp only [Tryz.ntmps13, List.cons_append, List.nil_append, env0, Nat.reduceAdd]
  by_cases hlong : 60 < m
  · refine WC.seq ?_
    refine WC.region ?_
    refine WL.assign ?_
    refine WL.nil ?_
    refine WQ.next ?_
    refine WC.seq ?_
    refine WC.seq ?_
    refine WC.region ?_
    refine WL.move ?_
    refine WL.lenS ?_ sl22
    refine WL.gtr ?_
    refine WL.nil ?_
    refine WQ.next ?_
    refine WC.condT rfl (congrArg Value.bool (by first | (simp; done) | (simp; omega) | omega)) ?_
    refine WC.seq ?_
    refine WC.region ?_
    refine WL.call (hc := Tryz.call32) (sp := l9Awake) (h := ?_)
    rintro _ _ ⟨rfl, rfl⟩
    refine WL.assign ?_
    refine WL.nil ?_
    refine WQ.next ?_
    refine WC.ret (WQ.thenRet (?_))
    exact WQ.ret1 (h1 := .tmp (t := 2) rfl) ⟨_, ⟨rfl, rfl⟩, Am.auto⟩
  · have hpn : PlIs (pN 300) := pN_is (by decide) (by decide)
    have ho : PlOk (pN 300) := hpn.ok
    refine WC.seq ?_
    refine WC.region ?_
    refine WL.assign ?_
    refine WL.nil ?_
    refine WQ.next ?_
    refine WC.seq ?_
    refine WC.seq ?_
    refine WC.region ?_
    refine WL.move ?_
    refine WL.lenS ?_ sl22
    refine WL.gtr ?_
    refine WL.nil ?_
    refine WQ.next ?_
    refine WC.condF rfl (congrArg Value.bool (by first | (simp; done) | (simp; omega) | omega)) ?_
    refine WC.skip ?_
    refine WQ.next ?_
    refine WC.seq ?_
    refine WC.region ?_
    refine WL.call (hc := Tryz.call33) (sp := l9Fresh (p := pN 300) (pN_is (n := 300) (by decide) (by decide)) rfl (by decide)) (h := ?_)
    rintro _ _ ⟨c, a, s, rfl, rfl⟩
    refine WL.move ?_
    refine WL.extract ?_
    refine WL.extract ?_
    refine WL.extract ?_
    refine WL.extract ?_
    refine WL.assign ?_
    refine WL.assign ?_
    refine WL.assign ?_
    refine WL.assign ?_
    refine WL.nil ?_
    refine WQ.next ?_
    refine WC.seq ?_
    refine WC.seq ?_
    refine WC.region ?_
    refine WL.move ?_
    refine WL.not ?_
    refine WL.nil ?_
    refine WQ.next ?_
    refine WC.condF rfl rfl ?_
    refine WC.skip ?_
    refine WQ.next ?_
    refine WC.seq ?_
    refine WC.region ?_
    refine WL.mkSN 12 z4 so71 (by decide) (by decide) fun b28 => ?_
    refine WL.assign ?_
    refine WL.nil ?_
    refine WQ.next ?_
    refine WC.seq ?_
    refine WC.region ?_
    refine WL.assign ?_
    refine WL.nil ?_
    refine WQ.next ?_
    refine WC.seq ?_
    refine WC.region ?_
    refine WL.assign ?_
    refine WL.nil ?_
    refine WQ.next ?_
    refine WC.seq ?_
    refine WC.seq ?_
    refine WC.region ?_
    refine WL.assign ?_
    refine WL.nil ?_
    refine WQ.next ?_
    refine WC.block ?_
    refine WC.to (A := buf b28 4 12 (List.replicate 12 (.bool false))) (A' := buf b28 4 12 (boolsV (List.replicate 12 false))) (fun h hh => hh) ?_
    refine WC.loopA (σ := Nat × List Bool × List Slot) (fun y => [(0, .slice A m c0), (5, .pointer (some ⟨s, 0, none⟩)), (7, .slice (some ⟨b28, 0, none⟩) 12 12), (8, nI (entsS y.2.2).length), (9, nI y.2.2.length), (10, nI y.1)]) (fun y => [R, buf b28 4 12 (boolsV y.2.1), IN s a c (pN 300) (DM [] []) (DM y.2.2 []) (8 * y.1) true] ++ F) (fun y => y.1 ≤ m ∧ SI y.2.1 y.2.2 ∧ y.2.2.length ≤ y.1) (fun y => m - y.1) (0, List.replicate 12 false, []) ⟨Nat.zero_le _, SI.start, Nat.le_refl _⟩ ?_
    rintro y hy
    obtain ⟨i, th, sl⟩ := y
    obtain ⟨him, hsi, hsl⟩ := hy
    simp only at him hsi hsl ⊢
    refine WC.seq ?_
    refine WC.seq ?_
    refine WC.region ?_
    refine WL.move ?_
    refine WL.move ?_
    refine WL.lenS ?_ sl22
    refine WL.lss ?_
    refine WL.nil ?_
    refine WQ.next ?_
    refine WC.cond rfl (fun hb => ?_) (fun hb => ?_)
    · have hlt : i < m := by have h : (i : Int) < (m : Int) := of_decide_eq_true hb; omega
      have hil : i < xs.length := by omega
      have hR := hR0.resolve_left (by intro h; subst h; simp at hil)
      rcases A with _ | ⟨ab, ao, asp⟩
      · exact absurd hR (fun h => by have h2 : ints xs = [] := h; simp [ints] at h2; subst h2; simp at hil)
      have hsp : asp = none := hR.1
      subst hsp
      have hil2 : ((i : Nat) : Int).toNat < xs.length := by omega
      have hxr := hxs _ (List.getElem_mem hil2)
      obtain ⟨z, hz⟩ : ∃ z, xs[((i : Nat) : Int).toNat] = z := ⟨_, rfl⟩
      rw [hz] at hxr
      have htm := Int.tmod_lt_of_pos z (show (0 : Int) < 12 by decide)
      have htm2 := Int.lt_tmod_of_pos z (show (0 : Int) < 12 by decide)
      refine WC.skip ?_
      refine WQ.next ?_
      refine WC.seq ?_
      refine WC.block ?_
      refine WC.seq ?_
      refine WC.region ?_
      refine WL.move ?_
      refine WL.move ?_
      refine WL.idx1 ?_ so22
      refine WL.ldR (i := ((i : Nat) : Int).toNat) ?_ sc3 hR ((ints_get hil2).trans (by rw [hz]))
      refine WL.remT ?_
      refine WL.assign ?_
      refine WL.nil ?_
      refine WQ.next ?_
      refine WC.seq ?_
      refine WC.seq ?_
      refine WC.region ?_
      refine WL.move ?_
      refine WL.lss ?_
      refine WL.nil ?_
      refine WQ.next ?_
      refine WC.join (σ := Nat) (fun K => [(0, .slice (some ⟨ab, ao, none⟩) m c0), (5, .pointer (some ⟨s, 0, none⟩)), (7, .slice (some ⟨b28, 0, none⟩) 12 12), (8, nI (entsS sl).length), (9, nI sl.length), (10, nI i), (11, nI K)]) (fun K => [R, buf b28 4 12 (boolsV th), IN s a c (pN 300) (DM [] []) (DM sl []) (8 * i) true] ++ F) (fun K => K < 12) ?_ ?_
      · by_cases hneg : z.tmod 12 < 0
        · refine WC.condT rfl (congrArg Value.bool (by first | (simp; done) | (simp; omega) | omega)) ?_
          refine WC.region ?_
          refine WL.move ?_
          refine WL.neg ?_
          refine WL.assign ?_
          refine WL.nil ?_
          refine WQ.cast (d := 11) (u := nI (-(z.tmod 12)).toNat) rfl (congrArg (Value.int .i64) (by omega)) ?_
          exact WQ.joined ((-(z.tmod 12)).toNat) (by omega)
        · refine WC.condF rfl (congrArg Value.bool (by first | (simp; done) | (simp; omega) | omega)) ?_
          refine WC.skip ?_
          refine WQ.cast (d := 11) (u := nI (z.tmod 12).toNat) rfl (congrArg (Value.int .i64) (by omega)) ?_
          exact WQ.joined ((z.tmod 12).toNat) (by omega)
      · rintro K hK
        have hKl : K < th.length := by rw [hsi.len]; exact hK
        have hKk : ((K : Nat) : Int).toNat = K := by omega
        obtain ⟨bK, hbK⟩ : ∃ bK, th[K]? = some bK := ⟨_, List.getElem?_eq_getElem hKl⟩
        have hnok := nameN_ok K (by omega)
        refine WQ.next ?_
        refine WC.seq ?_
        refine WC.seq ?_
        refine WC.region ?_
        refine WL.move ?_
        refine WL.move ?_
        refine WL.idx1 ?_ so71
        refine WL.ldR (i := ((K : Nat) : Int).toNat) ?_ sc4 Reads.buf (by rw [hKk]; exact boolsV_get hbK)
        refine WL.nil ?_
        refine WQ.next ?_
        refine WC.join (σ := List Slot × Nat) (fun z => [(0, .slice (some ⟨ab, ao, none⟩) m c0), (5, .pointer (some ⟨s, 0, none⟩)), (7, .slice (some ⟨b28, 0, none⟩) 12 12), (8, nI z.2), (9, nI sl.length), (10, nI i), (11, nI K)]) (fun z => [R, buf b28 4 12 (boolsV th), IN s a c (pN 300) (DM [] []) (DM z.1 []) (8 * (i + 1)) true] ++ F) (fun z => SI (th.set K (!bK)) z.1 ∧ (entsS z.1).length = z.2 ∧ z.1.length = max sl.length z.2 ∧ z.2 ≤ sl.length + 1) ?_ ?_
        · cases bK
          · have hno := hsi.no hK hbK
            obtain ⟨hsi2, hen, hle2⟩ := hsi.comes hK hbK
            have hfs := freeS_le sl
            have hel := entsS_length (sl := sl)
            refine WC.condF rfl rfl ?_
            refine WC.seq ?_
            refine WC.seq ?_
            refine WC.region ?_
            refine WL.move ?_
            refine WL.move ?_
            refine WL.call (hc := Tryz.call35) (sp := l9Name (i := K) (by omega)) (h := ?_)
            rintro _ _ ⟨rfl, rfl⟩
            refine WL.call (hc := Tryz.call38) (sp := dRemoveNo (s := s) (a := a) (c := c) (p := pN 300) (F0 := DM [] []) (Fm := DM sl []) (W := 8 * i) (d := 0) (nm := nameN K) (sl := sl) ho hnok (DM_0 _ _) hsi.ok (by omega) hno) (h := ?_)
            rintro _ _ ⟨rfl, rfl⟩
            refine WL.nei ?_
            refine WL.move ?_
            refine WL.gT ?_
            refine WL.move ?_
            refine WL.gT ?_
            refine WL.move ?_
            refine WL.gT ?_
            refine WL.call (hc := Tryz.call35) (sp := l9Name (i := K) (by omega)) (h := ?_)
            rintro _ _ ⟨rfl, rfl⟩
            refine WL.gT ?_
            refine WL.call (hc := Tryz.call34) (sp := dAdd (s := s) (a := a) (c := c) (p := pN 300) (F0 := DM [] []) (Fm := DM sl []) (W := 8 * i) (d := 0) (nm := nameN K) (sl := sl) ho hnok (DM_0 _ _) hsi.ok (by omega) hno (i := 1) (by decide) (.inl (by decide)) (by omega) (add_room (by omega))) (h := ?_)
            rintro _ _ ⟨rfl, rfl⟩
            rw [DM_upd0]
            refine WL.gT ?_
            refine WL.nei ?_
            refine WL.pickF ?_
            refine WL.nil ?_
            refine WQ.next ?_
            refine WC.condF rfl rfl ?_
            refine WC.skip ?_
            refine WQ.next ?_
            refine WC.region ?_
            refine WL.move ?_
            refine WL.add ?_
            refine WL.assign ?_
            refine WL.nil ?_
            refine WQ.cast (d := 8) (u := nI ((entsS sl).length + 1)) rfl (congrArg (Value.int .i64) (by omega)) ?_
            refine WQ.to (A := IN s a c (pN 300) (DM [] []) (DM (setS sl (freeS sl) (some (nameN K, 1))) []) (8 * i + 8) true) (A' := IN s a c (pN 300) (DM [] []) (DM (setS sl (freeS sl) (some (nameN K, 1))) []) (8 * (i + 1)) true) (fun h hh => hh) ?_
            exact WQ.joined (setS sl (freeS sl) (some (nameN K, 1)), (entsS sl).length + 1) ⟨hsi2, hen, hle2, by show (entsS sl).length + 1 ≤ sl.length + 1; omega⟩
          · obtain ⟨q, hq⟩ := hsi.all K hbK
            obtain ⟨hsi2, hen, hle2⟩ := hsi.gone hK hq
            have hel := entsS_length (sl := sl)
            refine WC.condT rfl rfl ?_
            refine WC.seq ?_
            refine WC.seq ?_
            refine WC.region ?_
            refine WL.move ?_
            refine WL.move ?_
            refine WL.call (hc := Tryz.call35) (sp := l9Name (i := K) (by omega)) (h := ?_)
            rintro _ _ ⟨rfl, rfl⟩
            refine WL.call (hc := Tryz.call34) (sp := dAddExist (s := s) (a := a) (c := c) (p := pN 300) (F0 := DM [] []) (Fm := DM sl []) (W := 8 * i) (d := 0) (nm := nameN K) (sl := sl) (i := nI 1) ho hnok (DM_0 _ _) hsi.ok (by omega) hq) (h := ?_)
            rintro _ _ ⟨rfl, rfl⟩
            refine WL.nei ?_
            refine WL.move ?_
            refine WL.gT ?_
            refine WL.move ?_
            refine WL.gT ?_
            refine WL.move ?_
            refine WL.gT ?_
            refine WL.call (hc := Tryz.call35) (sp := l9Name (i := K) (by omega)) (h := ?_)
            rintro _ _ ⟨rfl, rfl⟩
            refine WL.gT ?_
            refine WL.call (hc := Tryz.call38) (sp := dRemove (s := s) (a := a) (c := c) (p := pN 300) (F0 := DM [] []) (Fm := DM sl []) (W := 8 * i) (d := 0) (nm := nameN K) (sl := sl) (q := q) (j := 1) ho hnok (DM_0 _ _) hsi.ok (by omega) hq (.inl (by decide)) (any_room (by omega))) (h := ?_)
            rintro _ _ ⟨rfl, rfl⟩
            rw [DM_upd0]
            refine WL.gT ?_
            refine WL.nei ?_
            refine WL.pickF ?_
            refine WL.nil ?_
            refine WQ.next ?_
            refine WC.condF rfl rfl ?_
            refine WC.skip ?_
            refine WQ.next ?_
            refine WC.region ?_
            refine WL.move ?_
            refine WL.sub ?_
            refine WL.assign ?_
            refine WL.nil ?_
            refine WQ.cast (d := 8) (u := nI ((entsS sl).length - 1)) rfl (congrArg (Value.int .i64) (by omega)) ?_
            refine WQ.to (A := IN s a c (pN 300) (DM [] []) (DM (setS sl q none) []) (8 * i + 8) true) (A' := IN s a c (pN 300) (DM [] []) (DM (setS sl q none) []) (8 * (i + 1)) true) (fun h hh => hh) ?_
            exact WQ.joined (setS sl q none, (entsS sl).length - 1) ⟨hsi2, by show (entsS (setS sl q none)).length = (entsS sl).length - 1; omega, by show (setS sl q none).length = max sl.length ((entsS sl).length - 1); omega, by show (entsS sl).length - 1 ≤ sl.length + 1; omega⟩
        · rintro ⟨sl2, n2⟩ ⟨hsi2, hen, hle2, hn2⟩
          simp only at hsi2 hen hle2 hn2 ⊢
          have hs2 : sl2.length ≤ 60 := by have := entsS_length (sl := sl); omega
          have hok2 := hsi2.ok
          have hdl : (dirB sl2).length = 64 * sl2.length := dirB_length sl2
          refine WQ.next ?_
          refine WC.seq ?_
          refine WC.region ?_
          refine WL.move ?_
          refine WL.move ?_
          refine WL.move ?_
          refine WL.move ?_
          refine WL.idx1 ?_ so71
          refine WL.ldR (i := ((K : Nat) : Int).toNat) ?_ sc4 Reads.buf (by rw [hKk]; exact boolsV_get hbK)
          refine WL.not ?_
          refine WL.idx1 ?_ so71
          refine WL.stB (i := 0 + ((K : Nat) : Int).toNat) (xs := boolsV th) ?_ sc4 (by rw [hKk, Nat.zero_add, boolsV_length]; exact hKl)
          refine WL.to (A := buf b28 4 12 ((boolsV th).set (0 + ((K : Nat) : Int).toNat) (.bool (!bK)))) (A' := buf b28 4 12 (boolsV (th.set K (!bK)))) (fun h hh => by rw [hKk, Nat.zero_add, boolsV_set] at hh; exact hh) ?_
          refine WL.nil ?_
          refine WQ.next ?_
          refine WC.seq ?_
          refine WC.seq ?_
          refine WC.region ?_
          refine WL.move ?_
          refine WL.move ?_
          refine WL.gtr ?_
          refine WL.nil ?_
          refine WQ.next ?_
          refine WC.join (σ := Unit) (fun _ => [(0, .slice (some ⟨ab, ao, none⟩) m c0), (5, .pointer (some ⟨s, 0, none⟩)), (7, .slice (some ⟨b28, 0, none⟩) 12 12), (8, nI n2), (9, nI sl2.length), (10, nI i)]) (fun _ => [R, buf b28 4 12 (boolsV (th.set K (!bK))), IN s a c (pN 300) (DM [] []) (DM sl2 []) (8 * (i + 1)) true] ++ F) (fun _ => True) ?_ ?_
          · by_cases hmost : sl.length < n2
            · refine WC.condT rfl (congrArg Value.bool (by first | (simp; done) | (simp; omega) | omega)) ?_
              refine WC.region ?_
              refine WL.move ?_
              refine WL.assign ?_
              refine WL.nil ?_
              refine WQ.cast (d := 9) (u := nI sl2.length) rfl (congrArg (Value.int .i64) (by omega)) ?_
              exact WQ.joined () trivial
            · refine WC.condF rfl (congrArg Value.bool (by first | (simp; done) | (simp; omega) | omega)) ?_
              refine WC.skip ?_
              refine WQ.cast (d := 9) (u := nI sl2.length) rfl (congrArg (Value.int .i64) (by omega)) ?_
              exact WQ.joined () trivial
          · rintro _ _
            refine WQ.next ?_
            refine WC.seq ?_
            refine WC.region ?_
            refine WL.move ?_
            refine WL.call (hc := Tryz.call29) (sp := nStat (s := s) (a := a) (c := c) (p := pN 300) (F0 := DM [] []) (F := DM sl2 []) (W := 8 * (i + 1)) (op := true) (i := 0) (f := (2, dirB sl2)) ho (DM_0 _ _)) (h := ?_)
            rintro _ _ ⟨rfl, rfl⟩
            refine WL.move ?_
            refine WL.extract ?_
            refine WL.extract ?_
            refine WL.alloc z55 fun b12 => ?_
            refine WL.stV ?_ agg55
            refine WL.assign ?_
            refine WL.nil ?_
            refine WQ.next ?_
            refine WC.seq ?_
            refine WC.region ?_
            refine WL.move ?_
            refine WL.call (hc := Tryz.call39) (sp := dList (s := s) (a := a) (c := c) (p := pN 300) (F0 := DM [] []) (Fm := DM sl2 []) (W := 8 * (i + 1)) (d := 0) (op := true) (sl := sl2) ho (DM_0 _ _) hok2 (by omega)) (h := ?_)
            rintro _ _ ⟨u, l, rfl, ⟨hlp, hls⟩, rfl⟩
            have hll := hlp.length_eq
            refine WL.fact (rowR_shape (el := 70) (size := 2) (v := u) (k := l.length) (xs := l.flatMap entL)) (fun ⟨A3, cc, hu, hR3, hc1, hc2, hlen⟩ => ?_)
            subst hu
            refine WL.move ?_
            refine WL.extract ?_
            refine WL.extract ?_
            refine WL.assign ?_
            refine WL.assign ?_
            refine WL.nil ?_
            refine WQ.next ?_
            refine WC.seq ?_
            refine WC.region ?_
            refine WL.move ?_
            refine WL.nei ?_
            refine WL.move ?_
            refine WL.gT ?_
            refine WL.move ?_
            refine WL.gT ?_
            refine WL.nei ?_
            refine WL.pickF ?_
            refine WL.move ?_
            refine WL.gT ?_
            refine WL.fa ?_ fo55_1
            refine WL.gT ?_
            refine WL.ld ?_ sc3
            refine WL.gT ?_
            refine WL.move ?_
            refine WL.gT ?_
            refine WL.mul ?_
            refine WL.gT ?_
            refine WL.nei ?_
            refine WL.pickF ?_
            refine WL.move ?_
            refine WL.cast (d := 111) (u := .bool false) rfl (congrArg Value.bool (by first | (simp; done) | (simp; omega) | omega)) ?_
            refine WL.gT ?_
            refine WL.move ?_
            refine WL.gT ?_
            refine WL.lenS ?_ sl66
            refine WL.gT ?_
            refine WL.move ?_
            refine WL.gT ?_
            refine WL.nei ?_
            refine WL.pickF ?_
            refine WL.nil ?_
            refine WQ.next ?_
            refine WC.condF rfl (congrArg Value.bool (by first | (simp; done) | (simp; omega) | omega)) ?_
            refine WC.skip ?_
            refine WQ.blockNormal ?_
            refine WQ.next ?_
            refine WC.region ?_
            refine WL.move ?_
            refine WL.add ?_
            refine WL.assign ?_
            refine WL.nil ?_
            refine WQ.cast (d := 10) (u := nI (i + 1)) rfl (congrArg (Value.int .i64) (by omega)) ?_
            subst hen
            exact WQ.back (i + 1, th.set K (!bK), sl2) ⟨by show i + 1 ≤ m; omega, hsi2, by show sl2.length ≤ i + 1; have := entsS_length (sl := sl); omega⟩ (by show m - (i + 1) < m - i; omega)
    · refine WC.exit (WQ.thenExit (WQ.thenExit (WQ.blockExit (?_))))
      refine WQ.next ?_
      refine WC.seq ?_
      refine WC.region ?_
      refine WL.call (hc := Tryz.call32) (sp := l9Awake) (h := ?_)
      rintro _ _ ⟨rfl, rfl⟩
      refine WL.assign ?_
      refine WL.nil ?_
      refine WQ.next ?_
      refine WC.ret (?_)
      exact WQ.ret1 (h1 := .tmp (t := 2) rfl) ⟨_, ⟨rfl, rfl⟩, Am.auto⟩
end Go.Proofs.YtedmihapieleaaaGreat
end
section
namespace Go.Proofs.YtedmihapieleaaaGreat
open Go.ChangeShapes Go.WideShapes Go.ChangeAt Go.RowKit
set_option linter.unusedVariables false
theorem gaOwn : ownKnob Tryz.prog.godebug = none := by kernel_rfl
theorem gaLaid : laidOutB Tryz.prog = true := by kernel_rfl
theorem gaCells3 : Tryz.prog.cellsOf 3 = 1 := by kernel_rfl
theorem gaWalk (A : Option Addr) (m c0 : Nat) (xs : List Int) (w : World) (hR : xs = [] ∨ Reads (whole w) A (ints xs)) (hm : xs.length = m) (hxs : ∀ x ∈ xs, -9223372036854775808 ≤ x ∧ x ≤ 9223372036854775807) (hbig : m ≤ 9223372036854775807) :
    Calls Tryz.prog 13 #[.slice A m c0] w fun e w' => e = .returned (.bool true) ∧ Below w.heap.size w w' := by
  refine (lawSlots (c0 := c0) hR hm hxs hbig (Base.of w) [] w (Sat.wholeOf w)).mono ?_
  rintro e w' ⟨v, M, rfl, ⟨rfl, rfl⟩, hs⟩
  exact ⟨rfl, hs.belowOld .here⟩
set_option maxRecDepth 100000 in
theorem gaLifted (os : Os) (started : os.Started) (H : Type) (enc : TypeId × Value → H) :
    ReturnsInHanded {} Tryz.checked os 13 .any (Rows.dirSlotsSpec.pre6 enc Tryz.prog Tryz.f13 Rows.dirSlotsRow.domain false) (Rows.dirSlotsSpec.post enc Tryz.prog Tryz.f13 false true false false) := by
  refine returnsInHanded_of_change (C := Tryz.checked) gaOwn started (by kernel_rfl) Tryz.func13
    (ChangeSpec.witness6 (enc := enc) (C := Tryz.checked) false ⟨#[], #[.slice none 0 0], []⟩ 8 (by kernel_rfl) (by kernel_rfl) (by kernel_rfl) (by kernel_rfl)) ?_
  intro W base args ds gs before hval0 hW hcnd _
  have hval : ∀ (j : Nat) t v, Tryz.f13.params[j]? = some t → args[j]? = some v → Value.okWide Tryz.prog W .any base t v := hval0
  have hW' := hW
  obtain ⟨p, q, hA0, hV, rfl, hfz, hnd⟩ := hW
  have hA : DataW.TrodAll enc Tryz.prog W 0 (fun _ => true) true Tryz.f13.params.toList args.toList ds p := hA0
  rw [Tryz.params13] at hA hval
  obtain ⟨v0, d0, rfl, rfl, h0⟩ := trodAll_one hA
  obtain ⟨rfl, rfl⟩ := trodVars_none hV
  obtain ⟨a0, len, cap, rfl⟩ := okWide_slice Tryz.underlying22 (hval 0 22 v0 rfl rfl)
  have h0k := h0
  obtain ⟨fuel0, hf⟩ := h0
  clear hA0 hval0
  simp only [List.append_nil] at hW'
  have hlt : ∀ x ∈ p, x.block < W.heap.size := fun x hx => by simpa using hW'.lt x hx
  have hargs : ∀ (W' : World), Below W.heap.size W W' → DataW.Trod enc Tryz.prog W' 0 (fun b => decide (b < W.heap.size)) true 22 (.slice a0 len cap) d0 p :=
    fun W' hn => Below.trod gaLaid (by kernel_rfl) (of_decide_eq_true (by kernel_rfl)) h0k hn hlt
  have hwalk : Calls Tryz.prog 13 #[.slice a0 len cap] W fun e w' => e = .returned (.bool true) ∧ Below W.heap.size W w' := by
    rcases open_ints Tryz.underlying22 Tryz.underlying3 gaCells3 hf with ⟨hcs, hx⟩ | ⟨a, len', cap', zs, hcs, _, hl, hm, hz, hx, hcell, hwz⟩
    · simp [Value.cells] at hcs
      obtain ⟨rfl, rfl, rfl⟩ := hcs
      exact gaWalk none 0 0 [] W (.inl rfl) rfl (fun x hx => by cases hx) (by decide)
    · simp [Value.cells] at hcs
      obtain ⟨rfl, rfl, rfl⟩ := hcs
      simp only [if_true] at hz
      have hxr : ∀ x ∈ zs.take len, -9223372036854775808 ≤ x ∧ x ≤ 9223372036854775807 := fun x hx => by
        have := hwz x (List.mem_of_mem_take hx)
        simp [Lit.wf, IntKind.min, IntKind.max, IntKind.bits, IntKind.signed] at this
        omega
      have hlen : (zs.take len).length = len := by rw [List.length_take]; omega
      have hbig : len ≤ 9223372036854775807 := by have : maxLen ≤ 9223372036854775807 := by decide
                                                  omega
      by_cases hl0 : len = 0
      · subst hl0
        exact gaWalk (some a) 0 cap [] W (.inl rfl) rfl (fun x hx => by cases hx) (by decide)
      · obtain ⟨b, off, spot⟩ := a
        have hspot : spot = none := by simpa [Addr.add] using World.cell?_spot (hcell 0 (by omega))
        subst hspot
        refine gaWalk _ len cap (zs.take len) W (.inr ?_) hlen hxr hbig
        have hc0 := hcell 0 (by omega)
        rw [add_plain] at hc0
        obtain ⟨cs, e, fr, hblk⟩ : ∃ cs e fr, W.heap[b]? = some (.cells cs e fr) := by
          unfold World.cell? at hc0
          simp only at hc0
          cases hb : W.heap[b]? with
          | none => rw [hb] at hc0; simp at hc0
          | some o =>
            rw [hb] at hc0
            cases o <;> first | exact ⟨_, _, _, rfl⟩ | simp at hc0
        refine Reads.whole hblk fun i hi => ?_
        have hi' : i < len := by rw [ints, List.length_map, hlen] at hi; exact hi
        have h1 := hcell i (by omega)
        rw [add_plain, cell_of hblk] at h1
        rw [h1, ints_get (by omega)]
        simp [List.getD, show i < zs.length by omega]
  refine hwalk.mono fun e W' ⟨he, hB⟩ => ?_
  subst he
  refine ⟨_, rfl, _, _, _, [], p, [], by simpa using hW', ?_, ?_, ?_, hB.frame _, fun h => by cases h⟩
  · exact trodAll_cons_mk (shut_bool Tryz.underlying4 _) trodAll_mk0
  · exact trodAll_mk1 (hargs W' hB)
  · exact rfl
theorem dirSlots_holds : Rows.DirSlotsSaid :=
  OpenClaim.holds_of_wide 13 Tryz.f13 rfl rfl rfl rfl rfl rfl rfl ⟨rfl, rfl, rfl, rfl, rfl⟩ rfl rfl rfl rfl rfl (by kernel_rfl) Tryz.func13 (by kernel_rfl)
    (of_decide_eq_true (by kernel_rfl)) (by unfold Func.isWrapper; first | (rw [if_pos (by decide +kernel)]; kernel_rfl) | (rw [if_neg (by decide +kernel)]; exact ⟨rfl, rfl⟩))
    (fun os started H enc _ => gaLifted os started H enc)
end Go.Proofs.YtedmihapieleaaaGreat
end
