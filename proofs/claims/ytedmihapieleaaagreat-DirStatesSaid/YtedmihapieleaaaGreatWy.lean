/- Walks of package inode: give. -/
import Derived.Test.YtedmihapieleaaaGreatFa
import Derived.Test.YtedmihapieleaaaGreatWx
import Derived.KernelRfl
set_option linter.unusedVariables false
set_option linter.unusedSimpArgs false
namespace Go.Proofs.YtedmihapieleaaaGreat
open Go

def gS (d m k : Nat) : Nat → Bool := fun l => decide (l < d) || (decide (k ≤ l) && decide (l < m)) || (decide (l = 200) && decide (10 < m))
theorem gS_iff {d m k l : Nat} : gS d m k l = true ↔ l < d ∨ (k ≤ l ∧ l < m) ∨ (l = 200 ∧ 10 < m) := by simp [gS, or_assoc]
structure GiL (p : Pl) (V V1 : Nat → Bytes) (nd : NF) (i : Nat) (x x1 : Nd) (D D1 : List Nat) (size k : Nat) (S : Nat → Bool) : Prop where
  inv : Inv p V1 (updF nd i (some (x1, S)))
  kp : Kp p V V1 nd i
  kd : x1.kd = x.kd
  sz : x1.sz = x.sz
  cn : cnt V1 p.bm p.dc + k = cnt V p.bm p.dc
  old : ∀ q, q < size → fb V1 x1 q = fb V x q
  dk : Dk p D1
  wt : wt p D1 = wt p D
theorem GiL.step {p : Pl} {V V1 : Nat → Bytes} {nd : NF} {i : Nat} {x x1 x2 : Nd} {D D1 : List Nat} {size k c b : Nat} {S S' : Nat → Bool} (h0 : Inv p V nd) (ho : PlOk p) (h : GiL p V V1 nd i x x1 D D1 size k S) (hSc : S c = true) (hb : ptr V1 x1 c = p.da + b)
    (hx : x2 = x1 ∧ 10 ≤ c ∧ c ≠ 200 ∨ c < 10 ∧ x2 = ⟨x1.kd, x1.sz, x1.bl.set c 0⟩ ∨ c = 200 ∧ x2 = ⟨x1.kd, x1.sz, x1.bl.set 10 0⟩ ∧ ∀ l, S l = true → l < 10 ∨ l = 200) (hS : ∀ l, S' l = true ↔ S l = true ∧ l ≠ c)
    (hlow : ∀ q, q < size → q / 512 < 138 ∧ S' (q / 512) = true) : GiL p V (setD V1 p.bm b false) nd i x x2 D (insD D1 (p.bm + b / 4096)) size (k + 1) S' := by
  obtain ⟨h1, h2, h3⟩ := giveStp h.inv ho (updF_same ..) hSc hb hx hS
  have hmp := ho.mapAt h2
  have hlo := ho.lo
  have hwt := (wt_ins p D1 (p.bm + b / 4096)).2.1 hmp
  refine ⟨?_, h.kp.trans h1.kp h0.sok (fun j hj => updF_other _ _ hj), h1.kd.trans h.kd, h1.sz.trans h.sz, ?_, fun q hq => ?_, h.dk.ins (by omega) (by omega), hwt.trans h.wt⟩
  · have := h1.inv
    rwa [updF_updF] at this
  · have e1 : cnt (setD V1 p.bm b false) p.bm p.dc + 1 = cnt V1 p.bm p.dc := cnt_false h2 h3 fun l hl => dig_setD h.inv.len _ _ _ _
    have := h.cn
    omega
  · obtain ⟨k1, k2⟩ := hlow q hq
    rw [h1.fb k1 ((hS _).1 k2).1 k2, h.old q hq]

theorem inGive {s c a : Nat} {p : Pl} {V0 V : Nat → Bytes} {D : List Nat} {nd : NF} {i b size : Nat} {x : Nd} (h : Inv p V nd) (ho : PlOk p) (hi : nd i = some (x, stdS (dat x.sz))) (hdk : Dk p D) (hs1 : size ≤ x.sz) (hs2 : x.sz ≤ 70656) (hrm : Rm p D 1) :
    Spec Tryz.prog 67 #[.pointer (some ⟨s, 0, none⟩), .pointer (some ⟨b, 0, none⟩), nI size] [pt s (stO c a p), pt a (alO c p), TR c p.n V0 V D true, row b 92 (ndL x)] fun F v M => ∃ x' V' D', GiL p V V' nd i x x' D D' size (has x.sz - has size) (stdS (dat size)) ∧ v = okV ∧ M = [pt s (stO c a p), pt a (alO c p), TR c p.n V0 V' D' true, row b 92 (ndL x')] ++ F := by
  refine Spec.intro Tryz.func67 rfl rfl fun B F => ?_
  simp only [Tryz.ntmps67, List.cons_append, List.nil_append, env0, Nat.reduceAdd]
  have hlo := ho.lo
  have hpd := ho.dat
  have hd2 := dat_le hs2
  have hdm := dat_mono hs1
  have hgi : GiL p V V nd i x x D D size 0 (gS (dat size) (dat x.sz) (dat size)) := by
    refine ⟨?_, Kp.refl _ _ _ _, rfl, rfl, rfl, fun _ _ => rfl, hdk, rfl⟩
    have he : gS (dat size) (dat x.sz) (dat size) = stdS (dat x.sz) := by
      funext l
      rw [Bool.eq_iff_iff, gS_iff, stdS_iff]
      omega
    rw [he, updF_self hi]
    exact h
  refine WC.seq ?_
  refine WC.region ?_
  refine WL.assign ?_
  refine WL.nil ?_
  refine WQ.next ?_
  refine WC.seq ?_
  refine WC.seq ?_
  refine WC.region ?_
  refine WL.move ?_
  refine WL.call (hc := Tryz.call101) (sp := inData (k := size) (by omega)) (h := ?_)
  rintro _ _ ⟨rfl, rfl⟩
  refine WL.assign ?_
  refine WL.nil ?_
  refine WQ.next ?_
  refine WC.block ?_
  refine WC.loopA (σ := Nat × Nd × (Nat → Bytes) × List Nat) (fun y => [(0, .pointer (some ⟨s, 0, none⟩)), (1, .pointer (some ⟨b, 0, none⟩)), (2, nI size), (7, nI y.1)]) (fun y => [pt s (stO c a p), pt a (alO c p), TR c p.n V0 y.2.2.1 y.2.2.2 true, row b 92 (ndL y.2.1)] ++ F) (fun y => dat size ≤ y.1 ∧ y.1 ≤ dat x.sz ∧ GiL p V y.2.2.1 nd i x y.2.1 D y.2.2.2 size (y.1 - dat size) (gS (dat size) (dat x.sz) y.1)) (fun y => dat x.sz - y.1) (dat size, x, V, D) ⟨Nat.le_refl _, hdm, by show GiL p V V nd i x x D D size (dat size - dat size) _; rw [Nat.sub_self]; exact hgi⟩ ?_
  rintro ⟨k, x1, V1, D1⟩ hy
  obtain ⟨hk1, hk2, hL⟩ := hy
  simp only at hk1 hk2 hL
  have hfx1 := hL.inv.fits i x1 _ (updF_same ..)
  have hbl1 := hfx1.bl
  have hszg : (ndL x1)[1]? = some (nI x.sz) := by rw [← hL.sz]; rfl
  refine WC.seq ?_
  refine WC.seq ?_
  refine WC.region ?_
  refine WL.move ?_
  refine WL.move ?_
  refine WL.nilCheck ?_
  refine WL.fa ?_ fo92_1
  refine WL.ldL (xs := ndL x1) (i := 1) ?_ sc3 hszg
  refine WL.call (hc := Tryz.call101) (sp := inData (k := x.sz) (by omega)) (h := ?_)
  rintro _ _ ⟨rfl, rfl⟩
  refine WL.lss ?_
  refine WL.nil ?_
  refine WQ.next ?_
  refine WC.cond rfl (fun hb => ?_) (fun hb => ?_)
  · have hlt : k < dat x.sz := by have := of_decide_eq_true hb; omega
    have hSk : gS (dat size) (dat x.sz) k k = true := gS_iff.2 (.inr (.inl ⟨Nat.le_refl _, hlt⟩))
    have hrk := hL.inv.rng i x1 _ k (updF_same ..) hSk
    obtain ⟨bk, hbk⟩ : ∃ bk, ptr V1 x1 k = p.da + bk := ⟨ptr V1 x1 k - p.da, by omega⟩
    have hV200 : 10 ≤ k → 245 ≤ x1.bl.getD 10 0 ∧ x1.bl.getD 10 0 < p.n := fun h10 => by
      have := hL.inv.rng i x1 _ 200 (updF_same ..) (gS_iff.2 (.inr (.inr ⟨rfl, by omega⟩)))
      rw [ptr_200] at this
      omega
    have hroom : Room D1 := hL.dk.room (c := 0) (hrm.mono (by have := hL.wt; omega))
    have hbd : bk < p.dc := by omega
    have hdg : dig V1 p.bm bk = true := (hL.inv.map bk hbd).2 ⟨i, x1, _, k, updF_same .., hSk, hbk⟩
    have hS : ∀ l, gS (dat size) (dat x.sz) (k + 1) l = true ↔ gS (dat size) (dat x.sz) k l = true ∧ l ≠ k := fun l => by rw [gS_iff, gS_iff]; omega
    have hlow : ∀ q, q < size → q / 512 < 138 ∧ gS (dat size) (dat x.sz) (k + 1) (q / 512) = true := fun q hq => by
      have h1 : q / 512 < dat size := by unfold dat; omega
      exact ⟨by omega, gS_iff.2 (.inl h1)⟩
    by_cases h10 : k < 10
    · refine WC.skip ?_
      refine WQ.next ?_
      refine WC.seq ?_
      refine WC.block ?_
      refine WC.seq ?_
      refine WC.region ?_
      refine WL.move ?_
      refine WL.move ?_
      refine WL.nilCheck ?_
      refine WL.ldW (xs := ndL x1) ?_ agg92 (ndL_length hbl1)
      refine WL.move ?_
      refine WL.call (hc := Tryz.call62) (sp := inBlock (x := x1) (k := k) (V0 := V0) (V := V1) (D := D1) (op := true) hbl1 (by omega) hV200) (h := ?_)
      rintro _ _ ⟨rfl, rfl⟩
      rw [hbk]
      simp only [List.cons_append, List.nil_append]
      refine WL.move ?_
      refine WL.extract ?_
      refine WL.extract ?_
      refine WL.assign ?_
      refine WL.assign ?_
      refine WL.nil ?_
      refine WQ.next ?_
      refine WC.seq ?_
      refine WC.seq ?_
      refine WC.region ?_
      refine WL.move ?_
      refine WL.eqi ?_
      refine WL.nil ?_
      refine WQ.next ?_
      refine WC.condT rfl rfl ?_
      refine WC.region ?_
      refine WL.move ?_
      refine WL.nilCheck ?_
      refine WL.fa ?_ fo87_1
      refine WL.ld ?_ sc25
      refine WL.move ?_
      refine WL.call (hc := Tryz.call113) (sp := alGiveBlock (k := bk) (V0 := V0) (V := V1) (D := D1) ho hroom hbd hdg) (h := ?_)
      rintro _ _ ⟨rfl, rfl⟩
      simp only [List.cons_append, List.nil_append]
      refine WL.assign ?_
      refine WL.nil ?_
      refine WQ.next ?_
      refine WC.seq ?_
      refine WC.seq ?_
      refine WC.region ?_
      refine WL.move ?_
      refine WL.nei ?_
      refine WL.nil ?_
      refine WQ.next ?_
      refine WC.condF rfl rfl ?_
      refine WC.skip ?_
      refine WQ.next ?_
      refine WC.seq ?_
      refine WC.region ?_
      refine WL.move ?_
      refine WL.lss ?_
      refine WL.nil ?_
      refine WQ.next ?_
      refine WC.condT rfl (congrArg Value.bool (by first | (simp; done) | (simp; omega) | omega)) ?_
      refine WC.region ?_
      refine WL.move ?_
      refine WL.move ?_
      refine WL.nilCheck ?_
      refine WL.fa ?_ fo92_2
      refine WL.idxA ?_ ar90
      refine WL.stL (xs := ndL x1) (i := 0 + 2 + ((k : Nat) : Int).toNat * 1) ?_ sc3 (by rw [ndL_length hbl1]; omega)
      refine WL.to (A := row b 92 ((ndL x1).set (0 + 2 + ((k : Nat) : Int).toNat * 1) (nI 0))) (A' := row b 92 (ndL ⟨x1.kd, x1.sz, x1.bl.set k 0⟩)) (fun h hh => by rw [show 0 + 2 + ((k : Nat) : Int).toNat * 1 = 2 + k from by omega, ndL_set] at hh; exact hh) ?_
      refine WL.nil ?_
      refine WQ.blockNormal ?_
      refine WQ.next ?_
      refine WC.region ?_
      refine WL.move ?_
      refine WL.add ?_
      refine WL.assign ?_
      refine WL.nil ?_
      refine WQ.cast (d := 7) (u := nI (k + 1)) rfl (congrArg (Value.int .i64) (by omega)) ?_
      exact WQ.back (k + 1, ⟨x1.kd, x1.sz, x1.bl.set k 0⟩, _, _) ⟨by show dat size ≤ k + 1; omega, by show k + 1 ≤ dat x.sz; omega, by have hst := hL.step h ho hSk hbk (.inr (.inl ⟨h10, rfl⟩)) hS hlow; rw [show k - dat size + 1 = k + 1 - dat size from by omega] at hst; exact hst⟩ (by show dat x.sz - (k + 1) < dat x.sz - k; omega)
    · refine WC.skip ?_
      refine WQ.next ?_
      refine WC.seq ?_
      refine WC.block ?_
      refine WC.seq ?_
      refine WC.region ?_
      refine WL.move ?_
      refine WL.move ?_
      refine WL.nilCheck ?_
      refine WL.ldW (xs := ndL x1) ?_ agg92 (ndL_length hbl1)
      refine WL.move ?_
      refine WL.call (hc := Tryz.call62) (sp := inBlock (x := x1) (k := k) (V0 := V0) (V := V1) (D := D1) (op := true) hbl1 (by omega) hV200) (h := ?_)
      rintro _ _ ⟨rfl, rfl⟩
      rw [hbk]
      simp only [List.cons_append, List.nil_append]
      refine WL.move ?_
      refine WL.extract ?_
      refine WL.extract ?_
      refine WL.assign ?_
      refine WL.assign ?_
      refine WL.nil ?_
      refine WQ.next ?_
      refine WC.seq ?_
      refine WC.seq ?_
      refine WC.region ?_
      refine WL.move ?_
      refine WL.eqi ?_
      refine WL.nil ?_
      refine WQ.next ?_
      refine WC.condT rfl rfl ?_
      refine WC.region ?_
      refine WL.move ?_
      refine WL.nilCheck ?_
      refine WL.fa ?_ fo87_1
      refine WL.ld ?_ sc25
      refine WL.move ?_
      refine WL.call (hc := Tryz.call113) (sp := alGiveBlock (k := bk) (V0 := V0) (V := V1) (D := D1) ho hroom hbd hdg) (h := ?_)
      rintro _ _ ⟨rfl, rfl⟩
      simp only [List.cons_append, List.nil_append]
      refine WL.assign ?_
      refine WL.nil ?_
      refine WQ.next ?_
      refine WC.seq ?_
      refine WC.seq ?_
      refine WC.region ?_
      refine WL.move ?_
      refine WL.nei ?_
      refine WL.nil ?_
      refine WQ.next ?_
      refine WC.condF rfl rfl ?_
      refine WC.skip ?_
      refine WQ.next ?_
      refine WC.seq ?_
      refine WC.region ?_
      refine WL.move ?_
      refine WL.lss ?_
      refine WL.nil ?_
      refine WQ.next ?_
      refine WC.condF rfl (congrArg Value.bool (by first | (simp; done) | (simp; omega) | omega)) ?_
      refine WC.skip ?_
      refine WQ.blockNormal ?_
      refine WQ.next ?_
      refine WC.region ?_
      refine WL.move ?_
      refine WL.add ?_
      refine WL.assign ?_
      refine WL.nil ?_
      refine WQ.cast (d := 7) (u := nI (k + 1)) rfl (congrArg (Value.int .i64) (by omega)) ?_
      exact WQ.back (k + 1, x1, _, _) ⟨by show dat size ≤ k + 1; omega, by show k + 1 ≤ dat x.sz; omega, by have hst := hL.step h ho hSk hbk (.inl ⟨rfl, by omega, by omega⟩) hS hlow; rw [show k - dat size + 1 = k + 1 - dat size from by omega] at hst; exact hst⟩ (by show dat x.sz - (k + 1) < dat x.sz - k; omega)
  · have hge : ¬ k < dat x.sz := by have := of_decide_eq_false hb; omega
    have hke : k = dat x.sz := by omega
    subst hke
    have hh1 := has_hs x.sz
    have hh2 := has_hs size
    rcases (show (10 < dat size) ∨ (dat size ≤ 10 ∧ dat x.sz ≤ 10) ∨ (dat size ≤ 10 ∧ 10 < dat x.sz) from by omega) with hc | hc | hc
    · have he : gS (dat size) (dat x.sz) (dat x.sz) = stdS (dat size) := by
        funext l
        rw [Bool.eq_iff_iff, gS_iff, stdS_iff]
        omega
      rw [he] at hL
      have hn : dat x.sz - dat size = has x.sz - has size := by
        rw [hh1, hh2]; unfold hs
        repeat' split
        all_goals omega
      rw [hn] at hL
      refine WC.exit (WQ.thenExit (WQ.thenExit (WQ.blockExit (?_))))
      refine WQ.next ?_
      refine WC.seq ?_
      refine WC.seq ?_
      refine WC.region ?_
      refine WL.move ?_
      refine WL.call (hc := Tryz.call101) (sp := inData (k := size) (by omega)) (h := ?_)
      rintro _ _ ⟨rfl, rfl⟩
      refine WL.leq ?_
      refine WL.move ?_
      refine WL.cast (d := 52) (u := .bool false) rfl (congrArg Value.bool (by first | (simp; done) | (simp; omega) | omega)) ?_
      refine WL.gF ?_
      refine WL.gF ?_
      refine WL.gF ?_
      refine WL.gF ?_
      refine WL.gF ?_
      refine WL.gF ?_
      refine WL.pickF ?_
      refine WL.nil ?_
      refine WQ.next ?_
      refine WC.condF rfl rfl ?_
      refine WC.skip ?_
      refine WQ.next ?_
      refine WC.seq ?_
      refine WC.region ?_
      refine WL.assign ?_
      refine WL.nil ?_
      refine WQ.next ?_
      refine WC.ret (?_)
      exact WQ.ret1 (h1 := .tmp (t := 6) rfl) ⟨_, ⟨_, _, _, hL, rfl, rfl⟩, Am.auto⟩
    · have he : gS (dat size) (dat x.sz) (dat x.sz) = stdS (dat size) := by
        funext l
        rw [Bool.eq_iff_iff, gS_iff, stdS_iff]
        omega
      rw [he] at hL
      have hn : dat x.sz - dat size = has x.sz - has size := by
        rw [hh1, hh2]; unfold hs
        repeat' split
        all_goals omega
      rw [hn] at hL
      refine WC.exit (WQ.thenExit (WQ.thenExit (WQ.blockExit (?_))))
      refine WQ.next ?_
      refine WC.seq ?_
      refine WC.seq ?_
      refine WC.region ?_
      refine WL.move ?_
      refine WL.call (hc := Tryz.call101) (sp := inData (k := size) (by omega)) (h := ?_)
      rintro _ _ ⟨rfl, rfl⟩
      refine WL.leq ?_
      refine WL.move ?_
      refine WL.cast (d := 52) (u := .bool true) rfl (congrArg Value.bool (by first | (simp; done) | (simp; omega) | omega)) ?_
      refine WL.gT ?_
      refine WL.move ?_
      refine WL.gT ?_
      refine WL.nilCheck ?_
      refine WL.gT ?_
      refine WL.fa ?_ fo92_1
      refine WL.gT ?_
      refine WL.ldL (xs := ndL x1) (i := 1) ?_ sc3 hszg
      refine WL.gT ?_
      refine WL.call (hc := Tryz.call101) (sp := inData (k := x.sz) (by omega)) (h := ?_)
      rintro _ _ ⟨rfl, rfl⟩
      refine WL.gT ?_
      refine WL.gtr ?_
      refine WL.pickT ?_
      refine WL.nil ?_
      refine WQ.next ?_
      refine WC.condF rfl (congrArg Value.bool (by first | (simp; done) | (simp; omega) | omega)) ?_
      refine WC.skip ?_
      refine WQ.next ?_
      refine WC.seq ?_
      refine WC.region ?_
      refine WL.assign ?_
      refine WL.nil ?_
      refine WQ.next ?_
      refine WC.ret (?_)
      exact WQ.ret1 (h1 := .tmp (t := 6) rfl) ⟨_, ⟨_, _, _, hL, rfl, rfl⟩, Am.auto⟩
    · have hSk : gS (dat size) (dat x.sz) (dat x.sz) 200 = true := gS_iff.2 (.inr (.inr ⟨rfl, hc.2⟩))
      have hrk := hL.inv.rng i x1 _ 200 (updF_same ..) hSk
      obtain ⟨bk, hbk⟩ : ∃ bk, ptr V1 x1 200 = p.da + bk := ⟨ptr V1 x1 200 - p.da, by omega⟩
      have hroom : Room D1 := hL.dk.room (c := 0) (hrm.mono (by have := hL.wt; omega))
      have hbd : bk < p.dc := by omega
      have hdg : dig V1 p.bm bk = true := (hL.inv.map bk hbd).2 ⟨i, x1, _, 200, updF_same .., hSk, hbk⟩
      have hS : ∀ l, stdS (dat size) l = true ↔ gS (dat size) (dat x.sz) (dat x.sz) l = true ∧ l ≠ 200 := fun l => by rw [gS_iff, stdS_iff]; omega
      have hlow : ∀ q, q < size → q / 512 < 138 ∧ stdS (dat size) (q / 512) = true := fun q hq => by
        have h1 : q / 512 < dat size := by unfold dat; omega
        exact ⟨by omega, stdS_iff.2 (.inl h1)⟩
      have hst := hL.step h ho hSk hbk (.inr (.inr ⟨rfl, rfl, fun l hl => by have := gS_iff.1 hl; omega⟩)) hS hlow
      have hn : dat x.sz - dat size + 1 = has x.sz - has size := by
        rw [hh1, hh2]; unfold hs
        repeat' split
        all_goals omega
      rw [hn] at hst
      have hb10 : x1.bl.getD 10 0 = p.da + bk := by rw [← hbk, ptr_200]
      refine WC.exit (WQ.thenExit (WQ.thenExit (WQ.blockExit (?_))))
      refine WQ.next ?_
      refine WC.seq ?_
      refine WC.seq ?_
      refine WC.region ?_
      refine WL.move ?_
      refine WL.call (hc := Tryz.call101) (sp := inData (k := size) (by omega)) (h := ?_)
      rintro _ _ ⟨rfl, rfl⟩
      refine WL.leq ?_
      refine WL.move ?_
      refine WL.cast (d := 52) (u := .bool true) rfl (congrArg Value.bool (by first | (simp; done) | (simp; omega) | omega)) ?_
      refine WL.gT ?_
      refine WL.move ?_
      refine WL.gT ?_
      refine WL.nilCheck ?_
      refine WL.gT ?_
      refine WL.fa ?_ fo92_1
      refine WL.gT ?_
      refine WL.ldL (xs := ndL x1) (i := 1) ?_ sc3 hszg
      refine WL.gT ?_
      refine WL.call (hc := Tryz.call101) (sp := inData (k := x.sz) (by omega)) (h := ?_)
      rintro _ _ ⟨rfl, rfl⟩
      refine WL.gT ?_
      refine WL.gtr ?_
      refine WL.pickT ?_
      refine WL.nil ?_
      refine WQ.next ?_
      refine WC.condT rfl (congrArg Value.bool (by first | (simp; done) | (simp; omega) | omega)) ?_
      refine WC.seq ?_
      refine WC.region ?_
      refine WL.move ?_
      refine WL.nilCheck ?_
      refine WL.fa ?_ fo92_2
      refine WL.idxA ?_ ar90
      refine WL.ldL (xs := ndL x1) (i := 12) (v := nI (p.da + bk)) ?_ sc3 (by rw [← hb10]; exact ndL_bl (k := 10) (by omega))
      refine WL.assign ?_
      refine WL.nil ?_
      refine WQ.next ?_
      refine WC.seq ?_
      refine WC.region ?_
      refine WL.move ?_
      refine WL.nilCheck ?_
      refine WL.fa ?_ fo92_2
      refine WL.idxA ?_ ar90
      refine WL.stL (xs := ndL x1) (i := 12) ?_ sc3 (by rw [ndL_length hbl1]; omega)
      refine WL.to (A := row b 92 ((ndL x1).set 12 (nI 0))) (A' := row b 92 (ndL ⟨x1.kd, x1.sz, x1.bl.set 10 0⟩)) (fun h hh => by rw [show 12 = 2 + 10 from rfl, ndL_set] at hh; exact hh) ?_
      refine WL.nil ?_
      refine WQ.next ?_
      refine WC.seq ?_
      refine WC.region ?_
      refine WL.move ?_
      refine WL.nilCheck ?_
      refine WL.fa ?_ fo87_1
      refine WL.ld ?_ sc25
      refine WL.move ?_
      refine WL.call (hc := Tryz.call113) (sp := alGiveBlock (k := bk) (V0 := V0) (V := V1) (D := D1) ho hroom hbd hdg) (h := ?_)
      rintro _ _ ⟨rfl, rfl⟩
      simp only [List.cons_append, List.nil_append]
      refine WL.assign ?_
      refine WL.nil ?_
      refine WQ.next ?_
      refine WC.ret (WQ.thenRet (?_))
      exact WQ.ret1 (h1 := .tmp (t := 6) rfl) ⟨_, ⟨_, _, _, hst, rfl, rfl⟩, Am.auto⟩

end Go.Proofs.YtedmihapieleaaaGreat
