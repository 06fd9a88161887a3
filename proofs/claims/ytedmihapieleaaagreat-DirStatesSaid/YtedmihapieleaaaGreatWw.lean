/- Walks of package inode: take, lay. -/
import Derived.Test.YtedmihapieleaaaGreatFa
import Derived.Test.YtedmihapieleaaaGreatWv
import Derived.KernelRfl
set_option linter.unusedVariables false
set_option linter.unusedSimpArgs false
namespace Go.Proofs.YtedmihapieleaaaGreat
open Go

structure TakeP (p : Pl) (V V' : Nat → Bytes) (nd : NF) (i : Nat) (x x' : Nd) (D D' : List Nat) (k : Nat) : Prop where
  stp : Stp p V V' nd i x x' (stdS k) (stdS (k + 1))
  cn : cnt V' p.bm p.dc = cnt V p.bm p.dc + (if k = 10 then 2 else 1)
  new : ∀ j, j < 512 → fb V' x' (512 * k + j) = 0
  dk : Dk p D'
  wt : wt p D' + (if 10 < k ∧ x.bl.getD 10 0 ∈ D then 1 else 0) ≤ wt p D + (if k = 10 then 2 else 1) + (if 10 < k then 1 else 0)
  ind : 10 ≤ k → x'.bl.getD 10 0 ∈ D'
theorem fb_new {V : Nat → Bytes} {x : Nd} {k v : Nat} (h : ptr V x k = v) (hv : V v = zeros) {j : Nat} (hj : j < 512) : fb V x (512 * k + j) = 0 := by
  unfold fb
  rw [show (512 * k + j) / 512 = k from by omega, h, hv]
  exact zeros_getD _
theorem takeA {p : Pl} {V : Nat → Bytes} {D : List Nat} {nd : NF} (h : Inv p V nd) (ho : PlOk p) (hdk : Dk p D) {i b k : Nat} {x : Nd} (hi : nd i = some (x, stdS k)) (hk : k < 10) (hb : b < p.dc) (hd : dig V p.bm b = false) :
    TakeP p V (frV p V b) nd i x ⟨x.kd, x.sz, x.bl.set k (p.da + b)⟩ D (frD p D b) k := by
  obtain ⟨h1, h2⟩ := takeDirect (S' := stdS (k + 1)) h ho hi hb hd (.inl ⟨hk, rfl⟩) (fun l => by simp only [stdS_iff]; omega) (by unfold stdS; simp; omega)
  have h3 := frD_ok ho hdk hb
  refine ⟨h1, ?_, fun j hj => fb_new h2 (frV_new p V b) hj, h3.1, ?_, fun hh => by omega⟩
  · rw [if_neg (by omega)]
    exact cnt_true hb hd fun l hl => frV_dig ho h.len hb hl
  · rw [if_neg (by omega), if_neg (by omega), if_neg (by omega)]
    omega
theorem inD_ok {p : Pl} {D : List Nat} (hd : Dk p D) {v : Nat} (h1 : 245 ≤ v) (h2 : v < p.n) : Dk p (insD D v) ∧ wt p (insD D v) ≤ wt p D + 1 ∧ (v ∈ D → wt p (insD D v) = wt p D) ∧ v ∈ insD D v := by
  have := wt_ins p D v
  exact ⟨hd.ins h1 h2, this.1, this.2.2, mem_insD.2 (.inr rfl)⟩
theorem takeFa {p : Pl} {V : Nat → Bytes} {D : List Nat} {nd : NF} (h : Inv p V nd) (ho : PlOk p) (hdk : Dk p D) {i b k : Nat} {x : Nd} (hi : nd i = some (x, stdS k)) (hk : 10 < k) (hk2 : k < 138) (hb : b < p.dc) (hd : dig V p.bm b = false) :
    TakeP p V (inV p V x b k) nd i x x D (insD (frD p D b) (x.bl.getD 10 0)) k := by
  have h200 : stdS k 200 = true := stdS_iff.2 (.inr ⟨rfl, hk⟩)
  obtain ⟨h1, h2, h3⟩ := takeFar (S' := stdS (k + 1)) h ho hi hb hd (by omega) hk2 h200 (fun l => by simp only [stdS_iff]; omega) (by unfold stdS; simp; omega)
  have hlo := ho.lo
  have hr := h.rng i x _ 200 hi h200
  rw [ptr_200] at hr
  have h4 := frD_ok ho hdk hb
  have h5 := inD_ok h4.1 (v := x.bl.getD 10 0) (by omega) hr.2
  refine ⟨h1, ?_, fun j hj => fb_new h2 h3 hj, h5.1, ?_, fun _ => h5.2.2.2⟩
  · rw [if_neg (by omega)]
    exact cnt_true hb hd fun l hl => inV_dig h ho hi hb h200 hl
  · rw [if_neg (show ¬ k = 10 by omega), if_pos hk]
    split
    · rename_i hc
      have := h5.2.2.1 (h4.2.2.1 _ hc.2)
      omega
    · omega
def sInd (k : Nat) : Nat → Bool := fun l => decide (l < k) || decide (l = 200)
theorem takeB {p : Pl} {V : Nat → Bytes} {D : List Nat} {nd : NF} (h : Inv p V nd) (ho : PlOk p) (hdk : Dk p D) {i b1 b2 : Nat} {x x1 : Nd} (hi : nd i = some (x, stdS 10)) (hx1 : x1 = ⟨x.kd, x.sz, x.bl.set 10 (p.da + b1)⟩) (hb : b1 < p.dc) (hd : dig V p.bm b1 = false)
    (hb2 : b2 < p.dc) (hd2 : dig (frV p V b1) p.bm b2 = false) :
    TakeP p V (inV p (frV p V b1) x1 b2 10) nd i x x1 D (insD (frD p (frD p D b1) b2) (x1.bl.getD 10 0)) 10 := by
  subst hx1
  have hfx := h.fits i x _ hi
  have hd10 : (x.bl.set 10 (p.da + b1)).getD 10 0 = p.da + b1 := getD_set_same (by rw [hfx.bl]; decide)
  obtain ⟨s1, s2⟩ := takeDirect (S' := sInd 10) (c := 200) (k := 10) h ho hi hb hd (.inr ⟨rfl, rfl, fun l hl => by have := stdS_iff.1 hl; omega⟩) (fun l => by simp only [stdS_iff, sInd, Bool.or_eq_true, decide_eq_true_eq]; omega) (by unfold stdS; simp)
  have hi1 : updF nd i (some (⟨x.kd, x.sz, x.bl.set 10 (p.da + b1)⟩, sInd 10)) i = some (⟨x.kd, x.sz, x.bl.set 10 (p.da + b1)⟩, sInd 10) := updF_same ..
  have h200 : sInd 10 200 = true := by unfold sInd; simp
  obtain ⟨t1, t2, t3⟩ := takeFar (S' := stdS 11) (k := 10) s1.inv ho hi1 hb2 hd2 (by omega) (by omega) h200 (fun l => by simp only [stdS_iff, sInd, Bool.or_eq_true, decide_eq_true_eq]; omega) (by unfold sInd; simp)
  have h4 := frD_ok ho hdk hb
  have h5 := frD_ok ho h4.1 hb2
  have hlo := ho.lo
  have hdat := ho.dat
  have h6 := inD_ok h5.1 (v := p.da + b1) (by omega) (by omega)
  refine ⟨Stp.trans h s1 t1 (fun l h1 _ => by have := stdS_iff.1 h1; unfold sInd; simp; omega), ?_, fun j hj => fb_new t2 t3 hj, ?_, ?_, fun _ => ?_⟩
  · rw [if_pos rfl]
    have e1 : cnt (frV p V b1) p.bm p.dc = cnt V p.bm p.dc + 1 := cnt_true hb hd fun l hl => frV_dig ho h.len hb hl
    have e2 : cnt (inV p (frV p V b1) ⟨x.kd, x.sz, x.bl.set 10 (p.da + b1)⟩ b2 10) p.bm p.dc = cnt (frV p V b1) p.bm p.dc + 1 := cnt_true hb2 hd2 fun l hl => inV_dig s1.inv ho hi1 hb2 h200 hl
    omega
  · show Dk p (insD (frD p (frD p D b1) b2) ((x.bl.set 10 (p.da + b1)).getD 10 0))
    rw [hd10]; exact h6.1
  · show Go.Proofs.YtedmihapieleaaaGreat.wt p (insD (frD p (frD p D b1) b2) ((x.bl.set 10 (p.da + b1)).getD 10 0)) + _ ≤ _
    rw [hd10, if_neg (by omega), if_pos rfl, if_neg (by omega), h6.2.2.1 (h5.2.2.1 _ h4.2.2.2)]
    omega
  · show (x.bl.set 10 (p.da + b1)).getD 10 0 ∈ insD (frD p (frD p D b1) b2) ((x.bl.set 10 (p.da + b1)).getD 10 0)
    rw [hd10]; exact h6.2.2.2
theorem frV_cnt {p : Pl} {V : Nat → Bytes} (ho : PlOk p) (h5 : Len5 V) {b : Nat} (hb : b < p.dc) (hd : dig V p.bm b = false) : cnt (frV p V b) p.bm p.dc = cnt V p.bm p.dc + 1 := cnt_true hb hd fun l hl => frV_dig ho h5 hb hl

theorem inTake {s c a : Nat} {p : Pl} {V0 V : Nat → Bytes} {D : List Nat} {nd : NF} {i b k : Nat} {x : Nd} (h : Inv p V nd) (ho : PlOk p) (hi : nd i = some (x, stdS k)) (hk : k < 138) (hdk : Dk p D) (hrm : Rm p D 3) (hfree : cnt V p.bm p.dc + (if k = 10 then 2 else 1) ≤ p.dc) :
    Spec Tryz.prog 102 #[.pointer (some ⟨s, 0, none⟩), .pointer (some ⟨b, 0, none⟩), nI k] [pt s (stO c a p), pt a (alO c p), TR c p.n V0 V D true, row b 92 (ndL x)] fun F v M => ∃ x' V' D', TakeP p V V' nd i x x' D D' k ∧ v = okV ∧ M = [pt s (stO c a p), pt a (alO c p), TR c p.n V0 V' D' true, row b 92 (ndL x')] ++ F := by
  refine Spec.intro Tryz.func102 rfl rfl fun B F => ?_
  simp only [Tryz.ntmps102, List.cons_append, List.nil_append, env0, Nat.reduceAdd]
  have hlo := ho.lo
  have hdat := ho.dat
  have hfx := h.fits i x _ hi
  have hbl := hfx.bl
  rcases (show k < 10 ∨ k = 10 ∨ 10 < k from by omega) with hc | hc | hc
  · rw [if_neg (by omega)] at hfree
    refine WC.seq ?_
    refine WC.region ?_
    refine WL.assign ?_
    refine WL.nil ?_
    refine WQ.next ?_
    refine WC.seq ?_
    refine WC.seq ?_
    refine WC.region ?_
    refine WL.move ?_
    refine WL.eqi ?_
    refine WL.nil ?_
    refine WQ.next ?_
    refine WC.condF rfl (congrArg Value.bool (by first | (simp; done) | (simp; omega) | omega)) ?_
    refine WC.skip ?_
    refine WQ.next ?_
    refine WC.seq ?_
    refine WC.region ?_
    refine WL.move ?_
    refine WL.call (hc := Tryz.call128) (sp := inFresh (V0 := V0) (V := V) (D := D) ho hdk (hrm.mono (by omega)) (by omega)) (h := ?_)
    rintro _ _ ⟨q, hq, hqd, rfl, rfl⟩
    simp only [List.cons_append, List.nil_append]
    refine WL.move ?_
    refine WL.extract ?_
    refine WL.extract ?_
    refine WL.assign ?_
    refine WL.assign ?_
    refine WL.nil ?_
    refine WQ.next ?_
    refine WC.seq ?_
    refine WC.seq ?_
    refine WC.region ?_
    refine WL.move ?_
    refine WL.nei ?_
    refine WL.nil ?_
    refine WQ.next ?_
    refine WC.condF rfl rfl ?_
    refine WC.skip ?_
    refine WQ.next ?_
    refine WC.seq ?_
    refine WC.seq ?_
    refine WC.region ?_
    refine WL.move ?_
    refine WL.lss ?_
    refine WL.nil ?_
    refine WQ.next ?_
    refine WC.condT rfl (congrArg Value.bool (by first | (simp; done) | (simp; omega) | omega)) ?_
    refine WC.seq ?_
    refine WC.region ?_
    refine WL.move ?_
    refine WL.move ?_
    refine WL.move ?_
    refine WL.nilCheck ?_
    refine WL.fa ?_ fo92_2
    refine WL.idxA ?_ ar90
    refine WL.stL (xs := ndL x) (i := 0 + 2 + ((k : Nat) : Int).toNat * 1) ?_ sc3 (by rw [ndL_length hbl]; omega)
    refine WL.to (A := row b 92 ((ndL x).set (0 + 2 + ((k : Nat) : Int).toNat * 1) (nI (p.da + q)))) (A' := row b 92 (ndL ⟨x.kd, x.sz, x.bl.set k (p.da + q)⟩)) (fun h hh => by rw [show 0 + 2 + ((k : Nat) : Int).toNat * 1 = 2 + k from by omega, ndL_set] at hh; exact hh) ?_
    refine WL.nil ?_
    refine WQ.next ?_
    refine WC.seq ?_
    refine WC.region ?_
    refine WL.assign ?_
    refine WL.nil ?_
    refine WQ.next ?_
    refine WC.ret (WQ.thenRet (?_))
    exact WQ.ret1 (h1 := .tmp (t := 6) rfl) ⟨_, ⟨_, _, _, takeA h ho hdk hi hc hq hqd, rfl, rfl⟩, Am.auto⟩
  · subst hc
    rw [if_pos rfl] at hfree
    refine WC.seq ?_
    refine WC.region ?_
    refine WL.assign ?_
    refine WL.nil ?_
    refine WQ.next ?_
    refine WC.seq ?_
    refine WC.seq ?_
    refine WC.region ?_
    refine WL.move ?_
    refine WL.eqi ?_
    refine WL.nil ?_
    refine WQ.next ?_
    refine WC.condT rfl (congrArg Value.bool (by first | (simp; done) | (simp; omega) | omega)) ?_
    refine WC.seq ?_
    refine WC.region ?_
    refine WL.move ?_
    refine WL.call (hc := Tryz.call128) (sp := inFresh (V0 := V0) (V := V) (D := D) ho hdk (hrm.mono (by omega)) (by omega)) (h := ?_)
    rintro _ _ ⟨q, hq, hqd, rfl, rfl⟩
    simp only [List.cons_append, List.nil_append]
    refine WL.move ?_
    refine WL.extract ?_
    refine WL.extract ?_
    refine WL.assign ?_
    refine WL.assign ?_
    refine WL.nil ?_
    refine WQ.next ?_
    refine WC.seq ?_
    refine WC.seq ?_
    refine WC.region ?_
    refine WL.move ?_
    refine WL.nei ?_
    refine WL.nil ?_
    refine WQ.next ?_
    refine WC.condF rfl rfl ?_
    refine WC.skip ?_
    refine WQ.next ?_
    refine WC.region ?_
    refine WL.move ?_
    refine WL.move ?_
    refine WL.nilCheck ?_
    refine WL.fa ?_ fo92_2
    refine WL.idxA ?_ ar90
    refine WL.stL (xs := ndL x) (i := 12) ?_ sc3 (by rw [ndL_length hbl]; omega)
    refine WL.to (A := row b 92 ((ndL x).set 12 (nI (p.da + q)))) (A' := row b 92 (ndL ⟨x.kd, x.sz, x.bl.set 10 (p.da + q)⟩)) (fun h hh => by rw [show 12 = 2 + 10 from rfl, ndL_set] at hh; exact hh) ?_
    refine WL.nil ?_
    refine WQ.next ?_
    refine WC.seq ?_
    refine WC.region ?_
    refine WL.move ?_
    have hD1 := frD_ok ho hdk hq
    have hcn := frV_cnt ho h.len hq hqd
    refine WL.call (hc := Tryz.call128) (sp := inFresh (V0 := V0) (V := frV p V q) (D := frD p D q) ho hD1.1 (hrm.mono (by omega)) (by omega)) (h := ?_)
    rintro _ _ ⟨r, hr, hrd, rfl, rfl⟩
    simp only [List.cons_append, List.nil_append]
    refine WL.move ?_
    refine WL.extract ?_
    refine WL.extract ?_
    refine WL.assign ?_
    refine WL.assign ?_
    refine WL.nil ?_
    refine WQ.next ?_
    refine WC.seq ?_
    refine WC.seq ?_
    refine WC.region ?_
    refine WL.move ?_
    refine WL.nei ?_
    refine WL.nil ?_
    refine WQ.next ?_
    refine WC.condF rfl rfl ?_
    refine WC.skip ?_
    refine WQ.next ?_
    refine WC.seq ?_
    refine WC.seq ?_
    refine WC.region ?_
    refine WL.move ?_
    refine WL.lss ?_
    refine WL.nil ?_
    refine WQ.next ?_
    refine WC.condF rfl (congrArg Value.bool (by first | (simp; done) | (simp; omega) | omega)) ?_
    refine WC.skip ?_
    refine WQ.next ?_
    refine WC.seq ?_
    have hD2 := frD_ok ho hD1.1 hr
    have hroom : Room (frD p (frD p D q) r) := hD2.1.room (c := 0) (hrm.mono (by omega))
    refine WC.draw ([pt s (stO c a p), row b 92 (ndL (⟨x.kd, x.sz, x.bl.set 10 (p.da + q)⟩ : Nd))]) [] 15 #[false, false, false, false, false, false, false, false, false, false, false, false, false, false, false] mixed (by kernel_rfl) NoPanic.autoJ ?_
    refine WD.take (i := 0) #[true, false, false, false, false, false, false, false, false, false, false, false, false, false, false] rfl (by kernel_rfl) (Qt.move ) ?_
    refine WD.take (i := 1) #[true, true, false, false, false, false, false, false, false, false, false, false, false, false, false] rfl (by kernel_rfl) (Qt.nilCheck ) ?_
    refine WD.take (i := 2) #[true, true, true, false, false, false, false, false, false, false, false, false, false, false, false] rfl (by kernel_rfl) (Qt.fa fo87_0) ?_
    refine WD.take (i := 3) #[true, true, true, true, false, false, false, false, false, false, false, false, false, false, false] rfl (by kernel_rfl) (Qt.ld sc24) ?_
    refine WD.take (i := 4) #[true, true, true, true, true, false, false, false, false, false, false, false, false, false, false] rfl (by kernel_rfl) (Qt.move ) ?_
    refine WD.take (i := 5) #[true, true, true, true, true, true, false, false, false, false, false, false, false, false, false] rfl (by kernel_rfl) (Qt.nilCheck ) ?_
    refine WD.take (i := 6) #[true, true, true, true, true, true, true, false, false, false, false, false, false, false, false] rfl (by kernel_rfl) (Qt.fa fo92_2) ?_
    refine WD.take (i := 7) #[true, true, true, true, true, true, true, true, false, false, false, false, false, false, false] rfl (by kernel_rfl) (Qt.idxA ar90) ?_
    refine WD.take (i := 8) #[true, true, true, true, true, true, true, true, true, false, false, false, false, false, false] rfl (by kernel_rfl) (Qt.ldL (xs := ndL (⟨x.kd, x.sz, x.bl.set 10 (p.da + q)⟩ : Nd)) (i := 12) (v := nI (p.da + q)) sc3 (by have := ndL_bl (x := (⟨x.kd, x.sz, x.bl.set 10 (p.da + q)⟩ : Nd)) (k := 10) (by simp [hbl]); rw [show ((⟨x.kd, x.sz, x.bl.set 10 (p.da + q)⟩ : Nd)).bl.getD 10 0 = p.da + q from getD_set_same (by omega)] at this; exact this)) ?_
    refine WD.one (i := 9) #[true, true, true, true, true, true, true, true, true, true, false, false, false, false, false] rfl (by kernel_rfl) fun hnp => ?_
    refine WL.call (hc := Tryz.call63) (sp := tRead (n := p.n) (V0 := V0) (V := frV p (frV p V q) r) (D := frD p (frD p D q) r) (op := true) (k := p.da + q) (by omega) (by omega)) (h := ?_)
    rintro _ _ ⟨gb, kb, el, rfl, ⟨hq1, hq2, hl5⟩, rfl⟩
    refine WL.nil (WQ.wd hnp (.inl Am.auto) ?_)
    refine WD.take (i := 10) #[true, true, true, true, true, true, true, true, true, true, true, false, false, false, false] rfl (by kernel_rfl) (Qt.move ) ?_
    refine WD.take (i := 11) #[true, true, true, true, true, true, true, true, true, true, true, true, false, false, false] rfl (by kernel_rfl) (Qt.extract ) ?_
    refine WD.take (i := 12) #[true, true, true, true, true, true, true, true, true, true, true, true, true, false, false] rfl (by kernel_rfl) (Qt.extract ) ?_
    refine WD.take (i := 13) #[true, true, true, true, true, true, true, true, true, true, true, true, true, true, false] rfl (by kernel_rfl) (Qt.assign ) ?_
    refine WD.take (i := 14) #[true, true, true, true, true, true, true, true, true, true, true, true, true, true, true] rfl (by kernel_rfl) (Qt.assign ) ?_
    refine WD.done (by kernel_rfl) ?_
    refine WQ.next ?_
    refine WC.seq ?_
    refine WC.seq ?_
    refine WC.region ?_
    refine WL.move ?_
    refine WL.nei ?_
    refine WL.nil ?_
    refine WQ.next ?_
    refine WC.condF rfl rfl ?_
    refine WC.skip ?_
    refine WQ.next ?_
    refine WC.seq ?_
    refine WC.draw ([pt s (stO c a p), row b 92 (ndL (⟨x.kd, x.sz, x.bl.set 10 (p.da + q)⟩ : Nd))]) [] 17 #[false, false, false, false, false, false, false, false, false, false, false, false, false, false, false, false, false] mixed (by kernel_rfl) NoPanic.autoJ ?_
    refine WD.take (i := 0) #[true, false, false, false, false, false, false, false, false, false, false, false, false, false, false, false, false] rfl (by kernel_rfl) (Qt.move ) ?_
    refine WD.take (i := 1) #[true, true, false, false, false, false, false, false, false, false, false, false, false, false, false, false, false] rfl (by kernel_rfl) (Qt.nilCheck ) ?_
    refine WD.take (i := 2) #[true, true, true, false, false, false, false, false, false, false, false, false, false, false, false, false, false] rfl (by kernel_rfl) (Qt.fa fo87_0) ?_
    refine WD.take (i := 3) #[true, true, true, true, false, false, false, false, false, false, false, false, false, false, false, false, false] rfl (by kernel_rfl) (Qt.ld sc24) ?_
    refine WD.take (i := 4) #[true, true, true, true, true, false, false, false, false, false, false, false, false, false, false, false, false] rfl (by kernel_rfl) (Qt.move ) ?_
    refine WD.take (i := 5) #[true, true, true, true, true, true, false, false, false, false, false, false, false, false, false, false, false] rfl (by kernel_rfl) (Qt.nilCheck ) ?_
    refine WD.take (i := 6) #[true, true, true, true, true, true, true, false, false, false, false, false, false, false, false, false, false] rfl (by kernel_rfl) (Qt.fa fo92_2) ?_
    refine WD.take (i := 7) #[true, true, true, true, true, true, true, true, false, false, false, false, false, false, false, false, false] rfl (by kernel_rfl) (Qt.idxA ar90) ?_
    refine WD.take (i := 8) #[true, true, true, true, true, true, true, true, true, false, false, false, false, false, false, false, false] rfl (by kernel_rfl) (Qt.ldL (xs := ndL (⟨x.kd, x.sz, x.bl.set 10 (p.da + q)⟩ : Nd)) (i := 12) (v := nI (p.da + q)) sc3 (by have := ndL_bl (x := (⟨x.kd, x.sz, x.bl.set 10 (p.da + q)⟩ : Nd)) (k := 10) (by simp [hbl]); rw [show ((⟨x.kd, x.sz, x.bl.set 10 (p.da + q)⟩ : Nd)).bl.getD 10 0 = p.da + q from getD_set_same (by omega)] at this; exact this)) ?_
    refine WD.take (i := 9) #[true, true, true, true, true, true, true, true, true, true, false, false, false, false, false, false, false] rfl (by kernel_rfl) (Qt.move ) ?_
    refine WD.take (i := 10) #[true, true, true, true, true, true, true, true, true, true, true, false, false, false, false, false, false] rfl (by kernel_rfl) (Qt.move ) ?_
    refine WD.take (i := 11) #[true, true, true, true, true, true, true, true, true, true, true, true, false, false, false, false, false] rfl (by kernel_rfl) (Qt.sub ) ?_
    refine WD.take (i := 12) #[true, true, true, true, true, true, true, true, true, true, true, true, true, false, false, false, false] rfl (by kernel_rfl) ((Qt.mul).eq (v' := nI (4 * (10 - 10))) (congrArg (Value.int .i64) (by omega))) ?_
    refine WD.take (i := 13) #[true, true, true, true, true, true, true, true, true, true, true, true, true, true, false, false, false] rfl (by kernel_rfl) (Qt.move ) ?_
    refine WD.one (i := 14) #[true, true, true, true, true, true, true, true, true, true, true, true, true, true, true, false, false] rfl (by kernel_rfl) fun hnp => ?_
    refine WL.call (hc := Tryz.call99) (sp := inPut (q := 4 * (10 - 10)) (v := p.da + r) Reads.buf hl5 (by decide) (by omega) (by omega)) (h := ?_)
    rintro _ _ ⟨gc, kc, ⟨rfl, hc1, hc2⟩, rfl⟩
    refine WL.nil (WQ.wd hnp (.inl Am.auto) ?_)
    refine WD.one (i := 15) #[true, true, true, true, true, true, true, true, true, true, true, true, true, true, true, true, false] rfl (by kernel_rfl) fun hnp => ?_
    refine WL.call (hc := Tryz.call96) (sp := tWrite (n := p.n) (V0 := V0) (V := frV p (frV p V q) r) (D := frD p (frD p D q) r) (k := p.da + q) (by omega) (by omega) Reads.buf ((put4_length _ _ _).trans hl5) rfl (.inr hroom)) (h := ?_)
    rintro _ _ ⟨rfl, rfl⟩
    refine WL.nil (WQ.wd hnp (.inl Am.auto) ?_)
    refine WD.take (i := 16) #[true, true, true, true, true, true, true, true, true, true, true, true, true, true, true, true, true] rfl (by kernel_rfl) (Qt.assign ) ?_
    refine WD.done (by kernel_rfl) ?_
    refine WQ.next ?_
    refine WC.ret (?_)
    have hd10 : (⟨x.kd, x.sz, x.bl.set 10 (p.da + q)⟩ : Nd).bl.getD 10 0 = p.da + q := getD_set_same (by omega)
    have hT := takeB h ho hdk hi rfl hq hqd hr hrd
    unfold inV at hT
    rw [hd10] at hT
    exact WQ.ret1 (h1 := .tmp (t := 6) rfl) ⟨_, ⟨_, _, _, hT, rfl, rfl⟩, Am.auto⟩
  · rw [if_neg (by omega)] at hfree
    have hir := h.rng i x _ 200 hi (stdS_iff.2 (.inr ⟨rfl, hc⟩))
    rw [ptr_200] at hir
    refine WC.seq ?_
    refine WC.region ?_
    refine WL.assign ?_
    refine WL.nil ?_
    refine WQ.next ?_
    refine WC.seq ?_
    refine WC.seq ?_
    refine WC.region ?_
    refine WL.move ?_
    refine WL.eqi ?_
    refine WL.nil ?_
    refine WQ.next ?_
    refine WC.condF rfl (congrArg Value.bool (by first | (simp; done) | (simp; omega) | omega)) ?_
    refine WC.skip ?_
    refine WQ.next ?_
    refine WC.seq ?_
    refine WC.region ?_
    refine WL.move ?_
    refine WL.call (hc := Tryz.call128) (sp := inFresh (V0 := V0) (V := V) (D := D) ho hdk (hrm.mono (by omega)) (by omega)) (h := ?_)
    rintro _ _ ⟨q, hq, hqd, rfl, rfl⟩
    simp only [List.cons_append, List.nil_append]
    refine WL.move ?_
    refine WL.extract ?_
    refine WL.extract ?_
    refine WL.assign ?_
    refine WL.assign ?_
    refine WL.nil ?_
    refine WQ.next ?_
    refine WC.seq ?_
    refine WC.seq ?_
    refine WC.region ?_
    refine WL.move ?_
    refine WL.nei ?_
    refine WL.nil ?_
    refine WQ.next ?_
    refine WC.condF rfl rfl ?_
    refine WC.skip ?_
    refine WQ.next ?_
    refine WC.seq ?_
    refine WC.seq ?_
    refine WC.region ?_
    refine WL.move ?_
    refine WL.lss ?_
    refine WL.nil ?_
    refine WQ.next ?_
    refine WC.condF rfl (congrArg Value.bool (by first | (simp; done) | (simp; omega) | omega)) ?_
    refine WC.skip ?_
    refine WQ.next ?_
    refine WC.seq ?_
    have hD1 := frD_ok ho hdk hq
    have hroom : Room (frD p D q) := hD1.1.room (c := 0) (hrm.mono (by omega))
    refine WC.draw ([pt s (stO c a p), row b 92 (ndL x)]) [] 15 #[false, false, false, false, false, false, false, false, false, false, false, false, false, false, false] mixed (by kernel_rfl) NoPanic.autoJ ?_
    refine WD.take (i := 0) #[true, false, false, false, false, false, false, false, false, false, false, false, false, false, false] rfl (by kernel_rfl) (Qt.move ) ?_
    refine WD.take (i := 1) #[true, true, false, false, false, false, false, false, false, false, false, false, false, false, false] rfl (by kernel_rfl) (Qt.nilCheck ) ?_
    refine WD.take (i := 2) #[true, true, true, false, false, false, false, false, false, false, false, false, false, false, false] rfl (by kernel_rfl) (Qt.fa fo87_0) ?_
    refine WD.take (i := 3) #[true, true, true, true, false, false, false, false, false, false, false, false, false, false, false] rfl (by kernel_rfl) (Qt.ld sc24) ?_
    refine WD.take (i := 4) #[true, true, true, true, true, false, false, false, false, false, false, false, false, false, false] rfl (by kernel_rfl) (Qt.move ) ?_
    refine WD.take (i := 5) #[true, true, true, true, true, true, false, false, false, false, false, false, false, false, false] rfl (by kernel_rfl) (Qt.nilCheck ) ?_
    refine WD.take (i := 6) #[true, true, true, true, true, true, true, false, false, false, false, false, false, false, false] rfl (by kernel_rfl) (Qt.fa fo92_2) ?_
    refine WD.take (i := 7) #[true, true, true, true, true, true, true, true, false, false, false, false, false, false, false] rfl (by kernel_rfl) (Qt.idxA ar90) ?_
    refine WD.take (i := 8) #[true, true, true, true, true, true, true, true, true, false, false, false, false, false, false] rfl (by kernel_rfl) (Qt.ldL (xs := ndL x) (i := 12) (v := nI (x.bl.getD 10 0)) sc3 (ndL_bl (k := 10) (by omega))) ?_
    refine WD.one (i := 9) #[true, true, true, true, true, true, true, true, true, true, false, false, false, false, false] rfl (by kernel_rfl) fun hnp => ?_
    refine WL.call (hc := Tryz.call63) (sp := tRead (n := p.n) (V0 := V0) (V := frV p (V) q) (D := frD p (D) q) (op := true) (k := x.bl.getD 10 0) (by omega) (by omega)) (h := ?_)
    rintro _ _ ⟨gb, kb, el, rfl, ⟨hq1, hq2, hl5⟩, rfl⟩
    refine WL.nil (WQ.wd hnp (.inl Am.auto) ?_)
    refine WD.take (i := 10) #[true, true, true, true, true, true, true, true, true, true, true, false, false, false, false] rfl (by kernel_rfl) (Qt.move ) ?_
    refine WD.take (i := 11) #[true, true, true, true, true, true, true, true, true, true, true, true, false, false, false] rfl (by kernel_rfl) (Qt.extract ) ?_
    refine WD.take (i := 12) #[true, true, true, true, true, true, true, true, true, true, true, true, true, false, false] rfl (by kernel_rfl) (Qt.extract ) ?_
    refine WD.take (i := 13) #[true, true, true, true, true, true, true, true, true, true, true, true, true, true, false] rfl (by kernel_rfl) (Qt.assign ) ?_
    refine WD.take (i := 14) #[true, true, true, true, true, true, true, true, true, true, true, true, true, true, true] rfl (by kernel_rfl) (Qt.assign ) ?_
    refine WD.done (by kernel_rfl) ?_
    refine WQ.next ?_
    refine WC.seq ?_
    refine WC.seq ?_
    refine WC.region ?_
    refine WL.move ?_
    refine WL.nei ?_
    refine WL.nil ?_
    refine WQ.next ?_
    refine WC.condF rfl rfl ?_
    refine WC.skip ?_
    refine WQ.next ?_
    refine WC.seq ?_
    refine WC.draw ([pt s (stO c a p), row b 92 (ndL x)]) [] 17 #[false, false, false, false, false, false, false, false, false, false, false, false, false, false, false, false, false] mixed (by kernel_rfl) NoPanic.autoJ ?_
    refine WD.take (i := 0) #[true, false, false, false, false, false, false, false, false, false, false, false, false, false, false, false, false] rfl (by kernel_rfl) (Qt.move ) ?_
    refine WD.take (i := 1) #[true, true, false, false, false, false, false, false, false, false, false, false, false, false, false, false, false] rfl (by kernel_rfl) (Qt.nilCheck ) ?_
    refine WD.take (i := 2) #[true, true, true, false, false, false, false, false, false, false, false, false, false, false, false, false, false] rfl (by kernel_rfl) (Qt.fa fo87_0) ?_
    refine WD.take (i := 3) #[true, true, true, true, false, false, false, false, false, false, false, false, false, false, false, false, false] rfl (by kernel_rfl) (Qt.ld sc24) ?_
    refine WD.take (i := 4) #[true, true, true, true, true, false, false, false, false, false, false, false, false, false, false, false, false] rfl (by kernel_rfl) (Qt.move ) ?_
    refine WD.take (i := 5) #[true, true, true, true, true, true, false, false, false, false, false, false, false, false, false, false, false] rfl (by kernel_rfl) (Qt.nilCheck ) ?_
    refine WD.take (i := 6) #[true, true, true, true, true, true, true, false, false, false, false, false, false, false, false, false, false] rfl (by kernel_rfl) (Qt.fa fo92_2) ?_
    refine WD.take (i := 7) #[true, true, true, true, true, true, true, true, false, false, false, false, false, false, false, false, false] rfl (by kernel_rfl) (Qt.idxA ar90) ?_
    refine WD.take (i := 8) #[true, true, true, true, true, true, true, true, true, false, false, false, false, false, false, false, false] rfl (by kernel_rfl) (Qt.ldL (xs := ndL x) (i := 12) (v := nI (x.bl.getD 10 0)) sc3 (ndL_bl (k := 10) (by omega))) ?_
    refine WD.take (i := 9) #[true, true, true, true, true, true, true, true, true, true, false, false, false, false, false, false, false] rfl (by kernel_rfl) (Qt.move ) ?_
    refine WD.take (i := 10) #[true, true, true, true, true, true, true, true, true, true, true, false, false, false, false, false, false] rfl (by kernel_rfl) (Qt.move ) ?_
    refine WD.take (i := 11) #[true, true, true, true, true, true, true, true, true, true, true, true, false, false, false, false, false] rfl (by kernel_rfl) (Qt.sub ) ?_
    refine WD.take (i := 12) #[true, true, true, true, true, true, true, true, true, true, true, true, true, false, false, false, false] rfl (by kernel_rfl) ((Qt.mul).eq (v' := nI (4 * (k - 10))) (congrArg (Value.int .i64) (by omega))) ?_
    refine WD.take (i := 13) #[true, true, true, true, true, true, true, true, true, true, true, true, true, true, false, false, false] rfl (by kernel_rfl) (Qt.move ) ?_
    refine WD.one (i := 14) #[true, true, true, true, true, true, true, true, true, true, true, true, true, true, true, false, false] rfl (by kernel_rfl) fun hnp => ?_
    refine WL.call (hc := Tryz.call99) (sp := inPut (q := 4 * (k - 10)) (v := p.da + q) Reads.buf hl5 (by decide) (by omega) (by omega)) (h := ?_)
    rintro _ _ ⟨gc, kc, ⟨rfl, hc1, hc2⟩, rfl⟩
    refine WL.nil (WQ.wd hnp (.inl Am.auto) ?_)
    refine WD.one (i := 15) #[true, true, true, true, true, true, true, true, true, true, true, true, true, true, true, true, false] rfl (by kernel_rfl) fun hnp => ?_
    refine WL.call (hc := Tryz.call96) (sp := tWrite (n := p.n) (V0 := V0) (V := frV p (V) q) (D := frD p (D) q) (k := x.bl.getD 10 0) (by omega) (by omega) Reads.buf ((put4_length _ _ _).trans hl5) rfl (.inr hroom)) (h := ?_)
    rintro _ _ ⟨rfl, rfl⟩
    refine WL.nil (WQ.wd hnp (.inl Am.auto) ?_)
    refine WD.take (i := 16) #[true, true, true, true, true, true, true, true, true, true, true, true, true, true, true, true, true] rfl (by kernel_rfl) (Qt.assign ) ?_
    refine WD.done (by kernel_rfl) ?_
    refine WQ.next ?_
    refine WC.ret (?_)
    exact WQ.ret1 (h1 := .tmp (t := 6) rfl) ⟨_, ⟨_, _, _, takeFa h ho hdk hi hc hk hq hqd, rfl, rfl⟩, Am.auto⟩

theorem inLay {s c a : Nat} {p : Pl} {V0 V : Nat → Bytes} {D : List Nat} {nd : NF} {i at' m cc : Nat} {x : Nd} {S : Nat → Bool} {R : HP} {A : Option Addr} {bs : Bytes} (h : Inv p V nd) (ho : PlOk p) (hi : nd i = some (x, S)) (hdk : Dk p D) (hrm : Rm p D ((bs.length + 511) / 512 + 2)) (hR : bs = [] ∨ Reads R A (bvs bs)) (hm : bs.length = m) (hcc : m ≤ cc) (hcb : cc ≤ maxLen)
    (hS : ∀ k, at' / 512 ≤ k → 512 * k < at' + m → S k = true ∧ k < 138) (hat : at' ≤ 70656) (hm2 : m ≤ 70656) :
    Spec Tryz.prog 54 #[.pointer (some ⟨s, 0, none⟩), ndV x, nI at', .slice A m cc] [R, pt s (stO c a p), TR c p.n V0 V D true] fun F v M => ∃ V' D', LayR p V V' x at' (at' + m) bs ∧ (Dk p D' ∧ wt p D' ≤ wt p D + (m + 511) / 512 + 1) ∧ v = okV ∧ M = [R, pt s (stO c a p), TR c p.n V0 V' D' true] ++ F := by
  refine Spec.intro Tryz.func54 rfl rfl fun B F => ?_
  simp only [Tryz.ntmps54, List.cons_append, List.nil_append, env0, Nat.reduceAdd]
  have hlo := ho.lo
  have hdat := ho.dat
  have hfx := h.fits i x _ hi
  have hbl := hfx.bl
  have hrng := fun k hk => h.rng i x S k hi hk
  have hsok := h.sok i x S hi
  have hmx : maxLen = 9223372036854775807 := rfl
  refine WC.seq ?_
  refine WC.region ?_
  refine WL.boxL (us := ndL x) fun b5 => ?_
  refine WL.assign ?_
  refine WL.nil ?_
  refine WQ.next ?_
  refine WC.seq ?_
  refine WC.block ?_
  refine WC.loopA (σ := Nat × Option Addr × Nat × (Nat → Bytes) × List Nat) (fun y => [(0, .pointer (some ⟨s, 0, none⟩)), (2, nI (at' + y.1)), (3, .slice y.2.1 (m - y.1) y.2.2.1), (5, .pointer (some ⟨b5, 0, none⟩))]) (fun y => [row b5 92 (ndL x), R, pt s (stO c a p), TR c p.n V0 y.2.2.2.1 y.2.2.2.2 true] ++ F) (fun y => y.1 ≤ m ∧ (bs.drop y.1 = [] ∨ Reads R y.2.1 (bvs (bs.drop y.1))) ∧ LayR p V y.2.2.2.1 x at' (at' + y.1) bs ∧ Dk p y.2.2.2.2 ∧ (∃ t, wt p y.2.2.2.2 ≤ wt p D + t ∧ ((y.1 = 0 ∧ t = 0) ∨ (y.1 = m ∧ t ≤ (m + 511) / 512 + 1) ∨ ((at' + y.1) % 512 = 0 ∧ t = (at' + y.1) / 512 - at' / 512))) ∧ m - y.1 ≤ y.2.2.1 ∧ y.2.2.1 ≤ maxLen) (fun y => m - y.1) (0, A, cc, V, D) ⟨Nat.zero_le _, by rw [List.drop_zero]; exact hR, LayR.nil h.len x at' bs, hdk, ⟨0, Nat.le_refl _, .inl ⟨rfl, rfl⟩⟩, by show m - 0 ≤ cc; omega, hcb⟩ ?_
  rintro ⟨dn, A1, c1, V1, D1⟩ hy
  obtain ⟨hdn, hA, hlay, hdk1, ⟨t, hw1, ht⟩, hc1, hc2⟩ := hy
  simp only at hdn hA hlay hdk1 hw1 ht hc1 hc2
  refine WC.seq ?_
  refine WC.seq ?_
  refine WC.region ?_
  refine WL.move ?_
  refine WL.lenS ?_ sl33
  refine WL.gtr ?_
  refine WL.nil ?_
  refine WQ.next ?_
  refine WC.cond rfl (fun hb => ?_) (fun hb => ?_)
  · have hlt : dn < m := by have := of_decide_eq_true hb; omega
    obtain ⟨hSk, hk138⟩ := hS ((at' + dn) / 512) (by omega) (by omega)
    have hpr := hrng _ hSk
    have hst := hlay.stp h ho hi (by omega) (fun k h1 h2 => hS k h1 (by omega))
    have hpk := hst.2.2.2.1 _ hSk
    have hA0 := hA.resolve_left (by intro h0; have := congrArg List.length h0; simp at this; omega)
    rcases A1 with _ | ⟨ab, ao, asp⟩
    · exact absurd hA0 (fun h0 => by have h2 : bvs (bs.drop dn) = [] := h0; have := congrArg List.length h2; simp [bvs] at this; omega)
    have hsp : asp = none := hA0.1
    subst hsp
    have hV200 : 10 ≤ (at' + dn) / 512 → 245 ≤ x.bl.getD 10 0 ∧ x.bl.getD 10 0 < p.n := fun h10 => by
      have := hrng 200 (hsok.ind _ hSk h10)
      rw [ptr_200] at this
      omega
    obtain ⟨mm, hmm⟩ : ∃ mm, mm = min (m - dn) (512 - (at' + dn) % 512) := ⟨_, rfl⟩
    have hroom : Room D1 := hdk1.room (c := 0) (hrm.mono (by omega))
    have hinj : ∀ k l, at' / 512 ≤ k → 512 * k < at' + dn + mm → at' / 512 ≤ l → 512 * l < at' + dn + mm → ptr V x k = ptr V x l → k = l := fun k l h1 h2 h3 h4 he => (h.inj i x S k i x S l hi (hS k h1 (by omega)).1 hi (hS l h3 (by omega)).1 he).2
    have hstep := hlay.step (m := mm) (by omega) (by omega) (by omega) (by omega) hk138 hinj
    rw [show at' + dn - at' = dn from by omega] at hstep
    have hyl : (bs.drop dn).length = m - dn := by rw [List.length_drop]; omega
    have hpl : ((bs.drop dn).take mm).length = mm := by rw [List.length_take]; omega
    refine WC.skip ?_
    refine WQ.next ?_
    refine WC.block ?_
    refine WC.seq ?_
    refine WC.region ?_
    refine WL.move ?_
    refine WL.ldW (xs := ndL x) ?_ agg92 (ndL_length hbl)
    refine WL.move ?_
    refine WL.quo ?_
    refine WL.cast (d := 21) (u := nI ((at' + dn) / 512)) rfl (congrArg (Value.int .i64) (by omega)) ?_
    refine WL.call (hc := Tryz.call62) (sp := inBlock (x := x) (k := (at' + dn) / 512) (V0 := V0) (V := V1) (D := D1) (op := true) hbl hk138 hV200) (h := ?_)
    rintro _ _ ⟨rfl, rfl⟩
    rw [hpk]
    simp only [List.cons_append, List.nil_append]
    refine WL.move ?_
    refine WL.extract ?_
    refine WL.extract ?_
    refine WL.assign ?_
    refine WL.assign ?_
    refine WL.nil ?_
    refine WQ.next ?_
    refine WC.seq ?_
    refine WC.seq ?_
    refine WC.region ?_
    refine WL.move ?_
    refine WL.nei ?_
    refine WL.nil ?_
    refine WQ.next ?_
    refine WC.condF rfl rfl ?_
    refine WC.skip ?_
    refine WQ.next ?_
    refine WC.seq ?_
    refine WC.region ?_
    refine WL.move ?_
    refine WL.nilCheck ?_
    refine WL.fa ?_ fo87_0
    refine WL.ld ?_ sc24
    refine WL.move ?_
    refine WL.call (hc := Tryz.call63) (sp := tRead (n := p.n) (V0 := V0) (V := V1) (D := D1) (op := true) (k := ptr V x ((at' + dn) / 512)) (by omega) (by omega)) (h := ?_)
    rintro _ _ ⟨gb, q, el, rfl, ⟨hq1, hq2, hl5⟩, rfl⟩
    refine WL.move ?_
    refine WL.extract ?_
    refine WL.extract ?_
    refine WL.assign ?_
    refine WL.assign ?_
    refine WL.nil ?_
    refine WQ.next ?_
    refine WC.seq ?_
    refine WC.seq ?_
    refine WC.region ?_
    refine WL.move ?_
    refine WL.nei ?_
    refine WL.nil ?_
    refine WQ.next ?_
    refine WC.condF rfl rfl ?_
    refine WC.skip ?_
    refine WQ.next ?_
    refine WC.seq ?_
    refine WC.region ?_
    refine WL.move ?_
    refine WL.move ?_
    refine WL.rem ?_
    refine WL.cast (d := 42) (u := nI ((at' + dn) % 512)) rfl (congrArg (Value.int .i64) (by omega)) ?_
    refine WL.slcL ?_ so33
    refine WL.cast (d := 43) (u := .slice (some ⟨gb, (at' + dn) % 512, none⟩) (512 - (at' + dn) % 512) (q - (at' + dn) % 512)) rfl (by rw [show ((((at' + dn) % 512 : Nat)) : Int).toNat = (at' + dn) % 512 from Int.toNat_natCast _, if_neg (by omega), Nat.zero_add, Nat.mul_one]) ?_
    refine WL.move ?_
    refine WL.copy (m := m - dn) (xs := bvs (V1 (ptr V x ((at' + dn) / 512)))) (ys := bvs (bs.drop dn)) so33 hA0 (by rw [bvs_length]; exact hyl) (bvs_single _) ?_ (hdl := by rw [bvs_length, hl5]; omega)
    refine WL.cast (d := 45) (u := nI mm) rfl (by rw [hmm]; rfl) ?_
    refine WL.to (A := buf gb el q ((bvs (V1 (ptr V x ((at' + dn) / 512)))).take ((at' + dn) % 512) ++ (bvs (bs.drop dn)).take (min (m - dn) (512 - (at' + dn) % 512)) ++ (bvs (V1 (ptr V x ((at' + dn) / 512)))).drop ((at' + dn) % 512 + min (m - dn) (512 - (at' + dn) % 512)))) (A' := buf gb el q (bvs (splice (V1 (ptr V x ((at' + dn) / 512))) ((at' + dn) % 512) ((bs.drop dn).take mm)))) (fun h hh => by rw [← hmm] at hh; unfold splice; rw [bvs_append, bvs_append, bvs_take, bvs_take, bvs_drop (V1 (ptr V x ((at' + dn) / 512))), hpl]; exact hh) ?_
    refine WL.assign ?_
    refine WL.nil ?_
    refine WQ.next ?_
    refine WC.seq ?_
    refine WC.seq ?_
    refine WC.region ?_
    refine WL.move ?_
    refine WL.nilCheck ?_
    refine WL.fa ?_ fo87_0
    refine WL.ld ?_ sc24
    refine WL.move ?_
    refine WL.move ?_
    refine WL.call (hc := Tryz.call96) (sp := tWrite (n := p.n) (V0 := V0) (V := V1) (D := D1) (k := ptr V x ((at' + dn) / 512)) (by omega) (by omega) Reads.buf ((splice_length (xs := V1 (ptr V x ((at' + dn) / 512))) (off := (at' + dn) % 512) (ys := (bs.drop dn).take mm) (by rw [hpl, hl5]; omega)).trans hl5) rfl (.inr hroom)) (h := ?_)
    rintro _ _ ⟨rfl, rfl⟩
    refine WL.assign ?_
    refine WL.nil ?_
    refine WQ.next ?_
    refine WC.seq ?_
    refine WC.region ?_
    refine WL.move ?_
    refine WL.nei ?_
    refine WL.nil ?_
    refine WQ.next ?_
    refine WC.condF rfl rfl ?_
    refine WC.skip ?_
    refine WQ.next ?_
    refine WC.draw ([]) [] 8 #[false, false, false, false, false, false, false, false] mixed (by kernel_rfl) NoPanic.autoJ ?_
    refine WD.take (i := 0) #[true, false, false, false, false, false, false, false] rfl (by kernel_rfl) (Qt.move ) ?_
    refine WD.take (i := 1) #[true, true, false, false, false, false, false, false] rfl (by kernel_rfl) (Qt.move ) ?_
    refine WD.take (i := 2) #[true, true, true, false, false, false, false, false] rfl (by kernel_rfl) ((Qt.add).eq (v' := nI (at' + (dn + mm))) (congrArg (Value.int .i64) (by omega))) ?_
    refine WD.take (i := 3) #[true, true, true, true, false, false, false, false] rfl (by kernel_rfl) (Qt.move ) ?_
    refine WD.take (i := 4) #[true, true, true, true, true, false, false, false] rfl (by kernel_rfl) (Qt.move ) ?_
    refine WD.take (i := 5) #[true, true, true, true, true, true, false, false] rfl (by kernel_rfl) ((Qt.slcL so33).eq (v' := .slice (if c1 = mm then some ⟨ab, ao, none⟩ else some ⟨ab, ao + mm * 1, none⟩) (m - (dn + mm)) (c1 - mm)) (by rw [show ((mm : Nat) : Int).toNat = mm from Int.toNat_natCast _, Nat.sub_sub])) ?_
    refine WD.take (i := 6) #[true, true, true, true, true, true, true, false] rfl (by kernel_rfl) (Qt.assign ) ?_
    refine WD.take (i := 7) #[true, true, true, true, true, true, true, true] rfl (by kernel_rfl) (Qt.assign ) ?_
    refine WD.done (by kernel_rfl) ?_
    refine WQ.blockNormal ?_
    have hrest : bs.drop (dn + mm) = [] ∨ Reads R (if c1 = mm then some ⟨ab, ao, none⟩ else some ⟨ab, ao + mm * 1, none⟩) (bvs (bs.drop (dn + mm))) := by
      by_cases hcm : c1 = mm
      · exact .inl (List.drop_eq_nil_of_le (by omega))
      · rw [if_neg hcm, Nat.mul_one, ← List.drop_drop, bvs_drop]
        exact .inr (hA0.drop mm)
    have hin := inD_ok hdk1 (v := ptr V x ((at' + dn) / 512)) (by omega) (by omega)
    exact WQ.back (dn + mm, if c1 = mm then some ⟨ab, ao, none⟩ else some ⟨ab, ao + mm * 1, none⟩, c1 - mm, _, insD D1 (ptr V x ((at' + dn) / 512))) ⟨by show dn + mm ≤ m; omega, hrest, by rw [show at' + (dn + mm) = at' + dn + mm from by omega]; exact hstep, hin.1, ⟨t + 1, by show wt p (insD D1 _) ≤ _; omega, by show (dn + mm = 0 ∧ _) ∨ (dn + mm = m ∧ _) ∨ ((at' + (dn + mm)) % 512 = 0 ∧ _); omega⟩, by show m - (dn + mm) ≤ c1 - mm; omega, by show c1 - mm ≤ maxLen; omega⟩ (by show m - (dn + mm) < m - dn; omega)
  · have hge : ¬ dn < m := by have := of_decide_eq_false hb; omega
    have hdm : dn = m := by omega
    subst hdm
    refine WC.exit (WQ.thenExit (WQ.thenExit (WQ.blockExit (?_))))
    refine WQ.next ?_
    refine WC.seq ?_
    refine WC.region ?_
    refine WL.assign ?_
    refine WL.nil ?_
    refine WQ.next ?_
    refine WC.ret (?_)
    exact WQ.ret1 (h1 := .tmp (t := 8) rfl) ⟨_, ⟨_, _, hlay, ⟨hdk1, by omega⟩, rfl, rfl⟩, Am.auto⟩

end Go.Proofs.YtedmihapieleaaaGreat
