/- Walks of package inode: grow, give. -/
import Derived.Test.YtedmihapieleaaaGreatFa
import Derived.Test.YtedmihapieleaaaGreatWw
import Derived.KernelRfl
set_option linter.unusedVariables false
set_option linter.unusedSimpArgs false
namespace Go.Proofs.YtedmihapieleaaaGreat
open Go

def hs (k : Nat) : Nat := k + (if 10 < k then 1 else 0)
theorem has_hs (n : Nat) : has n = hs (dat n) := by
  unfold has hs
  split
  · rw [if_neg (by omega)]; rfl
  · rw [if_pos (by omega)]
theorem hs_succ (k : Nat) : hs (k + 1) = hs k + (if k = 10 then 2 else 1) := by
  unfold hs
  by_cases h : k = 10
  · subst h; rfl
  · rw [if_neg h]
    by_cases h2 : 10 < k
    · rw [if_pos h2, if_pos (by omega)]
    · rw [if_neg h2, if_neg (by omega)]
theorem hs_mono {j k : Nat} (h : j ≤ k) : hs j ≤ hs k := by
  unfold hs
  split <;> split <;> omega
theorem dat_mono {j k : Nat} (h : j ≤ k) : dat j ≤ dat k := by unfold dat; omega
/-- The rest of the last block was laid with noughts. -/
structure GrI (p : Pl) (V V1 : Nat → Bytes) (nd : NF) (i : Nat) (x : Nd) (D D1 : List Nat) : Prop where
  inv : Inv p V1 nd
  kp : Kp p V V1 nd i
  cn : cnt V1 p.bm p.dc = cnt V p.bm p.dc
  old : ∀ q, q < x.sz → fb V1 x q = fb V x q
  new : ∀ q, x.sz ≤ q → q < 512 * dat x.sz → fb V1 x q = 0
  dk : Dk p D1
  wt : wt p D1 ≤ wt p D + 2
structure GrL (p : Pl) (V V1 : Nat → Bytes) (nd : NF) (i : Nat) (x x1 : Nd) (D D1 : List Nat) (k : Nat) : Prop where
  inv : Inv p V1 (updF nd i (some (x1, stdS k)))
  kp : Kp p V V1 nd i
  kd : x1.kd = x.kd
  sz : x1.sz = x.sz
  cn : cnt V1 p.bm p.dc + hs (dat x.sz) = cnt V p.bm p.dc + hs k
  old : ∀ q, q < x.sz → fb V1 x1 q = fb V x q
  new : ∀ q, x.sz ≤ q → q < 512 * k → fb V1 x1 q = 0
  dk : Dk p D1
  wt : wt p D1 + hs (dat x.sz) ≤ wt p D + 2 + hs k + (if 10 < k ∧ x1.bl.getD 10 0 ∈ D1 then 1 else 0)
structure GrowP (p : Pl) (V V1 : Nat → Bytes) (nd : NF) (i : Nat) (x x1 : Nd) (D D1 : List Nat) (size : Nat) : Prop where
  inv : Inv p V1 (updF nd i (some (x1, stdS (dat size))))
  kp : Kp p V V1 nd i
  kd : x1.kd = x.kd
  sz : x1.sz = size
  cn : cnt V1 p.bm p.dc + has x.sz = cnt V p.bm p.dc + has size
  byt : ∀ q, q < size → fb V1 x1 q = if q < x.sz then fb V x q else 0
  dk : Dk p D1
  wt : wt p D1 + has x.sz ≤ wt p D + 3 + has size
theorem updF_self {nd : NF} {i : Nat} {y : Option (Nd × (Nat → Bool))} (h : nd i = y) : updF nd i y = nd := by
  funext j
  unfold updF
  split
  · rename_i hj; rw [hj, h]
  · rfl
theorem GrI.refl {p : Pl} {V : Nat → Bytes} {nd : NF} {i : Nat} {x : Nd} {D : List Nat} (h : Inv p V nd) (hr : x.sz % 512 = 0) (hd : Dk p D) : GrI p V V nd i x D D :=
  ⟨h, Kp.refl _ _ _ _, rfl, fun _ _ => rfl, fun q h1 h2 => by unfold dat at h2; omega, hd, by omega⟩
theorem GrI.of {p : Pl} {V V1 : Nat → Bytes} {nd : NF} {i : Nat} {x : Nd} {D D1 : List Nat} (h : Inv p V nd) (ho : PlOk p) (hi : nd i = some (x, stdS (dat x.sz))) (hb : x.sz ≤ 70656) (hr : 0 < x.sz % 512)
    (hl : LayR p V V1 x x.sz (x.sz + (512 - x.sz % 512)) (List.replicate (512 - x.sz % 512) 0)) (hd : Dk p D1) (hw : Go.Proofs.YtedmihapieleaaaGreat.wt p D1 ≤ Go.Proofs.YtedmihapieleaaaGreat.wt p D + (512 - x.sz % 512 + 511) / 512 + 1) : GrI p V V1 nd i x D D1 := by
  have hm := dat_le hb
  have hdat : 512 * dat x.sz = x.sz + (512 - x.sz % 512) := by unfold dat; omega
  obtain ⟨h1, h2, h3, h4, h5⟩ := hl.stp h ho hi (by omega) (fun k k1 k2 => ⟨stdS_iff.2 (.inl (by unfold dat at *; omega)), by unfold dat at *; omega⟩)
  have hS : ∀ q, q < 512 * dat x.sz → q / 512 < 138 ∧ stdS (dat x.sz) (q / 512) = true := fun q hq => ⟨by omega, stdS_iff.2 (.inl (by omega))⟩
  refine ⟨h1, h2, cnt_same h3, fun q hq => ?_, fun q k1 k2 => ?_, hd, by omega⟩
  · obtain ⟨e1, e2⟩ := hS q (by omega)
    rw [h5 q e1 e2, if_neg (by omega)]
  · obtain ⟨e1, e2⟩ := hS q k2
    rw [h5 q e1 e2, if_pos ⟨k1, by omega⟩, List.getD_eq_getElem?_getD, List.getElem?_replicate]
    split <;> rfl
theorem GrI.begin {p : Pl} {V V1 : Nat → Bytes} {nd : NF} {i : Nat} {x : Nd} {D D1 : List Nat} (h : GrI p V V1 nd i x D D1) (hi : nd i = some (x, stdS (dat x.sz))) : GrL p V V1 nd i x x D D1 (dat x.sz) :=
  ⟨by rw [updF_self hi]; exact h.inv, h.kp, rfl, rfl, by rw [h.cn], h.old, h.new, h.dk, by have := h.wt; omega⟩
theorem GrL.step {p : Pl} {V V1 V2 : Nat → Bytes} {nd : NF} {i : Nat} {x x1 x2 : Nd} {D D1 D2 : List Nat} {k : Nat} (h0 : Inv p V nd) (h : GrL p V V1 nd i x x1 D D1 k) (hk : dat x.sz ≤ k) (hk2 : k < 138) (ht : TakeP p V1 V2 (updF nd i (some (x1, stdS k))) i x1 x2 D1 D2 k) : GrL p V V2 nd i x x2 D D2 (k + 1) := by
  have hfb : ∀ q, q < 512 * k → fb V2 x2 q = fb V1 x1 q := fun q hq => ht.stp.fb (by omega) (stdS_iff.2 (.inl (by omega))) (stdS_iff.2 (.inl (by omega)))
  have hsz : x.sz ≤ 512 * k := by unfold dat at hk; omega
  have e1 := hs_succ k
  have e2 := ht.wt
  have e3 := h.wt
  refine ⟨?_, ?_, ht.stp.kd.trans h.kd, ht.stp.sz.trans h.sz, ?_, fun q hq => ?_, fun q k1 k2 => ?_, ht.dk, ?_⟩
  · have := ht.stp.inv
    rwa [updF_updF] at this
  · exact h.kp.trans ht.stp.kp h0.sok (fun j hj => updF_other _ _ hj)
  · have := h.cn
    have := ht.cn
    omega
  · rw [hfb q (by omega), h.old q hq]
  · by_cases hq : q < 512 * k
    · rw [hfb q hq]; exact h.new q k1 hq
    · have := ht.new (q - 512 * k) (by omega)
      rwa [show 512 * k + (q - 512 * k) = q from by omega] at this
  · by_cases c : 10 ≤ k
    · have e4 := ht.ind c
      rw [if_pos ⟨by omega, e4⟩]
      by_cases c2 : 10 < k
      · rw [if_pos c2, if_neg (show ¬ k = 10 by omega)] at e2
        rw [if_neg (show ¬ k = 10 by omega)] at e1
        by_cases c3 : x1.bl.getD 10 0 ∈ D1
        · rw [if_pos ⟨c2, c3⟩] at e2 e3; omega
        · rw [if_neg (fun hh => c3 hh.2)] at e2 e3; omega
      · rw [if_neg c2, if_neg (fun hh => c2 hh.1)] at e2
        rw [if_neg (fun hh => c2 hh.1)] at e3
        omega
    · rw [if_neg (by omega), if_neg (by omega), if_neg (by omega)] at e2
      rw [if_neg (by omega)] at e3
      rw [if_neg (by omega)] at e1
      rw [if_neg (by omega)]
      omega
theorem GrL.done {p : Pl} {V V1 : Nat → Bytes} {nd : NF} {i : Nat} {x x1 : Nd} {D D1 : List Nat} {size : Nat} (h : GrL p V V1 nd i x x1 D D1 (dat size)) (hs1 : x.sz ≤ size) (hs2 : size ≤ 70656) : GrowP p V V1 nd i x ⟨x1.kd, size, x1.bl⟩ D D1 size := by
  have e3 := h.wt
  have hfx := h.inv.fits i x1 _ (updF_same ..)
  refine ⟨?_, h.kp, h.kd, rfl, by rw [has_hs, has_hs]; exact h.cn, fun q hq => ?_, h.dk, ?_⟩
  · refine h.inv.same h.inv.len (fun _ _ => rfl) (fun _ _ => rfl) fun j => ?_
    by_cases hj : j = i
    · subst hj
      refine .inr ⟨x1, _, stdS (dat size), updF_same .., updF_same .., ⟨hfx.bl, fun v hv => ?_⟩, fun _ _ => rfl⟩
      simp only [Nd.nums, List.mem_cons] at hv
      rcases hv with rfl | rfl | hv
      · exact hfx.lt _ (by simp [Nd.nums])
      · omega
      · exact hfx.lt _ (by simp [Nd.nums, hv])
    · rw [updF_other _ _ hj, updF_other _ _ hj]
      cases hn : nd j with
      | none => exact .inl ⟨rfl, rfl⟩
      | some y =>
        obtain ⟨y, T⟩ := y
        exact .inr ⟨y, y, T, rfl, rfl, h.inv.fits j y T (by rw [updF_other _ _ hj]; exact hn), fun _ _ => rfl⟩
  · show fb V1 x1 q = _
    split
    · rename_i hlt; exact h.old q hlt
    · rename_i hge; exact h.new q (by omega) (by unfold dat; omega)
  · rw [has_hs, has_hs]
    split at e3 <;> omega

theorem inGrow {s c a : Nat} {p : Pl} {V0 V : Nat → Bytes} {D : List Nat} {nd : NF} {i b size : Nat} {x : Nd} (h : Inv p V nd) (ho : PlOk p) (hi : nd i = some (x, stdS (dat x.sz))) (hdk : Dk p D) (hs1 : x.sz < size) (hs2 : size ≤ 70656) (hrm : Rm p D (has size - has x.sz + 6)) :
    Spec Tryz.prog 53 #[.pointer (some ⟨s, 0, none⟩), .pointer (some ⟨b, 0, none⟩), nI size] [pt s (stO c a p), pt a (alO c p), TR c p.n V0 V D true, row b 92 (ndL x)] fun F v M =>
      (p.dc + has x.sz < cnt V p.bm p.dc + has size ∧ v = .int .i64 3 ∧ M = [pt s (stO c a p), pt a (alO c p), TR c p.n V0 V D true, row b 92 (ndL x)] ++ F) ∨
      (cnt V p.bm p.dc + has size ≤ p.dc + has x.sz ∧ ∃ x' V' D', GrowP p V V' nd i x x' D D' size ∧ v = okV ∧ M = [pt s (stO c a p), pt a (alO c p), TR c p.n V0 V' D' true, row b 92 (ndL x')] ++ F) := by
  refine Spec.intro Tryz.func53 rfl rfl fun B F => ?_
  simp only [Tryz.ntmps53, List.cons_append, List.nil_append, env0, Nat.reduceAdd]
  have hlo := ho.lo
  have hdat := ho.dat
  have hfx := h.fits i x _ hi
  have hbl := hfx.bl
  have hnl := ndL_length hbl
  have hd1 := dat_le (show x.sz ≤ 70656 by omega)
  have hd2 := dat_le hs2
  have hdm := dat_mono (show x.sz ≤ size by omega)
  have hhm : has x.sz ≤ has size := by rw [has_hs, has_hs]; exact hs_mono hdm
  have hcl := cnt_le V p.bm p.dc
  have hhb : has size ≤ 139 := by rw [has_hs]; unfold hs; split <;> omega
  have hhb2 : has x.sz ≤ 139 := by omega
  have hszg : (ndL x)[1]? = some (nI x.sz) := rfl
  refine WC.seq ?_
  refine WC.region ?_
  refine WL.assign ?_
  refine WL.nil ?_
  refine WQ.next ?_
  refine WC.seq ?_
  refine WC.seq ?_
  refine WC.region ?_
  refine WL.move ?_
  refine WL.nilCheck ?_
  refine WL.fa ?_ fo87_1
  refine WL.ld ?_ sc25
  refine WL.call (hc := Tryz.call25) (sp := alFree (V0 := V0) (V := V) (D := D) (op := true) ho) (h := ?_)
  rintro _ _ ⟨rfl, rfl⟩
  simp only [List.cons_append, List.nil_append]
  refine WL.move ?_
  refine WL.extract ?_
  refine WL.extract ?_
  refine WL.assign ?_
  refine WL.assign ?_
  refine WL.nil ?_
  refine WQ.next ?_
  refine WC.seq ?_
  refine WC.draw ([row b 92 (ndL x)]) [] 10 #[false, false, false, false, false, false, false, false, false, false] mixed (by kernel_rfl) NoPanic.autoJ ?_
  refine WD.take (i := 0) #[true, false, false, false, false, false, false, false, false, false] rfl (by kernel_rfl) (Qt.move ) ?_
  refine WD.take (i := 2) #[true, false, true, false, false, false, false, false, false, false] rfl (by kernel_rfl) (Qt.move ) ?_
  refine WD.take (i := 3) #[true, false, true, true, false, false, false, false, false, false] rfl (by kernel_rfl) (Qt.nilCheck ) ?_
  refine WD.take (i := 4) #[true, false, true, true, true, false, false, false, false, false] rfl (by kernel_rfl) (Qt.fa fo92_1) ?_
  refine WD.take (i := 5) #[true, false, true, true, true, true, false, false, false, false] rfl (by kernel_rfl) (Qt.ldL (xs := ndL x) (i := 1) sc3 hszg) ?_
  refine WD.take (i := 8) #[true, false, true, true, true, true, false, false, true, false] rfl (by kernel_rfl) (Qt.move ) ?_
  refine WD.one (i := 1) #[true, true, true, true, true, true, false, false, true, false] rfl (by kernel_rfl) fun hnp => ?_
  refine WL.call (hc := Tryz.call100) (sp := inHas (k := size) (by omega)) (h := ?_)
  rintro _ _ ⟨rfl, rfl⟩
  refine WL.nil (WQ.wd hnp (.inl Am.auto) ?_)
  refine WD.one (i := 6) #[true, true, true, true, true, true, true, false, true, false] rfl (by kernel_rfl) fun hnp => ?_
  refine WL.call (hc := Tryz.call100) (sp := inHas (k := x.sz) (by omega)) (h := ?_)
  rintro _ _ ⟨rfl, rfl⟩
  refine WL.nil (WQ.wd hnp (.inl Am.auto) ?_)
  refine WD.take (i := 7) #[true, true, true, true, true, true, true, true, true, false] rfl (by kernel_rfl) (Qt.sub ) ?_
  refine WD.take (i := 9) #[true, true, true, true, true, true, true, true, true, true] rfl (by kernel_rfl) (Qt.gtr ) ?_
  refine WD.done (by kernel_rfl) ?_
  by_cases hfull : p.dc + has x.sz < cnt V p.bm p.dc + has size
  · refine WQ.next ?_
    refine WC.condT rfl (congrArg Value.bool (by first | (simp; done) | (simp; omega) | omega)) ?_
    refine WC.seq ?_
    refine WC.region ?_
    refine WL.assign ?_
    refine WL.nil ?_
    refine WQ.next ?_
    refine WC.ret (WQ.thenRet (?_))
    exact WQ.ret1 (h1 := .tmp (t := 6) rfl) ⟨_, .inl ⟨hfull, rfl, rfl⟩, Am.auto⟩
  · refine WQ.next ?_
    refine WC.condF rfl (congrArg Value.bool (by first | (simp; done) | (simp; omega) | omega)) ?_
    refine WC.skip ?_
    refine WQ.next ?_
    refine WC.seq ?_
    refine WC.seq ?_
    refine WC.region ?_
    refine WL.move ?_
    refine WL.nilCheck ?_
    refine WL.fa ?_ fo92_1
    refine WL.ldL (xs := ndL x) (i := 1) ?_ sc3 hszg
    refine WL.rem ?_
    refine WL.cast (d := 35) (u := nI (x.sz % 512)) rfl (congrArg (Value.int .i64) (by omega)) ?_
    refine WL.assign ?_
    refine WL.nil ?_
    refine WQ.next ?_
    refine WC.seq ?_
    refine WC.region ?_
    refine WL.move ?_
    refine WL.gtr ?_
    refine WL.nil ?_
    refine WQ.next ?_
    refine WC.join (σ := (Nat → Bytes) × List Nat) (fun y => [(0, .pointer (some ⟨s, 0, none⟩)), (1, .pointer (some ⟨b, 0, none⟩)), (2, nI size)]) (fun y => [pt s (stO c a p), pt a (alO c p), TR c p.n V0 y.1 y.2 true, row b 92 (ndL x)] ++ F) (fun y => GrI p V y.1 nd i x D y.2) ?_ ?_
    · by_cases hr : 0 < x.sz % 512
      · refine WC.condT rfl (congrArg Value.bool (by first | (simp; done) | (simp; omega) | omega)) ?_
        refine WC.seq ?_
        refine WC.draw ([row b 92 (ndL x)]) [] 13 #[false, false, false, false, false, false, false, false, false, false, false, false, false] mixed (by kernel_rfl) NoPanic.autoJ ?_
        refine WD.take (i := 0) #[true, false, false, false, false, false, false, false, false, false, false, false, false] rfl (by kernel_rfl) (Qt.move ) ?_
        refine WD.take (i := 1) #[true, true, false, false, false, false, false, false, false, false, false, false, false] rfl (by kernel_rfl) (Qt.move ) ?_
        refine WD.take (i := 2) #[true, true, true, false, false, false, false, false, false, false, false, false, false] rfl (by kernel_rfl) (Qt.nilCheck ) ?_
        refine WD.take (i := 3) #[true, true, true, true, false, false, false, false, false, false, false, false, false] rfl (by kernel_rfl) (Qt.ldW (xs := ndL x) agg92 hnl) ?_
        refine WD.take (i := 4) #[true, true, true, true, true, false, false, false, false, false, false, false, false] rfl (by kernel_rfl) (Qt.move ) ?_
        refine WD.take (i := 5) #[true, true, true, true, true, true, false, false, false, false, false, false, false] rfl (by kernel_rfl) (Qt.nilCheck ) ?_
        refine WD.take (i := 6) #[true, true, true, true, true, true, true, false, false, false, false, false, false] rfl (by kernel_rfl) (Qt.fa fo92_1) ?_
        refine WD.take (i := 7) #[true, true, true, true, true, true, true, true, false, false, false, false, false] rfl (by kernel_rfl) (Qt.ldL (xs := ndL x) (i := 1) sc3 hszg) ?_
        refine WD.take (i := 8) #[true, true, true, true, true, true, true, true, true, false, false, false, false] rfl (by kernel_rfl) (Qt.move ) ?_
        refine WD.take (i := 9) #[true, true, true, true, true, true, true, true, true, true, false, false, false] rfl (by kernel_rfl) ((Qt.sub).eq (v' := .int .i64 ((512 - x.sz % 512 : Nat) : Int)) (congrArg (Value.int .i64) (by omega))) ?_
        refine WD.one (i := 10) #[true, true, true, true, true, true, true, true, true, true, true, false, false] rfl (by kernel_rfl) fun hnp => ?_
        refine WL.mkS (k := ((512 - x.sz % 512 : Nat) : Int)) z5 (fun b48 => ?_) so33 (by omega) (by omega) (by omega)
        refine WL.to (A := buf b48 5 ((512 - x.sz % 512 : Nat) : Int).toNat (List.replicate ((512 - x.sz % 512 : Nat) : Int).toNat (.int .u8 0))) (A' := buf b48 5 (512 - x.sz % 512) (bvs (List.replicate (512 - x.sz % 512) 0))) (fun h hh => by rw [bvs_replicate]; rw [Int.toNat_natCast] at hh; exact hh) ?_
        refine WL.nil (WQ.wd hnp (.inl Am.auto) ?_)
        refine WD.one (i := 11) #[true, true, true, true, true, true, true, true, true, true, true, true, false] rfl (by kernel_rfl) fun hnp => ?_
        refine WL.call (hc := Tryz.call54) (sp := inLay (x := x) (at' := x.sz) (bs := List.replicate (512 - x.sz % 512) 0) (V0 := V0) (V := V) (D := D) h ho hi hdk (hrm.mono (by rw [List.length_replicate]; omega)) (.inr Reads.buf) List.length_replicate (Nat.le_refl _) (by unfold maxLen; omega) (fun k k1 k2 => ⟨stdS_iff.2 (.inl (by unfold dat at *; omega)), by unfold dat at *; omega⟩) (by omega) (by omega)) (h := ?_)
        rintro _ _ ⟨V1, D1, hlay, ⟨hdk1, hw1⟩, rfl, rfl⟩
        simp only [List.cons_append, List.nil_append]
        refine WL.nil (WQ.wd hnp (.inl Am.auto) ?_)
        refine WD.take (i := 12) #[true, true, true, true, true, true, true, true, true, true, true, true, true] rfl (by kernel_rfl) (Qt.assign ) ?_
        refine WD.done (by kernel_rfl) ?_
        refine WQ.next ?_
        refine WC.seq ?_
        refine WC.region ?_
        refine WL.move ?_
        refine WL.nei ?_
        refine WL.nil ?_
        refine WQ.next ?_
        refine WC.condF rfl rfl ?_
        refine WC.skip ?_
        exact WQ.joined (V1, D1) (GrI.of h ho hi (by omega) hr hlay hdk1 hw1)
      · refine WC.condF rfl (congrArg Value.bool (by first | (simp; done) | (simp; omega) | omega)) ?_
        refine WC.skip ?_
        exact WQ.joined (V, D) (GrI.refl h (by omega) hdk)
    · rintro ⟨V1, D1⟩ hI
      have hinv1 := hI.inv
      refine WQ.next ?_
      refine WC.seq ?_
      refine WC.seq ?_
      refine WC.region ?_
      refine WL.move ?_
      refine WL.nilCheck ?_
      refine WL.fa ?_ fo92_1
      refine WL.ldL (xs := ndL x) (i := 1) ?_ sc3 hszg
      refine WL.call (hc := Tryz.call101) (sp := inData (k := x.sz) (by omega)) (h := ?_)
      rintro _ _ ⟨rfl, rfl⟩
      refine WL.assign ?_
      refine WL.nil ?_
      refine WQ.next ?_
      refine WC.block ?_
      refine WC.loopA (σ := Nat × Nd × (Nat → Bytes) × List Nat) (fun y => [(0, .pointer (some ⟨s, 0, none⟩)), (1, .pointer (some ⟨b, 0, none⟩)), (2, nI size), (11, nI y.1)]) (fun y => [pt s (stO c a p), pt a (alO c p), TR c p.n V0 y.2.2.1 y.2.2.2 true, row b 92 (ndL y.2.1)] ++ F) (fun y => dat x.sz ≤ y.1 ∧ y.1 ≤ dat size ∧ GrL p V y.2.2.1 nd i x y.2.1 D y.2.2.2 y.1) (fun y => dat size - y.1) (dat x.sz, x, V1, D1) ⟨Nat.le_refl _, hdm, hI.begin hi⟩ ?_
      rintro ⟨k, x1, V1, D1⟩ hy
      obtain ⟨hk1, hk2, hL⟩ := hy
      simp only at hk1 hk2 hL
      refine WC.seq ?_
      refine WC.seq ?_
      refine WC.region ?_
      refine WL.move ?_
      refine WL.move ?_
      refine WL.call (hc := Tryz.call101) (sp := inData (k := size) (by omega)) (h := ?_)
      rintro _ _ ⟨rfl, rfl⟩
      refine WL.lss ?_
      refine WL.nil ?_
      refine WQ.next ?_
      refine WC.cond rfl (fun hb => ?_) (fun hb => ?_)
      · have hlt : k < dat size := by have := of_decide_eq_true hb; omega
        have hcnl := hL.cn
        have hwtl := hL.wt
        have hss := hs_succ k
        have hss2 : hs (k + 1) ≤ hs (dat size) := hs_mono hlt
        have hhs1 := has_hs x.sz
        have hhs2 := has_hs size
        refine WC.skip ?_
        refine WQ.next ?_
        refine WC.seq ?_
        refine WC.block ?_
        refine WC.seq ?_
        refine WC.region ?_
        refine WL.move ?_
        refine WL.move ?_
        refine WL.move ?_
        refine WL.call (hc := Tryz.call102) (sp := inTake (i := i) (b := b) (k := k) (x := x1) (V0 := V0) (V := V1) (D := D1) hL.inv ho (updF_same ..) (by omega) hL.dk (hrm.mono (by split at hwtl <;> omega)) (by omega)) (h := ?_)
        rintro _ _ ⟨x2, V2, D2, hT, rfl, rfl⟩
        simp only [List.cons_append, List.nil_append]
        refine WL.assign ?_
        refine WL.nil ?_
        refine WQ.next ?_
        refine WC.seq ?_
        refine WC.region ?_
        refine WL.move ?_
        refine WL.nei ?_
        refine WL.nil ?_
        refine WQ.next ?_
        refine WC.condF rfl rfl ?_
        refine WC.skip ?_
        refine WQ.blockNormal ?_
        refine WQ.next ?_
        refine WC.region ?_
        refine WL.move ?_
        refine WL.add ?_
        refine WL.assign ?_
        refine WL.nil ?_
        refine WQ.cast (d := 11) (u := nI (k + 1)) rfl (congrArg (Value.int .i64) (by omega)) ?_
        exact WQ.back (k + 1, x2, V2, D2) ⟨by show dat x.sz ≤ k + 1; omega, by show k + 1 ≤ dat size; omega, hL.step h hk1 (by omega) hT⟩ (by show dat size - (k + 1) < dat size - k; omega)
      · have hge : ¬ k < dat size := by have := of_decide_eq_false hb; omega
        have hke : k = dat size := by omega
        subst hke
        have hfx1 := hL.inv.fits i x1 _ (updF_same ..)
        refine WC.exit (WQ.thenExit (WQ.thenExit (WQ.blockExit (?_))))
        refine WQ.next ?_
        refine WC.seq ?_
        refine WC.region ?_
        refine WL.move ?_
        refine WL.move ?_
        refine WL.nilCheck ?_
        refine WL.fa ?_ fo92_1
        refine WL.stL (xs := ndL x1) (i := 1) ?_ sc3 (by rw [ndL_length hfx1.bl]; decide)
        refine WL.to (A := row b 92 ((ndL x1).set 1 (nI size))) (A' := row b 92 (ndL ⟨x1.kd, size, x1.bl⟩)) (fun h hh => hh) ?_
        refine WL.nil ?_
        refine WQ.next ?_
        refine WC.seq ?_
        refine WC.region ?_
        refine WL.assign ?_
        refine WL.nil ?_
        refine WQ.next ?_
        refine WC.ret (?_)
        exact WQ.ret1 (h1 := .tmp (t := 6) rfl) ⟨_, .inr ⟨by omega, _, _, _, hL.done (by omega) hs2, rfl, rfl⟩, Am.auto⟩

end Go.Proofs.YtedmihapieleaaaGreat
