/- Walks of package inode: Read, Truncate, Drop. -/
import Derived.Test.YtedmihapieleaaaGreatFa
import Derived.Test.YtedmihapieleaaaGreatWz
import Derived.KernelRfl
set_option linter.unusedVariables false
set_option linter.unusedSimpArgs false
namespace Go.Proofs.YtedmihapieleaaaGreat
open Go
theorem inTrunc {s c a : Nat} {p : Pl} {V0 V : Nat → Bytes} {D : List Nat} {F0 : FM} {i size : Nat} {f : Nat × Bytes} (h : Rep p V F0) (ho : PlOk p) (hi : F0 i = some f) (hdk : Dk p D) (hrm : Rm p D (has size - has f.2.length + 8)) (hbg : size ≤ 70656) :
    Spec Tryz.prog 26 #[.pointer (some ⟨s, 0, none⟩), nI i, nI size] [pt s (stO c a p), pt a (alO c p), TR c p.n V0 V D true] fun F v M =>
      (p.dc + has f.2.length < tot F0 p.ino + has size ∧ v = .int .i64 3 ∧ M = [pt s (stO c a p), pt a (alO c p), TR c p.n V0 V D true] ++ F) ∨
      (tot F0 p.ino + has size ≤ p.dc + has f.2.length ∧ ∃ V' D', Rep p V' (updM F0 i (some (f.1, trB f.2 size))) ∧ (Dk p D' ∧ wt p D' ≤ wt p D + (has size - has f.2.length) + 4) ∧ v = okV ∧ M = [pt s (stO c a p), pt a (alO c p), TR c p.n V0 V' D' true] ++ F) := by
  refine Spec.intro Tryz.func26 rfl rfl fun B F => ?_
  simp only [Tryz.ntmps26, List.cons_append, List.nil_append, env0, Nat.reduceAdd]
  have hf := h.ok i f hi
  have hsz := hf.sz
  have hbig := hf.big
  have hlt := h.lt hi
  have hi2 := ho.i2
  have hlo := ho.lo
  have htab := ho.tab
  have hnd := repNd (p := p) (V := V) hi
  have hfx := h.inv.fits i _ _ hnd
  have hbl := hfx.bl
  have hnl := ndL_length hbl
  have hcl := h.cntle
  have hszg : (ndL (ldN p V i))[1]? = some (nI f.2.length) := by rw [← hsz]; rfl
  have hndx := h.ndX hi
  rcases (show f.2.length < size ∨ size < f.2.length ∨ size = f.2.length from by omega) with hc | hc | hc
  · refine WC.seq ?_
    refine WC.region ?_
    refine WL.assign ?_
    refine WL.nil ?_
    refine WQ.next ?_
    refine WC.seq ?_
    refine WC.region ?_
    refine WL.move ?_
    refine WL.move ?_
    refine WL.call (hc := Tryz.call52) (sp := inChg (i := i) (V0 := V0) (V := V) (D := D) ho (h.lt hi) (h.digI hi)) (h := ?_)
    rintro _ _ ⟨rfl, rfl⟩
    simp only [List.cons_append, List.nil_append]
    refine WL.move ?_
    refine WL.extract ?_
    refine WL.extract ?_
    refine WL.allocL zNd rfl fun b7 => ?_
    refine WL.stLA (xs := ndL nd0) (us := ndL (ldN p V i)) ?_ agg92 hnl rfl (ndL_single _)
    refine WL.assign ?_
    refine WL.nil ?_
    refine WQ.next ?_
    refine WC.seq ?_
    refine WC.block ?_
    refine WC.seq ?_
    refine WC.region ?_
    refine WL.move ?_
    refine WL.nei ?_
    refine WL.assign ?_
    refine WL.nil ?_
    refine WQ.next ?_
    refine WC.condF rfl rfl ?_
    refine WC.seq ?_
    refine WC.region ?_
    refine WL.move ?_
    refine WL.lss ?_
    refine WL.assign ?_
    refine WL.nil ?_
    refine WQ.next ?_
    refine WC.condF rfl (congrArg Value.bool (by first | (simp; done) | (simp; omega) | (unfold nI; simp; omega) | omega)) ?_
    refine WC.seq ?_
    refine WC.region ?_
    refine WL.move ?_
    refine WL.gtr ?_
    refine WL.assign ?_
    refine WL.nil ?_
    refine WQ.next ?_
    refine WC.condF rfl (congrArg Value.bool (by first | (simp; done) | (simp; omega) | (unfold nI; simp; omega) | omega)) ?_
    refine WC.seq ?_
    refine WC.region ?_
    refine WL.move ?_
    refine WL.fa ?_ fo92_1
    refine WL.ldL (xs := ndL (ldN p V i)) (i := 1) ?_ sc3 hszg
    refine WL.gtr ?_
    refine WL.assign ?_
    refine WL.nil ?_
    refine WQ.next ?_
    refine WC.condT rfl (congrArg Value.bool (by first | (simp; done) | (simp; omega) | (unfold nI; simp; omega) | omega)) ?_
    refine WC.region ?_
    refine WL.move ?_
    refine WL.move ?_
    refine WL.call (hc := Tryz.call53) (sp := inGrow (i := i) (b := b7) (size := size) (x := ldN p V i) (V0 := V0) (V := V) (D := D) h.inv ho hndx hdk (by rw [hsz]; omega) (by omega) (hrm.mono (by rw [hsz]; omega))) (h := ?_)
    rintro _ _ (⟨hfull, rfl, rfl⟩ | ⟨hle, x1, V1, D1, hG, rfl, rfl⟩) <;> simp only [List.cons_append, List.nil_append]
    · rw [h.cn, hsz] at hfull
      refine WL.assign ?_
      refine WL.nil ?_
      refine WQ.blockNormal ?_
      refine WQ.next ?_
      refine WC.seq ?_
      refine WC.seq ?_
      refine WC.region ?_
      refine WL.move ?_
      refine WL.nei ?_
      refine WL.nil ?_
      refine WQ.next ?_
      refine WC.condT rfl rfl ?_
      refine WC.seq ?_
      refine WC.region ?_
      refine WL.move ?_
      refine WL.assign ?_
      refine WL.nil ?_
      refine WQ.next ?_
      refine WC.ret (WQ.thenRet (?_))
      exact WQ.ret1 (h1 := .tmp (t := 6) rfl) ⟨_, .inl ⟨hfull, rfl, rfl⟩, Am.auto⟩
    · rw [h.cn, hsz] at hle
      have hfx1 := hG.inv.fits i x1 _ (updF_same ..)
      have hbl1 := hfx1.bl
      have hwg := hG.wt
      rw [hsz] at hwg
      have hhm : has f.2.length ≤ has size := by rw [has_hs, has_hs]; exact hs_mono (dat_mono (by omega))
      have hrep := h.grown ho hi (by omega) (by omega) hG
      have hsd := inD_ok (p := p) hG.dk (v := p.tb + i / 8) (by omega) (by omega)
      have htr : trB f.2 size = ext f.2 size := by unfold trB; rw [List.take_of_length_le (by omega)]
      refine WL.assign ?_
      refine WL.nil ?_
      refine WQ.blockNormal ?_
      refine WQ.next ?_
      refine WC.seq ?_
      refine WC.seq ?_
      refine WC.region ?_
      refine WL.move ?_
      refine WL.nei ?_
      refine WL.nil ?_
      refine WQ.next ?_
      refine WC.condF rfl rfl ?_
      refine WC.skip ?_
      refine WQ.next ?_
      refine WC.seq ?_
      refine WC.region ?_
      refine WL.move ?_
      refine WL.move ?_
      refine WL.ldW (xs := ndL x1) ?_ agg92 (ndL_length hbl1)
      refine WL.call (hc := Tryz.call51) (sp := inSave (i := i) (x := x1) (V0 := V0) (V := V1) (D := D1) ho hlt hfx1 (hG.dk.room (c := 0) (hrm.mono (by omega)))) (h := ?_)
      rintro _ _ ⟨rfl, rfl⟩
      simp only [List.cons_append, List.nil_append]
      refine WL.assign ?_
      refine WL.nil ?_
      refine WQ.next ?_
      refine WC.ret (?_)
      exact WQ.ret1 (h1 := .tmp (t := 6) rfl) ⟨_, .inr ⟨hle, _, _, by rw [htr]; exact hrep, ⟨hsd.1, by omega⟩, rfl, rfl⟩, Am.auto⟩
  · refine WC.seq ?_
    refine WC.region ?_
    refine WL.assign ?_
    refine WL.nil ?_
    refine WQ.next ?_
    refine WC.seq ?_
    refine WC.region ?_
    refine WL.move ?_
    refine WL.move ?_
    refine WL.call (hc := Tryz.call52) (sp := inChg (i := i) (V0 := V0) (V := V) (D := D) ho (h.lt hi) (h.digI hi)) (h := ?_)
    rintro _ _ ⟨rfl, rfl⟩
    simp only [List.cons_append, List.nil_append]
    refine WL.move ?_
    refine WL.extract ?_
    refine WL.extract ?_
    refine WL.allocL zNd rfl fun b7 => ?_
    refine WL.stLA (xs := ndL nd0) (us := ndL (ldN p V i)) ?_ agg92 hnl rfl (ndL_single _)
    refine WL.assign ?_
    refine WL.nil ?_
    refine WQ.next ?_
    refine WC.seq ?_
    refine WC.block ?_
    refine WC.seq ?_
    refine WC.region ?_
    refine WL.move ?_
    refine WL.nei ?_
    refine WL.assign ?_
    refine WL.nil ?_
    refine WQ.next ?_
    refine WC.condF rfl rfl ?_
    refine WC.seq ?_
    refine WC.region ?_
    refine WL.move ?_
    refine WL.lss ?_
    refine WL.assign ?_
    refine WL.nil ?_
    refine WQ.next ?_
    refine WC.condF rfl (congrArg Value.bool (by first | (simp; done) | (simp; omega) | (unfold nI; simp; omega) | omega)) ?_
    refine WC.seq ?_
    refine WC.region ?_
    refine WL.move ?_
    refine WL.gtr ?_
    refine WL.assign ?_
    refine WL.nil ?_
    refine WQ.next ?_
    refine WC.condF rfl (congrArg Value.bool (by first | (simp; done) | (simp; omega) | (unfold nI; simp; omega) | omega)) ?_
    refine WC.seq ?_
    refine WC.region ?_
    refine WL.move ?_
    refine WL.fa ?_ fo92_1
    refine WL.ldL (xs := ndL (ldN p V i)) (i := 1) ?_ sc3 hszg
    refine WL.gtr ?_
    refine WL.assign ?_
    refine WL.nil ?_
    refine WQ.next ?_
    refine WC.condF rfl (congrArg Value.bool (by first | (simp; done) | (simp; omega) | (unfold nI; simp; omega) | omega)) ?_
    refine WC.seq ?_
    refine WC.region ?_
    refine WL.move ?_
    refine WL.fa ?_ fo92_1
    refine WL.ldL (xs := ndL (ldN p V i)) (i := 1) ?_ sc3 hszg
    refine WL.lss ?_
    refine WL.assign ?_
    refine WL.nil ?_
    refine WQ.next ?_
    refine WC.condT rfl (congrArg Value.bool (by first | (simp; done) | (simp; omega) | (unfold nI; simp; omega) | omega)) ?_
    refine WC.seq ?_
    refine WC.region ?_
    refine WL.move ?_
    refine WL.move ?_
    refine WL.call (hc := Tryz.call67) (sp := inGive (i := i) (b := b7) (size := size) (x := ldN p V i) (V0 := V0) (V := V) (D := D) h.inv ho hndx hdk (by rw [hsz]; omega) (by rw [hsz]; omega) (hrm.mono (by omega))) (h := ?_)
    rintro _ _ ⟨x1, V1, D1, hG, rfl, rfl⟩
    simp only [List.cons_append, List.nil_append]
    have hfx1 := hG.inv.fits i x1 _ (updF_same ..)
    have hbl1 := hfx1.bl
    rw [hsz] at hG
    have hrep := h.shrunk ho hi (by omega) hG
    have hsd := inD_ok (p := p) hG.dk (v := p.tb + i / 8) (by omega) (by omega)
    have hwg := hG.wt
    have hfx2 : Fits ⟨x1.kd, size, x1.bl⟩ := ⟨hfx1.bl, fun v hv => by
      simp only [Nd.nums, List.mem_cons] at hv
      rcases hv with rfl | rfl | hv
      · exact hfx1.lt _ (by simp [Nd.nums])
      · omega
      · exact hfx1.lt _ (by simp [Nd.nums, hv])⟩
    have hhm : has size ≤ has f.2.length := by rw [has_hs, has_hs]; exact hs_mono (dat_mono (by omega))
    refine WL.assign ?_
    refine WL.nil ?_
    refine WQ.next ?_
    refine WC.region ?_
    refine WL.move ?_
    refine WL.fa ?_ fo92_1
    refine WL.stL (xs := ndL x1) (i := 1) ?_ sc3 (by rw [ndL_length hbl1]; decide)
    refine WL.to (A := row b7 92 ((ndL x1).set 1 (nI size))) (A' := row b7 92 (ndL ⟨x1.kd, size, x1.bl⟩)) (fun h hh => hh) ?_
    refine WL.nil ?_
    refine WQ.blockNormal ?_
    refine WQ.next ?_
    refine WC.seq ?_
    refine WC.seq ?_
    refine WC.region ?_
    refine WL.move ?_
    refine WL.nei ?_
    refine WL.nil ?_
    refine WQ.next ?_
    refine WC.condF rfl rfl ?_
    refine WC.skip ?_
    refine WQ.next ?_
    refine WC.seq ?_
    refine WC.region ?_
    refine WL.move ?_
    refine WL.move ?_
    refine WL.ldW (xs := ndL ⟨x1.kd, size, x1.bl⟩) ?_ agg92 (ndL_length hbl1)
    refine WL.call (hc := Tryz.call51) (sp := inSave (i := i) (x := ⟨x1.kd, size, x1.bl⟩) (V0 := V0) (V := V1) (D := D1) ho hlt hfx2 (hG.dk.room (c := 0) (hrm.mono (by omega)))) (h := ?_)
    rintro _ _ ⟨rfl, rfl⟩
    simp only [List.cons_append, List.nil_append]
    refine WL.assign ?_
    refine WL.nil ?_
    refine WQ.next ?_
    refine WC.ret (?_)
    exact WQ.ret1 (h1 := .tmp (t := 6) rfl) ⟨_, .inr ⟨by omega, _, _, hrep, ⟨hsd.1, by omega⟩, rfl, rfl⟩, Am.auto⟩
  · have hG : GiL p V V (ndOf p V F0) i (ldN p V i) (ldN p V i) D D size (has f.2.length - has size) (stdS (dat size)) := by
      refine ⟨by rw [hc, updF_self hnd]; exact h.inv, Kp.refl _ _ _ _, rfl, rfl, by rw [hc, Nat.sub_self]; rfl, fun _ _ => rfl, hdk, rfl⟩
    have hxe : (⟨(ldN p V i).kd, size, (ldN p V i).bl⟩ : Nd) = ldN p V i := by rw [hc, ← hsz]
    have hrep := h.shrunk ho hi (by omega) hG
    rw [hxe] at hrep
    have hsd := inD_ok (p := p) hdk (v := p.tb + i / 8) (by omega) (by omega)
    refine WC.seq ?_
    refine WC.region ?_
    refine WL.assign ?_
    refine WL.nil ?_
    refine WQ.next ?_
    refine WC.seq ?_
    refine WC.region ?_
    refine WL.move ?_
    refine WL.move ?_
    refine WL.call (hc := Tryz.call52) (sp := inChg (i := i) (V0 := V0) (V := V) (D := D) ho (h.lt hi) (h.digI hi)) (h := ?_)
    rintro _ _ ⟨rfl, rfl⟩
    simp only [List.cons_append, List.nil_append]
    refine WL.move ?_
    refine WL.extract ?_
    refine WL.extract ?_
    refine WL.allocL zNd rfl fun b7 => ?_
    refine WL.stLA (xs := ndL nd0) (us := ndL (ldN p V i)) ?_ agg92 hnl rfl (ndL_single _)
    refine WL.assign ?_
    refine WL.nil ?_
    refine WQ.next ?_
    refine WC.seq ?_
    refine WC.block ?_
    refine WC.seq ?_
    refine WC.region ?_
    refine WL.move ?_
    refine WL.nei ?_
    refine WL.assign ?_
    refine WL.nil ?_
    refine WQ.next ?_
    refine WC.condF rfl rfl ?_
    refine WC.seq ?_
    refine WC.region ?_
    refine WL.move ?_
    refine WL.lss ?_
    refine WL.assign ?_
    refine WL.nil ?_
    refine WQ.next ?_
    refine WC.condF rfl (congrArg Value.bool (by first | (simp; done) | (simp; omega) | (unfold nI; simp; omega) | omega)) ?_
    refine WC.seq ?_
    refine WC.region ?_
    refine WL.move ?_
    refine WL.gtr ?_
    refine WL.assign ?_
    refine WL.nil ?_
    refine WQ.next ?_
    refine WC.condF rfl (congrArg Value.bool (by first | (simp; done) | (simp; omega) | (unfold nI; simp; omega) | omega)) ?_
    refine WC.seq ?_
    refine WC.region ?_
    refine WL.move ?_
    refine WL.fa ?_ fo92_1
    refine WL.ldL (xs := ndL (ldN p V i)) (i := 1) ?_ sc3 hszg
    refine WL.gtr ?_
    refine WL.assign ?_
    refine WL.nil ?_
    refine WQ.next ?_
    refine WC.condF rfl (congrArg Value.bool (by first | (simp; done) | (simp; omega) | (unfold nI; simp; omega) | omega)) ?_
    refine WC.seq ?_
    refine WC.region ?_
    refine WL.move ?_
    refine WL.fa ?_ fo92_1
    refine WL.ldL (xs := ndL (ldN p V i)) (i := 1) ?_ sc3 hszg
    refine WL.lss ?_
    refine WL.assign ?_
    refine WL.nil ?_
    refine WQ.next ?_
    refine WC.condF rfl (congrArg Value.bool (by first | (simp; done) | (simp; omega) | (unfold nI; simp; omega) | omega)) ?_
    refine WC.skip ?_
    refine WQ.blockNormal ?_
    refine WQ.next ?_
    refine WC.seq ?_
    refine WC.seq ?_
    refine WC.region ?_
    refine WL.move ?_
    refine WL.nei ?_
    refine WL.nil ?_
    refine WQ.next ?_
    refine WC.condF rfl rfl ?_
    refine WC.skip ?_
    refine WQ.next ?_
    refine WC.seq ?_
    refine WC.region ?_
    refine WL.move ?_
    refine WL.move ?_
    refine WL.ldW (xs := ndL (ldN p V i)) ?_ agg92 hnl
    refine WL.call (hc := Tryz.call51) (sp := inSave (i := i) (x := ldN p V i) (V0 := V0) (V := V) (D := D) ho hlt hfx (hdk.room (c := 0) (hrm.mono (by omega)))) (h := ?_)
    rintro _ _ ⟨rfl, rfl⟩
    simp only [List.cons_append, List.nil_append]
    refine WL.assign ?_
    refine WL.nil ?_
    refine WQ.next ?_
    refine WC.ret (?_)
    exact WQ.ret1 (h1 := .tmp (t := 6) rfl) ⟨_, .inr ⟨by rw [hc]; omega, _, _, hrep, ⟨hsd.1, by omega⟩, rfl, rfl⟩, Am.auto⟩

theorem inDrop {s c a : Nat} {p : Pl} {V0 V : Nat → Bytes} {D : List Nat} {F0 : FM} {i : Nat} {f : Nat × Bytes} (h : Rep p V F0) (ho : PlOk p) (hi : F0 i = some f) (hi0 : i ≠ 0) (hdk : Dk p D) (hrm : Rm p D 1) :
    Spec Tryz.prog 27 #[.pointer (some ⟨s, 0, none⟩), nI i] [pt s (stO c a p), pt a (alO c p), TR c p.n V0 V D true] fun F v M => ∃ V' D', Rep p V' (updM F0 i none) ∧ (Dk p D' ∧ wt p D' ≤ wt p D) ∧ v = okV ∧ M = [pt s (stO c a p), pt a (alO c p), TR c p.n V0 V' D' true] ++ F := by
  refine Spec.intro Tryz.func27 rfl rfl fun B F => ?_
  simp only [Tryz.ntmps27, List.cons_append, List.nil_append, env0, Nat.reduceAdd]
  have hf := h.ok i f hi
  have hsz := hf.sz
  have hbig := hf.big
  have hlt := h.lt hi
  have hi2 := ho.i2
  have hlo := ho.lo
  have htab := ho.tab
  have hnd := repNd (p := p) (V := V) hi
  have hfx := h.inv.fits i _ _ hnd
  have hbl := hfx.bl
  have hnl := ndL_length hbl
  have hcl := h.cntle
  have hszg : (ndL (ldN p V i))[1]? = some (nI f.2.length) := by rw [← hsz]; rfl
  have hndx := h.ndX hi
  refine WC.seq ?_
  refine WC.region ?_
  refine WL.assign ?_
  refine WL.nil ?_
  refine WQ.next ?_
  refine WC.seq ?_
  refine WC.region ?_
  refine WL.move ?_
  refine WL.move ?_
  refine WL.call (hc := Tryz.call52) (sp := inChg (i := i) (V0 := V0) (V := V) (D := D) ho (h.lt hi) (h.digI hi)) (h := ?_)
  rintro _ _ ⟨rfl, rfl⟩
  simp only [List.cons_append, List.nil_append]
  refine WL.move ?_
  refine WL.extract ?_
  refine WL.extract ?_
  refine WL.allocL zNd rfl fun b5 => ?_
  refine WL.stLA (xs := ndL nd0) (us := ndL (ldN p V i)) ?_ agg92 hnl rfl (ndL_single _)
  refine WL.assign ?_
  refine WL.nil ?_
  refine WQ.next ?_
  refine WC.seq ?_
  refine WC.block ?_
  refine WC.seq ?_
  refine WC.region ?_
  refine WL.move ?_
  refine WL.nei ?_
  refine WL.assign ?_
  refine WL.nil ?_
  refine WQ.next ?_
  refine WC.condF rfl rfl ?_
  refine WC.seq ?_
  refine WC.region ?_
  refine WL.move ?_
  refine WL.eqi ?_
  refine WL.assign ?_
  refine WL.nil ?_
  refine WQ.next ?_
  refine WC.condF rfl (congrArg Value.bool (by first | (simp; done) | (simp; omega) | (unfold nI; simp; omega) | omega)) ?_
  refine WC.skip ?_
  refine WQ.blockNormal ?_
  refine WQ.next ?_
  refine WC.seq ?_
  refine WC.seq ?_
  refine WC.region ?_
  refine WL.move ?_
  refine WL.call (hc := Tryz.call67) (sp := inGive (i := i) (b := b5) (size := 0) (x := ldN p V i) (V0 := V0) (V := V) (D := D) h.inv ho hndx hdk (Nat.zero_le _) (by rw [hsz]; omega) hrm) (h := ?_)
  rintro _ _ ⟨x1, V1, D1, hG, rfl, rfl⟩
  simp only [List.cons_append, List.nil_append]
  rw [hsz] at hG
  obtain ⟨hrep, hdg⟩ := h.dropped ho hi hi0 hG
  have hwg := hG.wt
  have him := (wt_ins p D1 (p.im + i / 4096)).2.1 (by omega)
  have hD2 := hG.dk.ins (k := p.im + i / 4096) (by omega) (by omega)
  refine WL.assign ?_
  refine WL.nil ?_
  refine WQ.next ?_
  refine WC.seq ?_
  refine WC.region ?_
  refine WL.move ?_
  refine WL.nei ?_
  refine WL.nil ?_
  refine WQ.next ?_
  refine WC.condF rfl rfl ?_
  refine WC.skip ?_
  refine WQ.next ?_
  refine WC.seq ?_
  refine WC.region ?_
  refine WL.move ?_
  refine WL.nilCheck ?_
  refine WL.fa ?_ fo87_1
  refine WL.ld ?_ sc25
  refine WL.move ?_
  refine WL.call (hc := Tryz.call68) (sp := alGiveInode (k := i) (V0 := V0) (V := V1) (D := D1) ho (hG.dk.room (c := 0) (hrm.mono (by omega))) (by omega) hlt hdg) (h := ?_)
  rintro _ _ ⟨rfl, rfl⟩
  simp only [List.cons_append, List.nil_append]
  refine WL.assign ?_
  refine WL.nil ?_
  refine WQ.next ?_
  refine WC.ret (?_)
  exact WQ.ret1 (h1 := .tmp (t := 4) rfl) ⟨_, ⟨_, _, hrep, ⟨hD2, by omega⟩, rfl, rfl⟩, Am.auto⟩


theorem read_step {V : Nat → Bytes} {x : Nd} {bs : Bytes} {cur mm at' : Nat} (hb : ∀ q, q < bs.length → fb V x q = bs.getD q 0) (h1 : cur % 512 + mm ≤ 512) (h2 : cur + mm ≤ bs.length) (h3 : at' ≤ cur) (h5 : (V (ptr V x (cur / 512))).length = 512) :
    (bs.drop at').take (cur + mm - at') = (bs.drop at').take (cur - at') ++ ((V (ptr V x (cur / 512))).drop (cur % 512)).take mm := by
  rw [show cur + mm - at' = (cur - at') + mm from by omega, List.take_add, List.drop_drop, show at' + (cur - at') = cur from by omega]
  congr 1
  apply List.ext_getElem?
  intro j
  simp only [List.getElem?_take, List.getElem?_drop]
  by_cases hj : j < mm
  · rw [if_pos hj, if_pos hj]
    have := hb (cur + j) (by omega)
    unfold fb at this
    rw [show (cur + j) / 512 = cur / 512 from by omega, show (cur + j) % 512 = cur % 512 + j from by omega, List.getD_eq_getElem?_getD, List.getD_eq_getElem?_getD, List.getElem?_eq_getElem (by omega), List.getElem?_eq_getElem (by omega)] at this
    rw [List.getElem?_eq_getElem (by omega), List.getElem?_eq_getElem (by omega)]
    exact congrArg some this.symm
  · rw [if_neg hj, if_neg hj]

theorem inRead {s c a : Nat} {p : Pl} {V0 V : Nat → Bytes} {D : List Nat} {op : Bool} {F0 : FM} {i at' k : Nat} {f : Nat × Bytes} (h : Rep p V F0) (ho : PlOk p) (hi : F0 i = some f) (hat : at' ≤ 9223372036854775807) (hk : k ≤ 9223372036854775807) :
    Spec Tryz.prog 23 #[.pointer (some ⟨s, 0, none⟩), nI i, nI at', nI k] [pt s (stO c a p), pt a (alO c p), TR c p.n V0 V D op] fun F v M => ∃ u, v = .tuple #[u, .int .i64 0] ∧ M = rowR 5 1 u ((f.2.drop at').take k).length (bvs ((f.2.drop at').take k)) :: [pt s (stO c a p), pt a (alO c p), TR c p.n V0 V D op] ++ F := by
  refine Spec.intro Tryz.func23 rfl rfl fun B F => ?_
  simp only [Tryz.ntmps23, List.cons_append, List.nil_append, env0, Nat.reduceAdd]
  have hf := h.ok i f hi
  have hsz := hf.sz
  have hbig := hf.big
  have hlt := h.lt hi
  have hi2 := ho.i2
  have hlo := ho.lo
  have htab := ho.tab
  have hnd := repNd (p := p) (V := V) hi
  have hfx := h.inv.fits i _ _ hnd
  have hbl := hfx.bl
  have hnl := ndL_length hbl
  have hcl := h.cntle
  have hszg : (ndL (ldN p V i))[1]? = some (nI f.2.length) := by rw [← hsz]; rfl
  have hmxl : maxLen = 9223372036854775807 := rfl
  have hd138 := dat_le hbig
  rcases (show ¬ at' < f.2.length ∨ (at' < f.2.length ∧ k < f.2.length - at') ∨ (at' < f.2.length ∧ ¬ k < f.2.length - at') from by omega) with hc | ⟨hc, hc2⟩ | ⟨hc, hc2⟩
  · obtain ⟨en, hen, hen1, hen2⟩ : ∃ en, en = f.2.length ∧ en ≤ f.2.length ∧ (f.2.drop at').take k = (f.2.drop at').take (en - at') := ⟨_, rfl, by omega, by rw [List.drop_eq_nil_of_le (by omega), List.take_nil, List.take_nil]⟩
    refine WC.seq ?_
    refine WC.region ?_
    refine WL.assign ?_
    refine WL.assign ?_
    refine WL.nil ?_
    refine WQ.next ?_
    refine WC.seq ?_
    refine WC.region ?_
    refine WL.move ?_
    refine WL.move ?_
    refine WL.call (hc := Tryz.call61) (sp := inLoad (i := i) (V0 := V0) (V := V) (D := D) (op := op) ho (h.lt hi) (h.digI hi)) (h := ?_)
    rintro _ _ ⟨rfl, rfl⟩
    simp only [List.cons_append, List.nil_append]
    refine WL.move ?_
    refine WL.extract ?_
    refine WL.extract ?_
    refine WL.allocL zNd rfl fun b10 => ?_
    refine WL.stLA (xs := ndL nd0) (us := ndL (ldN p V i)) ?_ agg92 hnl rfl (ndL_single _)
    refine WL.assign ?_
    refine WL.nil ?_
    refine WQ.next ?_
    refine WC.seq ?_
    refine WC.seq ?_
    refine WC.region ?_
    refine WL.move ?_
    refine WL.nei ?_
    refine WL.nil ?_
    refine WQ.next ?_
    refine WC.condF rfl rfl ?_
    refine WC.skip ?_
    refine WQ.next ?_
    refine WC.seq ?_
    refine WC.seq ?_
    refine WC.region ?_
    refine WL.move ?_
    refine WL.lss ?_
    refine WL.move ?_
    refine WL.cast (d := 30) (u := .bool false) rfl (congrArg Value.bool (by first | (simp; done) | (simp; omega) | (unfold nI; simp; omega) | omega)) ?_
    refine WL.gT ?_
    refine WL.move ?_
    refine WL.gT ?_
    refine WL.lss ?_
    refine WL.pickF ?_
    refine WL.nil ?_
    refine WQ.next ?_
    refine WC.condF rfl (congrArg Value.bool (by first | (simp; done) | (simp; omega) | (unfold nI; simp; omega) | omega)) ?_
    refine WC.skip ?_
    refine WQ.next ?_
    refine WC.seq ?_
    refine WC.region ?_
    refine WL.fa ?_ fo92_1
    refine WL.ldL (xs := ndL (ldN p V i)) (i := 1) ?_ sc3 hszg
    refine WL.cast (d := 35) (u := nI en) rfl (congrArg nI hen.symm) ?_
    refine WL.assign ?_
    refine WL.nil ?_
    refine WQ.next ?_
    refine WC.seq ?_
    refine WC.seq ?_
    refine WC.region ?_
    refine WL.move ?_
    refine WL.move ?_
    refine WL.lss ?_
    refine WL.move ?_
    refine WL.cast (d := 39) (u := .bool false) rfl (congrArg Value.bool (by first | (simp; done) | (simp; omega) | (unfold nI; simp; omega) | omega)) ?_
    refine WL.gF ?_
    refine WL.gF ?_
    refine WL.gF ?_
    refine WL.gF ?_
    refine WL.gF ?_
    refine WL.pickF ?_
    refine WL.nil ?_
    refine WQ.next ?_
    refine WC.condF rfl rfl ?_
    refine WC.skip ?_
    refine WQ.next ?_
    refine WC.seq ?_
    refine WC.region ?_
    refine WL.assign ?_
    refine WL.emp (A := rowR 5 1 (.slice none 0 0) (at' - at') (bvs ((f.2.drop at').take (at' - at')))) (by rw [Nat.sub_self]; exact rowR.nil _) ?_
    refine WL.nil ?_
    refine WQ.next ?_
    refine WC.seq ?_
    refine WC.block ?_
    refine WC.loopA (σ := Nat × Value) (fun y => [(0, .pointer (some ⟨s, 0, none⟩)), (2, nI y.1), (10, .pointer (some ⟨b10, 0, none⟩)), (12, nI en), (13, y.2)]) (fun y => [rowR 5 1 y.2 (y.1 - at') (bvs ((f.2.drop at').take (y.1 - at'))), row b10 92 (ndL (ldN p V i)), pt s (stO c a p), pt a (alO c p), TR c p.n V0 V D op] ++ F) (fun y => at' ≤ y.1 ∧ (y.1 ≤ en ∨ y.1 = at')) (fun y => en - y.1) (at', .slice none 0 0) ⟨Nat.le_refl _, .inr rfl⟩ ?_
    rintro ⟨cur, u⟩ hy
    obtain ⟨hc1, hc2⟩ := hy
    simp only at hc1 hc2
    refine WC.seq ?_
    refine WC.seq ?_
    refine WC.region ?_
    refine WL.move ?_
    refine WL.move ?_
    refine WL.lss ?_
    refine WL.nil ?_
    refine WQ.next ?_
    refine WC.cond rfl (fun hb => ?_) (fun hb => ?_)
    · have hlt2 : cur < en := by have := of_decide_eq_true hb; omega
      obtain ⟨mm, hmm⟩ : ∃ mm, mm = min (512 - cur % 512) (en - cur) := ⟨_, rfl⟩
      have hSk : stdS (dat f.2.length) (cur / 512) = true := stdS_iff.2 (.inl (by unfold dat; omega))
      have hrk := h.inv.rng i _ _ _ hnd hSk
      have hV200 : 10 ≤ cur / 512 → 245 ≤ (ldN p V i).bl.getD 10 0 ∧ (ldN p V i).bl.getD 10 0 < p.n := fun h10 => by
        have := h.inv.rng i _ _ 200 hnd (stdS_iff.2 (.inr ⟨rfl, by unfold dat; omega⟩))
        rw [ptr_200] at this
        omega
      have hrs := read_step (cur := cur) (mm := mm) (at' := at') hf.byt (by omega) (by omega) hc1 (h.inv.len _)
      refine WC.skip ?_
      refine WQ.next ?_
      refine WC.block ?_
      refine WC.seq ?_
      refine WC.region ?_
      refine WL.move ?_
      refine WL.ldW (xs := ndL (ldN p V i)) ?_ agg92 hnl
      refine WL.move ?_
      refine WL.quo ?_
      refine WL.cast (d := 56) (u := nI (cur / 512)) rfl (congrArg (Value.int .i64) (by omega)) ?_
      refine WL.call (hc := Tryz.call62) (sp := inBlock (x := ldN p V i) (k := cur / 512) (V0 := V0) (V := V) (D := D) (op := op) hbl (by omega) hV200) (h := ?_)
      rintro _ _ ⟨rfl, rfl⟩
      simp only [List.cons_append, List.nil_append]
      refine WL.move ?_
      refine WL.extract ?_
      refine WL.extract ?_
      refine WL.assign ?_
      refine WL.assign ?_
      refine WL.nil ?_
      refine WQ.next ?_
      refine WC.seq ?_
      refine WC.seq ?_
      refine WC.region ?_
      refine WL.move ?_
      refine WL.nei ?_
      refine WL.nil ?_
      refine WQ.next ?_
      refine WC.condF rfl rfl ?_
      refine WC.skip ?_
      refine WQ.next ?_
      refine WC.seq ?_
      refine WC.region ?_
      refine WL.move ?_
      refine WL.nilCheck ?_
      refine WL.fa ?_ fo87_0
      refine WL.ld ?_ sc24
      refine WL.move ?_
      refine WL.call (hc := Tryz.call63) (sp := tRead (n := p.n) (V0 := V0) (V := V) (D := D) (op := op) (k := ptr V (ldN p V i) (cur / 512)) (by omega) (by omega)) (h := ?_)
      rintro _ _ ⟨gb, q, el, rfl, ⟨hq1, hq2, hl5⟩, rfl⟩
      refine WL.move ?_
      refine WL.extract ?_
      refine WL.extract ?_
      refine WL.assign ?_
      refine WL.assign ?_
      refine WL.nil ?_
      refine WQ.next ?_
      refine WC.seq ?_
      refine WC.seq ?_
      refine WC.region ?_
      refine WL.move ?_
      refine WL.nei ?_
      refine WL.nil ?_
      refine WQ.next ?_
      refine WC.condF rfl rfl ?_
      refine WC.skip ?_
      refine WQ.next ?_
      refine WC.seq ?_
      refine WC.region ?_
      refine WL.move ?_
      refine WL.rem ?_
      refine WL.cast (d := 76) (u := nI (cur % 512)) rfl (congrArg (Value.int .i64) (by omega)) ?_
      refine WL.assign ?_
      refine WL.nil ?_
      refine WQ.next ?_
      refine WC.seq ?_
      refine WC.region ?_
      refine WL.move ?_
      refine WL.move ?_
      refine WL.add ?_
      refine WL.move ?_
      refine WL.sub ?_
      refine WL.minI ?_
      refine WL.cast (d := 82) (u := nI (cur % 512 + mm)) rfl (congrArg (Value.int .i64) (by split <;> omega)) ?_
      refine WL.assign ?_
      refine WL.nil ?_
      refine WQ.next ?_
      refine WC.seq ?_
      refine WC.region ?_
      refine WL.move ?_
      refine WL.move ?_
      refine WL.move ?_
      refine WL.move ?_
      refine WL.slcLH ?_ so33
      refine WL.cast (d := 87) (u := .slice (some ⟨gb, cur % 512, none⟩) mm (q - cur % 512)) rfl (by rw [show ((cur % 512 : Nat) : Int).toNat = cur % 512 from Int.toNat_natCast _, show ((cur % 512 + mm : Nat) : Int).toNat = cur % 512 + mm from Int.toNat_natCast _, if_neg (by omega), Nat.zero_add, Nat.mul_one, show cur % 512 + mm - cur % 512 = mm from by omega]) ?_
      have hnews : Reads (buf gb el q (bvs (V (ptr V (ldN p V i) (cur / 512))))) (some ⟨gb, cur % 512, none⟩) (bvs (((V (ptr V (ldN p V i) (cur / 512))).drop (cur % 512)).take mm)) := by
        have := (Reads.buf (g := gb) (e := el) (k := q) (xs := bvs (V (ptr V (ldN p V i) (cur / 512))))).drop (cur % 512)
        rw [Nat.zero_add] at this
        rw [bvs_take, bvs_drop]
        exact this.take mm
      refine WL.appendAny (m := mm) so33 (by decide) (by repeat (first | exact .here | apply Rem.there | apply Repl.there | apply Mem.there)) hnews (by repeat (first | exact .here | apply Rem.there | apply Repl.there | apply Mem.there)) (by rw [bvs_length, List.length_take, List.length_drop, hl5]; omega) (bvs_single _) (by omega) (by omega) ⟨_, z5, rfl⟩ (fun vB hvB => ?_)
      refine WL.assign ?_
      refine WL.nil ?_
      refine WQ.next ?_
      refine WC.region ?_
      refine WL.move ?_
      refine WL.move ?_
      refine WL.move ?_
      refine WL.sub ?_
      refine WL.add ?_
      refine WL.cast (d := 93) (u := nI (cur + mm)) rfl (congrArg (Value.int .i64) (by omega)) ?_
      refine WL.assign ?_
      refine WL.nil ?_
      refine WQ.blockNormal ?_
      refine WQ.to (A := rowR 5 1 vB (cur - at' + mm) (bvs ((f.2.drop at').take (cur - at')) ++ bvs (((V (ptr V (ldN p V i) (cur / 512))).drop (cur % 512)).take mm))) (A' := rowR 5 1 vB (cur + mm - at') (bvs ((f.2.drop at').take (cur + mm - at')))) (fun h hh => by rw [hrs, bvs_append, show cur + mm - at' = cur - at' + mm from by omega]; exact hh) ?_
      exact WQ.back (cur + mm, vB) ⟨by show at' ≤ cur + mm; omega, by show cur + mm ≤ en ∨ cur + mm = at'; omega⟩ (by show en - (cur + mm) < en - cur; omega)
    · have hge : ¬ cur < en := by have := of_decide_eq_false hb; omega
      have hfe : (f.2.drop at').take (cur - at') = (f.2.drop at').take k := by
        rw [hen2]
        rcases hc2 with h1 | h1
        · rw [show cur = en from by omega]
        · rw [show cur - at' = 0 from by omega, show en - at' = 0 from by omega]
      have hfl : ((f.2.drop at').take k).length = cur - at' := by
        rw [← hfe, List.length_take, List.length_drop]
        omega
      refine WC.exit (WQ.thenExit (WQ.thenExit (WQ.blockExit (?_))))
      refine WQ.next ?_
      refine WC.seq ?_
      refine WC.region ?_
      refine WL.move ?_
      refine WL.assign ?_
      refine WL.assign ?_
      refine WL.nil ?_
      refine WQ.next ?_
      refine WC.ret (?_)
      refine WQ.to (A := rowR 5 1 u (cur - at') (bvs ((f.2.drop at').take (cur - at')))) (A' := rowR 5 1 u ((f.2.drop at').take k).length (bvs ((f.2.drop at').take k))) (fun h hh => by rw [hfl, ← hfe]; exact hh) ?_
      exact WQ.ret2 (h1 := .tmp (t := 8) rfl) (h2 := .tmp (t := 9) rfl) ⟨_, ⟨u, rfl, rfl⟩, Am.auto⟩
  · obtain ⟨en, hen, hen1, hen2⟩ : ∃ en, en = at' + k ∧ en ≤ f.2.length ∧ (f.2.drop at').take k = (f.2.drop at').take (en - at') := ⟨_, rfl, by omega, by congr 1; omega⟩
    refine WC.seq ?_
    refine WC.region ?_
    refine WL.assign ?_
    refine WL.assign ?_
    refine WL.nil ?_
    refine WQ.next ?_
    refine WC.seq ?_
    refine WC.region ?_
    refine WL.move ?_
    refine WL.move ?_
    refine WL.call (hc := Tryz.call61) (sp := inLoad (i := i) (V0 := V0) (V := V) (D := D) (op := op) ho (h.lt hi) (h.digI hi)) (h := ?_)
    rintro _ _ ⟨rfl, rfl⟩
    simp only [List.cons_append, List.nil_append]
    refine WL.move ?_
    refine WL.extract ?_
    refine WL.extract ?_
    refine WL.allocL zNd rfl fun b10 => ?_
    refine WL.stLA (xs := ndL nd0) (us := ndL (ldN p V i)) ?_ agg92 hnl rfl (ndL_single _)
    refine WL.assign ?_
    refine WL.nil ?_
    refine WQ.next ?_
    refine WC.seq ?_
    refine WC.seq ?_
    refine WC.region ?_
    refine WL.move ?_
    refine WL.nei ?_
    refine WL.nil ?_
    refine WQ.next ?_
    refine WC.condF rfl rfl ?_
    refine WC.skip ?_
    refine WQ.next ?_
    refine WC.seq ?_
    refine WC.seq ?_
    refine WC.region ?_
    refine WL.move ?_
    refine WL.lss ?_
    refine WL.move ?_
    refine WL.cast (d := 30) (u := .bool false) rfl (congrArg Value.bool (by first | (simp; done) | (simp; omega) | (unfold nI; simp; omega) | omega)) ?_
    refine WL.gT ?_
    refine WL.move ?_
    refine WL.gT ?_
    refine WL.lss ?_
    refine WL.pickF ?_
    refine WL.nil ?_
    refine WQ.next ?_
    refine WC.condF rfl (congrArg Value.bool (by first | (simp; done) | (simp; omega) | (unfold nI; simp; omega) | omega)) ?_
    refine WC.skip ?_
    refine WQ.next ?_
    refine WC.seq ?_
    refine WC.region ?_
    refine WL.fa ?_ fo92_1
    refine WL.ldL (xs := ndL (ldN p V i)) (i := 1) ?_ sc3 hszg
    refine WL.assign ?_
    refine WL.nil ?_
    refine WQ.next ?_
    refine WC.seq ?_
    refine WC.seq ?_
    refine WC.region ?_
    refine WL.move ?_
    refine WL.move ?_
    refine WL.lss ?_
    refine WL.move ?_
    refine WL.cast (d := 39) (u := .bool true) rfl (congrArg Value.bool (by first | (simp; done) | (simp; omega) | (unfold nI; simp; omega) | omega)) ?_
    refine WL.gT ?_
    refine WL.move ?_
    refine WL.gT ?_
    refine WL.move ?_
    refine WL.gT ?_
    refine WL.move ?_
    refine WL.gT ?_
    refine WL.sub ?_
    refine WL.gT ?_
    refine WL.lss ?_
    refine WL.pickT ?_
    refine WL.nil ?_
    refine WQ.next ?_
    refine WC.condT rfl (congrArg Value.bool (by first | (simp; done) | (simp; omega) | (unfold nI; simp; omega) | omega)) ?_
    refine WC.region ?_
    refine WL.move ?_
    refine WL.move ?_
    refine WL.add ?_
    refine WL.cast (d := 48) (u := nI en) rfl (congrArg (Value.int .i64) (by omega)) ?_
    refine WL.assign ?_
    refine WL.nil ?_
    refine WQ.next ?_
    refine WC.seq ?_
    refine WC.region ?_
    refine WL.assign ?_
    refine WL.emp (A := rowR 5 1 (.slice none 0 0) (at' - at') (bvs ((f.2.drop at').take (at' - at')))) (by rw [Nat.sub_self]; exact rowR.nil _) ?_
    refine WL.nil ?_
    refine WQ.next ?_
    refine WC.seq ?_
    refine WC.block ?_
    refine WC.loopA (σ := Nat × Value) (fun y => [(0, .pointer (some ⟨s, 0, none⟩)), (2, nI y.1), (10, .pointer (some ⟨b10, 0, none⟩)), (12, nI en), (13, y.2)]) (fun y => [rowR 5 1 y.2 (y.1 - at') (bvs ((f.2.drop at').take (y.1 - at'))), row b10 92 (ndL (ldN p V i)), pt s (stO c a p), pt a (alO c p), TR c p.n V0 V D op] ++ F) (fun y => at' ≤ y.1 ∧ (y.1 ≤ en ∨ y.1 = at')) (fun y => en - y.1) (at', .slice none 0 0) ⟨Nat.le_refl _, .inr rfl⟩ ?_
    rintro ⟨cur, u⟩ hy
    obtain ⟨hc1, hc2⟩ := hy
    simp only at hc1 hc2
    refine WC.seq ?_
    refine WC.seq ?_
    refine WC.region ?_
    refine WL.move ?_
    refine WL.move ?_
    refine WL.lss ?_
    refine WL.nil ?_
    refine WQ.next ?_
    refine WC.cond rfl (fun hb => ?_) (fun hb => ?_)
    · have hlt2 : cur < en := by have := of_decide_eq_true hb; omega
      obtain ⟨mm, hmm⟩ : ∃ mm, mm = min (512 - cur % 512) (en - cur) := ⟨_, rfl⟩
      have hSk : stdS (dat f.2.length) (cur / 512) = true := stdS_iff.2 (.inl (by unfold dat; omega))
      have hrk := h.inv.rng i _ _ _ hnd hSk
      have hV200 : 10 ≤ cur / 512 → 245 ≤ (ldN p V i).bl.getD 10 0 ∧ (ldN p V i).bl.getD 10 0 < p.n := fun h10 => by
        have := h.inv.rng i _ _ 200 hnd (stdS_iff.2 (.inr ⟨rfl, by unfold dat; omega⟩))
        rw [ptr_200] at this
        omega
      have hrs := read_step (cur := cur) (mm := mm) (at' := at') hf.byt (by omega) (by omega) hc1 (h.inv.len _)
      refine WC.skip ?_
      refine WQ.next ?_
      refine WC.block ?_
      refine WC.seq ?_
      refine WC.region ?_
      refine WL.move ?_
      refine WL.ldW (xs := ndL (ldN p V i)) ?_ agg92 hnl
      refine WL.move ?_
      refine WL.quo ?_
      refine WL.cast (d := 56) (u := nI (cur / 512)) rfl (congrArg (Value.int .i64) (by omega)) ?_
      refine WL.call (hc := Tryz.call62) (sp := inBlock (x := ldN p V i) (k := cur / 512) (V0 := V0) (V := V) (D := D) (op := op) hbl (by omega) hV200) (h := ?_)
      rintro _ _ ⟨rfl, rfl⟩
      simp only [List.cons_append, List.nil_append]
      refine WL.move ?_
      refine WL.extract ?_
      refine WL.extract ?_
      refine WL.assign ?_
      refine WL.assign ?_
      refine WL.nil ?_
      refine WQ.next ?_
      refine WC.seq ?_
      refine WC.seq ?_
      refine WC.region ?_
      refine WL.move ?_
      refine WL.nei ?_
      refine WL.nil ?_
      refine WQ.next ?_
      refine WC.condF rfl rfl ?_
      refine WC.skip ?_
      refine WQ.next ?_
      refine WC.seq ?_
      refine WC.region ?_
      refine WL.move ?_
      refine WL.nilCheck ?_
      refine WL.fa ?_ fo87_0
      refine WL.ld ?_ sc24
      refine WL.move ?_
      refine WL.call (hc := Tryz.call63) (sp := tRead (n := p.n) (V0 := V0) (V := V) (D := D) (op := op) (k := ptr V (ldN p V i) (cur / 512)) (by omega) (by omega)) (h := ?_)
      rintro _ _ ⟨gb, q, el, rfl, ⟨hq1, hq2, hl5⟩, rfl⟩
      refine WL.move ?_
      refine WL.extract ?_
      refine WL.extract ?_
      refine WL.assign ?_
      refine WL.assign ?_
      refine WL.nil ?_
      refine WQ.next ?_
      refine WC.seq ?_
      refine WC.seq ?_
      refine WC.region ?_
      refine WL.move ?_
      refine WL.nei ?_
      refine WL.nil ?_
      refine WQ.next ?_
      refine WC.condF rfl rfl ?_
      refine WC.skip ?_
      refine WQ.next ?_
      refine WC.seq ?_
      refine WC.region ?_
      refine WL.move ?_
      refine WL.rem ?_
      refine WL.cast (d := 76) (u := nI (cur % 512)) rfl (congrArg (Value.int .i64) (by omega)) ?_
      refine WL.assign ?_
      refine WL.nil ?_
      refine WQ.next ?_
      refine WC.seq ?_
      refine WC.region ?_
      refine WL.move ?_
      refine WL.move ?_
      refine WL.add ?_
      refine WL.move ?_
      refine WL.sub ?_
      refine WL.minI ?_
      refine WL.cast (d := 82) (u := nI (cur % 512 + mm)) rfl (congrArg (Value.int .i64) (by split <;> omega)) ?_
      refine WL.assign ?_
      refine WL.nil ?_
      refine WQ.next ?_
      refine WC.seq ?_
      refine WC.region ?_
      refine WL.move ?_
      refine WL.move ?_
      refine WL.move ?_
      refine WL.move ?_
      refine WL.slcLH ?_ so33
      refine WL.cast (d := 87) (u := .slice (some ⟨gb, cur % 512, none⟩) mm (q - cur % 512)) rfl (by rw [show ((cur % 512 : Nat) : Int).toNat = cur % 512 from Int.toNat_natCast _, show ((cur % 512 + mm : Nat) : Int).toNat = cur % 512 + mm from Int.toNat_natCast _, if_neg (by omega), Nat.zero_add, Nat.mul_one, show cur % 512 + mm - cur % 512 = mm from by omega]) ?_
      have hnews : Reads (buf gb el q (bvs (V (ptr V (ldN p V i) (cur / 512))))) (some ⟨gb, cur % 512, none⟩) (bvs (((V (ptr V (ldN p V i) (cur / 512))).drop (cur % 512)).take mm)) := by
        have := (Reads.buf (g := gb) (e := el) (k := q) (xs := bvs (V (ptr V (ldN p V i) (cur / 512))))).drop (cur % 512)
        rw [Nat.zero_add] at this
        rw [bvs_take, bvs_drop]
        exact this.take mm
      refine WL.appendAny (m := mm) so33 (by decide) (by repeat (first | exact .here | apply Rem.there | apply Repl.there | apply Mem.there)) hnews (by repeat (first | exact .here | apply Rem.there | apply Repl.there | apply Mem.there)) (by rw [bvs_length, List.length_take, List.length_drop, hl5]; omega) (bvs_single _) (by omega) (by omega) ⟨_, z5, rfl⟩ (fun vB hvB => ?_)
      refine WL.assign ?_
      refine WL.nil ?_
      refine WQ.next ?_
      refine WC.region ?_
      refine WL.move ?_
      refine WL.move ?_
      refine WL.move ?_
      refine WL.sub ?_
      refine WL.add ?_
      refine WL.cast (d := 93) (u := nI (cur + mm)) rfl (congrArg (Value.int .i64) (by omega)) ?_
      refine WL.assign ?_
      refine WL.nil ?_
      refine WQ.blockNormal ?_
      refine WQ.to (A := rowR 5 1 vB (cur - at' + mm) (bvs ((f.2.drop at').take (cur - at')) ++ bvs (((V (ptr V (ldN p V i) (cur / 512))).drop (cur % 512)).take mm))) (A' := rowR 5 1 vB (cur + mm - at') (bvs ((f.2.drop at').take (cur + mm - at')))) (fun h hh => by rw [hrs, bvs_append, show cur + mm - at' = cur - at' + mm from by omega]; exact hh) ?_
      exact WQ.back (cur + mm, vB) ⟨by show at' ≤ cur + mm; omega, by show cur + mm ≤ en ∨ cur + mm = at'; omega⟩ (by show en - (cur + mm) < en - cur; omega)
    · have hge : ¬ cur < en := by have := of_decide_eq_false hb; omega
      have hfe : (f.2.drop at').take (cur - at') = (f.2.drop at').take k := by
        rw [hen2]
        rcases hc2 with h1 | h1
        · rw [show cur = en from by omega]
        · rw [show cur - at' = 0 from by omega, show en - at' = 0 from by omega]
      have hfl : ((f.2.drop at').take k).length = cur - at' := by
        rw [← hfe, List.length_take, List.length_drop]
        omega
      refine WC.exit (WQ.thenExit (WQ.thenExit (WQ.blockExit (?_))))
      refine WQ.next ?_
      refine WC.seq ?_
      refine WC.region ?_
      refine WL.move ?_
      refine WL.assign ?_
      refine WL.assign ?_
      refine WL.nil ?_
      refine WQ.next ?_
      refine WC.ret (?_)
      refine WQ.to (A := rowR 5 1 u (cur - at') (bvs ((f.2.drop at').take (cur - at')))) (A' := rowR 5 1 u ((f.2.drop at').take k).length (bvs ((f.2.drop at').take k))) (fun h hh => by rw [hfl, ← hfe]; exact hh) ?_
      exact WQ.ret2 (h1 := .tmp (t := 8) rfl) (h2 := .tmp (t := 9) rfl) ⟨_, ⟨u, rfl, rfl⟩, Am.auto⟩
  · obtain ⟨en, hen, hen1, hen2⟩ : ∃ en, en = f.2.length ∧ en ≤ f.2.length ∧ (f.2.drop at').take k = (f.2.drop at').take (en - at') := ⟨_, rfl, by omega, by rw [List.take_of_length_le (by rw [List.length_drop]; omega), List.take_of_length_le (by rw [List.length_drop]; omega)]⟩
    refine WC.seq ?_
    refine WC.region ?_
    refine WL.assign ?_
    refine WL.assign ?_
    refine WL.nil ?_
    refine WQ.next ?_
    refine WC.seq ?_
    refine WC.region ?_
    refine WL.move ?_
    refine WL.move ?_
    refine WL.call (hc := Tryz.call61) (sp := inLoad (i := i) (V0 := V0) (V := V) (D := D) (op := op) ho (h.lt hi) (h.digI hi)) (h := ?_)
    rintro _ _ ⟨rfl, rfl⟩
    simp only [List.cons_append, List.nil_append]
    refine WL.move ?_
    refine WL.extract ?_
    refine WL.extract ?_
    refine WL.allocL zNd rfl fun b10 => ?_
    refine WL.stLA (xs := ndL nd0) (us := ndL (ldN p V i)) ?_ agg92 hnl rfl (ndL_single _)
    refine WL.assign ?_
    refine WL.nil ?_
    refine WQ.next ?_
    refine WC.seq ?_
    refine WC.seq ?_
    refine WC.region ?_
    refine WL.move ?_
    refine WL.nei ?_
    refine WL.nil ?_
    refine WQ.next ?_
    refine WC.condF rfl rfl ?_
    refine WC.skip ?_
    refine WQ.next ?_
    refine WC.seq ?_
    refine WC.seq ?_
    refine WC.region ?_
    refine WL.move ?_
    refine WL.lss ?_
    refine WL.move ?_
    refine WL.cast (d := 30) (u := .bool false) rfl (congrArg Value.bool (by first | (simp; done) | (simp; omega) | (unfold nI; simp; omega) | omega)) ?_
    refine WL.gT ?_
    refine WL.move ?_
    refine WL.gT ?_
    refine WL.lss ?_
    refine WL.pickF ?_
    refine WL.nil ?_
    refine WQ.next ?_
    refine WC.condF rfl (congrArg Value.bool (by first | (simp; done) | (simp; omega) | (unfold nI; simp; omega) | omega)) ?_
    refine WC.skip ?_
    refine WQ.next ?_
    refine WC.seq ?_
    refine WC.region ?_
    refine WL.fa ?_ fo92_1
    refine WL.ldL (xs := ndL (ldN p V i)) (i := 1) ?_ sc3 hszg
    refine WL.cast (d := 35) (u := nI en) rfl (congrArg nI hen.symm) ?_
    refine WL.assign ?_
    refine WL.nil ?_
    refine WQ.next ?_
    refine WC.seq ?_
    refine WC.seq ?_
    refine WC.region ?_
    refine WL.move ?_
    refine WL.move ?_
    refine WL.lss ?_
    refine WL.move ?_
    refine WL.cast (d := 39) (u := .bool true) rfl (congrArg Value.bool (by first | (simp; done) | (simp; omega) | (unfold nI; simp; omega) | omega)) ?_
    refine WL.gT ?_
    refine WL.move ?_
    refine WL.gT ?_
    refine WL.move ?_
    refine WL.gT ?_
    refine WL.move ?_
    refine WL.gT ?_
    refine WL.sub ?_
    refine WL.gT ?_
    refine WL.lss ?_
    refine WL.pickT ?_
    refine WL.nil ?_
    refine WQ.next ?_
    refine WC.condF rfl (congrArg Value.bool (by first | (simp; done) | (simp; omega) | (unfold nI; simp; omega) | omega)) ?_
    refine WC.skip ?_
    refine WQ.next ?_
    refine WC.seq ?_
    refine WC.region ?_
    refine WL.assign ?_
    refine WL.emp (A := rowR 5 1 (.slice none 0 0) (at' - at') (bvs ((f.2.drop at').take (at' - at')))) (by rw [Nat.sub_self]; exact rowR.nil _) ?_
    refine WL.nil ?_
    refine WQ.next ?_
    refine WC.seq ?_
    refine WC.block ?_
    refine WC.loopA (σ := Nat × Value) (fun y => [(0, .pointer (some ⟨s, 0, none⟩)), (2, nI y.1), (10, .pointer (some ⟨b10, 0, none⟩)), (12, nI en), (13, y.2)]) (fun y => [rowR 5 1 y.2 (y.1 - at') (bvs ((f.2.drop at').take (y.1 - at'))), row b10 92 (ndL (ldN p V i)), pt s (stO c a p), pt a (alO c p), TR c p.n V0 V D op] ++ F) (fun y => at' ≤ y.1 ∧ (y.1 ≤ en ∨ y.1 = at')) (fun y => en - y.1) (at', .slice none 0 0) ⟨Nat.le_refl _, .inr rfl⟩ ?_
    rintro ⟨cur, u⟩ hy
    obtain ⟨hc1, hc2⟩ := hy
    simp only at hc1 hc2
    refine WC.seq ?_
    refine WC.seq ?_
    refine WC.region ?_
    refine WL.move ?_
    refine WL.move ?_
    refine WL.lss ?_
    refine WL.nil ?_
    refine WQ.next ?_
    refine WC.cond rfl (fun hb => ?_) (fun hb => ?_)
    · have hlt2 : cur < en := by have := of_decide_eq_true hb; omega
      obtain ⟨mm, hmm⟩ : ∃ mm, mm = min (512 - cur % 512) (en - cur) := ⟨_, rfl⟩
      have hSk : stdS (dat f.2.length) (cur / 512) = true := stdS_iff.2 (.inl (by unfold dat; omega))
      have hrk := h.inv.rng i _ _ _ hnd hSk
      have hV200 : 10 ≤ cur / 512 → 245 ≤ (ldN p V i).bl.getD 10 0 ∧ (ldN p V i).bl.getD 10 0 < p.n := fun h10 => by
        have := h.inv.rng i _ _ 200 hnd (stdS_iff.2 (.inr ⟨rfl, by unfold dat; omega⟩))
        rw [ptr_200] at this
        omega
      have hrs := read_step (cur := cur) (mm := mm) (at' := at') hf.byt (by omega) (by omega) hc1 (h.inv.len _)
      refine WC.skip ?_
      refine WQ.next ?_
      refine WC.block ?_
      refine WC.seq ?_
      refine WC.region ?_
      refine WL.move ?_
      refine WL.ldW (xs := ndL (ldN p V i)) ?_ agg92 hnl
      refine WL.move ?_
      refine WL.quo ?_
      refine WL.cast (d := 56) (u := nI (cur / 512)) rfl (congrArg (Value.int .i64) (by omega)) ?_
      refine WL.call (hc := Tryz.call62) (sp := inBlock (x := ldN p V i) (k := cur / 512) (V0 := V0) (V := V) (D := D) (op := op) hbl (by omega) hV200) (h := ?_)
      rintro _ _ ⟨rfl, rfl⟩
      simp only [List.cons_append, List.nil_append]
      refine WL.move ?_
      refine WL.extract ?_
      refine WL.extract ?_
      refine WL.assign ?_
      refine WL.assign ?_
      refine WL.nil ?_
      refine WQ.next ?_
      refine WC.seq ?_
      refine WC.seq ?_
      refine WC.region ?_
      refine WL.move ?_
      refine WL.nei ?_
      refine WL.nil ?_
      refine WQ.next ?_
      refine WC.condF rfl rfl ?_
      refine WC.skip ?_
      refine WQ.next ?_
      refine WC.seq ?_
      refine WC.region ?_
      refine WL.move ?_
      refine WL.nilCheck ?_
      refine WL.fa ?_ fo87_0
      refine WL.ld ?_ sc24
      refine WL.move ?_
      refine WL.call (hc := Tryz.call63) (sp := tRead (n := p.n) (V0 := V0) (V := V) (D := D) (op := op) (k := ptr V (ldN p V i) (cur / 512)) (by omega) (by omega)) (h := ?_)
      rintro _ _ ⟨gb, q, el, rfl, ⟨hq1, hq2, hl5⟩, rfl⟩
      refine WL.move ?_
      refine WL.extract ?_
      refine WL.extract ?_
      refine WL.assign ?_
      refine WL.assign ?_
      refine WL.nil ?_
      refine WQ.next ?_
      refine WC.seq ?_
      refine WC.seq ?_
      refine WC.region ?_
      refine WL.move ?_
      refine WL.nei ?_
      refine WL.nil ?_
      refine WQ.next ?_
      refine WC.condF rfl rfl ?_
      refine WC.skip ?_
      refine WQ.next ?_
      refine WC.seq ?_
      refine WC.region ?_
      refine WL.move ?_
      refine WL.rem ?_
      refine WL.cast (d := 76) (u := nI (cur % 512)) rfl (congrArg (Value.int .i64) (by omega)) ?_
      refine WL.assign ?_
      refine WL.nil ?_
      refine WQ.next ?_
      refine WC.seq ?_
      refine WC.region ?_
      refine WL.move ?_
      refine WL.move ?_
      refine WL.add ?_
      refine WL.move ?_
      refine WL.sub ?_
      refine WL.minI ?_
      refine WL.cast (d := 82) (u := nI (cur % 512 + mm)) rfl (congrArg (Value.int .i64) (by split <;> omega)) ?_
      refine WL.assign ?_
      refine WL.nil ?_
      refine WQ.next ?_
      refine WC.seq ?_
      refine WC.region ?_
      refine WL.move ?_
      refine WL.move ?_
      refine WL.move ?_
      refine WL.move ?_
      refine WL.slcLH ?_ so33
      refine WL.cast (d := 87) (u := .slice (some ⟨gb, cur % 512, none⟩) mm (q - cur % 512)) rfl (by rw [show ((cur % 512 : Nat) : Int).toNat = cur % 512 from Int.toNat_natCast _, show ((cur % 512 + mm : Nat) : Int).toNat = cur % 512 + mm from Int.toNat_natCast _, if_neg (by omega), Nat.zero_add, Nat.mul_one, show cur % 512 + mm - cur % 512 = mm from by omega]) ?_
      have hnews : Reads (buf gb el q (bvs (V (ptr V (ldN p V i) (cur / 512))))) (some ⟨gb, cur % 512, none⟩) (bvs (((V (ptr V (ldN p V i) (cur / 512))).drop (cur % 512)).take mm)) := by
        have := (Reads.buf (g := gb) (e := el) (k := q) (xs := bvs (V (ptr V (ldN p V i) (cur / 512))))).drop (cur % 512)
        rw [Nat.zero_add] at this
        rw [bvs_take, bvs_drop]
        exact this.take mm
      refine WL.appendAny (m := mm) so33 (by decide) (by repeat (first | exact .here | apply Rem.there | apply Repl.there | apply Mem.there)) hnews (by repeat (first | exact .here | apply Rem.there | apply Repl.there | apply Mem.there)) (by rw [bvs_length, List.length_take, List.length_drop, hl5]; omega) (bvs_single _) (by omega) (by omega) ⟨_, z5, rfl⟩ (fun vB hvB => ?_)
      refine WL.assign ?_
      refine WL.nil ?_
      refine WQ.next ?_
      refine WC.region ?_
      refine WL.move ?_
      refine WL.move ?_
      refine WL.move ?_
      refine WL.sub ?_
      refine WL.add ?_
      refine WL.cast (d := 93) (u := nI (cur + mm)) rfl (congrArg (Value.int .i64) (by omega)) ?_
      refine WL.assign ?_
      refine WL.nil ?_
      refine WQ.blockNormal ?_
      refine WQ.to (A := rowR 5 1 vB (cur - at' + mm) (bvs ((f.2.drop at').take (cur - at')) ++ bvs (((V (ptr V (ldN p V i) (cur / 512))).drop (cur % 512)).take mm))) (A' := rowR 5 1 vB (cur + mm - at') (bvs ((f.2.drop at').take (cur + mm - at')))) (fun h hh => by rw [hrs, bvs_append, show cur + mm - at' = cur - at' + mm from by omega]; exact hh) ?_
      exact WQ.back (cur + mm, vB) ⟨by show at' ≤ cur + mm; omega, by show cur + mm ≤ en ∨ cur + mm = at'; omega⟩ (by show en - (cur + mm) < en - cur; omega)
    · have hge : ¬ cur < en := by have := of_decide_eq_false hb; omega
      have hfe : (f.2.drop at').take (cur - at') = (f.2.drop at').take k := by
        rw [hen2]
        rcases hc2 with h1 | h1
        · rw [show cur = en from by omega]
        · rw [show cur - at' = 0 from by omega, show en - at' = 0 from by omega]
      have hfl : ((f.2.drop at').take k).length = cur - at' := by
        rw [← hfe, List.length_take, List.length_drop]
        omega
      refine WC.exit (WQ.thenExit (WQ.thenExit (WQ.blockExit (?_))))
      refine WQ.next ?_
      refine WC.seq ?_
      refine WC.region ?_
      refine WL.move ?_
      refine WL.assign ?_
      refine WL.assign ?_
      refine WL.nil ?_
      refine WQ.next ?_
      refine WC.ret (?_)
      refine WQ.to (A := rowR 5 1 u (cur - at') (bvs ((f.2.drop at').take (cur - at')))) (A' := rowR 5 1 u ((f.2.drop at').take k).length (bvs ((f.2.drop at').take k))) (fun h hh => by rw [hfl, ← hfe]; exact hh) ?_
      exact WQ.ret2 (h1 := .tmp (t := 8) rfl) (h2 := .tmp (t := 9) rfl) ⟨_, ⟨u, rfl, rfl⟩, Am.auto⟩

end Go.Proofs.YtedmihapieleaaaGreat
