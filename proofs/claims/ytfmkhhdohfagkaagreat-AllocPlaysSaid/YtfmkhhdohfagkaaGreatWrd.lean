/- Walks of the reference's maps: new ones, copies; all as maps of digits. -/
import Derived.Test.YtfmkhhdohfagkaaGreatFa
import Derived.Test.YtfmkhhdohfagkaaGreatWrc
import Derived.KernelRfl
set_option linter.unusedVariables false
set_option linter.unusedSimpArgs false
namespace Go.Proofs.YtfmkhhdohfagkaaGreat
open Go
theorem z4 : zeroOf Tryz.prog 4 = some (#[.bool false]) := by kernel_rfl
theorem rNewMaps0 {p : Pl} (h : PlIs p) : Spec Tryz.prog 7 #[.agg p.cells] [] fun F v M => ∃ m x, MXok p x ∧ v = .pointer (some ⟨m, 0, none⟩) ∧ M = mpL m p noneB rootB x ++ F := by
  refine Spec.intro Tryz.func7 rfl rfl fun B F => ?_
  simp only [Tryz.ntmps7, List.cons_append, List.nil_append, env0, Nat.reduceAdd]
  have hn2 := h.n2
  have hdc := h.dc
  have hi1 := h.i1
  have hi2 := h.i2
  unfold mpL
  refine WC.seq ?_
  refine WC.region ?_
  refine WL.box fun b1 => ?_
  refine WL.assign ?_
  refine WL.nil ?_
  refine WQ.next ?_
  refine WC.seq ?_
  refine WC.draw ([pt b1 (.cells p.cells 25 (0, 0))]) [] 10 #[false, false, false, false, false, false, false, false, false, false] mixed (by kernel_rfl) NoPanic.autoJ ?_
  refine WD.take (i := 0) #[true, false, false, false, false, false, false, false, false, false] rfl (by kernel_rfl) (Qt.ldA agg25) ?_
  refine WD.take (i := 1) #[true, true, false, false, false, false, false, false, false, false] rfl (by kernel_rfl) (Qt.fa fo25_6) ?_
  refine WD.take (i := 2) #[true, true, true, false, false, false, false, false, false, false] rfl (by kernel_rfl) (Qt.ld sc3) ?_
  refine WD.take (i := 4) #[true, true, true, false, true, false, false, false, false, false] rfl (by kernel_rfl) (Qt.fa fo25_1) ?_
  refine WD.take (i := 5) #[true, true, true, false, true, true, false, false, false, false] rfl (by kernel_rfl) (Qt.ld sc3) ?_
  refine WD.two (i := 3) (j := 6) #[true, true, true, true, true, true, false, false, false, false] #[true, true, true, false, true, true, true, false, false, false] rfl rfl (by kernel_rfl) (fun hnp => ?_) (fun hnp => ?_)
  · refine WL.mkS (k := (p.dc : Int)) z4 (fun b7 => ?_) so57 (by omega) (by omega) (by omega)
    refine WL.cast (d := 7) (u := .slice (some ⟨b7, 0, none⟩) p.dc p.dc) rfl (by rw [Int.toNat_natCast]) ?_
    refine WL.to (A := buf b7 4 (p.dc : Int).toNat (List.replicate (p.dc : Int).toNat (.bool false))) (A' := buf b7 4 p.dc (boolsV noneB p.dc)) (fun h hh => by rw [← boolsV_none]; rw [Int.toNat_natCast] at hh; exact hh) ?_
    refine WL.nil (WQ.wd hnp (.inl Am.auto) ?_)
    refine WD.one (i := 6) #[true, true, true, true, true, true, true, false, false, false] rfl (by kernel_rfl) fun hnp => ?_
    refine WL.mkS (k := (p.ino : Int)) z4 (fun b10 => ?_) so57 (by omega) (by omega) (by omega)
    refine WL.cast (d := 10) (u := .slice (some ⟨b10, 0, none⟩) p.ino p.ino) rfl (by rw [Int.toNat_natCast]) ?_
    refine WL.to (A := buf b10 4 (p.ino : Int).toNat (List.replicate (p.ino : Int).toNat (.bool false))) (A' := buf b10 4 p.ino (boolsV noneB p.ino)) (fun h hh => by rw [← boolsV_none]; rw [Int.toNat_natCast] at hh; exact hh) ?_
    refine WL.nil (WQ.wd hnp (.inl Am.auto) ?_)
    refine WD.take (i := 7) #[true, true, true, true, true, true, true, true, false, false] rfl (by kernel_rfl) (Qt.build (bdMaps _ _ _ _ _ _ _ _ _ _ _ _ _)) ?_
    refine WD.one (i := 8) #[true, true, true, true, true, true, true, true, true, false] rfl (by kernel_rfl) fun hnp => ?_
    refine WL.box fun b12 => ?_
    refine WL.nil (WQ.wd hnp (.inl Am.auto) ?_)
    refine WD.take (i := 9) #[true, true, true, true, true, true, true, true, true, true] rfl (by kernel_rfl) (Qt.assign ) ?_
    refine WD.done (by kernel_rfl) ?_
    refine WQ.next ?_
    refine WC.seq ?_
    refine WC.region ?_
    refine WL.move ?_
    refine WL.nilCheck ?_
    refine WL.fa ?_ fo59_2
    refine WL.ld ?_ sc57
    refine WL.idx1 ?_ so57
    refine WL.stB ?_ sc4 (show 0 + (0 : Int).toNat < (boolsV noneB p.ino).length by rw [boolsV_length]; exact hi1)
    refine WL.nil ?_
    refine WQ.next ?_
    refine WC.seq ?_
    refine WC.region ?_
    refine WL.move ?_
    refine WL.assign ?_
    refine WL.nil ?_
    refine WQ.next ?_
    refine WC.ret (?_)
    refine WQ.to (A := buf b10 4 p.ino ((boolsV noneB p.ino).set (0 + (0 : Int).toNat) (.bool true))) (A' := buf b10 4 p.ino (boolsV rootB p.ino)) (fun h hh => by rw [show rootB = setF noneB 0 true from funext fun k => by unfold rootB setF noneB; by_cases hk : k = 0 <;> simp [hk], ← boolsV_set]; exact hh) ?_
    exact WQ.ret1 (h1 := .tmp (t := 2) rfl) ⟨_, ⟨b12, ⟨b7, p.dc, b10, p.ino⟩, ⟨Nat.le_refl _, Nat.le_refl _, by show p.dc ≤ maxLen; unfold maxLen; omega, by show p.ino ≤ maxLen; unfold maxLen; omega⟩, rfl, rfl⟩, Am.auto⟩
  · refine WL.mkS (k := (p.ino : Int)) z4 (fun b10 => ?_) so57 (by omega) (by omega) (by omega)
    refine WL.cast (d := 10) (u := .slice (some ⟨b10, 0, none⟩) p.ino p.ino) rfl (by rw [Int.toNat_natCast]) ?_
    refine WL.to (A := buf b10 4 (p.ino : Int).toNat (List.replicate (p.ino : Int).toNat (.bool false))) (A' := buf b10 4 p.ino (boolsV noneB p.ino)) (fun h hh => by rw [← boolsV_none]; rw [Int.toNat_natCast] at hh; exact hh) ?_
    refine WL.nil (WQ.wd hnp (.inl Am.auto) ?_)
    refine WD.one (i := 3) #[true, true, true, true, true, true, true, false, false, false] rfl (by kernel_rfl) fun hnp => ?_
    refine WL.mkS (k := (p.dc : Int)) z4 (fun b7 => ?_) so57 (by omega) (by omega) (by omega)
    refine WL.cast (d := 7) (u := .slice (some ⟨b7, 0, none⟩) p.dc p.dc) rfl (by rw [Int.toNat_natCast]) ?_
    refine WL.to (A := buf b7 4 (p.dc : Int).toNat (List.replicate (p.dc : Int).toNat (.bool false))) (A' := buf b7 4 p.dc (boolsV noneB p.dc)) (fun h hh => by rw [← boolsV_none]; rw [Int.toNat_natCast] at hh; exact hh) ?_
    refine WL.nil (WQ.wd hnp (.inl Am.auto) ?_)
    refine WD.take (i := 7) #[true, true, true, true, true, true, true, true, false, false] rfl (by kernel_rfl) (Qt.build (bdMaps _ _ _ _ _ _ _ _ _ _ _ _ _)) ?_
    refine WD.one (i := 8) #[true, true, true, true, true, true, true, true, true, false] rfl (by kernel_rfl) fun hnp => ?_
    refine WL.box fun b12 => ?_
    refine WL.nil (WQ.wd hnp (.inl Am.auto) ?_)
    refine WD.take (i := 9) #[true, true, true, true, true, true, true, true, true, true] rfl (by kernel_rfl) (Qt.assign ) ?_
    refine WD.done (by kernel_rfl) ?_
    refine WQ.next ?_
    refine WC.seq ?_
    refine WC.region ?_
    refine WL.move ?_
    refine WL.nilCheck ?_
    refine WL.fa ?_ fo59_2
    refine WL.ld ?_ sc57
    refine WL.idx1 ?_ so57
    refine WL.stB ?_ sc4 (show 0 + (0 : Int).toNat < (boolsV noneB p.ino).length by rw [boolsV_length]; exact hi1)
    refine WL.nil ?_
    refine WQ.next ?_
    refine WC.seq ?_
    refine WC.region ?_
    refine WL.move ?_
    refine WL.assign ?_
    refine WL.nil ?_
    refine WQ.next ?_
    refine WC.ret (?_)
    refine WQ.to (A := buf b10 4 p.ino ((boolsV noneB p.ino).set (0 + (0 : Int).toNat) (.bool true))) (A' := buf b10 4 p.ino (boolsV rootB p.ino)) (fun h hh => by rw [show rootB = setF noneB 0 true from funext fun k => by unfold rootB setF noneB; by_cases hk : k = 0 <;> simp [hk], ← boolsV_set]; exact hh) ?_
    exact WQ.ret1 (h1 := .tmp (t := 2) rfl) ⟨_, ⟨b12, ⟨b7, p.dc, b10, p.ino⟩, ⟨Nat.le_refl _, Nat.le_refl _, by show p.dc ≤ maxLen; unfold maxLen; omega, by show p.ino ≤ maxLen; unfold maxLen; omega⟩, rfl, rfl⟩, Am.auto⟩

theorem rCopy0 {m : Nat} {p : Pl} {bk ik : Nat → Bool} {x : MX} (h : PlIs p) (hx : MXok p x) : Spec Tryz.prog 8 #[.pointer (some ⟨m, 0, none⟩)] [pt m (mapsO p x), buf (x).g1 4 (x).c1 (boolsV bk p.dc), buf (x).g2 4 (x).c2 (boolsV ik p.ino)] fun F v M => ∃ m' x', MXok p x' ∧ v = .pointer (some ⟨m', 0, none⟩) ∧ M = mpL m' p bk ik x' ++ ([pt m (mapsO p x), buf (x).g1 4 (x).c1 (boolsV bk p.dc), buf (x).g2 4 (x).c2 (boolsV ik p.ino)] ++ F) := by
  refine Spec.intro Tryz.func8 rfl rfl fun B F => ?_
  simp only [Tryz.ntmps8, List.cons_append, List.nil_append, env0, Nat.reduceAdd]
  have hn2 := h.n2
  have hdc := h.dc
  have hi1 := h.i1
  have hi2 := h.i2
  have hd1 := h.d1
  unfold mpL
  refine WC.seq ?_
  refine WC.region ?_
  refine WL.assign ?_
  refine WL.nil ?_
  refine WQ.next ?_
  refine WC.seq ?_
  refine WC.draw ([pt m (mapsO p x)]) [] 19 #[false, false, false, false, false, false, false, false, false, false, false, false, false, false, false, false, false, false, false] mixed (by kernel_rfl) NoPanic.autoJ ?_
  refine WD.take (i := 0) #[true, false, false, false, false, false, false, false, false, false, false, false, false, false, false, false, false, false, false] rfl (by kernel_rfl) (Qt.move ) ?_
  refine WD.take (i := 1) #[true, true, false, false, false, false, false, false, false, false, false, false, false, false, false, false, false, false, false] rfl (by kernel_rfl) (Qt.nilCheck ) ?_
  refine WD.take (i := 2) #[true, true, true, false, false, false, false, false, false, false, false, false, false, false, false, false, false, false, false] rfl (by kernel_rfl) (Qt.fa fo59_0) ?_
  refine WD.take (i := 3) #[true, true, true, true, false, false, false, false, false, false, false, false, false, false, false, false, false, false, false] rfl (by kernel_rfl) (Qt.ldP (us := p.cells) agg25 rfl rfl) ?_
  refine WD.take (i := 5) #[true, true, true, true, false, true, false, false, false, false, false, false, false, false, false, false, false, false, false] rfl (by kernel_rfl) (Qt.move ) ?_
  refine WD.take (i := 6) #[true, true, true, true, false, true, true, false, false, false, false, false, false, false, false, false, false, false, false] rfl (by kernel_rfl) (Qt.nilCheck ) ?_
  refine WD.take (i := 7) #[true, true, true, true, false, true, true, true, false, false, false, false, false, false, false, false, false, false, false] rfl (by kernel_rfl) (Qt.fa fo59_1) ?_
  refine WD.take (i := 8) #[true, true, true, true, false, true, true, true, true, false, false, false, false, false, false, false, false, false, false] rfl (by kernel_rfl) (Qt.ld sc57) ?_
  refine WD.take (i := 11) #[true, true, true, true, false, true, true, true, true, false, false, true, false, false, false, false, false, false, false] rfl (by kernel_rfl) (Qt.move ) ?_
  refine WD.take (i := 12) #[true, true, true, true, false, true, true, true, true, false, false, true, true, false, false, false, false, false, false] rfl (by kernel_rfl) (Qt.nilCheck ) ?_
  refine WD.take (i := 13) #[true, true, true, true, false, true, true, true, true, false, false, true, true, true, false, false, false, false, false] rfl (by kernel_rfl) (Qt.fa fo59_2) ?_
  refine WD.take (i := 14) #[true, true, true, true, false, true, true, true, true, false, false, true, true, true, true, false, false, false, false] rfl (by kernel_rfl) (Qt.ld sc57) ?_
  refine WD.two (i := 4) (j := 10) #[true, true, true, true, true, true, true, true, true, false, false, true, true, true, true, false, false, false, false] #[true, true, true, true, false, true, true, true, true, false, true, true, true, true, true, false, false, false, false] rfl rfl (by kernel_rfl) (fun hnp => ?_) (fun hnp => ?_)
  · refine WL.buildS (fun b7 => ?_) bs0B
    refine WL.to (A' := buf b7 4 0 []) (buf_of_pt (cs := #[]) rfl) ?_
    refine WL.to (rowR_of_buf (g := b7) (el := 4) (cap := 0) (xs := []) (by decide)) ?_
    refine WL.nil (WQ.wd hnp (.inl Am.auto) ?_)
    refine WD.two (i := 9) (j := 10) #[true, true, true, true, true, true, true, true, true, true, false, true, true, true, true, false, false, false, false] #[true, true, true, true, true, true, true, true, true, false, true, true, true, true, true, false, false, false, false] rfl rfl (by kernel_rfl) (fun hnp => ?_) (fun hnp => ?_)
    · refine WL.append (m := p.dc) (news := boolsV bk p.dc) (v := .slice (some ⟨b7, 0, none⟩) 0 0) (k := 0) (xs := []) so57 (by decide) (by repeat (first | exact .here | apply Rem.there | apply Repl.there | apply Mem.there)) (Reads.buf (g := x.g1) (e := 4) (k := x.c1) (xs := boolsV bk p.dc)) (by repeat (first | exact .here | apply Rem.there | apply Repl.there | apply Mem.there)) (by rw [boolsV_length]; omega) (by intro u hu; unfold boolsV at hu; obtain ⟨k, _, rfl⟩ := List.mem_map.1 hu; rfl) (by unfold maxLen; omega) (by omega) ⟨_, z4, rfl⟩ (fun vA12 hvA => ?_)
      have hne : vA12 ≠ .slice none 0 0 := fun hh => by have := (hvA.1 hh).2; omega
      refine WL.toE (buf_of_rowR hne) ?_
      rintro ⟨e12, k12⟩ ⟨hv, hk1, hk2, hk3⟩
      subst hv
      rw [Nat.zero_add] at hk1
      refine WL.cast (d := 12) (u := .slice (some ⟨e12, 0, none⟩) p.dc k12) rfl (by rw [Nat.zero_add]) ?_
      rw [List.nil_append]
      refine WL.nil (WQ.wd hnp (.inl Am.auto) ?_)
      refine WD.one (i := 10) #[true, true, true, true, true, true, true, true, true, true, true, true, true, true, true, false, false, false, false] rfl (by kernel_rfl) fun hnp => ?_
      refine WL.buildS (fun b13 => ?_) bs0B
      refine WL.to (A' := buf b13 4 0 []) (buf_of_pt (cs := #[]) rfl) ?_
      refine WL.to (rowR_of_buf (g := b13) (el := 4) (cap := 0) (xs := []) (by decide)) ?_
      refine WL.nil (WQ.wd hnp (.inl Am.auto) ?_)
      refine WD.one (i := 15) #[true, true, true, true, true, true, true, true, true, true, true, true, true, true, true, true, false, false, false] rfl (by kernel_rfl) fun hnp => ?_
      refine WL.append (m := p.ino) (news := boolsV ik p.ino) (v := .slice (some ⟨b13, 0, none⟩) 0 0) (k := 0) (xs := []) so57 (by decide) (by repeat (first | exact .here | apply Rem.there | apply Repl.there | apply Mem.there)) (Reads.buf (g := x.g2) (e := 4) (k := x.c2) (xs := boolsV ik p.ino)) (by repeat (first | exact .here | apply Rem.there | apply Repl.there | apply Mem.there)) (by rw [boolsV_length]; omega) (by intro u hu; unfold boolsV at hu; obtain ⟨k, _, rfl⟩ := List.mem_map.1 hu; rfl) (by unfold maxLen; omega) (by omega) ⟨_, z4, rfl⟩ (fun vA18 hvA => ?_)
      have hne : vA18 ≠ .slice none 0 0 := fun hh => by have := (hvA.1 hh).2; omega
      refine WL.toE (buf_of_rowR hne) ?_
      rintro ⟨e18, k18⟩ ⟨hv, hk1, hk2, hk3⟩
      subst hv
      rw [Nat.zero_add] at hk1
      refine WL.cast (d := 18) (u := .slice (some ⟨e18, 0, none⟩) p.ino k18) rfl (by rw [Nat.zero_add]) ?_
      rw [List.nil_append]
      refine WL.nil (WQ.wd hnp (.inl Am.auto) ?_)
      refine WD.take (i := 16) #[true, true, true, true, true, true, true, true, true, true, true, true, true, true, true, true, true, false, false] rfl (by kernel_rfl) (Qt.build (bdMaps _ _ _ _ _ _ _ _ _ _ _ _ _)) ?_
      refine WD.one (i := 17) #[true, true, true, true, true, true, true, true, true, true, true, true, true, true, true, true, true, true, false] rfl (by kernel_rfl) fun hnp => ?_
      refine WL.box fun b20 => ?_
      refine WL.nil (WQ.wd hnp (.inl Am.auto) ?_)
      refine WD.take (i := 18) #[true, true, true, true, true, true, true, true, true, true, true, true, true, true, true, true, true, true, true] rfl (by kernel_rfl) (Qt.assign ) ?_
      refine WD.done (by kernel_rfl) ?_
      refine WQ.next ?_
      refine WC.ret (?_)
      exact WQ.ret1 (h1 := .tmp (t := 2) rfl) ⟨_, ⟨b20, ⟨e12, k12, e18, k18⟩, ⟨by assumption, by assumption, by assumption, by assumption⟩, rfl, rfl⟩, Am.auto⟩
    · refine WL.buildS (fun b13 => ?_) bs0B
      refine WL.to (A' := buf b13 4 0 []) (buf_of_pt (cs := #[]) rfl) ?_
      refine WL.to (rowR_of_buf (g := b13) (el := 4) (cap := 0) (xs := []) (by decide)) ?_
      refine WL.nil (WQ.wd hnp (.inl Am.auto) ?_)
      refine WD.one (i := 9) #[true, true, true, true, true, true, true, true, true, true, true, true, true, true, true, false, false, false, false] rfl (by kernel_rfl) fun hnp => ?_
      refine WL.append (m := p.dc) (news := boolsV bk p.dc) (v := .slice (some ⟨b7, 0, none⟩) 0 0) (k := 0) (xs := []) so57 (by decide) (by repeat (first | exact .here | apply Rem.there | apply Repl.there | apply Mem.there)) (Reads.buf (g := x.g1) (e := 4) (k := x.c1) (xs := boolsV bk p.dc)) (by repeat (first | exact .here | apply Rem.there | apply Repl.there | apply Mem.there)) (by rw [boolsV_length]; omega) (by intro u hu; unfold boolsV at hu; obtain ⟨k, _, rfl⟩ := List.mem_map.1 hu; rfl) (by unfold maxLen; omega) (by omega) ⟨_, z4, rfl⟩ (fun vA12 hvA => ?_)
      have hne : vA12 ≠ .slice none 0 0 := fun hh => by have := (hvA.1 hh).2; omega
      refine WL.toE (buf_of_rowR hne) ?_
      rintro ⟨e12, k12⟩ ⟨hv, hk1, hk2, hk3⟩
      subst hv
      rw [Nat.zero_add] at hk1
      refine WL.cast (d := 12) (u := .slice (some ⟨e12, 0, none⟩) p.dc k12) rfl (by rw [Nat.zero_add]) ?_
      rw [List.nil_append]
      refine WL.nil (WQ.wd hnp (.inl Am.auto) ?_)
      refine WD.one (i := 15) #[true, true, true, true, true, true, true, true, true, true, true, true, true, true, true, true, false, false, false] rfl (by kernel_rfl) fun hnp => ?_
      refine WL.append (m := p.ino) (news := boolsV ik p.ino) (v := .slice (some ⟨b13, 0, none⟩) 0 0) (k := 0) (xs := []) so57 (by decide) (by repeat (first | exact .here | apply Rem.there | apply Repl.there | apply Mem.there)) (Reads.buf (g := x.g2) (e := 4) (k := x.c2) (xs := boolsV ik p.ino)) (by repeat (first | exact .here | apply Rem.there | apply Repl.there | apply Mem.there)) (by rw [boolsV_length]; omega) (by intro u hu; unfold boolsV at hu; obtain ⟨k, _, rfl⟩ := List.mem_map.1 hu; rfl) (by unfold maxLen; omega) (by omega) ⟨_, z4, rfl⟩ (fun vA18 hvA => ?_)
      have hne : vA18 ≠ .slice none 0 0 := fun hh => by have := (hvA.1 hh).2; omega
      refine WL.toE (buf_of_rowR hne) ?_
      rintro ⟨e18, k18⟩ ⟨hv, hk1, hk2, hk3⟩
      subst hv
      rw [Nat.zero_add] at hk1
      refine WL.cast (d := 18) (u := .slice (some ⟨e18, 0, none⟩) p.ino k18) rfl (by rw [Nat.zero_add]) ?_
      rw [List.nil_append]
      refine WL.nil (WQ.wd hnp (.inl Am.auto) ?_)
      refine WD.take (i := 16) #[true, true, true, true, true, true, true, true, true, true, true, true, true, true, true, true, true, false, false] rfl (by kernel_rfl) (Qt.build (bdMaps _ _ _ _ _ _ _ _ _ _ _ _ _)) ?_
      refine WD.one (i := 17) #[true, true, true, true, true, true, true, true, true, true, true, true, true, true, true, true, true, true, false] rfl (by kernel_rfl) fun hnp => ?_
      refine WL.box fun b20 => ?_
      refine WL.nil (WQ.wd hnp (.inl Am.auto) ?_)
      refine WD.take (i := 18) #[true, true, true, true, true, true, true, true, true, true, true, true, true, true, true, true, true, true, true] rfl (by kernel_rfl) (Qt.assign ) ?_
      refine WD.done (by kernel_rfl) ?_
      refine WQ.next ?_
      refine WC.ret (?_)
      exact WQ.ret1 (h1 := .tmp (t := 2) rfl) ⟨_, ⟨b20, ⟨e12, k12, e18, k18⟩, ⟨by assumption, by assumption, by assumption, by assumption⟩, rfl, rfl⟩, Am.auto⟩
  · refine WL.buildS (fun b13 => ?_) bs0B
    refine WL.to (A' := buf b13 4 0 []) (buf_of_pt (cs := #[]) rfl) ?_
    refine WL.to (rowR_of_buf (g := b13) (el := 4) (cap := 0) (xs := []) (by decide)) ?_
    refine WL.nil (WQ.wd hnp (.inl Am.auto) ?_)
    refine WD.one (i := 4) #[true, true, true, true, true, true, true, true, true, false, true, true, true, true, true, false, false, false, false] rfl (by kernel_rfl) fun hnp => ?_
    refine WL.buildS (fun b7 => ?_) bs0B
    refine WL.to (A' := buf b7 4 0 []) (buf_of_pt (cs := #[]) rfl) ?_
    refine WL.to (rowR_of_buf (g := b7) (el := 4) (cap := 0) (xs := []) (by decide)) ?_
    refine WL.nil (WQ.wd hnp (.inl Am.auto) ?_)
    refine WD.one (i := 9) #[true, true, true, true, true, true, true, true, true, true, true, true, true, true, true, false, false, false, false] rfl (by kernel_rfl) fun hnp => ?_
    refine WL.append (m := p.dc) (news := boolsV bk p.dc) (v := .slice (some ⟨b7, 0, none⟩) 0 0) (k := 0) (xs := []) so57 (by decide) (by repeat (first | exact .here | apply Rem.there | apply Repl.there | apply Mem.there)) (Reads.buf (g := x.g1) (e := 4) (k := x.c1) (xs := boolsV bk p.dc)) (by repeat (first | exact .here | apply Rem.there | apply Repl.there | apply Mem.there)) (by rw [boolsV_length]; omega) (by intro u hu; unfold boolsV at hu; obtain ⟨k, _, rfl⟩ := List.mem_map.1 hu; rfl) (by unfold maxLen; omega) (by omega) ⟨_, z4, rfl⟩ (fun vA12 hvA => ?_)
    have hne : vA12 ≠ .slice none 0 0 := fun hh => by have := (hvA.1 hh).2; omega
    refine WL.toE (buf_of_rowR hne) ?_
    rintro ⟨e12, k12⟩ ⟨hv, hk1, hk2, hk3⟩
    subst hv
    rw [Nat.zero_add] at hk1
    refine WL.cast (d := 12) (u := .slice (some ⟨e12, 0, none⟩) p.dc k12) rfl (by rw [Nat.zero_add]) ?_
    rw [List.nil_append]
    refine WL.nil (WQ.wd hnp (.inl Am.auto) ?_)
    refine WD.one (i := 15) #[true, true, true, true, true, true, true, true, true, true, true, true, true, true, true, true, false, false, false] rfl (by kernel_rfl) fun hnp => ?_
    refine WL.append (m := p.ino) (news := boolsV ik p.ino) (v := .slice (some ⟨b13, 0, none⟩) 0 0) (k := 0) (xs := []) so57 (by decide) (by repeat (first | exact .here | apply Rem.there | apply Repl.there | apply Mem.there)) (Reads.buf (g := x.g2) (e := 4) (k := x.c2) (xs := boolsV ik p.ino)) (by repeat (first | exact .here | apply Rem.there | apply Repl.there | apply Mem.there)) (by rw [boolsV_length]; omega) (by intro u hu; unfold boolsV at hu; obtain ⟨k, _, rfl⟩ := List.mem_map.1 hu; rfl) (by unfold maxLen; omega) (by omega) ⟨_, z4, rfl⟩ (fun vA18 hvA => ?_)
    have hne : vA18 ≠ .slice none 0 0 := fun hh => by have := (hvA.1 hh).2; omega
    refine WL.toE (buf_of_rowR hne) ?_
    rintro ⟨e18, k18⟩ ⟨hv, hk1, hk2, hk3⟩
    subst hv
    rw [Nat.zero_add] at hk1
    refine WL.cast (d := 18) (u := .slice (some ⟨e18, 0, none⟩) p.ino k18) rfl (by rw [Nat.zero_add]) ?_
    rw [List.nil_append]
    refine WL.nil (WQ.wd hnp (.inl Am.auto) ?_)
    refine WD.take (i := 16) #[true, true, true, true, true, true, true, true, true, true, true, true, true, true, true, true, true, false, false] rfl (by kernel_rfl) (Qt.build (bdMaps _ _ _ _ _ _ _ _ _ _ _ _ _)) ?_
    refine WD.one (i := 17) #[true, true, true, true, true, true, true, true, true, true, true, true, true, true, true, true, true, true, false] rfl (by kernel_rfl) fun hnp => ?_
    refine WL.box fun b20 => ?_
    refine WL.nil (WQ.wd hnp (.inl Am.auto) ?_)
    refine WD.take (i := 18) #[true, true, true, true, true, true, true, true, true, true, true, true, true, true, true, true, true, true, true] rfl (by kernel_rfl) (Qt.assign ) ?_
    refine WD.done (by kernel_rfl) ?_
    refine WQ.next ?_
    refine WC.ret (?_)
    exact WQ.ret1 (h1 := .tmp (t := 2) rfl) ⟨_, ⟨b20, ⟨e12, k12, e18, k18⟩, ⟨by assumption, by assumption, by assumption, by assumption⟩, rfl, rfl⟩, Am.auto⟩

variable {m : Nat} {p : Pl} {bk ik : Nat → Bool}

theorem rTakeK {k : Nat} (h : PlIs p) (hk : k < p.dc) (h0 : bk k = false) (hb : ∀ i < k, bk i = true) : Spec Tryz.prog 10 #[.pointer (some ⟨m, 0, none⟩)] [MP m p bk ik] fun G v M => v = .tuple #[.int .i64 ((p.da + k : Nat) : Int), .int .i64 0] ∧ M = MP m p (setF bk k true) ik :: G := by
  refine Spec.opens (MP.opens m p bk ik) fun x hx => (rTakeBlock0 h hx).post ?_
  rintro G v M (⟨j, hj, hj0, hjb, rfl, rfl⟩ | ⟨hall, _, _⟩)
  · have : j = k := by
      rcases Nat.lt_trichotomy j k with hlt | heq | hgt
      · rw [hb j hlt] at hj0; cases hj0
      · exact heq
      · rw [hjb k hgt] at h0; cases h0
    subst this
    exact ⟨_, ⟨rfl, rfl⟩, Wk.shutR (M := G) (MP.opens m p (setF bk j true) (ik)) x hx⟩
  · rw [hall k hk] at h0; cases h0

theorem rTakeFull (h : PlIs p) (hall : ∀ i < p.dc, bk i = true) : Spec Tryz.prog 10 #[.pointer (some ⟨m, 0, none⟩)] [MP m p bk ik] fun G v M => v = .tuple #[.int .i64 0, .int .i64 3] ∧ M = MP m p bk ik :: G := by
  refine Spec.opens (MP.opens m p bk ik) fun x hx => (rTakeBlock0 h hx).post ?_
  rintro G v M (⟨j, hj, hj0, hjb, _, _⟩ | ⟨_, rfl, rfl⟩)
  · rw [hall j hj] at hj0; cases hj0
  · exact ⟨_, ⟨rfl, rfl⟩, Wk.shutR (M := G) (MP.opens m p (bk) (ik)) x hx⟩

theorem rTakeI {k : Nat} (h : PlIs p) (hk : k < p.ino) (h0 : ik k = false) (hb : ∀ i < k, ik i = true) : Spec Tryz.prog 14 #[.pointer (some ⟨m, 0, none⟩)] [MP m p bk ik] fun G v M => v = .tuple #[.int .i64 (k : Int), .int .i64 0] ∧ M = MP m p bk (setF ik k true) :: G := by
  refine Spec.opens (MP.opens m p bk ik) fun x hx => (rTakeInode0 h hx).post ?_
  rintro G v M (⟨j, hj, hj0, hjb, rfl, rfl⟩ | ⟨hall, _, _⟩)
  · have : j = k := by
      rcases Nat.lt_trichotomy j k with hlt | heq | hgt
      · rw [hb j hlt] at hj0; cases hj0
      · exact heq
      · rw [hjb k hgt] at h0; cases h0
    subst this
    exact ⟨_, ⟨rfl, rfl⟩, Wk.shutR (M := G) (MP.opens m p (bk) (setF ik j true)) x hx⟩
  · rw [hall k hk] at h0; cases h0

theorem rTakeIFull (h : PlIs p) (hall : ∀ i < p.ino, ik i = true) : Spec Tryz.prog 14 #[.pointer (some ⟨m, 0, none⟩)] [MP m p bk ik] fun G v M => v = .tuple #[.int .i64 0, .int .i64 3] ∧ M = MP m p bk ik :: G := by
  refine Spec.opens (MP.opens m p bk ik) fun x hx => (rTakeInode0 h hx).post ?_
  rintro G v M (⟨j, hj, hj0, hjb, _, _⟩ | ⟨_, rfl, rfl⟩)
  · rw [hall j hj] at hj0; cases hj0
  · exact ⟨_, ⟨rfl, rfl⟩, Wk.shutR (M := G) (MP.opens m p (bk) (ik)) x hx⟩

theorem rGive {j : Nat} (h : PlIs p) (hj : j < p.dc) (hb : bk j = true) : Spec Tryz.prog 12 #[.pointer (some ⟨m, 0, none⟩), .int .i64 ((p.da + j : Nat) : Int)] [MP m p bk ik] fun G v M => v = .int .i64 0 ∧ M = MP m p (setF bk j false) ik :: G := by
  refine Spec.opens (MP.opens m p bk ik) fun x hx => (rGiveBlock0 h hx hj hb).post ?_
  rintro G v M ⟨rfl, rfl⟩
  exact ⟨_, ⟨rfl, rfl⟩, Wk.shutR (M := G) (MP.opens m p (setF bk j false) (ik)) x hx⟩

theorem rGiveNo {k : Int} (h : PlIs p) (hk : k < p.da ∨ (p.n : Int) ≤ k ∨ (p.da ≤ k ∧ k < p.n ∧ bk (k - p.da).toNat = false)) (hkb : -9223372036854775808 ≤ k ∧ k ≤ 9223372036854775807) : Spec Tryz.prog 12 #[.pointer (some ⟨m, 0, none⟩), .int .i64 k] [MP m p bk ik] fun G v M => v = .int .i64 1 ∧ M = MP m p bk ik :: G := by
  refine Spec.opens (MP.opens m p bk ik) fun x hx => (rGiveBlockNo0 h hx hk hkb).post ?_
  rintro G v M ⟨rfl, rfl⟩
  exact ⟨_, ⟨rfl, rfl⟩, Wk.shutR (M := G) (MP.opens m p (bk) (ik)) x hx⟩

theorem rGiveI {j : Nat} (h : PlIs p) (hj1 : 1 ≤ j) (hj : j < p.ino) (hb : ik j = true) : Spec Tryz.prog 16 #[.pointer (some ⟨m, 0, none⟩), .int .i64 (j : Int)] [MP m p bk ik] fun G v M => v = .int .i64 0 ∧ M = MP m p bk (setF ik j false) :: G := by
  refine Spec.opens (MP.opens m p bk ik) fun x hx => (rGiveInode0 h hx hj1 hj hb).post ?_
  rintro G v M ⟨rfl, rfl⟩
  exact ⟨_, ⟨rfl, rfl⟩, Wk.shutR (M := G) (MP.opens m p (bk) (setF ik j false)) x hx⟩

theorem rGiveINo {k : Int} (h : PlIs p) (hk : k ≤ 0 ∨ (p.ino : Int) ≤ k ∨ (0 ≤ k ∧ k < p.ino ∧ ik k.toNat = false)) : Spec Tryz.prog 16 #[.pointer (some ⟨m, 0, none⟩), .int .i64 k] [MP m p bk ik] fun G v M => v = .int .i64 1 ∧ M = MP m p bk ik :: G := by
  refine Spec.opens (MP.opens m p bk ik) fun x hx => (rGiveInodeNo0 h hx hk).post ?_
  rintro G v M ⟨rfl, rfl⟩
  exact ⟨_, ⟨rfl, rfl⟩, Wk.shutR (M := G) (MP.opens m p (bk) (ik)) x hx⟩

theorem rFreeM (h : PlIs p) : Spec Tryz.prog 21 #[.pointer (some ⟨m, 0, none⟩)] [MP m p bk ik] fun G v M => v = .tuple #[.int .i64 ((p.dc : Int) - cntB bk p.dc), .int .i64 ((p.ino : Int) - cntB ik p.ino)] ∧ M = MP m p bk ik :: G := by
  refine Spec.opens (MP.opens m p bk ik) fun x hx => (rFree0 h hx).post ?_
  rintro G v M ⟨rfl, rfl⟩
  exact ⟨_, ⟨rfl, rfl⟩, Wk.shutR (M := G) (MP.opens m p (bk) (ik)) x hx⟩

theorem rCopy (h : PlIs p) : Spec Tryz.prog 8 #[.pointer (some ⟨m, 0, none⟩)] [MP m p bk ik] fun G v M => ∃ m', v = .pointer (some ⟨m', 0, none⟩) ∧ M = MP m' p bk ik :: MP m p bk ik :: G := by
  refine Spec.opens (MP.opens m p bk ik) fun x hx => (rCopy0 h hx).post ?_
  rintro G v M ⟨m', x', hx', rfl, rfl⟩
  exact ⟨_, ⟨m', rfl, rfl⟩, fun B w hs => Sat.shuts (M := MP m p bk ik :: G) (MP.opens m' p bk ik) hx' (Am.wk Am.auto B w (Sat.shuts (M := mpL m' p bk ik x' ++ G) (MP.opens m p bk ik) hx (Am.wk Am.auto B w hs)))⟩

theorem rNewMaps (h : PlIs p) : Spec Tryz.prog 7 #[.agg p.cells] [] fun G v M => ∃ m, v = .pointer (some ⟨m, 0, none⟩) ∧ M = MP m p noneB rootB :: G := by
  refine (rNewMaps0 h).post ?_
  rintro G v M ⟨m, x, hx, rfl, rfl⟩
  exact ⟨_, ⟨m, rfl, rfl⟩, Wk.shutR (M := G) (MP.opens m p noneB rootB) x hx⟩

end Go.Proofs.YtfmkhhdohfagkaaGreat
