/- Walks of the reference's maps. -/
import Derived.Test.YtfmkhhdohfagkaaGreatFa
import Derived.Test.YtfmkhhdohfagkaaGreatWr
import Derived.Test.YtfmkhhdohfagkaaGreatSn
import Derived.KernelRfl
set_option linter.unusedVariables false
set_option linter.unusedSimpArgs false
namespace Go.Proofs.YtfmkhhdohfagkaaGreat
open Go
theorem sl57 : Tryz.prog.underlying 57 = some (.slice 4) := by kernel_rfl
theorem so57 : sliceOk Tryz.prog 57 4 1 1 = true := by kernel_rfl
theorem fo59_1 : fieldOk Tryz.prog 59 1 7 = true := by kernel_rfl
theorem sc57 : scalarOk Tryz.prog 57 = true := by kernel_rfl
theorem fo59_0 : fieldOk Tryz.prog 59 0 0 = true := by kernel_rfl
theorem fo59_2 : fieldOk Tryz.prog 59 2 8 = true := by kernel_rfl

theorem bdMaps (v1 v2 v3 v4 v5 v6 v7 : Int) (g1 n1 c1 g2 n2 c2 : Nat) : BuildOk Tryz.prog 59 [(0, .agg #[.int .i64 v1, .int .i64 v2, .int .i64 v3, .int .i64 v4, .int .i64 v5, .int .i64 v6, .int .i64 v7]), (1, .slice (some ⟨g1, 0, none⟩) n1 c1), (2, .slice (some ⟨g2, 0, none⟩) n2 c2)]
  #[.int .i64 v1, .int .i64 v2, .int .i64 v3, .int .i64 v4, .int .i64 v5, .int .i64 v6, .int .i64 v7, .slice (some ⟨g1, 0, none⟩) n1 c1, .slice (some ⟨g2, 0, none⟩) n2 c2] := fun w => by kernel_rfl
theorem bs0B : BuildSOk Tryz.prog 57 0 [] 4 #[] := fun w => by kernel_rfl
structure MX where
  g1 : Nat
  c1 : Nat
  g2 : Nat
  c2 : Nat
def mapsO (p : Pl) (x : MX) : Obj := .cells #[.int .i64 (p.n : Int), .int .i64 (p.ino : Int), .int .i64 (p.im : Int), .int .i64 (p.bm : Int), .int .i64 (p.tb : Int), .int .i64 (p.da : Int), .int .i64 (p.dc : Int), .slice (some ⟨x.g1, 0, none⟩) p.dc x.c1, .slice (some ⟨x.g2, 0, none⟩) p.ino x.c2] 59 (0, 0)
def mpL (m : Nat) (p : Pl) (bk ik : Nat → Bool) (x : MX) : List HP := [pt m (mapsO p x), buf x.g1 4 x.c1 (boolsV bk p.dc), buf x.g2 4 x.c2 (boolsV ik p.ino)]
def MXok (p : Pl) (x : MX) : Prop := p.dc ≤ x.c1 ∧ p.ino ≤ x.c2 ∧ x.c1 ≤ maxLen ∧ x.c2 ≤ maxLen
/-- The reference's maps. -/
def MP (m : Nat) (p : Pl) (bk ik : Nat → Bool) : HP := fun h => ∃ x, MXok p x ∧ star (mpL m p bk ik x) h
theorem MP.opens (m : Nat) (p : Pl) (bk ik : Nat → Bool) : Opens (MP m p bk ik) (MXok p) (mpL m p bk ik) := ⟨fun h hh => hh, fun x hp h hh => ⟨x, hp, hh⟩⟩
attribute [irreducible] MP
theorem buf_cap {b e k : Nat} {xs : List Value} : ∀ h, buf b e k xs h → xs.length ≤ k := by
  intro h hh
  unfold buf at hh
  obtain ⟨cur, h1, h2, h3, h4⟩ := hh
  exact h4
theorem cntB_succ (f : Nat → Bool) (n : Nat) : cntB f (n + 1) = cntB f n + (if f n then 1 else 0) := by
  unfold cntB
  rw [List.range_succ, List.filter_append, List.length_append]
  cases h : f n <;> simp [h]
theorem cntB_le (f : Nat → Bool) (n : Nat) : cntB f n ≤ n := by
  unfold cntB
  have := List.length_filter_le f (List.range n)
  rw [List.length_range] at this
  exact this

theorem rTake {f : Nat → Bool} {n cc b : Nat} (hn : n ≤ 65536) : Spec Tryz.prog 31 #[.slice (some ⟨b, 0, none⟩) n cc] [buf b 4 cc (boolsV f n)] fun F v M =>
   (∃ k, k < n ∧ f k = false ∧ (∀ i < k, f i = true) ∧ v = .int .i64 (k : Int) ∧ M = buf b 4 cc (boolsV (setF f k true) n) :: F) ∨ ((∀ i < n, f i = true) ∧ v = .int .i64 (-1) ∧ M = buf b 4 cc (boolsV f n) :: F) := by
  refine Spec.intro Tryz.func31 rfl rfl fun B F => ?_
  simp only [Tryz.ntmps31, List.cons_append, List.nil_append, env0, Nat.reduceAdd]
  refine WC.seq ?_
  refine WC.region ?_
  refine WL.assign ?_
  refine WL.nil ?_
  refine WQ.next ?_
  refine WC.seq ?_
  refine WC.seq ?_
  refine WC.region ?_
  refine WL.assign ?_
  refine WL.nil ?_
  refine WQ.next ?_
  refine WC.block ?_
  refine WC.loopA (σ := Nat) (fun i => [(0, .slice (some ⟨b, 0, none⟩) n cc), (3, .int .i64 (i : Int))]) (fun i => buf b 4 cc (boolsV f n) :: F) (fun i => i ≤ n ∧ ∀ j < i, f j = true) (fun i => n - i) 0 ⟨Nat.zero_le _, fun j hj => by omega⟩ ?_
  rintro i hi
  refine WC.seq ?_
  refine WC.seq ?_
  refine WC.region ?_
  refine WL.move ?_
  refine WL.move ?_
  refine WL.lenS ?_ sl57
  refine WL.lss ?_
  refine WL.nil ?_
  refine WQ.next ?_
  refine WC.cond rfl (fun hb => ?_) (fun hb => ?_)
  · have hlt : i < n := by have := of_decide_eq_true hb; omega
    cases hfi : f i
    · refine WC.skip ?_
      refine WQ.next ?_
      refine WC.seq ?_
      refine WC.block ?_
      refine WC.seq ?_
      refine WC.region ?_
      refine WL.move ?_
      refine WL.move ?_
      refine WL.idx1 ?_ so57
      refine WL.ldR (R := buf b 4 cc (boolsV f n)) (xs := boolsV f n) (i := ((i : Nat) : Int).toNat) (v := .bool (f i)) ?_ sc4 Reads.buf (by rw [Int.toNat_natCast]; exact boolsV_get f hlt)
      refine WL.cast (d := 13) (u := .bool false) rfl (congrArg Value.bool hfi) ?_
      refine WL.not ?_
      refine WL.nil ?_
      refine WQ.next ?_
      refine WC.condT rfl rfl ?_
      refine WC.seq ?_
      refine WC.region ?_
      refine WL.move ?_
      refine WL.move ?_
      refine WL.idx1 ?_ so57
      refine WL.stB ?_ sc4 (show 0 + ((i : Nat) : Int).toNat < (boolsV f n).length by rw [boolsV_length]; omega)
      refine WL.nil ?_
      refine WQ.next ?_
      refine WC.seq ?_
      refine WC.region ?_
      refine WL.move ?_
      refine WL.assign ?_
      refine WL.nil ?_
      refine WQ.next ?_
      refine WC.ret (WQ.blockRet (WQ.thenRet (WQ.thenRet (WQ.blockRet (WQ.thenRet (?_))))))
      refine WQ.to (A := buf b 4 cc ((boolsV f n).set (0 + ((i : Nat) : Int).toNat) (.bool true))) (A' := buf b 4 cc (boolsV (setF f i true) n)) (fun h hh => by rw [← boolsV_set]; rw [Int.toNat_natCast, Nat.zero_add] at hh; exact hh) ?_
      exact WQ.ret1 (h1 := .tmp (t := 2) rfl) ⟨_, .inl ⟨i, hlt, hfi, hi.2, rfl, rfl⟩, Am.auto⟩
    · refine WC.skip ?_
      refine WQ.next ?_
      refine WC.seq ?_
      refine WC.block ?_
      refine WC.seq ?_
      refine WC.region ?_
      refine WL.move ?_
      refine WL.move ?_
      refine WL.idx1 ?_ so57
      refine WL.ldR (R := buf b 4 cc (boolsV f n)) (xs := boolsV f n) (i := ((i : Nat) : Int).toNat) (v := .bool (f i)) ?_ sc4 Reads.buf (by rw [Int.toNat_natCast]; exact boolsV_get f hlt)
      refine WL.cast (d := 13) (u := .bool true) rfl (congrArg Value.bool hfi) ?_
      refine WL.not ?_
      refine WL.nil ?_
      refine WQ.next ?_
      refine WC.condF rfl rfl ?_
      refine WC.skip ?_
      refine WQ.blockNormal ?_
      refine WQ.next ?_
      refine WC.region ?_
      refine WL.move ?_
      refine WL.add ?_
      refine WL.assign ?_
      refine WL.nil ?_
      refine WQ.cast (d := 3) (u := .int .i64 ((i + 1 : Nat) : Int)) rfl (congrArg (Value.int .i64) (by omega)) ?_
      exact WQ.back (i + 1) ⟨by show i + 1 ≤ n; omega, fun j hj => by by_cases hji : j = i; (rw [hji]; exact hfi); exact hi.2 j (by omega)⟩ (by omega)
  · have hge : ¬ i < n := by have := of_decide_eq_false hb; omega
    refine WC.exit (WQ.thenExit (WQ.thenExit (WQ.blockExit (?_))))
    refine WQ.next ?_
    refine WC.seq ?_
    refine WC.region ?_
    refine WL.assign ?_
    refine WL.nil ?_
    refine WQ.next ?_
    refine WC.ret (?_)
    exact WQ.ret1 (h1 := .tmp (t := 2) rfl) ⟨_, .inr ⟨fun j hj => hi.2 j (by omega), rfl, rfl⟩, Am.auto⟩

theorem rFree {f : Nat → Bool} {n cc b : Nat} (hn : n ≤ 65536) : Spec Tryz.prog 41 #[.slice (some ⟨b, 0, none⟩) n cc] [buf b 4 cc (boolsV f n)] fun F v M => v = .int .i64 ((n : Int) - cntB f n) ∧ M = buf b 4 cc (boolsV f n) :: F := by
  refine Spec.intro Tryz.func41 rfl rfl fun B F => ?_
  simp only [Tryz.ntmps41, List.cons_append, List.nil_append, env0, Nat.reduceAdd]
  refine WC.seq ?_
  refine WC.region ?_
  refine WL.assign ?_
  refine WL.nil ?_
  refine WQ.next ?_
  refine WC.seq ?_
  refine WC.region ?_
  refine WL.assign ?_
  refine WL.nil ?_
  refine WQ.next ?_
  refine WC.seq ?_
  refine WC.seq ?_
  refine WC.region ?_
  refine WL.assign ?_
  refine WL.nil ?_
  refine WQ.next ?_
  refine WC.block ?_
  refine WC.loopA (σ := Nat) (fun i => [(0, .slice (some ⟨b, 0, none⟩) n cc), (4, .int .i64 (i : Int)), (3, .int .i64 ((i : Int) - cntB f i))]) (fun i => buf b 4 cc (boolsV f n) :: F) (fun i => i ≤ n) (fun i => n - i) 0 (Nat.zero_le _) ?_
  rintro i hi
  refine WC.seq ?_
  refine WC.seq ?_
  refine WC.region ?_
  refine WL.move ?_
  refine WL.move ?_
  refine WL.lenS ?_ sl57
  refine WL.lss ?_
  refine WL.nil ?_
  refine WQ.next ?_
  refine WC.cond rfl (fun hb => ?_) (fun hb => ?_)
  · have hlt : i < n := by have := of_decide_eq_true hb; omega
    have hcs := cntB_succ f i
    have hcl := cntB_le f i
    cases hfi : f i
    · rw [hfi, if_neg (by decide)] at hcs
      refine WC.skip ?_
      refine WQ.next ?_
      refine WC.seq ?_
      refine WC.block ?_
      refine WC.seq ?_
      refine WC.region ?_
      refine WL.move ?_
      refine WL.move ?_
      refine WL.idx1 ?_ so57
      refine WL.ldR (R := buf b 4 cc (boolsV f n)) (xs := boolsV f n) (i := ((i : Nat) : Int).toNat) (v := .bool (f i)) ?_ sc4 Reads.buf (by rw [Int.toNat_natCast]; exact boolsV_get f hlt)
      refine WL.cast (d := 14) (u := .bool false) rfl (congrArg Value.bool hfi) ?_
      refine WL.not ?_
      refine WL.nil ?_
      refine WQ.next ?_
      refine WC.condT rfl rfl ?_
      refine WC.region ?_
      refine WL.move ?_
      refine WL.add ?_
      refine WL.assign ?_
      refine WL.nil ?_
      refine WQ.blockNormal ?_
      refine WQ.next ?_
      refine WC.region ?_
      refine WL.move ?_
      refine WL.add ?_
      refine WL.assign ?_
      refine WL.nil ?_
      refine WQ.cast (d := 4) (u := .int .i64 ((i + 1 : Nat) : Int)) rfl (congrArg (Value.int .i64) (by omega)) ?_
      refine WQ.cast (d := 3) (u := .int .i64 (((i + 1 : Nat) : Int) - cntB f (i + 1))) rfl (congrArg (Value.int .i64) (by omega)) ?_
      exact WQ.back (i + 1) (by omega) (by omega)
    · rw [hfi, if_pos rfl] at hcs
      refine WC.skip ?_
      refine WQ.next ?_
      refine WC.seq ?_
      refine WC.block ?_
      refine WC.seq ?_
      refine WC.region ?_
      refine WL.move ?_
      refine WL.move ?_
      refine WL.idx1 ?_ so57
      refine WL.ldR (R := buf b 4 cc (boolsV f n)) (xs := boolsV f n) (i := ((i : Nat) : Int).toNat) (v := .bool (f i)) ?_ sc4 Reads.buf (by rw [Int.toNat_natCast]; exact boolsV_get f hlt)
      refine WL.cast (d := 14) (u := .bool true) rfl (congrArg Value.bool hfi) ?_
      refine WL.not ?_
      refine WL.nil ?_
      refine WQ.next ?_
      refine WC.condF rfl rfl ?_
      refine WC.skip ?_
      refine WQ.blockNormal ?_
      refine WQ.next ?_
      refine WC.region ?_
      refine WL.move ?_
      refine WL.add ?_
      refine WL.assign ?_
      refine WL.nil ?_
      refine WQ.cast (d := 4) (u := .int .i64 ((i + 1 : Nat) : Int)) rfl (congrArg (Value.int .i64) (by omega)) ?_
      refine WQ.cast (d := 3) (u := .int .i64 (((i + 1 : Nat) : Int) - cntB f (i + 1))) rfl (congrArg (Value.int .i64) (by omega)) ?_
      exact WQ.back (i + 1) (by omega) (by omega)
  · have hge : ¬ i < n := by have := of_decide_eq_false hb; omega
    have hin : i = n := by omega
    subst hin
    refine WC.exit (WQ.thenExit (WQ.thenExit (WQ.blockExit (?_))))
    refine WQ.next ?_
    refine WC.seq ?_
    refine WC.region ?_
    refine WL.move ?_
    refine WL.assign ?_
    refine WL.nil ?_
    refine WQ.next ?_
    refine WC.ret (?_)
    exact WQ.ret1 (h1 := .tmp (t := 2) rfl) ⟨_, ⟨rfl, rfl⟩, Am.auto⟩

theorem rTakeBlock0 {m : Nat} {p : Pl} {bk ik : Nat → Bool} {x : MX} (h : PlIs p) (hx : MXok p x) : Spec Tryz.prog 10 #[.pointer (some ⟨m, 0, none⟩)] [pt m (mapsO p x), buf x.g1 4 x.c1 (boolsV bk p.dc), buf x.g2 4 x.c2 (boolsV ik p.ino)] fun F v M =>
   (∃ k, k < p.dc ∧ bk k = false ∧ (∀ i < k, bk i = true) ∧ v = .tuple #[.int .i64 ((p.da + k : Nat) : Int), .int .i64 0] ∧ M = [pt m (mapsO p x), buf x.g1 4 x.c1 (boolsV (setF bk k true) p.dc), buf x.g2 4 x.c2 (boolsV ik p.ino)] ++ F) ∨ ((∀ i < p.dc, bk i = true) ∧ v = .tuple #[.int .i64 0, .int .i64 3] ∧ M = [pt m (mapsO p x), buf x.g1 4 x.c1 (boolsV bk p.dc), buf x.g2 4 x.c2 (boolsV ik p.ino)] ++ F) := by
  refine Spec.intro Tryz.func10 rfl rfl fun B F => ?_
  simp only [Tryz.ntmps10, List.cons_append, List.nil_append, env0, Nat.reduceAdd]
  have hn2 := h.n2
  have hdc := h.dc
  refine WC.seq ?_
  refine WC.region ?_
  refine WL.assign ?_
  refine WL.assign ?_
  refine WL.nil ?_
  refine WQ.next ?_
  refine WC.seq ?_
  refine WC.region ?_
  refine WL.move ?_
  refine WL.nilCheck ?_
  refine WL.fa ?_ fo59_1
  refine WL.ld ?_ sc57
  refine WL.call (hc := Tryz.call31) (sp := rTake (f := bk) (n := p.dc) (cc := x.c1) (b := x.g1) (by omega)) (h := ?_)
  rintro _ _ (⟨k, hk, hk0, hkb, rfl, rfl⟩ | ⟨hall, rfl, rfl⟩)
  · refine WL.assign ?_
    refine WL.nil ?_
    refine WQ.next ?_
    refine WC.seq ?_
    refine WC.seq ?_
    refine WC.region ?_
    refine WL.move ?_
    refine WL.lss ?_
    refine WL.nil ?_
    refine WQ.next ?_
    refine WC.condF rfl (congrArg Value.bool (by first | (simp; done) | (simp; omega) | omega)) ?_
    refine WC.skip ?_
    refine WQ.next ?_
    refine WC.seq ?_
    refine WC.region ?_
    refine WL.move ?_
    refine WL.nilCheck ?_
    refine WL.fa ?_ fo59_0
    refine WL.fa ?_ fo25_5
    refine WL.ld ?_ sc3
    refine WL.move ?_
    refine WL.add ?_
    refine WL.cast (d := 18) (u := .int .i64 ((p.da + k : Nat) : Int)) rfl (congrArg (Value.int .i64) (by omega)) ?_
    refine WL.assign ?_
    refine WL.assign ?_
    refine WL.nil ?_
    refine WQ.next ?_
    refine WC.ret (?_)
    exact WQ.ret2 (h1 := .tmp (t := 2) rfl) (h2 := .tmp (t := 3) rfl) ⟨_, .inl ⟨k, hk, hk0, hkb, rfl, rfl⟩, Am.auto⟩
  · refine WL.assign ?_
    refine WL.nil ?_
    refine WQ.next ?_
    refine WC.seq ?_
    refine WC.seq ?_
    refine WC.region ?_
    refine WL.move ?_
    refine WL.lss ?_
    refine WL.nil ?_
    refine WQ.next ?_
    refine WC.condT rfl rfl ?_
    refine WC.seq ?_
    refine WC.region ?_
    refine WL.assign ?_
    refine WL.assign ?_
    refine WL.nil ?_
    refine WQ.next ?_
    refine WC.ret (WQ.thenRet (?_))
    exact WQ.ret2 (h1 := .tmp (t := 2) rfl) (h2 := .tmp (t := 3) rfl) ⟨_, .inr ⟨hall, rfl, rfl⟩, Am.auto⟩

theorem rTakeInode0 {m : Nat} {p : Pl} {bk ik : Nat → Bool} {x : MX} (h : PlIs p) (hx : MXok p x) : Spec Tryz.prog 14 #[.pointer (some ⟨m, 0, none⟩)] [pt m (mapsO p x), buf x.g1 4 x.c1 (boolsV bk p.dc), buf x.g2 4 x.c2 (boolsV ik p.ino)] fun F v M =>
   (∃ k, k < p.ino ∧ ik k = false ∧ (∀ i < k, ik i = true) ∧ v = .tuple #[.int .i64 (k : Int), .int .i64 0] ∧ M = [pt m (mapsO p x), buf x.g1 4 x.c1 (boolsV bk p.dc), buf x.g2 4 x.c2 (boolsV (setF ik k true) p.ino)] ++ F) ∨ ((∀ i < p.ino, ik i = true) ∧ v = .tuple #[.int .i64 0, .int .i64 3] ∧ M = [pt m (mapsO p x), buf x.g1 4 x.c1 (boolsV bk p.dc), buf x.g2 4 x.c2 (boolsV ik p.ino)] ++ F) := by
  refine Spec.intro Tryz.func14 rfl rfl fun B F => ?_
  simp only [Tryz.ntmps14, List.cons_append, List.nil_append, env0, Nat.reduceAdd]
  have hi2 := h.i2
  refine WC.seq ?_
  refine WC.region ?_
  refine WL.assign ?_
  refine WL.assign ?_
  refine WL.nil ?_
  refine WQ.next ?_
  refine WC.seq ?_
  refine WC.region ?_
  refine WL.move ?_
  refine WL.nilCheck ?_
  refine WL.fa ?_ fo59_2
  refine WL.ld ?_ sc57
  refine WL.call (hc := Tryz.call31) (sp := rTake (f := ik) (n := p.ino) (cc := x.c2) (b := x.g2) (by omega)) (h := ?_)
  rintro _ _ (⟨k, hk, hk0, hkb, rfl, rfl⟩ | ⟨hall, rfl, rfl⟩)
  · refine WL.assign ?_
    refine WL.nil ?_
    refine WQ.next ?_
    refine WC.seq ?_
    refine WC.seq ?_
    refine WC.region ?_
    refine WL.move ?_
    refine WL.lss ?_
    refine WL.nil ?_
    refine WQ.next ?_
    refine WC.condF rfl (congrArg Value.bool (by first | (simp; done) | (simp; omega) | omega)) ?_
    refine WC.skip ?_
    refine WQ.next ?_
    refine WC.seq ?_
    refine WC.region ?_
    refine WL.move ?_
    refine WL.assign ?_
    refine WL.assign ?_
    refine WL.nil ?_
    refine WQ.next ?_
    refine WC.ret (?_)
    exact WQ.ret2 (h1 := .tmp (t := 2) rfl) (h2 := .tmp (t := 3) rfl) ⟨_, .inl ⟨k, hk, hk0, hkb, rfl, rfl⟩, Am.auto⟩
  · refine WL.assign ?_
    refine WL.nil ?_
    refine WQ.next ?_
    refine WC.seq ?_
    refine WC.seq ?_
    refine WC.region ?_
    refine WL.move ?_
    refine WL.lss ?_
    refine WL.nil ?_
    refine WQ.next ?_
    refine WC.condT rfl rfl ?_
    refine WC.seq ?_
    refine WC.region ?_
    refine WL.assign ?_
    refine WL.assign ?_
    refine WL.nil ?_
    refine WQ.next ?_
    refine WC.ret (WQ.thenRet (?_))
    exact WQ.ret2 (h1 := .tmp (t := 2) rfl) (h2 := .tmp (t := 3) rfl) ⟨_, .inr ⟨hall, rfl, rfl⟩, Am.auto⟩

theorem rFree0 {m : Nat} {p : Pl} {bk ik : Nat → Bool} {x : MX} (h : PlIs p) (hx : MXok p x) : Spec Tryz.prog 21 #[.pointer (some ⟨m, 0, none⟩)] [pt m (mapsO p x), buf x.g1 4 x.c1 (boolsV bk p.dc), buf x.g2 4 x.c2 (boolsV ik p.ino)] fun F v M => v = .tuple #[.int .i64 ((p.dc : Int) - cntB bk p.dc), .int .i64 ((p.ino : Int) - cntB ik p.ino)] ∧ M = [pt m (mapsO p x), buf x.g1 4 x.c1 (boolsV bk p.dc), buf x.g2 4 x.c2 (boolsV ik p.ino)] ++ F := by
  refine Spec.intro Tryz.func21 rfl rfl fun B F => ?_
  simp only [Tryz.ntmps21, List.cons_append, List.nil_append, env0, Nat.reduceAdd]
  have hn2 := h.n2
  have hdc := h.dc
  have hi2 := h.i2
  refine WC.seq ?_
  refine WC.region ?_
  refine WL.assign ?_
  refine WL.assign ?_
  refine WL.nil ?_
  refine WQ.next ?_
  refine WC.seq ?_
  refine WC.draw ([pt m (mapsO p x)]) [] 12 #[false, false, false, false, false, false, false, false, false, false, false, false] mixed (by kernel_rfl) NoPanic.autoJ ?_
  refine WD.take (i := 0) #[true, false, false, false, false, false, false, false, false, false, false, false] rfl (by kernel_rfl) (Qt.move ) ?_
  refine WD.take (i := 1) #[true, true, false, false, false, false, false, false, false, false, false, false] rfl (by kernel_rfl) (Qt.nilCheck ) ?_
  refine WD.take (i := 2) #[true, true, true, false, false, false, false, false, false, false, false, false] rfl (by kernel_rfl) (Qt.fa fo59_1) ?_
  refine WD.take (i := 3) #[true, true, true, true, false, false, false, false, false, false, false, false] rfl (by kernel_rfl) (Qt.ld sc57) ?_
  refine WD.take (i := 5) #[true, true, true, true, false, true, false, false, false, false, false, false] rfl (by kernel_rfl) (Qt.move ) ?_
  refine WD.take (i := 6) #[true, true, true, true, false, true, true, false, false, false, false, false] rfl (by kernel_rfl) (Qt.nilCheck ) ?_
  refine WD.take (i := 7) #[true, true, true, true, false, true, true, true, false, false, false, false] rfl (by kernel_rfl) (Qt.fa fo59_2) ?_
  refine WD.take (i := 8) #[true, true, true, true, false, true, true, true, true, false, false, false] rfl (by kernel_rfl) (Qt.ld sc57) ?_
  refine WD.one (i := 4) #[true, true, true, true, true, true, true, true, true, false, false, false] rfl (by kernel_rfl) fun hnp => ?_
  refine WL.call (hc := Tryz.call41) (sp := rFree (f := bk) (n := p.dc) (cc := x.c1) (b := x.g1) (by omega)) (h := ?_)
  rintro _ _ ⟨rfl, rfl⟩
  refine WL.nil (WQ.wd hnp (.inl Am.auto) ?_)
  refine WD.one (i := 9) #[true, true, true, true, true, true, true, true, true, true, false, false] rfl (by kernel_rfl) fun hnp => ?_
  refine WL.call (hc := Tryz.call41) (sp := rFree (f := ik) (n := p.ino) (cc := x.c2) (b := x.g2) (by omega)) (h := ?_)
  rintro _ _ ⟨rfl, rfl⟩
  refine WL.nil (WQ.wd hnp (.inl Am.auto) ?_)
  refine WD.take (i := 10) #[true, true, true, true, true, true, true, true, true, true, true, false] rfl (by kernel_rfl) (Qt.assign ) ?_
  refine WD.take (i := 11) #[true, true, true, true, true, true, true, true, true, true, true, true] rfl (by kernel_rfl) (Qt.assign ) ?_
  refine WD.done (by kernel_rfl) ?_
  refine WQ.next ?_
  refine WC.ret (?_)
  exact WQ.ret2 (h1 := .tmp (t := 2) rfl) (h2 := .tmp (t := 3) rfl) ⟨_, ⟨rfl, rfl⟩, Am.auto⟩

theorem rGiveBlock0 {m : Nat} {p : Pl} {bk ik : Nat → Bool} {x : MX} (h : PlIs p) (hx : MXok p x) {j : Nat} (hj : j < p.dc) (hb : bk j = true) : Spec Tryz.prog 12 #[.pointer (some ⟨m, 0, none⟩), .int .i64 ((p.da + j : Nat) : Int)] [pt m (mapsO p x), buf x.g1 4 x.c1 (boolsV bk p.dc), buf x.g2 4 x.c2 (boolsV ik p.ino)] fun F v M => v = .int .i64 0 ∧ M = [pt m (mapsO p x), buf x.g1 4 x.c1 (boolsV (setF bk j false) p.dc), buf x.g2 4 x.c2 (boolsV ik p.ino)] ++ F := by
  refine Spec.intro Tryz.func12 rfl rfl fun B F => ?_
  simp only [Tryz.ntmps12, List.cons_append, List.nil_append, env0, Nat.reduceAdd]
  have hn2 := h.n2
  have hdc := h.dc
  refine WC.seq ?_
  refine WC.region ?_
  refine WL.assign ?_
  refine WL.nil ?_
  refine WQ.next ?_
  refine WC.seq ?_
  refine WC.seq ?_
  refine WC.draw ([pt m (mapsO p x), buf x.g1 4 x.c1 (boolsV bk p.dc)]) [] 38 #[false, false, false, false, false, false, false, false, false, false, false, false, false, false, false, false, false, false, false, false, false, false, false, false, false, false, false, false, false, false, false, false, false, false, false, false, false, false] mixed (by kernel_rfl) NoPanic.autoJ ?_
  refine WD.take (i := 0) #[true, false, false, false, false, false, false, false, false, false, false, false, false, false, false, false, false, false, false, false, false, false, false, false, false, false, false, false, false, false, false, false, false, false, false, false, false, false] rfl (by kernel_rfl) (Qt.move ) ?_
  refine WD.take (i := 1) #[true, true, false, false, false, false, false, false, false, false, false, false, false, false, false, false, false, false, false, false, false, false, false, false, false, false, false, false, false, false, false, false, false, false, false, false, false, false] rfl (by kernel_rfl) (Qt.move ) ?_
  refine WD.take (i := 2) #[true, true, true, false, false, false, false, false, false, false, false, false, false, false, false, false, false, false, false, false, false, false, false, false, false, false, false, false, false, false, false, false, false, false, false, false, false, false] rfl (by kernel_rfl) (Qt.nilCheck ) ?_
  refine WD.take (i := 3) #[true, true, true, true, false, false, false, false, false, false, false, false, false, false, false, false, false, false, false, false, false, false, false, false, false, false, false, false, false, false, false, false, false, false, false, false, false, false] rfl (by kernel_rfl) (Qt.fa fo59_0) ?_
  refine WD.take (i := 4) #[true, true, true, true, true, false, false, false, false, false, false, false, false, false, false, false, false, false, false, false, false, false, false, false, false, false, false, false, false, false, false, false, false, false, false, false, false, false] rfl (by kernel_rfl) (Qt.fa fo25_5) ?_
  refine WD.take (i := 5) #[true, true, true, true, true, true, false, false, false, false, false, false, false, false, false, false, false, false, false, false, false, false, false, false, false, false, false, false, false, false, false, false, false, false, false, false, false, false] rfl (by kernel_rfl) (Qt.ld sc3) ?_
  refine WD.take (i := 6) #[true, true, true, true, true, true, true, false, false, false, false, false, false, false, false, false, false, false, false, false, false, false, false, false, false, false, false, false, false, false, false, false, false, false, false, false, false, false] rfl (by kernel_rfl) ((Qt.lss).eq (v' := .bool false) (congrArg Value.bool (decide_eq_false (by omega)))) ?_
  refine WD.take (i := 7) #[true, true, true, true, true, true, true, true, false, false, false, false, false, false, false, false, false, false, false, false, false, false, false, false, false, false, false, false, false, false, false, false, false, false, false, false, false, false] rfl (by kernel_rfl) (Qt.move ) ?_
  refine WD.takeOn (i := 8) #[true, true, true, true, true, true, true, true, true, false, false, false, false, false, false, false, false, false, false, false, false, false, false, false, false, false, false, false, false, false, false, false, false, false, false, false, false, false] rfl (by kernel_rfl) (Qt.move ) ?_
  refine WD.takeOn (i := 9) #[true, true, true, true, true, true, true, true, true, true, false, false, false, false, false, false, false, false, false, false, false, false, false, false, false, false, false, false, false, false, false, false, false, false, false, false, false, false] rfl (by kernel_rfl) (Qt.move ) ?_
  refine WD.takeOn (i := 10) #[true, true, true, true, true, true, true, true, true, true, true, false, false, false, false, false, false, false, false, false, false, false, false, false, false, false, false, false, false, false, false, false, false, false, false, false, false, false] rfl (by kernel_rfl) (Qt.nilCheck ) ?_
  refine WD.takeOn (i := 11) #[true, true, true, true, true, true, true, true, true, true, true, true, false, false, false, false, false, false, false, false, false, false, false, false, false, false, false, false, false, false, false, false, false, false, false, false, false, false] rfl (by kernel_rfl) (Qt.fa fo59_0) ?_
  refine WD.takeOn (i := 12) #[true, true, true, true, true, true, true, true, true, true, true, true, true, false, false, false, false, false, false, false, false, false, false, false, false, false, false, false, false, false, false, false, false, false, false, false, false, false] rfl (by kernel_rfl) (Qt.fa fo25_5) ?_
  refine WD.takeOn (i := 13) #[true, true, true, true, true, true, true, true, true, true, true, true, true, true, false, false, false, false, false, false, false, false, false, false, false, false, false, false, false, false, false, false, false, false, false, false, false, false] rfl (by kernel_rfl) (Qt.ld sc3) ?_
  refine WD.takeOn (i := 14) #[true, true, true, true, true, true, true, true, true, true, true, true, true, true, true, false, false, false, false, false, false, false, false, false, false, false, false, false, false, false, false, false, false, false, false, false, false, false] rfl (by kernel_rfl) (Qt.move ) ?_
  refine WD.takeOn (i := 15) #[true, true, true, true, true, true, true, true, true, true, true, true, true, true, true, true, false, false, false, false, false, false, false, false, false, false, false, false, false, false, false, false, false, false, false, false, false, false] rfl (by kernel_rfl) (Qt.nilCheck ) ?_
  refine WD.takeOn (i := 16) #[true, true, true, true, true, true, true, true, true, true, true, true, true, true, true, true, true, false, false, false, false, false, false, false, false, false, false, false, false, false, false, false, false, false, false, false, false, false] rfl (by kernel_rfl) (Qt.fa fo59_1) ?_
  refine WD.takeOn (i := 17) #[true, true, true, true, true, true, true, true, true, true, true, true, true, true, true, true, true, true, false, false, false, false, false, false, false, false, false, false, false, false, false, false, false, false, false, false, false, false] rfl (by kernel_rfl) (Qt.ld sc57) ?_
  refine WD.takeOn (i := 18) #[true, true, true, true, true, true, true, true, true, true, true, true, true, true, true, true, true, true, true, false, false, false, false, false, false, false, false, false, false, false, false, false, false, false, false, false, false, false] rfl (by kernel_rfl) (Qt.lenS sl57) ?_
  refine WD.takeOn (i := 19) #[true, true, true, true, true, true, true, true, true, true, true, true, true, true, true, true, true, true, true, true, false, false, false, false, false, false, false, false, false, false, false, false, false, false, false, false, false, false] rfl (by kernel_rfl) (Qt.add ) ?_
  refine WD.takeOn (i := 20) #[true, true, true, true, true, true, true, true, true, true, true, true, true, true, true, true, true, true, true, true, true, false, false, false, false, false, false, false, false, false, false, false, false, false, false, false, false, false] rfl (by kernel_rfl) ((Qt.geq).eq (v' := .bool false) (congrArg Value.bool (decide_eq_false (by omega)))) ?_
  refine WD.take (i := 21) #[true, true, true, true, true, true, true, true, true, true, true, true, true, true, true, true, true, true, true, true, true, true, false, false, false, false, false, false, false, false, false, false, false, false, false, false, false, false] rfl (by kernel_rfl) (Qt.pickF ) ?_
  refine WD.take (i := 22) #[true, true, true, true, true, true, true, true, true, true, true, true, true, true, true, true, true, true, true, true, true, true, true, false, false, false, false, false, false, false, false, false, false, false, false, false, false, false] rfl (by kernel_rfl) (Qt.move ) ?_
  refine WD.takeOn (i := 23) #[true, true, true, true, true, true, true, true, true, true, true, true, true, true, true, true, true, true, true, true, true, true, true, true, false, false, false, false, false, false, false, false, false, false, false, false, false, false] rfl (by kernel_rfl) (Qt.move ) ?_
  refine WD.takeOn (i := 24) #[true, true, true, true, true, true, true, true, true, true, true, true, true, true, true, true, true, true, true, true, true, true, true, true, true, false, false, false, false, false, false, false, false, false, false, false, false, false] rfl (by kernel_rfl) (Qt.nilCheck ) ?_
  refine WD.takeOn (i := 25) #[true, true, true, true, true, true, true, true, true, true, true, true, true, true, true, true, true, true, true, true, true, true, true, true, true, true, false, false, false, false, false, false, false, false, false, false, false, false] rfl (by kernel_rfl) (Qt.fa fo59_1) ?_
  refine WD.takeOn (i := 26) #[true, true, true, true, true, true, true, true, true, true, true, true, true, true, true, true, true, true, true, true, true, true, true, true, true, true, true, false, false, false, false, false, false, false, false, false, false, false] rfl (by kernel_rfl) (Qt.ld sc57) ?_
  refine WD.takeOn (i := 27) #[true, true, true, true, true, true, true, true, true, true, true, true, true, true, true, true, true, true, true, true, true, true, true, true, true, true, true, true, false, false, false, false, false, false, false, false, false, false] rfl (by kernel_rfl) (Qt.move ) ?_
  refine WD.takeOn (i := 28) #[true, true, true, true, true, true, true, true, true, true, true, true, true, true, true, true, true, true, true, true, true, true, true, true, true, true, true, true, true, false, false, false, false, false, false, false, false, false] rfl (by kernel_rfl) (Qt.move ) ?_
  refine WD.takeOn (i := 29) #[true, true, true, true, true, true, true, true, true, true, true, true, true, true, true, true, true, true, true, true, true, true, true, true, true, true, true, true, true, true, false, false, false, false, false, false, false, false] rfl (by kernel_rfl) (Qt.nilCheck ) ?_
  refine WD.takeOn (i := 30) #[true, true, true, true, true, true, true, true, true, true, true, true, true, true, true, true, true, true, true, true, true, true, true, true, true, true, true, true, true, true, true, false, false, false, false, false, false, false] rfl (by kernel_rfl) (Qt.fa fo59_0) ?_
  refine WD.takeOn (i := 31) #[true, true, true, true, true, true, true, true, true, true, true, true, true, true, true, true, true, true, true, true, true, true, true, true, true, true, true, true, true, true, true, true, false, false, false, false, false, false] rfl (by kernel_rfl) (Qt.fa fo25_5) ?_
  refine WD.takeOn (i := 32) #[true, true, true, true, true, true, true, true, true, true, true, true, true, true, true, true, true, true, true, true, true, true, true, true, true, true, true, true, true, true, true, true, true, false, false, false, false, false] rfl (by kernel_rfl) (Qt.ld sc3) ?_
  refine WD.takeOn (i := 33) #[true, true, true, true, true, true, true, true, true, true, true, true, true, true, true, true, true, true, true, true, true, true, true, true, true, true, true, true, true, true, true, true, true, true, false, false, false, false] rfl (by kernel_rfl) ((Qt.sub).eq (v' := .int .i64 (j : Int)) (congrArg (Value.int .i64) (by omega))) ?_
  refine WD.takeOn (i := 34) #[true, true, true, true, true, true, true, true, true, true, true, true, true, true, true, true, true, true, true, true, true, true, true, true, true, true, true, true, true, true, true, true, true, true, true, false, false, false] rfl (by kernel_rfl) (Qt.idx1 so57) ?_
  refine WD.takeOn (i := 35) #[true, true, true, true, true, true, true, true, true, true, true, true, true, true, true, true, true, true, true, true, true, true, true, true, true, true, true, true, true, true, true, true, true, true, true, true, false, false] rfl (by kernel_rfl) (Qt.ldR (R := buf x.g1 4 x.c1 (boolsV bk p.dc)) (xs := boolsV bk p.dc) (i := ((j : Nat) : Int).toNat) (v := .bool true) sc4 Reads.buf (by rw [Int.toNat_natCast, boolsV_get bk hj, hb])) ?_
  refine WD.takeOn (i := 36) #[true, true, true, true, true, true, true, true, true, true, true, true, true, true, true, true, true, true, true, true, true, true, true, true, true, true, true, true, true, true, true, true, true, true, true, true, true, false] rfl (by kernel_rfl) (Qt.not ) ?_
  refine WD.take (i := 37) #[true, true, true, true, true, true, true, true, true, true, true, true, true, true, true, true, true, true, true, true, true, true, true, true, true, true, true, true, true, true, true, true, true, true, true, true, true, true] rfl (by kernel_rfl) (Qt.pickF ) ?_
  refine WD.done (by kernel_rfl) ?_
  refine WQ.next ?_
  refine WC.condF rfl rfl ?_
  refine WC.skip ?_
  refine WQ.next ?_
  refine WC.seq ?_
  refine WC.draw ([pt m (mapsO p x)]) [12] 13 #[false, false, false, false, false, false, false, false, false, false, false, false, false] mixed (by kernel_rfl) NoPanic.autoJ ?_
  refine WD.take (i := 0) #[true, false, false, false, false, false, false, false, false, false, false, false, false] rfl (by kernel_rfl) (Qt.move ) ?_
  refine WD.take (i := 1) #[true, true, false, false, false, false, false, false, false, false, false, false, false] rfl (by kernel_rfl) (Qt.nilCheck ) ?_
  refine WD.take (i := 2) #[true, true, true, false, false, false, false, false, false, false, false, false, false] rfl (by kernel_rfl) (Qt.fa fo59_1) ?_
  refine WD.take (i := 3) #[true, true, true, true, false, false, false, false, false, false, false, false, false] rfl (by kernel_rfl) (Qt.ld sc57) ?_
  refine WD.take (i := 4) #[true, true, true, true, true, false, false, false, false, false, false, false, false] rfl (by kernel_rfl) (Qt.move ) ?_
  refine WD.take (i := 5) #[true, true, true, true, true, true, false, false, false, false, false, false, false] rfl (by kernel_rfl) (Qt.move ) ?_
  refine WD.take (i := 6) #[true, true, true, true, true, true, true, false, false, false, false, false, false] rfl (by kernel_rfl) (Qt.nilCheck ) ?_
  refine WD.take (i := 7) #[true, true, true, true, true, true, true, true, false, false, false, false, false] rfl (by kernel_rfl) (Qt.fa fo59_0) ?_
  refine WD.take (i := 8) #[true, true, true, true, true, true, true, true, true, false, false, false, false] rfl (by kernel_rfl) (Qt.fa fo25_5) ?_
  refine WD.take (i := 9) #[true, true, true, true, true, true, true, true, true, true, false, false, false] rfl (by kernel_rfl) (Qt.ld sc3) ?_
  refine WD.take (i := 10) #[true, true, true, true, true, true, true, true, true, true, true, false, false] rfl (by kernel_rfl) ((Qt.sub).eq (v' := .int .i64 (j : Int)) (congrArg (Value.int .i64) (by omega))) ?_
  refine WD.take (i := 11) #[true, true, true, true, true, true, true, true, true, true, true, true, false] rfl (by kernel_rfl) (Qt.idx1 so57) ?_
  refine WD.one (i := 12) #[true, true, true, true, true, true, true, true, true, true, true, true, true] rfl (by kernel_rfl) fun hnp => ?_
  refine WL.stB ?_ sc4 (show 0 + ((j : Nat) : Int).toNat < (boolsV bk p.dc).length by rw [boolsV_length]; omega)
  refine WL.nil (WQ.wd hnp (.inr rfl) ?_)
  refine WD.done (by kernel_rfl) ?_
  refine WQ.next ?_
  refine WC.seq ?_
  refine WC.region ?_
  refine WL.assign ?_
  refine WL.nil ?_
  refine WQ.next ?_
  refine WC.ret (?_)
  refine WQ.to (A := buf x.g1 4 x.c1 ((boolsV bk p.dc).set (0 + ((j : Nat) : Int).toNat) (.bool false))) (A' := buf x.g1 4 x.c1 (boolsV (setF bk j false) p.dc)) (fun h hh => by rw [← boolsV_set]; rw [Int.toNat_natCast, Nat.zero_add] at hh; exact hh) ?_
  exact WQ.ret1 (h1 := .tmp (t := 4) rfl) ⟨_, ⟨rfl, rfl⟩, Am.auto⟩

theorem rGiveBlockNo0 {m : Nat} {p : Pl} {bk ik : Nat → Bool} {x : MX} (h : PlIs p) (hx : MXok p x) {k : Int} (hk : k < p.da ∨ (p.n : Int) ≤ k ∨ (p.da ≤ k ∧ k < p.n ∧ bk (k - p.da).toNat = false)) (hkb : -9223372036854775808 ≤ k ∧ k ≤ 9223372036854775807) : Spec Tryz.prog 12 #[.pointer (some ⟨m, 0, none⟩), .int .i64 k] [pt m (mapsO p x), buf x.g1 4 x.c1 (boolsV bk p.dc), buf x.g2 4 x.c2 (boolsV ik p.ino)] fun F v M => v = .int .i64 1 ∧ M = [pt m (mapsO p x), buf x.g1 4 x.c1 (boolsV bk p.dc), buf x.g2 4 x.c2 (boolsV ik p.ino)] ++ F := by
  refine Spec.intro Tryz.func12 rfl rfl fun B F => ?_
  simp only [Tryz.ntmps12, List.cons_append, List.nil_append, env0, Nat.reduceAdd]
  have hn2 := h.n2
  have hdc := h.dc
  rcases (show k < p.da ∨ (¬ k < p.da ∧ (p.n : Int) ≤ k) ∨ (¬ k < p.da ∧ ¬ (p.n : Int) ≤ k) from by omega) with hc | hc | hc
  · refine WC.seq ?_
    refine WC.region ?_
    refine WL.assign ?_
    refine WL.nil ?_
    refine WQ.next ?_
    refine WC.seq ?_
    refine WC.seq ?_
    refine WC.draw ([pt m (mapsO p x), buf x.g1 4 x.c1 (boolsV bk p.dc)]) [] 38 #[false, false, false, false, false, false, false, false, false, false, false, false, false, false, false, false, false, false, false, false, false, false, false, false, false, false, false, false, false, false, false, false, false, false, false, false, false, false] mixed (by kernel_rfl) NoPanic.autoJ ?_
    refine WD.take (i := 0) #[true, false, false, false, false, false, false, false, false, false, false, false, false, false, false, false, false, false, false, false, false, false, false, false, false, false, false, false, false, false, false, false, false, false, false, false, false, false] rfl (by kernel_rfl) (Qt.move ) ?_
    refine WD.take (i := 1) #[true, true, false, false, false, false, false, false, false, false, false, false, false, false, false, false, false, false, false, false, false, false, false, false, false, false, false, false, false, false, false, false, false, false, false, false, false, false] rfl (by kernel_rfl) (Qt.move ) ?_
    refine WD.take (i := 2) #[true, true, true, false, false, false, false, false, false, false, false, false, false, false, false, false, false, false, false, false, false, false, false, false, false, false, false, false, false, false, false, false, false, false, false, false, false, false] rfl (by kernel_rfl) (Qt.nilCheck ) ?_
    refine WD.take (i := 3) #[true, true, true, true, false, false, false, false, false, false, false, false, false, false, false, false, false, false, false, false, false, false, false, false, false, false, false, false, false, false, false, false, false, false, false, false, false, false] rfl (by kernel_rfl) (Qt.fa fo59_0) ?_
    refine WD.take (i := 4) #[true, true, true, true, true, false, false, false, false, false, false, false, false, false, false, false, false, false, false, false, false, false, false, false, false, false, false, false, false, false, false, false, false, false, false, false, false, false] rfl (by kernel_rfl) (Qt.fa fo25_5) ?_
    refine WD.take (i := 5) #[true, true, true, true, true, true, false, false, false, false, false, false, false, false, false, false, false, false, false, false, false, false, false, false, false, false, false, false, false, false, false, false, false, false, false, false, false, false] rfl (by kernel_rfl) (Qt.ld sc3) ?_
    refine WD.take (i := 6) #[true, true, true, true, true, true, true, false, false, false, false, false, false, false, false, false, false, false, false, false, false, false, false, false, false, false, false, false, false, false, false, false, false, false, false, false, false, false] rfl (by kernel_rfl) ((Qt.lss).eq (v' := .bool true) (congrArg Value.bool (decide_eq_true (by omega)))) ?_
    refine WD.take (i := 7) #[true, true, true, true, true, true, true, true, false, false, false, false, false, false, false, false, false, false, false, false, false, false, false, false, false, false, false, false, false, false, false, false, false, false, false, false, false, false] rfl (by kernel_rfl) (Qt.move ) ?_
    refine WD.takeOff (i := 8) #[true, true, true, true, true, true, true, true, true, false, false, false, false, false, false, false, false, false, false, false, false, false, false, false, false, false, false, false, false, false, false, false, false, false, false, false, false, false] rfl (by kernel_rfl) ?_
    refine WD.takeOff (i := 9) #[true, true, true, true, true, true, true, true, true, true, false, false, false, false, false, false, false, false, false, false, false, false, false, false, false, false, false, false, false, false, false, false, false, false, false, false, false, false] rfl (by kernel_rfl) ?_
    refine WD.takeOff (i := 10) #[true, true, true, true, true, true, true, true, true, true, true, false, false, false, false, false, false, false, false, false, false, false, false, false, false, false, false, false, false, false, false, false, false, false, false, false, false, false] rfl (by kernel_rfl) ?_
    refine WD.takeOff (i := 11) #[true, true, true, true, true, true, true, true, true, true, true, true, false, false, false, false, false, false, false, false, false, false, false, false, false, false, false, false, false, false, false, false, false, false, false, false, false, false] rfl (by kernel_rfl) ?_
    refine WD.takeOff (i := 12) #[true, true, true, true, true, true, true, true, true, true, true, true, true, false, false, false, false, false, false, false, false, false, false, false, false, false, false, false, false, false, false, false, false, false, false, false, false, false] rfl (by kernel_rfl) ?_
    refine WD.takeOff (i := 13) #[true, true, true, true, true, true, true, true, true, true, true, true, true, true, false, false, false, false, false, false, false, false, false, false, false, false, false, false, false, false, false, false, false, false, false, false, false, false] rfl (by kernel_rfl) ?_
    refine WD.takeOff (i := 14) #[true, true, true, true, true, true, true, true, true, true, true, true, true, true, true, false, false, false, false, false, false, false, false, false, false, false, false, false, false, false, false, false, false, false, false, false, false, false] rfl (by kernel_rfl) ?_
    refine WD.takeOff (i := 15) #[true, true, true, true, true, true, true, true, true, true, true, true, true, true, true, true, false, false, false, false, false, false, false, false, false, false, false, false, false, false, false, false, false, false, false, false, false, false] rfl (by kernel_rfl) ?_
    refine WD.takeOff (i := 16) #[true, true, true, true, true, true, true, true, true, true, true, true, true, true, true, true, true, false, false, false, false, false, false, false, false, false, false, false, false, false, false, false, false, false, false, false, false, false] rfl (by kernel_rfl) ?_
    refine WD.takeOff (i := 17) #[true, true, true, true, true, true, true, true, true, true, true, true, true, true, true, true, true, true, false, false, false, false, false, false, false, false, false, false, false, false, false, false, false, false, false, false, false, false] rfl (by kernel_rfl) ?_
    refine WD.takeOff (i := 18) #[true, true, true, true, true, true, true, true, true, true, true, true, true, true, true, true, true, true, true, false, false, false, false, false, false, false, false, false, false, false, false, false, false, false, false, false, false, false] rfl (by kernel_rfl) ?_
    refine WD.takeOff (i := 19) #[true, true, true, true, true, true, true, true, true, true, true, true, true, true, true, true, true, true, true, true, false, false, false, false, false, false, false, false, false, false, false, false, false, false, false, false, false, false] rfl (by kernel_rfl) ?_
    refine WD.takeOff (i := 20) #[true, true, true, true, true, true, true, true, true, true, true, true, true, true, true, true, true, true, true, true, true, false, false, false, false, false, false, false, false, false, false, false, false, false, false, false, false, false] rfl (by kernel_rfl) ?_
    refine WD.take (i := 21) #[true, true, true, true, true, true, true, true, true, true, true, true, true, true, true, true, true, true, true, true, true, true, false, false, false, false, false, false, false, false, false, false, false, false, false, false, false, false] rfl (by kernel_rfl) (Qt.pickT ) ?_
    refine WD.take (i := 22) #[true, true, true, true, true, true, true, true, true, true, true, true, true, true, true, true, true, true, true, true, true, true, true, false, false, false, false, false, false, false, false, false, false, false, false, false, false, false] rfl (by kernel_rfl) (Qt.move ) ?_
    refine WD.takeOff (i := 23) #[true, true, true, true, true, true, true, true, true, true, true, true, true, true, true, true, true, true, true, true, true, true, true, true, false, false, false, false, false, false, false, false, false, false, false, false, false, false] rfl (by kernel_rfl) ?_
    refine WD.takeOff (i := 24) #[true, true, true, true, true, true, true, true, true, true, true, true, true, true, true, true, true, true, true, true, true, true, true, true, true, false, false, false, false, false, false, false, false, false, false, false, false, false] rfl (by kernel_rfl) ?_
    refine WD.takeOff (i := 25) #[true, true, true, true, true, true, true, true, true, true, true, true, true, true, true, true, true, true, true, true, true, true, true, true, true, true, false, false, false, false, false, false, false, false, false, false, false, false] rfl (by kernel_rfl) ?_
    refine WD.takeOff (i := 26) #[true, true, true, true, true, true, true, true, true, true, true, true, true, true, true, true, true, true, true, true, true, true, true, true, true, true, true, false, false, false, false, false, false, false, false, false, false, false] rfl (by kernel_rfl) ?_
    refine WD.takeOff (i := 27) #[true, true, true, true, true, true, true, true, true, true, true, true, true, true, true, true, true, true, true, true, true, true, true, true, true, true, true, true, false, false, false, false, false, false, false, false, false, false] rfl (by kernel_rfl) ?_
    refine WD.takeOff (i := 28) #[true, true, true, true, true, true, true, true, true, true, true, true, true, true, true, true, true, true, true, true, true, true, true, true, true, true, true, true, true, false, false, false, false, false, false, false, false, false] rfl (by kernel_rfl) ?_
    refine WD.takeOff (i := 29) #[true, true, true, true, true, true, true, true, true, true, true, true, true, true, true, true, true, true, true, true, true, true, true, true, true, true, true, true, true, true, false, false, false, false, false, false, false, false] rfl (by kernel_rfl) ?_
    refine WD.takeOff (i := 30) #[true, true, true, true, true, true, true, true, true, true, true, true, true, true, true, true, true, true, true, true, true, true, true, true, true, true, true, true, true, true, true, false, false, false, false, false, false, false] rfl (by kernel_rfl) ?_
    refine WD.takeOff (i := 31) #[true, true, true, true, true, true, true, true, true, true, true, true, true, true, true, true, true, true, true, true, true, true, true, true, true, true, true, true, true, true, true, true, false, false, false, false, false, false] rfl (by kernel_rfl) ?_
    refine WD.takeOff (i := 32) #[true, true, true, true, true, true, true, true, true, true, true, true, true, true, true, true, true, true, true, true, true, true, true, true, true, true, true, true, true, true, true, true, true, false, false, false, false, false] rfl (by kernel_rfl) ?_
    refine WD.takeOff (i := 33) #[true, true, true, true, true, true, true, true, true, true, true, true, true, true, true, true, true, true, true, true, true, true, true, true, true, true, true, true, true, true, true, true, true, true, false, false, false, false] rfl (by kernel_rfl) ?_
    refine WD.takeOff (i := 34) #[true, true, true, true, true, true, true, true, true, true, true, true, true, true, true, true, true, true, true, true, true, true, true, true, true, true, true, true, true, true, true, true, true, true, true, false, false, false] rfl (by kernel_rfl) ?_
    refine WD.takeOff (i := 35) #[true, true, true, true, true, true, true, true, true, true, true, true, true, true, true, true, true, true, true, true, true, true, true, true, true, true, true, true, true, true, true, true, true, true, true, true, false, false] rfl (by kernel_rfl) ?_
    refine WD.takeOff (i := 36) #[true, true, true, true, true, true, true, true, true, true, true, true, true, true, true, true, true, true, true, true, true, true, true, true, true, true, true, true, true, true, true, true, true, true, true, true, true, false] rfl (by kernel_rfl) ?_
    refine WD.take (i := 37) #[true, true, true, true, true, true, true, true, true, true, true, true, true, true, true, true, true, true, true, true, true, true, true, true, true, true, true, true, true, true, true, true, true, true, true, true, true, true] rfl (by kernel_rfl) (Qt.pickT ) ?_
    refine WD.done (by kernel_rfl) ?_
    refine WQ.next ?_
    refine WC.condT rfl rfl ?_
    refine WC.seq ?_
    refine WC.region ?_
    refine WL.assign ?_
    refine WL.nil ?_
    refine WQ.next ?_
    refine WC.ret (WQ.thenRet (?_))
    exact WQ.ret1 (h1 := .tmp (t := 4) rfl) ⟨_, ⟨rfl, rfl⟩, Am.auto⟩
  · refine WC.seq ?_
    refine WC.region ?_
    refine WL.assign ?_
    refine WL.nil ?_
    refine WQ.next ?_
    refine WC.seq ?_
    refine WC.seq ?_
    refine WC.draw ([pt m (mapsO p x), buf x.g1 4 x.c1 (boolsV bk p.dc)]) [] 38 #[false, false, false, false, false, false, false, false, false, false, false, false, false, false, false, false, false, false, false, false, false, false, false, false, false, false, false, false, false, false, false, false, false, false, false, false, false, false] mixed (by kernel_rfl) NoPanic.autoJ ?_
    refine WD.take (i := 0) #[true, false, false, false, false, false, false, false, false, false, false, false, false, false, false, false, false, false, false, false, false, false, false, false, false, false, false, false, false, false, false, false, false, false, false, false, false, false] rfl (by kernel_rfl) (Qt.move ) ?_
    refine WD.take (i := 1) #[true, true, false, false, false, false, false, false, false, false, false, false, false, false, false, false, false, false, false, false, false, false, false, false, false, false, false, false, false, false, false, false, false, false, false, false, false, false] rfl (by kernel_rfl) (Qt.move ) ?_
    refine WD.take (i := 2) #[true, true, true, false, false, false, false, false, false, false, false, false, false, false, false, false, false, false, false, false, false, false, false, false, false, false, false, false, false, false, false, false, false, false, false, false, false, false] rfl (by kernel_rfl) (Qt.nilCheck ) ?_
    refine WD.take (i := 3) #[true, true, true, true, false, false, false, false, false, false, false, false, false, false, false, false, false, false, false, false, false, false, false, false, false, false, false, false, false, false, false, false, false, false, false, false, false, false] rfl (by kernel_rfl) (Qt.fa fo59_0) ?_
    refine WD.take (i := 4) #[true, true, true, true, true, false, false, false, false, false, false, false, false, false, false, false, false, false, false, false, false, false, false, false, false, false, false, false, false, false, false, false, false, false, false, false, false, false] rfl (by kernel_rfl) (Qt.fa fo25_5) ?_
    refine WD.take (i := 5) #[true, true, true, true, true, true, false, false, false, false, false, false, false, false, false, false, false, false, false, false, false, false, false, false, false, false, false, false, false, false, false, false, false, false, false, false, false, false] rfl (by kernel_rfl) (Qt.ld sc3) ?_
    refine WD.take (i := 6) #[true, true, true, true, true, true, true, false, false, false, false, false, false, false, false, false, false, false, false, false, false, false, false, false, false, false, false, false, false, false, false, false, false, false, false, false, false, false] rfl (by kernel_rfl) ((Qt.lss).eq (v' := .bool false) (congrArg Value.bool (decide_eq_false (by omega)))) ?_
    refine WD.take (i := 7) #[true, true, true, true, true, true, true, true, false, false, false, false, false, false, false, false, false, false, false, false, false, false, false, false, false, false, false, false, false, false, false, false, false, false, false, false, false, false] rfl (by kernel_rfl) (Qt.move ) ?_
    refine WD.takeOn (i := 8) #[true, true, true, true, true, true, true, true, true, false, false, false, false, false, false, false, false, false, false, false, false, false, false, false, false, false, false, false, false, false, false, false, false, false, false, false, false, false] rfl (by kernel_rfl) (Qt.move ) ?_
    refine WD.takeOn (i := 9) #[true, true, true, true, true, true, true, true, true, true, false, false, false, false, false, false, false, false, false, false, false, false, false, false, false, false, false, false, false, false, false, false, false, false, false, false, false, false] rfl (by kernel_rfl) (Qt.move ) ?_
    refine WD.takeOn (i := 10) #[true, true, true, true, true, true, true, true, true, true, true, false, false, false, false, false, false, false, false, false, false, false, false, false, false, false, false, false, false, false, false, false, false, false, false, false, false, false] rfl (by kernel_rfl) (Qt.nilCheck ) ?_
    refine WD.takeOn (i := 11) #[true, true, true, true, true, true, true, true, true, true, true, true, false, false, false, false, false, false, false, false, false, false, false, false, false, false, false, false, false, false, false, false, false, false, false, false, false, false] rfl (by kernel_rfl) (Qt.fa fo59_0) ?_
    refine WD.takeOn (i := 12) #[true, true, true, true, true, true, true, true, true, true, true, true, true, false, false, false, false, false, false, false, false, false, false, false, false, false, false, false, false, false, false, false, false, false, false, false, false, false] rfl (by kernel_rfl) (Qt.fa fo25_5) ?_
    refine WD.takeOn (i := 13) #[true, true, true, true, true, true, true, true, true, true, true, true, true, true, false, false, false, false, false, false, false, false, false, false, false, false, false, false, false, false, false, false, false, false, false, false, false, false] rfl (by kernel_rfl) (Qt.ld sc3) ?_
    refine WD.takeOn (i := 14) #[true, true, true, true, true, true, true, true, true, true, true, true, true, true, true, false, false, false, false, false, false, false, false, false, false, false, false, false, false, false, false, false, false, false, false, false, false, false] rfl (by kernel_rfl) (Qt.move ) ?_
    refine WD.takeOn (i := 15) #[true, true, true, true, true, true, true, true, true, true, true, true, true, true, true, true, false, false, false, false, false, false, false, false, false, false, false, false, false, false, false, false, false, false, false, false, false, false] rfl (by kernel_rfl) (Qt.nilCheck ) ?_
    refine WD.takeOn (i := 16) #[true, true, true, true, true, true, true, true, true, true, true, true, true, true, true, true, true, false, false, false, false, false, false, false, false, false, false, false, false, false, false, false, false, false, false, false, false, false] rfl (by kernel_rfl) (Qt.fa fo59_1) ?_
    refine WD.takeOn (i := 17) #[true, true, true, true, true, true, true, true, true, true, true, true, true, true, true, true, true, true, false, false, false, false, false, false, false, false, false, false, false, false, false, false, false, false, false, false, false, false] rfl (by kernel_rfl) (Qt.ld sc57) ?_
    refine WD.takeOn (i := 18) #[true, true, true, true, true, true, true, true, true, true, true, true, true, true, true, true, true, true, true, false, false, false, false, false, false, false, false, false, false, false, false, false, false, false, false, false, false, false] rfl (by kernel_rfl) (Qt.lenS sl57) ?_
    refine WD.takeOn (i := 19) #[true, true, true, true, true, true, true, true, true, true, true, true, true, true, true, true, true, true, true, true, false, false, false, false, false, false, false, false, false, false, false, false, false, false, false, false, false, false] rfl (by kernel_rfl) (Qt.add ) ?_
    refine WD.takeOn (i := 20) #[true, true, true, true, true, true, true, true, true, true, true, true, true, true, true, true, true, true, true, true, true, false, false, false, false, false, false, false, false, false, false, false, false, false, false, false, false, false] rfl (by kernel_rfl) ((Qt.geq).eq (v' := .bool true) (congrArg Value.bool (decide_eq_true (by omega)))) ?_
    refine WD.take (i := 21) #[true, true, true, true, true, true, true, true, true, true, true, true, true, true, true, true, true, true, true, true, true, true, false, false, false, false, false, false, false, false, false, false, false, false, false, false, false, false] rfl (by kernel_rfl) (Qt.pickF ) ?_
    refine WD.take (i := 22) #[true, true, true, true, true, true, true, true, true, true, true, true, true, true, true, true, true, true, true, true, true, true, true, false, false, false, false, false, false, false, false, false, false, false, false, false, false, false] rfl (by kernel_rfl) (Qt.move ) ?_
    refine WD.takeOff (i := 23) #[true, true, true, true, true, true, true, true, true, true, true, true, true, true, true, true, true, true, true, true, true, true, true, true, false, false, false, false, false, false, false, false, false, false, false, false, false, false] rfl (by kernel_rfl) ?_
    refine WD.takeOff (i := 24) #[true, true, true, true, true, true, true, true, true, true, true, true, true, true, true, true, true, true, true, true, true, true, true, true, true, false, false, false, false, false, false, false, false, false, false, false, false, false] rfl (by kernel_rfl) ?_
    refine WD.takeOff (i := 25) #[true, true, true, true, true, true, true, true, true, true, true, true, true, true, true, true, true, true, true, true, true, true, true, true, true, true, false, false, false, false, false, false, false, false, false, false, false, false] rfl (by kernel_rfl) ?_
    refine WD.takeOff (i := 26) #[true, true, true, true, true, true, true, true, true, true, true, true, true, true, true, true, true, true, true, true, true, true, true, true, true, true, true, false, false, false, false, false, false, false, false, false, false, false] rfl (by kernel_rfl) ?_
    refine WD.takeOff (i := 27) #[true, true, true, true, true, true, true, true, true, true, true, true, true, true, true, true, true, true, true, true, true, true, true, true, true, true, true, true, false, false, false, false, false, false, false, false, false, false] rfl (by kernel_rfl) ?_
    refine WD.takeOff (i := 28) #[true, true, true, true, true, true, true, true, true, true, true, true, true, true, true, true, true, true, true, true, true, true, true, true, true, true, true, true, true, false, false, false, false, false, false, false, false, false] rfl (by kernel_rfl) ?_
    refine WD.takeOff (i := 29) #[true, true, true, true, true, true, true, true, true, true, true, true, true, true, true, true, true, true, true, true, true, true, true, true, true, true, true, true, true, true, false, false, false, false, false, false, false, false] rfl (by kernel_rfl) ?_
    refine WD.takeOff (i := 30) #[true, true, true, true, true, true, true, true, true, true, true, true, true, true, true, true, true, true, true, true, true, true, true, true, true, true, true, true, true, true, true, false, false, false, false, false, false, false] rfl (by kernel_rfl) ?_
    refine WD.takeOff (i := 31) #[true, true, true, true, true, true, true, true, true, true, true, true, true, true, true, true, true, true, true, true, true, true, true, true, true, true, true, true, true, true, true, true, false, false, false, false, false, false] rfl (by kernel_rfl) ?_
    refine WD.takeOff (i := 32) #[true, true, true, true, true, true, true, true, true, true, true, true, true, true, true, true, true, true, true, true, true, true, true, true, true, true, true, true, true, true, true, true, true, false, false, false, false, false] rfl (by kernel_rfl) ?_
    refine WD.takeOff (i := 33) #[true, true, true, true, true, true, true, true, true, true, true, true, true, true, true, true, true, true, true, true, true, true, true, true, true, true, true, true, true, true, true, true, true, true, false, false, false, false] rfl (by kernel_rfl) ?_
    refine WD.takeOff (i := 34) #[true, true, true, true, true, true, true, true, true, true, true, true, true, true, true, true, true, true, true, true, true, true, true, true, true, true, true, true, true, true, true, true, true, true, true, false, false, false] rfl (by kernel_rfl) ?_
    refine WD.takeOff (i := 35) #[true, true, true, true, true, true, true, true, true, true, true, true, true, true, true, true, true, true, true, true, true, true, true, true, true, true, true, true, true, true, true, true, true, true, true, true, false, false] rfl (by kernel_rfl) ?_
    refine WD.takeOff (i := 36) #[true, true, true, true, true, true, true, true, true, true, true, true, true, true, true, true, true, true, true, true, true, true, true, true, true, true, true, true, true, true, true, true, true, true, true, true, true, false] rfl (by kernel_rfl) ?_
    refine WD.take (i := 37) #[true, true, true, true, true, true, true, true, true, true, true, true, true, true, true, true, true, true, true, true, true, true, true, true, true, true, true, true, true, true, true, true, true, true, true, true, true, true] rfl (by kernel_rfl) (Qt.pickT ) ?_
    refine WD.done (by kernel_rfl) ?_
    refine WQ.next ?_
    refine WC.condT rfl rfl ?_
    refine WC.seq ?_
    refine WC.region ?_
    refine WL.assign ?_
    refine WL.nil ?_
    refine WQ.next ?_
    refine WC.ret (WQ.thenRet (?_))
    exact WQ.ret1 (h1 := .tmp (t := 4) rfl) ⟨_, ⟨rfl, rfl⟩, Am.auto⟩
  · obtain ⟨j, hj, hjd⟩ : ∃ j : Nat, k = ((p.da + j : Nat) : Int) ∧ j < p.dc := ⟨(k - p.da).toNat, by omega, by omega⟩
    subst hj
    have hbj : bk j = false := by
      rcases hk with hk | hk | ⟨_, _, hk⟩
      · exact absurd hk hc.1
      · exact absurd hk hc.2
      · rwa [show (((p.da + j : Nat) : Int) - (p.da : Int)).toNat = j from by omega] at hk
    refine WC.seq ?_
    refine WC.region ?_
    refine WL.assign ?_
    refine WL.nil ?_
    refine WQ.next ?_
    refine WC.seq ?_
    refine WC.seq ?_
    refine WC.draw ([pt m (mapsO p x), buf x.g1 4 x.c1 (boolsV bk p.dc)]) [] 38 #[false, false, false, false, false, false, false, false, false, false, false, false, false, false, false, false, false, false, false, false, false, false, false, false, false, false, false, false, false, false, false, false, false, false, false, false, false, false] mixed (by kernel_rfl) NoPanic.autoJ ?_
    refine WD.take (i := 0) #[true, false, false, false, false, false, false, false, false, false, false, false, false, false, false, false, false, false, false, false, false, false, false, false, false, false, false, false, false, false, false, false, false, false, false, false, false, false] rfl (by kernel_rfl) (Qt.move ) ?_
    refine WD.take (i := 1) #[true, true, false, false, false, false, false, false, false, false, false, false, false, false, false, false, false, false, false, false, false, false, false, false, false, false, false, false, false, false, false, false, false, false, false, false, false, false] rfl (by kernel_rfl) (Qt.move ) ?_
    refine WD.take (i := 2) #[true, true, true, false, false, false, false, false, false, false, false, false, false, false, false, false, false, false, false, false, false, false, false, false, false, false, false, false, false, false, false, false, false, false, false, false, false, false] rfl (by kernel_rfl) (Qt.nilCheck ) ?_
    refine WD.take (i := 3) #[true, true, true, true, false, false, false, false, false, false, false, false, false, false, false, false, false, false, false, false, false, false, false, false, false, false, false, false, false, false, false, false, false, false, false, false, false, false] rfl (by kernel_rfl) (Qt.fa fo59_0) ?_
    refine WD.take (i := 4) #[true, true, true, true, true, false, false, false, false, false, false, false, false, false, false, false, false, false, false, false, false, false, false, false, false, false, false, false, false, false, false, false, false, false, false, false, false, false] rfl (by kernel_rfl) (Qt.fa fo25_5) ?_
    refine WD.take (i := 5) #[true, true, true, true, true, true, false, false, false, false, false, false, false, false, false, false, false, false, false, false, false, false, false, false, false, false, false, false, false, false, false, false, false, false, false, false, false, false] rfl (by kernel_rfl) (Qt.ld sc3) ?_
    refine WD.take (i := 6) #[true, true, true, true, true, true, true, false, false, false, false, false, false, false, false, false, false, false, false, false, false, false, false, false, false, false, false, false, false, false, false, false, false, false, false, false, false, false] rfl (by kernel_rfl) ((Qt.lss).eq (v' := .bool false) (congrArg Value.bool (decide_eq_false (by omega)))) ?_
    refine WD.take (i := 7) #[true, true, true, true, true, true, true, true, false, false, false, false, false, false, false, false, false, false, false, false, false, false, false, false, false, false, false, false, false, false, false, false, false, false, false, false, false, false] rfl (by kernel_rfl) (Qt.move ) ?_
    refine WD.takeOn (i := 8) #[true, true, true, true, true, true, true, true, true, false, false, false, false, false, false, false, false, false, false, false, false, false, false, false, false, false, false, false, false, false, false, false, false, false, false, false, false, false] rfl (by kernel_rfl) (Qt.move ) ?_
    refine WD.takeOn (i := 9) #[true, true, true, true, true, true, true, true, true, true, false, false, false, false, false, false, false, false, false, false, false, false, false, false, false, false, false, false, false, false, false, false, false, false, false, false, false, false] rfl (by kernel_rfl) (Qt.move ) ?_
    refine WD.takeOn (i := 10) #[true, true, true, true, true, true, true, true, true, true, true, false, false, false, false, false, false, false, false, false, false, false, false, false, false, false, false, false, false, false, false, false, false, false, false, false, false, false] rfl (by kernel_rfl) (Qt.nilCheck ) ?_
    refine WD.takeOn (i := 11) #[true, true, true, true, true, true, true, true, true, true, true, true, false, false, false, false, false, false, false, false, false, false, false, false, false, false, false, false, false, false, false, false, false, false, false, false, false, false] rfl (by kernel_rfl) (Qt.fa fo59_0) ?_
    refine WD.takeOn (i := 12) #[true, true, true, true, true, true, true, true, true, true, true, true, true, false, false, false, false, false, false, false, false, false, false, false, false, false, false, false, false, false, false, false, false, false, false, false, false, false] rfl (by kernel_rfl) (Qt.fa fo25_5) ?_
    refine WD.takeOn (i := 13) #[true, true, true, true, true, true, true, true, true, true, true, true, true, true, false, false, false, false, false, false, false, false, false, false, false, false, false, false, false, false, false, false, false, false, false, false, false, false] rfl (by kernel_rfl) (Qt.ld sc3) ?_
    refine WD.takeOn (i := 14) #[true, true, true, true, true, true, true, true, true, true, true, true, true, true, true, false, false, false, false, false, false, false, false, false, false, false, false, false, false, false, false, false, false, false, false, false, false, false] rfl (by kernel_rfl) (Qt.move ) ?_
    refine WD.takeOn (i := 15) #[true, true, true, true, true, true, true, true, true, true, true, true, true, true, true, true, false, false, false, false, false, false, false, false, false, false, false, false, false, false, false, false, false, false, false, false, false, false] rfl (by kernel_rfl) (Qt.nilCheck ) ?_
    refine WD.takeOn (i := 16) #[true, true, true, true, true, true, true, true, true, true, true, true, true, true, true, true, true, false, false, false, false, false, false, false, false, false, false, false, false, false, false, false, false, false, false, false, false, false] rfl (by kernel_rfl) (Qt.fa fo59_1) ?_
    refine WD.takeOn (i := 17) #[true, true, true, true, true, true, true, true, true, true, true, true, true, true, true, true, true, true, false, false, false, false, false, false, false, false, false, false, false, false, false, false, false, false, false, false, false, false] rfl (by kernel_rfl) (Qt.ld sc57) ?_
    refine WD.takeOn (i := 18) #[true, true, true, true, true, true, true, true, true, true, true, true, true, true, true, true, true, true, true, false, false, false, false, false, false, false, false, false, false, false, false, false, false, false, false, false, false, false] rfl (by kernel_rfl) (Qt.lenS sl57) ?_
    refine WD.takeOn (i := 19) #[true, true, true, true, true, true, true, true, true, true, true, true, true, true, true, true, true, true, true, true, false, false, false, false, false, false, false, false, false, false, false, false, false, false, false, false, false, false] rfl (by kernel_rfl) (Qt.add ) ?_
    refine WD.takeOn (i := 20) #[true, true, true, true, true, true, true, true, true, true, true, true, true, true, true, true, true, true, true, true, true, false, false, false, false, false, false, false, false, false, false, false, false, false, false, false, false, false] rfl (by kernel_rfl) ((Qt.geq).eq (v' := .bool false) (congrArg Value.bool (decide_eq_false (by omega)))) ?_
    refine WD.take (i := 21) #[true, true, true, true, true, true, true, true, true, true, true, true, true, true, true, true, true, true, true, true, true, true, false, false, false, false, false, false, false, false, false, false, false, false, false, false, false, false] rfl (by kernel_rfl) (Qt.pickF ) ?_
    refine WD.take (i := 22) #[true, true, true, true, true, true, true, true, true, true, true, true, true, true, true, true, true, true, true, true, true, true, true, false, false, false, false, false, false, false, false, false, false, false, false, false, false, false] rfl (by kernel_rfl) (Qt.move ) ?_
    refine WD.takeOn (i := 23) #[true, true, true, true, true, true, true, true, true, true, true, true, true, true, true, true, true, true, true, true, true, true, true, true, false, false, false, false, false, false, false, false, false, false, false, false, false, false] rfl (by kernel_rfl) (Qt.move ) ?_
    refine WD.takeOn (i := 24) #[true, true, true, true, true, true, true, true, true, true, true, true, true, true, true, true, true, true, true, true, true, true, true, true, true, false, false, false, false, false, false, false, false, false, false, false, false, false] rfl (by kernel_rfl) (Qt.nilCheck ) ?_
    refine WD.takeOn (i := 25) #[true, true, true, true, true, true, true, true, true, true, true, true, true, true, true, true, true, true, true, true, true, true, true, true, true, true, false, false, false, false, false, false, false, false, false, false, false, false] rfl (by kernel_rfl) (Qt.fa fo59_1) ?_
    refine WD.takeOn (i := 26) #[true, true, true, true, true, true, true, true, true, true, true, true, true, true, true, true, true, true, true, true, true, true, true, true, true, true, true, false, false, false, false, false, false, false, false, false, false, false] rfl (by kernel_rfl) (Qt.ld sc57) ?_
    refine WD.takeOn (i := 27) #[true, true, true, true, true, true, true, true, true, true, true, true, true, true, true, true, true, true, true, true, true, true, true, true, true, true, true, true, false, false, false, false, false, false, false, false, false, false] rfl (by kernel_rfl) (Qt.move ) ?_
    refine WD.takeOn (i := 28) #[true, true, true, true, true, true, true, true, true, true, true, true, true, true, true, true, true, true, true, true, true, true, true, true, true, true, true, true, true, false, false, false, false, false, false, false, false, false] rfl (by kernel_rfl) (Qt.move ) ?_
    refine WD.takeOn (i := 29) #[true, true, true, true, true, true, true, true, true, true, true, true, true, true, true, true, true, true, true, true, true, true, true, true, true, true, true, true, true, true, false, false, false, false, false, false, false, false] rfl (by kernel_rfl) (Qt.nilCheck ) ?_
    refine WD.takeOn (i := 30) #[true, true, true, true, true, true, true, true, true, true, true, true, true, true, true, true, true, true, true, true, true, true, true, true, true, true, true, true, true, true, true, false, false, false, false, false, false, false] rfl (by kernel_rfl) (Qt.fa fo59_0) ?_
    refine WD.takeOn (i := 31) #[true, true, true, true, true, true, true, true, true, true, true, true, true, true, true, true, true, true, true, true, true, true, true, true, true, true, true, true, true, true, true, true, false, false, false, false, false, false] rfl (by kernel_rfl) (Qt.fa fo25_5) ?_
    refine WD.takeOn (i := 32) #[true, true, true, true, true, true, true, true, true, true, true, true, true, true, true, true, true, true, true, true, true, true, true, true, true, true, true, true, true, true, true, true, true, false, false, false, false, false] rfl (by kernel_rfl) (Qt.ld sc3) ?_
    refine WD.takeOn (i := 33) #[true, true, true, true, true, true, true, true, true, true, true, true, true, true, true, true, true, true, true, true, true, true, true, true, true, true, true, true, true, true, true, true, true, true, false, false, false, false] rfl (by kernel_rfl) ((Qt.sub).eq (v' := .int .i64 (j : Int)) (congrArg (Value.int .i64) (by omega))) ?_
    refine WD.takeOn (i := 34) #[true, true, true, true, true, true, true, true, true, true, true, true, true, true, true, true, true, true, true, true, true, true, true, true, true, true, true, true, true, true, true, true, true, true, true, false, false, false] rfl (by kernel_rfl) (Qt.idx1 so57) ?_
    refine WD.takeOn (i := 35) #[true, true, true, true, true, true, true, true, true, true, true, true, true, true, true, true, true, true, true, true, true, true, true, true, true, true, true, true, true, true, true, true, true, true, true, true, false, false] rfl (by kernel_rfl) (Qt.ldR (R := buf x.g1 4 x.c1 (boolsV bk p.dc)) (xs := boolsV bk p.dc) (i := ((j : Nat) : Int).toNat) (v := .bool false) sc4 Reads.buf (by rw [Int.toNat_natCast, boolsV_get bk hjd, hbj])) ?_
    refine WD.takeOn (i := 36) #[true, true, true, true, true, true, true, true, true, true, true, true, true, true, true, true, true, true, true, true, true, true, true, true, true, true, true, true, true, true, true, true, true, true, true, true, true, false] rfl (by kernel_rfl) (Qt.not ) ?_
    refine WD.take (i := 37) #[true, true, true, true, true, true, true, true, true, true, true, true, true, true, true, true, true, true, true, true, true, true, true, true, true, true, true, true, true, true, true, true, true, true, true, true, true, true] rfl (by kernel_rfl) (Qt.pickF ) ?_
    refine WD.done (by kernel_rfl) ?_
    refine WQ.next ?_
    refine WC.condT rfl rfl ?_
    refine WC.seq ?_
    refine WC.region ?_
    refine WL.assign ?_
    refine WL.nil ?_
    refine WQ.next ?_
    refine WC.ret (WQ.thenRet (?_))
    exact WQ.ret1 (h1 := .tmp (t := 4) rfl) ⟨_, ⟨rfl, rfl⟩, Am.auto⟩

theorem rGiveInode0 {m : Nat} {p : Pl} {bk ik : Nat → Bool} {x : MX} (h : PlIs p) (hx : MXok p x) {j : Nat} (hj1 : 1 ≤ j) (hj : j < p.ino) (hb : ik j = true) : Spec Tryz.prog 16 #[.pointer (some ⟨m, 0, none⟩), .int .i64 (j : Int)] [pt m (mapsO p x), buf x.g1 4 x.c1 (boolsV bk p.dc), buf x.g2 4 x.c2 (boolsV ik p.ino)] fun F v M => v = .int .i64 0 ∧ M = [pt m (mapsO p x), buf x.g1 4 x.c1 (boolsV bk p.dc), buf x.g2 4 x.c2 (boolsV (setF ik j false) p.ino)] ++ F := by
  refine Spec.intro Tryz.func16 rfl rfl fun B F => ?_
  simp only [Tryz.ntmps16, List.cons_append, List.nil_append, env0, Nat.reduceAdd]
  have hi2 := h.i2
  refine WC.seq ?_
  refine WC.region ?_
  refine WL.assign ?_
  refine WL.nil ?_
  refine WQ.next ?_
  refine WC.seq ?_
  refine WC.seq ?_
  refine WC.region ?_
  refine WL.move ?_
  refine WL.lss ?_
  refine WL.move ?_
  refine WL.cast (d := 7) (u := .bool false) rfl (congrArg Value.bool (by first | (simp; done) | (simp; omega) | omega)) ?_
  refine WL.gT ?_
  refine WL.move ?_
  refine WL.gT ?_
  refine WL.move ?_
  refine WL.gT ?_
  refine WL.nilCheck ?_
  refine WL.gT ?_
  refine WL.fa ?_ fo59_2
  refine WL.gT ?_
  refine WL.ld ?_ sc57
  refine WL.gT ?_
  refine WL.lenS ?_ sl57
  refine WL.gT ?_
  refine WL.geq ?_
  refine WL.pickF ?_
  refine WL.move ?_
  refine WL.cast (d := 16) (u := .bool false) rfl (congrArg Value.bool (by first | (simp; done) | (simp; omega) | omega)) ?_
  refine WL.gT ?_
  refine WL.move ?_
  refine WL.gT ?_
  refine WL.nilCheck ?_
  refine WL.gT ?_
  refine WL.fa ?_ fo59_2
  refine WL.gT ?_
  refine WL.ld ?_ sc57
  refine WL.gT ?_
  refine WL.move ?_
  refine WL.gT ?_
  refine WL.idx1 ?_ so57
  refine WL.gT ?_
  refine WL.ldR (R := buf x.g2 4 x.c2 (boolsV ik p.ino)) (xs := boolsV ik p.ino) (i := ((j : Nat) : Int).toNat) (v := .bool true) ?_ sc4 Reads.buf (by rw [Int.toNat_natCast, boolsV_get ik hj, hb])
  refine WL.gT ?_
  refine WL.not ?_
  refine WL.pickF ?_
  refine WL.nil ?_
  refine WQ.next ?_
  refine WC.condF rfl rfl ?_
  refine WC.skip ?_
  refine WQ.next ?_
  refine WC.seq ?_
  refine WC.region ?_
  refine WL.move ?_
  refine WL.nilCheck ?_
  refine WL.fa ?_ fo59_2
  refine WL.ld ?_ sc57
  refine WL.move ?_
  refine WL.idx1 ?_ so57
  refine WL.stB ?_ sc4 (show 0 + ((j : Nat) : Int).toNat < (boolsV ik p.ino).length by rw [boolsV_length]; omega)
  refine WL.nil ?_
  refine WQ.next ?_
  refine WC.seq ?_
  refine WC.region ?_
  refine WL.assign ?_
  refine WL.nil ?_
  refine WQ.next ?_
  refine WC.ret (?_)
  refine WQ.to (A := buf x.g2 4 x.c2 ((boolsV ik p.ino).set (0 + ((j : Nat) : Int).toNat) (.bool false))) (A' := buf x.g2 4 x.c2 (boolsV (setF ik j false) p.ino)) (fun h hh => by rw [← boolsV_set]; rw [Int.toNat_natCast, Nat.zero_add] at hh; exact hh) ?_
  exact WQ.ret1 (h1 := .tmp (t := 4) rfl) ⟨_, ⟨rfl, rfl⟩, Am.auto⟩

theorem rGiveInodeNo0 {m : Nat} {p : Pl} {bk ik : Nat → Bool} {x : MX} (h : PlIs p) (hx : MXok p x) {k : Int} (hk : k ≤ 0 ∨ (p.ino : Int) ≤ k ∨ (0 ≤ k ∧ k < p.ino ∧ ik k.toNat = false)) : Spec Tryz.prog 16 #[.pointer (some ⟨m, 0, none⟩), .int .i64 k] [pt m (mapsO p x), buf x.g1 4 x.c1 (boolsV bk p.dc), buf x.g2 4 x.c2 (boolsV ik p.ino)] fun F v M => v = .int .i64 1 ∧ M = [pt m (mapsO p x), buf x.g1 4 x.c1 (boolsV bk p.dc), buf x.g2 4 x.c2 (boolsV ik p.ino)] ++ F := by
  refine Spec.intro Tryz.func16 rfl rfl fun B F => ?_
  simp only [Tryz.ntmps16, List.cons_append, List.nil_append, env0, Nat.reduceAdd]
  have hi2 := h.i2
  rcases (show k < 1 ∨ (¬ k < 1 ∧ (p.ino : Int) ≤ k) ∨ (¬ k < 1 ∧ ¬ (p.ino : Int) ≤ k) from by omega) with hc | hc | hc
  · refine WC.seq ?_
    refine WC.region ?_
    refine WL.assign ?_
    refine WL.nil ?_
    refine WQ.next ?_
    refine WC.seq ?_
    refine WC.seq ?_
    refine WC.region ?_
    refine WL.move ?_
    refine WL.lss ?_
    refine WL.move ?_
    refine WL.cast (d := 7) (u := .bool true) rfl (congrArg Value.bool (by first | (simp; done) | (simp; omega) | omega)) ?_
    refine WL.gF ?_
    refine WL.gF ?_
    refine WL.gF ?_
    refine WL.gF ?_
    refine WL.gF ?_
    refine WL.gF ?_
    refine WL.gF ?_
    refine WL.pickT ?_
    refine WL.move ?_
    refine WL.gF ?_
    refine WL.gF ?_
    refine WL.gF ?_
    refine WL.gF ?_
    refine WL.gF ?_
    refine WL.gF ?_
    refine WL.gF ?_
    refine WL.gF ?_
    refine WL.pickT ?_
    refine WL.nil ?_
    refine WQ.next ?_
    refine WC.condT rfl rfl ?_
    refine WC.seq ?_
    refine WC.region ?_
    refine WL.assign ?_
    refine WL.nil ?_
    refine WQ.next ?_
    refine WC.ret (WQ.thenRet (?_))
    exact WQ.ret1 (h1 := .tmp (t := 4) rfl) ⟨_, ⟨rfl, rfl⟩, Am.auto⟩
  · refine WC.seq ?_
    refine WC.region ?_
    refine WL.assign ?_
    refine WL.nil ?_
    refine WQ.next ?_
    refine WC.seq ?_
    refine WC.seq ?_
    refine WC.region ?_
    refine WL.move ?_
    refine WL.lss ?_
    refine WL.move ?_
    refine WL.cast (d := 7) (u := .bool false) rfl (congrArg Value.bool (by first | (simp; done) | (simp; omega) | omega)) ?_
    refine WL.gT ?_
    refine WL.move ?_
    refine WL.gT ?_
    refine WL.move ?_
    refine WL.gT ?_
    refine WL.nilCheck ?_
    refine WL.gT ?_
    refine WL.fa ?_ fo59_2
    refine WL.gT ?_
    refine WL.ld ?_ sc57
    refine WL.gT ?_
    refine WL.lenS ?_ sl57
    refine WL.gT ?_
    refine WL.geq ?_
    refine WL.pickF ?_
    refine WL.move ?_
    refine WL.cast (d := 16) (u := .bool true) rfl (congrArg Value.bool (by first | (simp; done) | (simp; omega) | omega)) ?_
    refine WL.gF ?_
    refine WL.gF ?_
    refine WL.gF ?_
    refine WL.gF ?_
    refine WL.gF ?_
    refine WL.gF ?_
    refine WL.gF ?_
    refine WL.gF ?_
    refine WL.pickT ?_
    refine WL.nil ?_
    refine WQ.next ?_
    refine WC.condT rfl rfl ?_
    refine WC.seq ?_
    refine WC.region ?_
    refine WL.assign ?_
    refine WL.nil ?_
    refine WQ.next ?_
    refine WC.ret (WQ.thenRet (?_))
    exact WQ.ret1 (h1 := .tmp (t := 4) rfl) ⟨_, ⟨rfl, rfl⟩, Am.auto⟩
  · obtain ⟨j, rfl⟩ : ∃ j : Nat, k = (j : Int) := ⟨k.toNat, by omega⟩
    have hjd : j < p.ino := by omega
    have hbj : ik j = false := by
      rcases hk with hk | hk | ⟨_, _, hk⟩
      · omega
      · exact absurd hk hc.2
      · rwa [Int.toNat_natCast] at hk
    refine WC.seq ?_
    refine WC.region ?_
    refine WL.assign ?_
    refine WL.nil ?_
    refine WQ.next ?_
    refine WC.seq ?_
    refine WC.seq ?_
    refine WC.region ?_
    refine WL.move ?_
    refine WL.lss ?_
    refine WL.move ?_
    refine WL.cast (d := 7) (u := .bool false) rfl (congrArg Value.bool (by first | (simp; done) | (simp; omega) | omega)) ?_
    refine WL.gT ?_
    refine WL.move ?_
    refine WL.gT ?_
    refine WL.move ?_
    refine WL.gT ?_
    refine WL.nilCheck ?_
    refine WL.gT ?_
    refine WL.fa ?_ fo59_2
    refine WL.gT ?_
    refine WL.ld ?_ sc57
    refine WL.gT ?_
    refine WL.lenS ?_ sl57
    refine WL.gT ?_
    refine WL.geq ?_
    refine WL.pickF ?_
    refine WL.move ?_
    refine WL.cast (d := 16) (u := .bool false) rfl (congrArg Value.bool (by first | (simp; done) | (simp; omega) | omega)) ?_
    refine WL.gT ?_
    refine WL.move ?_
    refine WL.gT ?_
    refine WL.nilCheck ?_
    refine WL.gT ?_
    refine WL.fa ?_ fo59_2
    refine WL.gT ?_
    refine WL.ld ?_ sc57
    refine WL.gT ?_
    refine WL.move ?_
    refine WL.gT ?_
    refine WL.idx1 ?_ so57
    refine WL.gT ?_
    refine WL.ldR (R := buf x.g2 4 x.c2 (boolsV ik p.ino)) (xs := boolsV ik p.ino) (i := ((j : Nat) : Int).toNat) (v := .bool false) ?_ sc4 Reads.buf (by rw [Int.toNat_natCast, boolsV_get ik hjd, hbj])
    refine WL.gT ?_
    refine WL.not ?_
    refine WL.pickF ?_
    refine WL.nil ?_
    refine WQ.next ?_
    refine WC.condT rfl rfl ?_
    refine WC.seq ?_
    refine WC.region ?_
    refine WL.assign ?_
    refine WL.nil ?_
    refine WQ.next ?_
    refine WC.ret (WQ.thenRet (?_))
    exact WQ.ret1 (h1 := .tmp (t := 4) rfl) ⟨_, ⟨rfl, rfl⟩, Am.auto⟩

end Go.Proofs.YtfmkhhdohfagkaaGreat
