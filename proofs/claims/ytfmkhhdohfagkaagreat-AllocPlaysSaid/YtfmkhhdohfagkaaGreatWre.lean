/- Walk of AllocPlays. -/
import Derived.Test.YtfmkhhdohfagkaaGreatFa
import Derived.Test.YtfmkhhdohfagkaaGreatWrd
import Derived.KernelRfl
set_option linter.unusedVariables false
set_option linter.unusedSimpArgs false
namespace Go.Proofs.YtfmkhhdohfagkaaGreat
open Go
theorem sl22 : Tryz.prog.underlying 22 = some (.slice 36) := by kernel_rfl
theorem so22 : sliceOk Tryz.prog 22 36 2 16 = true := by kernel_rfl
theorem fo36_0 : fieldOk Tryz.prog 36 0 0 = true := by kernel_rfl
theorem fo36_1 : fieldOk Tryz.prog 36 1 1 = true := by kernel_rfl

theorem planInts : intsOk Tryz.prog 25 7 = true := by kernel_rfl
structure PSt where
  m : Nat
  o : Nat
  b0 : Nat → Bool
  k0 : Nat → Bool
  b : Nat → Bool
  k : Nat → Bool

set_option maxHeartbeats 2000000 in
theorem lawPlays {n inodes : Int} {R : HP} {A : Option Addr} {L c0 : Nat} {xs : List Int} (hn : -9223372036854775808 ≤ n ∧ n ≤ 9223372036854775807) (hm : -9223372036854775808 ≤ inodes ∧ inodes ≤ 9223372036854775807) (hR0 : xs = [] ∨ Reads R A (ints xs)) (hL : xs.length = L * 2) (hxs : ∀ x ∈ xs, -9223372036854775808 ≤ x ∧ x ≤ 9223372036854775807) (hbig : L ≤ 9223372036854775807) : Spec Tryz.prog 3 #[.int .i64 n, .int .i64 inodes, .slice A L c0] [R] fun F v M => v = .bool true ∧ M = R :: F := by
  refine Spec.intro Tryz.func3 rfl rfl fun B F => ?_
  simp only [Tryz.ntmps3, List.cons_append, List.nil_append, env0, Nat.reduceAdd]
  rcases (show n < 250 ∨ (250 ≤ n ∧ 700 < n) ∨ (250 ≤ n ∧ n ≤ 700 ∧ inodes < 1) ∨ (250 ≤ n ∧ n ≤ 700 ∧ 1 ≤ inodes ∧ 200 < inodes) ∨ (250 ≤ n ∧ n ≤ 700 ∧ 1 ≤ inodes ∧ inodes ≤ 200 ∧ 200 < L) ∨ (250 ≤ n ∧ n ≤ 700 ∧ 1 ≤ inodes ∧ inodes ≤ 200 ∧ L ≤ 200) from by omega) with hc | hc | hc | hc | hc | hc
  · refine WC.seq ?_
    refine WC.region ?_
    refine WL.assign ?_
    refine WL.nil ?_
    refine WQ.next ?_
    refine WC.seq ?_
    refine WC.seq ?_
    refine WC.region ?_
    refine WL.move ?_
    refine WL.lss ?_
    refine WL.move ?_
    refine WL.cast (d := 30) (u := .bool true) rfl (congrArg Value.bool (by first | (simp; done) | (simp; omega) | omega)) ?_
    refine WL.gF ?_
    refine WL.gF ?_
    refine WL.pickT ?_
    refine WL.move ?_
    refine WL.gF ?_
    refine WL.gF ?_
    refine WL.pickT ?_
    refine WL.move ?_
    refine WL.gF ?_
    refine WL.gF ?_
    refine WL.pickT ?_
    refine WL.move ?_
    refine WL.gF ?_
    refine WL.gF ?_
    refine WL.gF ?_
    refine WL.pickT ?_
    refine WL.nil ?_
    refine WQ.next ?_
    refine WC.condT rfl rfl ?_
    refine WC.seq ?_
    refine WC.region ?_
    refine WL.call (hc := Tryz.call4) (sp := lawAwake) (h := ?_)
    rintro _ _ ⟨rfl, rfl⟩
    refine WL.assign ?_
    refine WL.nil ?_
    refine WQ.next ?_
    refine WC.ret (WQ.thenRet (?_))
    exact WQ.ret1 (h1 := .tmp (t := 6) rfl) ⟨_, ⟨rfl, rfl⟩, Am.auto⟩
  · refine WC.seq ?_
    refine WC.region ?_
    refine WL.assign ?_
    refine WL.nil ?_
    refine WQ.next ?_
    refine WC.seq ?_
    refine WC.seq ?_
    refine WC.region ?_
    refine WL.move ?_
    refine WL.lss ?_
    refine WL.move ?_
    refine WL.cast (d := 30) (u := .bool false) rfl (congrArg Value.bool (by first | (simp; done) | (simp; omega) | omega)) ?_
    refine WL.gT ?_
    refine WL.move ?_
    refine WL.gT ?_
    refine WL.gtr ?_
    refine WL.pickF ?_
    refine WL.move ?_
    refine WL.cast (d := 34) (u := .bool true) rfl (congrArg Value.bool (by first | (simp; done) | (simp; omega) | omega)) ?_
    refine WL.gF ?_
    refine WL.gF ?_
    refine WL.pickT ?_
    refine WL.move ?_
    refine WL.gF ?_
    refine WL.gF ?_
    refine WL.pickT ?_
    refine WL.move ?_
    refine WL.gF ?_
    refine WL.gF ?_
    refine WL.gF ?_
    refine WL.pickT ?_
    refine WL.nil ?_
    refine WQ.next ?_
    refine WC.condT rfl rfl ?_
    refine WC.seq ?_
    refine WC.region ?_
    refine WL.call (hc := Tryz.call4) (sp := lawAwake) (h := ?_)
    rintro _ _ ⟨rfl, rfl⟩
    refine WL.assign ?_
    refine WL.nil ?_
    refine WQ.next ?_
    refine WC.ret (WQ.thenRet (?_))
    exact WQ.ret1 (h1 := .tmp (t := 6) rfl) ⟨_, ⟨rfl, rfl⟩, Am.auto⟩
  · refine WC.seq ?_
    refine WC.region ?_
    refine WL.assign ?_
    refine WL.nil ?_
    refine WQ.next ?_
    refine WC.seq ?_
    refine WC.seq ?_
    refine WC.region ?_
    refine WL.move ?_
    refine WL.lss ?_
    refine WL.move ?_
    refine WL.cast (d := 30) (u := .bool false) rfl (congrArg Value.bool (by first | (simp; done) | (simp; omega) | omega)) ?_
    refine WL.gT ?_
    refine WL.move ?_
    refine WL.gT ?_
    refine WL.gtr ?_
    refine WL.pickF ?_
    refine WL.move ?_
    refine WL.cast (d := 34) (u := .bool false) rfl (congrArg Value.bool (by first | (simp; done) | (simp; omega) | omega)) ?_
    refine WL.gT ?_
    refine WL.move ?_
    refine WL.gT ?_
    refine WL.lss ?_
    refine WL.pickF ?_
    refine WL.move ?_
    refine WL.cast (d := 38) (u := .bool true) rfl (congrArg Value.bool (by first | (simp; done) | (simp; omega) | omega)) ?_
    refine WL.gF ?_
    refine WL.gF ?_
    refine WL.pickT ?_
    refine WL.move ?_
    refine WL.gF ?_
    refine WL.gF ?_
    refine WL.gF ?_
    refine WL.pickT ?_
    refine WL.nil ?_
    refine WQ.next ?_
    refine WC.condT rfl rfl ?_
    refine WC.seq ?_
    refine WC.region ?_
    refine WL.call (hc := Tryz.call4) (sp := lawAwake) (h := ?_)
    rintro _ _ ⟨rfl, rfl⟩
    refine WL.assign ?_
    refine WL.nil ?_
    refine WQ.next ?_
    refine WC.ret (WQ.thenRet (?_))
    exact WQ.ret1 (h1 := .tmp (t := 6) rfl) ⟨_, ⟨rfl, rfl⟩, Am.auto⟩
  · refine WC.seq ?_
    refine WC.region ?_
    refine WL.assign ?_
    refine WL.nil ?_
    refine WQ.next ?_
    refine WC.seq ?_
    refine WC.seq ?_
    refine WC.region ?_
    refine WL.move ?_
    refine WL.lss ?_
    refine WL.move ?_
    refine WL.cast (d := 30) (u := .bool false) rfl (congrArg Value.bool (by first | (simp; done) | (simp; omega) | omega)) ?_
    refine WL.gT ?_
    refine WL.move ?_
    refine WL.gT ?_
    refine WL.gtr ?_
    refine WL.pickF ?_
    refine WL.move ?_
    refine WL.cast (d := 34) (u := .bool false) rfl (congrArg Value.bool (by first | (simp; done) | (simp; omega) | omega)) ?_
    refine WL.gT ?_
    refine WL.move ?_
    refine WL.gT ?_
    refine WL.lss ?_
    refine WL.pickF ?_
    refine WL.move ?_
    refine WL.cast (d := 38) (u := .bool false) rfl (congrArg Value.bool (by first | (simp; done) | (simp; omega) | omega)) ?_
    refine WL.gT ?_
    refine WL.move ?_
    refine WL.gT ?_
    refine WL.gtr ?_
    refine WL.pickF ?_
    refine WL.move ?_
    refine WL.cast (d := 42) (u := .bool true) rfl (congrArg Value.bool (by first | (simp; done) | (simp; omega) | omega)) ?_
    refine WL.gF ?_
    refine WL.gF ?_
    refine WL.gF ?_
    refine WL.pickT ?_
    refine WL.nil ?_
    refine WQ.next ?_
    refine WC.condT rfl rfl ?_
    refine WC.seq ?_
    refine WC.region ?_
    refine WL.call (hc := Tryz.call4) (sp := lawAwake) (h := ?_)
    rintro _ _ ⟨rfl, rfl⟩
    refine WL.assign ?_
    refine WL.nil ?_
    refine WQ.next ?_
    refine WC.ret (WQ.thenRet (?_))
    exact WQ.ret1 (h1 := .tmp (t := 6) rfl) ⟨_, ⟨rfl, rfl⟩, Am.auto⟩
  · refine WC.seq ?_
    refine WC.region ?_
    refine WL.assign ?_
    refine WL.nil ?_
    refine WQ.next ?_
    refine WC.seq ?_
    refine WC.seq ?_
    refine WC.region ?_
    refine WL.move ?_
    refine WL.lss ?_
    refine WL.move ?_
    refine WL.cast (d := 30) (u := .bool false) rfl (congrArg Value.bool (by first | (simp; done) | (simp; omega) | omega)) ?_
    refine WL.gT ?_
    refine WL.move ?_
    refine WL.gT ?_
    refine WL.gtr ?_
    refine WL.pickF ?_
    refine WL.move ?_
    refine WL.cast (d := 34) (u := .bool false) rfl (congrArg Value.bool (by first | (simp; done) | (simp; omega) | omega)) ?_
    refine WL.gT ?_
    refine WL.move ?_
    refine WL.gT ?_
    refine WL.lss ?_
    refine WL.pickF ?_
    refine WL.move ?_
    refine WL.cast (d := 38) (u := .bool false) rfl (congrArg Value.bool (by first | (simp; done) | (simp; omega) | omega)) ?_
    refine WL.gT ?_
    refine WL.move ?_
    refine WL.gT ?_
    refine WL.gtr ?_
    refine WL.pickF ?_
    refine WL.move ?_
    refine WL.cast (d := 42) (u := .bool false) rfl (congrArg Value.bool (by first | (simp; done) | (simp; omega) | omega)) ?_
    refine WL.gT ?_
    refine WL.move ?_
    refine WL.gT ?_
    refine WL.lenS ?_ sl22
    refine WL.gT ?_
    refine WL.gtr ?_
    refine WL.pickF ?_
    refine WL.nil ?_
    refine WQ.next ?_
    refine WC.condT rfl (congrArg Value.bool (by first | (simp; done) | (simp; omega) | omega)) ?_
    refine WC.seq ?_
    refine WC.region ?_
    refine WL.call (hc := Tryz.call4) (sp := lawAwake) (h := ?_)
    rintro _ _ ⟨rfl, rfl⟩
    refine WL.assign ?_
    refine WL.nil ?_
    refine WQ.next ?_
    refine WC.ret (WQ.thenRet (?_))
    exact WQ.ret1 (h1 := .tmp (t := 6) rfl) ⟨_, ⟨rfl, rfl⟩, Am.auto⟩
  · obtain ⟨N, rfl⟩ : ∃ N : Nat, n = (N : Int) := ⟨n.toNat, by omega⟩
    obtain ⟨K, rfl⟩ : ∃ K : Nat, inodes = (K : Int) := ⟨inodes.toNat, by omega⟩
    refine WC.seq ?_
    refine WC.region ?_
    refine WL.assign ?_
    refine WL.nil ?_
    refine WQ.next ?_
    refine WC.seq ?_
    refine WC.seq ?_
    refine WC.region ?_
    refine WL.move ?_
    refine WL.lss ?_
    refine WL.move ?_
    refine WL.cast (d := 30) (u := .bool false) rfl (congrArg Value.bool (by first | (simp; done) | (simp; omega) | omega)) ?_
    refine WL.gT ?_
    refine WL.move ?_
    refine WL.gT ?_
    refine WL.gtr ?_
    refine WL.pickF ?_
    refine WL.move ?_
    refine WL.cast (d := 34) (u := .bool false) rfl (congrArg Value.bool (by first | (simp; done) | (simp; omega) | omega)) ?_
    refine WL.gT ?_
    refine WL.move ?_
    refine WL.gT ?_
    refine WL.lss ?_
    refine WL.pickF ?_
    refine WL.move ?_
    refine WL.cast (d := 38) (u := .bool false) rfl (congrArg Value.bool (by first | (simp; done) | (simp; omega) | omega)) ?_
    refine WL.gT ?_
    refine WL.move ?_
    refine WL.gT ?_
    refine WL.gtr ?_
    refine WL.pickF ?_
    refine WL.move ?_
    refine WL.cast (d := 42) (u := .bool false) rfl (congrArg Value.bool (by first | (simp; done) | (simp; omega) | omega)) ?_
    refine WL.gT ?_
    refine WL.move ?_
    refine WL.gT ?_
    refine WL.lenS ?_ sl22
    refine WL.gT ?_
    refine WL.gtr ?_
    refine WL.pickF ?_
    refine WL.nil ?_
    refine WQ.next ?_
    refine WC.condF rfl (congrArg Value.bool (by first | (simp; done) | (simp; omega) | omega)) ?_
    refine WC.skip ?_
    refine WQ.next ?_
    refine WC.seq ?_
    refine WC.region ?_
    refine WL.move ?_
    refine WL.move ?_
    refine WL.call (hc := Tryz.call5) (sp := refMake (n := N) (ino := K) (by omega) (by omega) (by omega) (by omega)) (h := ?_)
    rintro _ M1 ⟨(⟨p, hp, hpn, hpi, rfl⟩ | rfl), hM⟩ <;> obtain rfl := hM.symm
    · subst hpn
      subst hpi
      have hdc := hp.dc
      have hnn := hp.n2
      have hi1 := hp.i1
      have hi2 := hp.i2
      have hd1 := hp.d1
      refine WL.move ?_
      refine WL.extract ?_
      refine WL.extract ?_
      refine WL.alloc z25 fun b7 => ?_
      refine WL.stV ?_ agg25
      refine WL.assign ?_
      refine WL.nil ?_
      refine WQ.next ?_
      refine WC.seq ?_
      refine WC.seq ?_
      refine WC.region ?_
      refine WL.move ?_
      refine WL.nei ?_
      refine WL.nil ?_
      refine WQ.next ?_
      refine WC.condF rfl rfl ?_
      refine WC.skip ?_
      refine WQ.next ?_
      refine WC.seq ?_
      refine WC.region ?_
      refine WL.move ?_
      refine WL.move ?_
      refine WL.call (hc := Tryz.call6) (sp := aFresh hp) (h := ?_)
      rintro _ _ ⟨c, a, rfl, rfl⟩
      refine WL.move ?_
      refine WL.extract ?_
      refine WL.extract ?_
      refine WL.extract ?_
      refine WL.extract ?_
      refine WL.alloc z25 fun b11 => ?_
      refine WL.assign ?_
      refine WL.assign ?_
      refine WL.stV ?_ agg25
      refine WL.assign ?_
      refine WL.nil ?_
      refine WQ.next ?_
      refine WC.seq ?_
      refine WC.seq ?_
      refine WC.region ?_
      refine WL.move ?_
      refine WL.not ?_
      refine WL.move ?_
      refine WL.gT ?_
      refine WL.ldA ?_ agg25
      refine WL.gT ?_
      refine WL.ldA ?_ agg25
      refine WL.gT ?_
      refine WL.neStr (m := 7) (xs := [(p.n : Int), p.ino, p.im, p.bm, p.tb, p.da, p.dc]) (ys := [(p.n : Int), p.ino, p.im, p.bm, p.tb, p.da, p.dc]) ?_ planInts
      refine WL.cast (d := 70) (u := .bool false) rfl (congrArg Value.bool (by simp)) ?_
      refine WL.pickF ?_
      refine WL.nil ?_
      refine WQ.next ?_
      refine WC.condF rfl rfl ?_
      refine WC.skip ?_
      refine WQ.next ?_
      refine WC.seq ?_
      refine WC.region ?_
      refine WL.ldA ?_ agg25
      refine WL.call (hc := Tryz.call7) (sp := rNewMaps hp) (h := ?_)
      rintro _ _ ⟨m0, rfl, rfl⟩
      refine WL.assign ?_
      refine WL.nil ?_
      refine WQ.next ?_
      refine WC.seq ?_
      refine WC.region ?_
      refine WL.move ?_
      refine WL.call (hc := Tryz.call8) (sp := rCopy (m := m0) (bk := noneB) (ik := rootB) hp) (h := ?_)
      rintro _ _ ⟨m1, rfl, rfl⟩
      refine WL.assign ?_
      refine WL.nil ?_
      refine WQ.next ?_
      refine WC.seq ?_
      refine WC.seq ?_
      refine WC.region ?_
      refine WL.assign ?_
      refine WL.nil ?_
      refine WQ.next ?_
      refine WC.block ?_
      refine WC.loopA (σ := Nat × PSt) (fun s => [(2, .slice A L c0), (9, .pointer (some ⟨c, 0, none⟩)), (10, .pointer (some ⟨a, 0, none⟩)), (13, .pointer (some ⟨s.2.m, 0, none⟩)), (14, .pointer (some ⟨s.2.o, 0, none⟩)), (15, .int .i64 (s.1 : Int))]) (fun s => [R, AL a c p s.2.b0 s.2.k0 s.2.b s.2.k true, MP s.2.m p s.2.b s.2.k, MP s.2.o p s.2.b0 s.2.k0] ++ F) (fun s => s.1 ≤ L) (fun s => L - s.1) (0, ⟨m0, m1, noneB, rootB, noneB, rootB⟩) (by show 0 ≤ L; omega) ?_
      rintro ⟨i, y⟩ hi
      obtain ⟨m, o, b0, k0, b, k⟩ := y
      simp only at hi
      refine WC.seq ?_
      refine WC.seq ?_
      refine WC.region ?_
      refine WL.move ?_
      refine WL.move ?_
      refine WL.lenS ?_ sl22
      refine WL.lss ?_
      refine WL.nil ?_
      refine WQ.next ?_
      refine WC.cond rfl (fun hb => ?_) (fun hb => ?_)
      · have hlt : i < L := by have h : (i : Int) < (L : Int) := of_decide_eq_true hb; omega
        have hR := hR0.resolve_left (by intro h; subst h; simp at hL; omega)
        rcases A with _ | ⟨ab, ao, asp⟩
        · exact absurd hR (fun h => by have h2 : ints xs = [] := h; simp [ints] at h2; subst h2; simp at hL; omega)
        have hsp : asp = none := hR.1
        subst hsp
        obtain ⟨kd, hkd⟩ : ∃ kd, (ints xs)[((i : Nat) : Int).toNat * 2 + 0]? = some (.int .i64 kd) := ⟨_, ints_get (by omega)⟩
        obtain ⟨ar, har, harr⟩ : ∃ ar, (ints xs)[((i : Nat) : Int).toNat * 2 + 1]? = some (.int .i64 ar) ∧ (-9223372036854775808 ≤ ar ∧ ar ≤ 9223372036854775807) := ⟨_, ints_get (by omega), hxs _ (List.getElem_mem _)⟩
        refine WC.skip ?_
        refine WQ.next ?_
        refine WC.seq ?_
        refine WC.block ?_
        refine WC.seq ?_
        refine WC.seq ?_
        refine WC.region ?_
        refine WL.move ?_
        refine WL.move ?_
        refine WL.idx ?_ so22
        refine WL.fa ?_ fo36_0
        refine WL.ldR (i := ((i : Nat) : Int).toNat * 2 + 0) ?_ sc3 hR hkd
        refine WL.nil ?_
        refine WQ.next ?_
        refine WC.join (σ := PSt) (fun s => [(2, .slice (some ⟨ab, ao, none⟩) L c0), (9, .pointer (some ⟨c, 0, none⟩)), (10, .pointer (some ⟨a, 0, none⟩)), (13, .pointer (some ⟨s.m, 0, none⟩)), (14, .pointer (some ⟨s.o, 0, none⟩)), (15, .int .i64 (i : Int))]) (fun s => [R, AL a c p s.b0 s.k0 s.b s.k true, MP s.m p s.b s.k, MP s.o p s.b0 s.k0] ++ F) (fun _ => True) ?_ ?_
        · by_cases hk1 : kd = 1
          · refine WC.block ?_
            refine WC.seq ?_
            refine WC.region ?_
            refine WL.eqi ?_
            refine WL.assign ?_
            refine WL.nil ?_
            refine WQ.next ?_
            refine WC.condT rfl (congrArg Value.bool (by first | (simp; done) | (simp; omega) | omega)) ?_
            refine WC.seq ?_
            refine WC.region ?_
            refine WL.move ?_
            refine WL.call (hc := Tryz.call9) (sp := aTakeBlock (a := a) (c := c) (p := p) (bk0 := b0) (ik0 := k0) (bk := b) (ik := k) hp) (h := ?_)
            rintro _ _ (⟨j, hj, hj0, hjb, rfl, rfl⟩ | ⟨hall, rfl, rfl⟩)
            · refine WL.move ?_
              refine WL.extract ?_
              refine WL.extract ?_
              refine WL.assign ?_
              refine WL.assign ?_
              refine WL.nil ?_
              refine WQ.next ?_
              refine WC.seq ?_
              refine WC.region ?_
              refine WL.move ?_
              refine WL.call (hc := Tryz.call10) (sp := rTakeK (m := m) (p := p) (bk := b) (ik := k) hp hj hj0 hjb) (h := ?_)
              rintro _ _ ⟨rfl, rfl⟩
              refine WL.move ?_
              refine WL.extract ?_
              refine WL.extract ?_
              refine WL.assign ?_
              refine WL.assign ?_
              refine WL.nil ?_
              refine WQ.next ?_
              refine WC.seq ?_
              refine WC.region ?_
              refine WL.move ?_
              refine WL.move ?_
              refine WL.nei ?_
              refine WL.move ?_
              refine WL.cast (d := 102) (u := .bool false) rfl (congrArg Value.bool (by first | (simp; done) | (simp; omega) | omega)) ?_
              refine WL.gT ?_
              refine WL.move ?_
              refine WL.gT ?_
              refine WL.move ?_
              refine WL.gT ?_
              refine WL.nei ?_
              refine WL.pickF ?_
              refine WL.nil ?_
              refine WQ.next ?_
              refine WC.condF rfl (congrArg Value.bool (by first | (simp; done) | (simp; omega) | omega)) ?_
              refine WC.skip ?_
              refine WQ.blockNormal ?_
              exact WQ.joined ⟨m, o, b0, k0, setF b j true, k⟩ trivial
            · refine WL.move ?_
              refine WL.extract ?_
              refine WL.extract ?_
              refine WL.assign ?_
              refine WL.assign ?_
              refine WL.nil ?_
              refine WQ.next ?_
              refine WC.seq ?_
              refine WC.region ?_
              refine WL.move ?_
              refine WL.call (hc := Tryz.call10) (sp := rTakeFull (m := m) (p := p) (bk := b) (ik := k) hp hall) (h := ?_)
              rintro _ _ ⟨rfl, rfl⟩
              refine WL.move ?_
              refine WL.extract ?_
              refine WL.extract ?_
              refine WL.assign ?_
              refine WL.assign ?_
              refine WL.nil ?_
              refine WQ.next ?_
              refine WC.seq ?_
              refine WC.region ?_
              refine WL.move ?_
              refine WL.move ?_
              refine WL.nei ?_
              refine WL.move ?_
              refine WL.cast (d := 102) (u := .bool false) rfl (congrArg Value.bool (by first | (simp; done) | (simp; omega) | omega)) ?_
              refine WL.gT ?_
              refine WL.move ?_
              refine WL.gT ?_
              refine WL.move ?_
              refine WL.gT ?_
              refine WL.nei ?_
              refine WL.pickF ?_
              refine WL.nil ?_
              refine WQ.next ?_
              refine WC.condF rfl (congrArg Value.bool (by first | (simp; done) | (simp; omega) | omega)) ?_
              refine WC.skip ?_
              refine WQ.blockNormal ?_
              exact WQ.joined ⟨m, o, b0, k0, b, k⟩ trivial
          · by_cases hk2 : kd = 2
            · by_cases hg : (p.da : Int) ≤ ar ∧ ar < p.n ∧ b (ar - p.da).toNat = true
              · obtain ⟨j, hjr, hjd⟩ : ∃ j : Nat, ar = ((p.da + j : Nat) : Int) ∧ j < p.dc := ⟨(ar - p.da).toNat, by omega, by omega⟩
                subst hjr
                have hbj : b j = true := by
                  have := hg.2.2
                  rwa [show (((p.da + j : Nat) : Int) - (p.da : Int)).toNat = j from by omega] at this
                refine WC.block ?_
                refine WC.seq ?_
                refine WC.region ?_
                refine WL.eqi ?_
                refine WL.assign ?_
                refine WL.nil ?_
                refine WQ.next ?_
                refine WC.condF rfl (congrArg Value.bool (by first | (simp; done) | (simp; omega) | omega)) ?_
                refine WC.seq ?_
                refine WC.region ?_
                refine WL.eqi ?_
                refine WL.assign ?_
                refine WL.nil ?_
                refine WQ.next ?_
                refine WC.condT rfl (congrArg Value.bool (by first | (simp; done) | (simp; omega) | omega)) ?_
                refine WC.seq ?_
                refine WC.draw ([R]) [] 15 #[false, false, false, false, false, false, false, false, false, false, false, false, false, false, false] mixed (by kernel_rfl) NoPanic.autoJ ?_
                refine WD.take (i := 0) #[true, false, false, false, false, false, false, false, false, false, false, false, false, false, false] rfl (by kernel_rfl) (Qt.move ) ?_
                refine WD.take (i := 1) #[true, true, false, false, false, false, false, false, false, false, false, false, false, false, false] rfl (by kernel_rfl) (Qt.move ) ?_
                refine WD.take (i := 2) #[true, true, true, false, false, false, false, false, false, false, false, false, false, false, false] rfl (by kernel_rfl) (Qt.move ) ?_
                refine WD.take (i := 3) #[true, true, true, true, false, false, false, false, false, false, false, false, false, false, false] rfl (by kernel_rfl) (Qt.idx so22) ?_
                refine WD.take (i := 4) #[true, true, true, true, true, false, false, false, false, false, false, false, false, false, false] rfl (by kernel_rfl) (Qt.fa fo36_1) ?_
                refine WD.take (i := 5) #[true, true, true, true, true, true, false, false, false, false, false, false, false, false, false] rfl (by kernel_rfl) (Qt.ldR (i := ((i : Nat) : Int).toNat * 2 + 1) sc3 hR har) ?_
                refine WD.take (i := 7) #[true, true, true, true, true, true, false, true, false, false, false, false, false, false, false] rfl (by kernel_rfl) (Qt.move ) ?_
                refine WD.take (i := 8) #[true, true, true, true, true, true, false, true, true, false, false, false, false, false, false] rfl (by kernel_rfl) (Qt.move ) ?_
                refine WD.take (i := 9) #[true, true, true, true, true, true, false, true, true, true, false, false, false, false, false] rfl (by kernel_rfl) (Qt.move ) ?_
                refine WD.take (i := 10) #[true, true, true, true, true, true, false, true, true, true, true, false, false, false, false] rfl (by kernel_rfl) (Qt.idx so22) ?_
                refine WD.take (i := 11) #[true, true, true, true, true, true, false, true, true, true, true, true, false, false, false] rfl (by kernel_rfl) (Qt.fa fo36_1) ?_
                refine WD.take (i := 12) #[true, true, true, true, true, true, false, true, true, true, true, true, true, false, false] rfl (by kernel_rfl) (Qt.ldR (i := ((i : Nat) : Int).toNat * 2 + 1) sc3 hR har) ?_
                refine WD.one (i := 6) #[true, true, true, true, true, true, true, true, true, true, true, true, true, false, false] rfl (by kernel_rfl) fun hnp => ?_
                refine WL.call (hc := Tryz.call11) (sp := aGiveBlock (a := a) (c := c) (p := p) (bk0 := b0) (ik0 := k0) (bk := b) (ik := k) (k := j) hp hjd hbj) (h := ?_)
                rintro _ _ ⟨rfl, rfl⟩
                refine WL.nil (WQ.wd hnp (.inl Am.auto) ?_)
                refine WD.one (i := 13) #[true, true, true, true, true, true, true, true, true, true, true, true, true, true, false] rfl (by kernel_rfl) fun hnp => ?_
                refine WL.call (hc := Tryz.call12) (sp := rGive (m := m) (p := p) (bk := b) (ik := k) (j := j) hp hjd hbj) (h := ?_)
                rintro _ _ ⟨rfl, rfl⟩
                refine WL.nil (WQ.wd hnp (.inl Am.auto) ?_)
                refine WD.take (i := 14) #[true, true, true, true, true, true, true, true, true, true, true, true, true, true, true] rfl (by kernel_rfl) (Qt.nei ) ?_
                refine WD.done (by kernel_rfl) ?_
                refine WQ.next ?_
                refine WC.condF rfl (congrArg Value.bool (by first | (simp; done) | (simp; omega) | omega)) ?_
                refine WC.skip ?_
                refine WQ.blockNormal ?_
                exact WQ.joined ⟨m, o, b0, k0, setF b j false, k⟩ trivial
              · have hno : ar < p.da ∨ (p.n : Int) ≤ ar ∨ (p.da ≤ ar ∧ ar < p.n ∧ b (ar - p.da).toNat = false) := by
                  by_cases h1 : ar < p.da
                  · exact .inl h1
                  · by_cases h2 : (p.n : Int) ≤ ar
                    · exact .inr (.inl h2)
                    · refine .inr (.inr ⟨by omega, by omega, ?_⟩)
                      cases h3 : b (ar - p.da).toNat with
                      | false => rfl
                      | true => exact absurd ⟨by omega, by omega, h3⟩ hg
                refine WC.block ?_
                refine WC.seq ?_
                refine WC.region ?_
                refine WL.eqi ?_
                refine WL.assign ?_
                refine WL.nil ?_
                refine WQ.next ?_
                refine WC.condF rfl (congrArg Value.bool (by first | (simp; done) | (simp; omega) | omega)) ?_
                refine WC.seq ?_
                refine WC.region ?_
                refine WL.eqi ?_
                refine WL.assign ?_
                refine WL.nil ?_
                refine WQ.next ?_
                refine WC.condT rfl (congrArg Value.bool (by first | (simp; done) | (simp; omega) | omega)) ?_
                refine WC.seq ?_
                refine WC.draw ([R]) [] 15 #[false, false, false, false, false, false, false, false, false, false, false, false, false, false, false] mixed (by kernel_rfl) NoPanic.autoJ ?_
                refine WD.take (i := 0) #[true, false, false, false, false, false, false, false, false, false, false, false, false, false, false] rfl (by kernel_rfl) (Qt.move ) ?_
                refine WD.take (i := 1) #[true, true, false, false, false, false, false, false, false, false, false, false, false, false, false] rfl (by kernel_rfl) (Qt.move ) ?_
                refine WD.take (i := 2) #[true, true, true, false, false, false, false, false, false, false, false, false, false, false, false] rfl (by kernel_rfl) (Qt.move ) ?_
                refine WD.take (i := 3) #[true, true, true, true, false, false, false, false, false, false, false, false, false, false, false] rfl (by kernel_rfl) (Qt.idx so22) ?_
                refine WD.take (i := 4) #[true, true, true, true, true, false, false, false, false, false, false, false, false, false, false] rfl (by kernel_rfl) (Qt.fa fo36_1) ?_
                refine WD.take (i := 5) #[true, true, true, true, true, true, false, false, false, false, false, false, false, false, false] rfl (by kernel_rfl) (Qt.ldR (i := ((i : Nat) : Int).toNat * 2 + 1) sc3 hR har) ?_
                refine WD.take (i := 7) #[true, true, true, true, true, true, false, true, false, false, false, false, false, false, false] rfl (by kernel_rfl) (Qt.move ) ?_
                refine WD.take (i := 8) #[true, true, true, true, true, true, false, true, true, false, false, false, false, false, false] rfl (by kernel_rfl) (Qt.move ) ?_
                refine WD.take (i := 9) #[true, true, true, true, true, true, false, true, true, true, false, false, false, false, false] rfl (by kernel_rfl) (Qt.move ) ?_
                refine WD.take (i := 10) #[true, true, true, true, true, true, false, true, true, true, true, false, false, false, false] rfl (by kernel_rfl) (Qt.idx so22) ?_
                refine WD.take (i := 11) #[true, true, true, true, true, true, false, true, true, true, true, true, false, false, false] rfl (by kernel_rfl) (Qt.fa fo36_1) ?_
                refine WD.take (i := 12) #[true, true, true, true, true, true, false, true, true, true, true, true, true, false, false] rfl (by kernel_rfl) (Qt.ldR (i := ((i : Nat) : Int).toNat * 2 + 1) sc3 hR har) ?_
                refine WD.one (i := 6) #[true, true, true, true, true, true, true, true, true, true, true, true, true, false, false] rfl (by kernel_rfl) fun hnp => ?_
                refine WL.call (hc := Tryz.call11) (sp := aGiveBlockNo (a := a) (c := c) (p := p) (bk0 := b0) (ik0 := k0) (bk := b) (ik := k) (k := ar) hp hno harr) (h := ?_)
                rintro _ _ ⟨rfl, rfl⟩
                refine WL.nil (WQ.wd hnp (.inl Am.auto) ?_)
                refine WD.one (i := 13) #[true, true, true, true, true, true, true, true, true, true, true, true, true, true, false] rfl (by kernel_rfl) fun hnp => ?_
                refine WL.call (hc := Tryz.call12) (sp := rGiveNo (m := m) (p := p) (bk := b) (ik := k) (k := ar) hp hno harr) (h := ?_)
                rintro _ _ ⟨rfl, rfl⟩
                refine WL.nil (WQ.wd hnp (.inl Am.auto) ?_)
                refine WD.take (i := 14) #[true, true, true, true, true, true, true, true, true, true, true, true, true, true, true] rfl (by kernel_rfl) (Qt.nei ) ?_
                refine WD.done (by kernel_rfl) ?_
                refine WQ.next ?_
                refine WC.condF rfl (congrArg Value.bool (by first | (simp; done) | (simp; omega) | omega)) ?_
                refine WC.skip ?_
                refine WQ.blockNormal ?_
                exact WQ.joined ⟨m, o, b0, k0, b, k⟩ trivial
            · by_cases hk3 : kd = 3
              · refine WC.block ?_
                refine WC.seq ?_
                refine WC.region ?_
                refine WL.eqi ?_
                refine WL.assign ?_
                refine WL.nil ?_
                refine WQ.next ?_
                refine WC.condF rfl (congrArg Value.bool (by first | (simp; done) | (simp; omega) | omega)) ?_
                refine WC.seq ?_
                refine WC.region ?_
                refine WL.eqi ?_
                refine WL.assign ?_
                refine WL.nil ?_
                refine WQ.next ?_
                refine WC.condF rfl (congrArg Value.bool (by first | (simp; done) | (simp; omega) | omega)) ?_
                refine WC.seq ?_
                refine WC.region ?_
                refine WL.eqi ?_
                refine WL.assign ?_
                refine WL.nil ?_
                refine WQ.next ?_
                refine WC.condT rfl (congrArg Value.bool (by first | (simp; done) | (simp; omega) | omega)) ?_
                refine WC.seq ?_
                refine WC.region ?_
                refine WL.move ?_
                refine WL.call (hc := Tryz.call13) (sp := aTakeInode (a := a) (c := c) (p := p) (bk0 := b0) (ik0 := k0) (bk := b) (ik := k) hp) (h := ?_)
                rintro _ _ (⟨j, hj, hj0, hjb, rfl, rfl⟩ | ⟨hall, rfl, rfl⟩)
                · refine WL.move ?_
                  refine WL.extract ?_
                  refine WL.extract ?_
                  refine WL.assign ?_
                  refine WL.assign ?_
                  refine WL.nil ?_
                  refine WQ.next ?_
                  refine WC.seq ?_
                  refine WC.region ?_
                  refine WL.move ?_
                  refine WL.call (hc := Tryz.call14) (sp := rTakeI (m := m) (p := p) (bk := b) (ik := k) hp hj hj0 hjb) (h := ?_)
                  rintro _ _ ⟨rfl, rfl⟩
                  refine WL.move ?_
                  refine WL.extract ?_
                  refine WL.extract ?_
                  refine WL.assign ?_
                  refine WL.assign ?_
                  refine WL.nil ?_
                  refine WQ.next ?_
                  refine WC.seq ?_
                  refine WC.region ?_
                  refine WL.move ?_
                  refine WL.move ?_
                  refine WL.nei ?_
                  refine WL.move ?_
                  refine WL.cast (d := 139) (u := .bool false) rfl (congrArg Value.bool (by first | (simp; done) | (simp; omega) | omega)) ?_
                  refine WL.gT ?_
                  refine WL.move ?_
                  refine WL.gT ?_
                  refine WL.move ?_
                  refine WL.gT ?_
                  refine WL.nei ?_
                  refine WL.pickF ?_
                  refine WL.nil ?_
                  refine WQ.next ?_
                  refine WC.condF rfl (congrArg Value.bool (by first | (simp; done) | (simp; omega) | omega)) ?_
                  refine WC.skip ?_
                  refine WQ.blockNormal ?_
                  exact WQ.joined ⟨m, o, b0, k0, b, setF k j true⟩ trivial
                · refine WL.move ?_
                  refine WL.extract ?_
                  refine WL.extract ?_
                  refine WL.assign ?_
                  refine WL.assign ?_
                  refine WL.nil ?_
                  refine WQ.next ?_
                  refine WC.seq ?_
                  refine WC.region ?_
                  refine WL.move ?_
                  refine WL.call (hc := Tryz.call14) (sp := rTakeIFull (m := m) (p := p) (bk := b) (ik := k) hp hall) (h := ?_)
                  rintro _ _ ⟨rfl, rfl⟩
                  refine WL.move ?_
                  refine WL.extract ?_
                  refine WL.extract ?_
                  refine WL.assign ?_
                  refine WL.assign ?_
                  refine WL.nil ?_
                  refine WQ.next ?_
                  refine WC.seq ?_
                  refine WC.region ?_
                  refine WL.move ?_
                  refine WL.move ?_
                  refine WL.nei ?_
                  refine WL.move ?_
                  refine WL.cast (d := 139) (u := .bool false) rfl (congrArg Value.bool (by first | (simp; done) | (simp; omega) | omega)) ?_
                  refine WL.gT ?_
                  refine WL.move ?_
                  refine WL.gT ?_
                  refine WL.move ?_
                  refine WL.gT ?_
                  refine WL.nei ?_
                  refine WL.pickF ?_
                  refine WL.nil ?_
                  refine WQ.next ?_
                  refine WC.condF rfl (congrArg Value.bool (by first | (simp; done) | (simp; omega) | omega)) ?_
                  refine WC.skip ?_
                  refine WQ.blockNormal ?_
                  exact WQ.joined ⟨m, o, b0, k0, b, k⟩ trivial
              · by_cases hk4 : kd = 4
                · by_cases hg : 1 ≤ ar ∧ ar < (p.ino : Int) ∧ k ar.toNat = true
                  · obtain ⟨j, hjr, hj1, hjd⟩ : ∃ j : Nat, ar = (j : Int) ∧ 1 ≤ j ∧ j < p.ino := ⟨ar.toNat, by omega, by omega, by omega⟩
                    subst hjr
                    have hbj : k j = true := by
                      have := hg.2.2
                      rwa [Int.toNat_natCast] at this
                    refine WC.block ?_
                    refine WC.seq ?_
                    refine WC.region ?_
                    refine WL.eqi ?_
                    refine WL.assign ?_
                    refine WL.nil ?_
                    refine WQ.next ?_
                    refine WC.condF rfl (congrArg Value.bool (by first | (simp; done) | (simp; omega) | omega)) ?_
                    refine WC.seq ?_
                    refine WC.region ?_
                    refine WL.eqi ?_
                    refine WL.assign ?_
                    refine WL.nil ?_
                    refine WQ.next ?_
                    refine WC.condF rfl (congrArg Value.bool (by first | (simp; done) | (simp; omega) | omega)) ?_
                    refine WC.seq ?_
                    refine WC.region ?_
                    refine WL.eqi ?_
                    refine WL.assign ?_
                    refine WL.nil ?_
                    refine WQ.next ?_
                    refine WC.condF rfl (congrArg Value.bool (by first | (simp; done) | (simp; omega) | omega)) ?_
                    refine WC.seq ?_
                    refine WC.region ?_
                    refine WL.eqi ?_
                    refine WL.assign ?_
                    refine WL.nil ?_
                    refine WQ.next ?_
                    refine WC.condT rfl (congrArg Value.bool (by first | (simp; done) | (simp; omega) | omega)) ?_
                    refine WC.seq ?_
                    refine WC.draw ([R]) [] 15 #[false, false, false, false, false, false, false, false, false, false, false, false, false, false, false] mixed (by kernel_rfl) NoPanic.autoJ ?_
                    refine WD.take (i := 0) #[true, false, false, false, false, false, false, false, false, false, false, false, false, false, false] rfl (by kernel_rfl) (Qt.move ) ?_
                    refine WD.take (i := 1) #[true, true, false, false, false, false, false, false, false, false, false, false, false, false, false] rfl (by kernel_rfl) (Qt.move ) ?_
                    refine WD.take (i := 2) #[true, true, true, false, false, false, false, false, false, false, false, false, false, false, false] rfl (by kernel_rfl) (Qt.move ) ?_
                    refine WD.take (i := 3) #[true, true, true, true, false, false, false, false, false, false, false, false, false, false, false] rfl (by kernel_rfl) (Qt.idx so22) ?_
                    refine WD.take (i := 4) #[true, true, true, true, true, false, false, false, false, false, false, false, false, false, false] rfl (by kernel_rfl) (Qt.fa fo36_1) ?_
                    refine WD.take (i := 5) #[true, true, true, true, true, true, false, false, false, false, false, false, false, false, false] rfl (by kernel_rfl) (Qt.ldR (i := ((i : Nat) : Int).toNat * 2 + 1) sc3 hR har) ?_
                    refine WD.take (i := 7) #[true, true, true, true, true, true, false, true, false, false, false, false, false, false, false] rfl (by kernel_rfl) (Qt.move ) ?_
                    refine WD.take (i := 8) #[true, true, true, true, true, true, false, true, true, false, false, false, false, false, false] rfl (by kernel_rfl) (Qt.move ) ?_
                    refine WD.take (i := 9) #[true, true, true, true, true, true, false, true, true, true, false, false, false, false, false] rfl (by kernel_rfl) (Qt.move ) ?_
                    refine WD.take (i := 10) #[true, true, true, true, true, true, false, true, true, true, true, false, false, false, false] rfl (by kernel_rfl) (Qt.idx so22) ?_
                    refine WD.take (i := 11) #[true, true, true, true, true, true, false, true, true, true, true, true, false, false, false] rfl (by kernel_rfl) (Qt.fa fo36_1) ?_
                    refine WD.take (i := 12) #[true, true, true, true, true, true, false, true, true, true, true, true, true, false, false] rfl (by kernel_rfl) (Qt.ldR (i := ((i : Nat) : Int).toNat * 2 + 1) sc3 hR har) ?_
                    refine WD.one (i := 6) #[true, true, true, true, true, true, true, true, true, true, true, true, true, false, false] rfl (by kernel_rfl) fun hnp => ?_
                    refine WL.call (hc := Tryz.call15) (sp := aGiveInode (a := a) (c := c) (p := p) (bk0 := b0) (ik0 := k0) (bk := b) (ik := k) (k := j) hp hj1 hjd hbj) (h := ?_)
                    rintro _ _ ⟨rfl, rfl⟩
                    refine WL.nil (WQ.wd hnp (.inl Am.auto) ?_)
                    refine WD.one (i := 13) #[true, true, true, true, true, true, true, true, true, true, true, true, true, true, false] rfl (by kernel_rfl) fun hnp => ?_
                    refine WL.call (hc := Tryz.call16) (sp := rGiveI (m := m) (p := p) (bk := b) (ik := k) (j := j) hp hj1 hjd hbj) (h := ?_)
                    rintro _ _ ⟨rfl, rfl⟩
                    refine WL.nil (WQ.wd hnp (.inl Am.auto) ?_)
                    refine WD.take (i := 14) #[true, true, true, true, true, true, true, true, true, true, true, true, true, true, true] rfl (by kernel_rfl) (Qt.nei ) ?_
                    refine WD.done (by kernel_rfl) ?_
                    refine WQ.next ?_
                    refine WC.condF rfl (congrArg Value.bool (by first | (simp; done) | (simp; omega) | omega)) ?_
                    refine WC.skip ?_
                    refine WQ.blockNormal ?_
                    exact WQ.joined ⟨m, o, b0, k0, b, setF k j false⟩ trivial
                  · have hno : ar ≤ 0 ∨ (p.ino : Int) ≤ ar ∨ (0 ≤ ar ∧ ar < p.ino ∧ k ar.toNat = false) := by
                      by_cases h1 : ar ≤ 0
                      · exact .inl h1
                      · by_cases h2 : (p.ino : Int) ≤ ar
                        · exact .inr (.inl h2)
                        · refine .inr (.inr ⟨by omega, by omega, ?_⟩)
                          cases h3 : k ar.toNat with
                          | false => rfl
                          | true => exact absurd ⟨by omega, by omega, h3⟩ hg
                    refine WC.block ?_
                    refine WC.seq ?_
                    refine WC.region ?_
                    refine WL.eqi ?_
                    refine WL.assign ?_
                    refine WL.nil ?_
                    refine WQ.next ?_
                    refine WC.condF rfl (congrArg Value.bool (by first | (simp; done) | (simp; omega) | omega)) ?_
                    refine WC.seq ?_
                    refine WC.region ?_
                    refine WL.eqi ?_
                    refine WL.assign ?_
                    refine WL.nil ?_
                    refine WQ.next ?_
                    refine WC.condF rfl (congrArg Value.bool (by first | (simp; done) | (simp; omega) | omega)) ?_
                    refine WC.seq ?_
                    refine WC.region ?_
                    refine WL.eqi ?_
                    refine WL.assign ?_
                    refine WL.nil ?_
                    refine WQ.next ?_
                    refine WC.condF rfl (congrArg Value.bool (by first | (simp; done) | (simp; omega) | omega)) ?_
                    refine WC.seq ?_
                    refine WC.region ?_
                    refine WL.eqi ?_
                    refine WL.assign ?_
                    refine WL.nil ?_
                    refine WQ.next ?_
                    refine WC.condT rfl (congrArg Value.bool (by first | (simp; done) | (simp; omega) | omega)) ?_
                    refine WC.seq ?_
                    refine WC.draw ([R]) [] 15 #[false, false, false, false, false, false, false, false, false, false, false, false, false, false, false] mixed (by kernel_rfl) NoPanic.autoJ ?_
                    refine WD.take (i := 0) #[true, false, false, false, false, false, false, false, false, false, false, false, false, false, false] rfl (by kernel_rfl) (Qt.move ) ?_
                    refine WD.take (i := 1) #[true, true, false, false, false, false, false, false, false, false, false, false, false, false, false] rfl (by kernel_rfl) (Qt.move ) ?_
                    refine WD.take (i := 2) #[true, true, true, false, false, false, false, false, false, false, false, false, false, false, false] rfl (by kernel_rfl) (Qt.move ) ?_
                    refine WD.take (i := 3) #[true, true, true, true, false, false, false, false, false, false, false, false, false, false, false] rfl (by kernel_rfl) (Qt.idx so22) ?_
                    refine WD.take (i := 4) #[true, true, true, true, true, false, false, false, false, false, false, false, false, false, false] rfl (by kernel_rfl) (Qt.fa fo36_1) ?_
                    refine WD.take (i := 5) #[true, true, true, true, true, true, false, false, false, false, false, false, false, false, false] rfl (by kernel_rfl) (Qt.ldR (i := ((i : Nat) : Int).toNat * 2 + 1) sc3 hR har) ?_
                    refine WD.take (i := 7) #[true, true, true, true, true, true, false, true, false, false, false, false, false, false, false] rfl (by kernel_rfl) (Qt.move ) ?_
                    refine WD.take (i := 8) #[true, true, true, true, true, true, false, true, true, false, false, false, false, false, false] rfl (by kernel_rfl) (Qt.move ) ?_
                    refine WD.take (i := 9) #[true, true, true, true, true, true, false, true, true, true, false, false, false, false, false] rfl (by kernel_rfl) (Qt.move ) ?_
                    refine WD.take (i := 10) #[true, true, true, true, true, true, false, true, true, true, true, false, false, false, false] rfl (by kernel_rfl) (Qt.idx so22) ?_
                    refine WD.take (i := 11) #[true, true, true, true, true, true, false, true, true, true, true, true, false, false, false] rfl (by kernel_rfl) (Qt.fa fo36_1) ?_
                    refine WD.take (i := 12) #[true, true, true, true, true, true, false, true, true, true, true, true, true, false, false] rfl (by kernel_rfl) (Qt.ldR (i := ((i : Nat) : Int).toNat * 2 + 1) sc3 hR har) ?_
                    refine WD.one (i := 6) #[true, true, true, true, true, true, true, true, true, true, true, true, true, false, false] rfl (by kernel_rfl) fun hnp => ?_
                    refine WL.call (hc := Tryz.call15) (sp := aGiveInodeNo (a := a) (c := c) (p := p) (bk0 := b0) (ik0 := k0) (bk := b) (ik := k) (k := ar) hp hno) (h := ?_)
                    rintro _ _ ⟨rfl, rfl⟩
                    refine WL.nil (WQ.wd hnp (.inl Am.auto) ?_)
                    refine WD.one (i := 13) #[true, true, true, true, true, true, true, true, true, true, true, true, true, true, false] rfl (by kernel_rfl) fun hnp => ?_
                    refine WL.call (hc := Tryz.call16) (sp := rGiveINo (m := m) (p := p) (bk := b) (ik := k) (k := ar) hp hno) (h := ?_)
                    rintro _ _ ⟨rfl, rfl⟩
                    refine WL.nil (WQ.wd hnp (.inl Am.auto) ?_)
                    refine WD.take (i := 14) #[true, true, true, true, true, true, true, true, true, true, true, true, true, true, true] rfl (by kernel_rfl) (Qt.nei ) ?_
                    refine WD.done (by kernel_rfl) ?_
                    refine WQ.next ?_
                    refine WC.condF rfl (congrArg Value.bool (by first | (simp; done) | (simp; omega) | omega)) ?_
                    refine WC.skip ?_
                    refine WQ.blockNormal ?_
                    exact WQ.joined ⟨m, o, b0, k0, b, k⟩ trivial
                · by_cases hk5 : kd = 5
                  · refine WC.block ?_
                    refine WC.seq ?_
                    refine WC.region ?_
                    refine WL.eqi ?_
                    refine WL.assign ?_
                    refine WL.nil ?_
                    refine WQ.next ?_
                    refine WC.condF rfl (congrArg Value.bool (by first | (simp; done) | (simp; omega) | omega)) ?_
                    refine WC.seq ?_
                    refine WC.region ?_
                    refine WL.eqi ?_
                    refine WL.assign ?_
                    refine WL.nil ?_
                    refine WQ.next ?_
                    refine WC.condF rfl (congrArg Value.bool (by first | (simp; done) | (simp; omega) | omega)) ?_
                    refine WC.seq ?_
                    refine WC.region ?_
                    refine WL.eqi ?_
                    refine WL.assign ?_
                    refine WL.nil ?_
                    refine WQ.next ?_
                    refine WC.condF rfl (congrArg Value.bool (by first | (simp; done) | (simp; omega) | omega)) ?_
                    refine WC.seq ?_
                    refine WC.region ?_
                    refine WL.eqi ?_
                    refine WL.assign ?_
                    refine WL.nil ?_
                    refine WQ.next ?_
                    refine WC.condF rfl (congrArg Value.bool (by first | (simp; done) | (simp; omega) | omega)) ?_
                    refine WC.seq ?_
                    refine WC.region ?_
                    refine WL.eqi ?_
                    refine WL.assign ?_
                    refine WL.nil ?_
                    refine WQ.next ?_
                    refine WC.condT rfl (congrArg Value.bool (by first | (simp; done) | (simp; omega) | omega)) ?_
                    refine WC.seq ?_
                    refine WC.seq ?_
                    refine WC.region ?_
                    refine WL.move ?_
                    refine WL.call (hc := Tryz.call17) (sp := aCommit (a := a) (c := c) (p := p) (bk0 := b0) (ik0 := k0) (bk := b) (ik := k)) (h := ?_)
                    rintro _ _ ⟨rfl, rfl⟩
                    refine WL.nei ?_
                    refine WL.move ?_
                    refine WL.gT ?_
                    refine WL.move ?_
                    refine WL.gT ?_
                    refine WL.call (hc := Tryz.call18) (sp := aBegin (a := a) (c := c) (p := p) (bk0 := b) (ik0 := k) (bk := b) (ik := k)) (h := ?_)
                    rintro _ _ ⟨rfl, rfl⟩
                    refine WL.gT ?_
                    refine WL.nei ?_
                    refine WL.pickF ?_
                    refine WL.nil ?_
                    refine WQ.next ?_
                    refine WC.condF rfl rfl ?_
                    refine WC.skip ?_
                    refine WQ.next ?_
                    refine WC.region ?_
                    refine WL.move ?_
                    refine WL.call (hc := Tryz.call8) (sp := rCopy (m := m) (p := p) (bk := b) (ik := k) hp) (h := ?_)
                    rintro _ _ ⟨m2, rfl, rfl⟩
                    refine WL.assign ?_
                    refine WL.nil ?_
                    refine WQ.blockNormal ?_
                    exact WQ.joined ⟨m, m2, b, k, b, k⟩ trivial
                  · by_cases hk6 : kd = 6
                    · refine WC.block ?_
                      refine WC.seq ?_
                      refine WC.region ?_
                      refine WL.eqi ?_
                      refine WL.assign ?_
                      refine WL.nil ?_
                      refine WQ.next ?_
                      refine WC.condF rfl (congrArg Value.bool (by first | (simp; done) | (simp; omega) | omega)) ?_
                      refine WC.seq ?_
                      refine WC.region ?_
                      refine WL.eqi ?_
                      refine WL.assign ?_
                      refine WL.nil ?_
                      refine WQ.next ?_
                      refine WC.condF rfl (congrArg Value.bool (by first | (simp; done) | (simp; omega) | omega)) ?_
                      refine WC.seq ?_
                      refine WC.region ?_
                      refine WL.eqi ?_
                      refine WL.assign ?_
                      refine WL.nil ?_
                      refine WQ.next ?_
                      refine WC.condF rfl (congrArg Value.bool (by first | (simp; done) | (simp; omega) | omega)) ?_
                      refine WC.seq ?_
                      refine WC.region ?_
                      refine WL.eqi ?_
                      refine WL.assign ?_
                      refine WL.nil ?_
                      refine WQ.next ?_
                      refine WC.condF rfl (congrArg Value.bool (by first | (simp; done) | (simp; omega) | omega)) ?_
                      refine WC.seq ?_
                      refine WC.region ?_
                      refine WL.eqi ?_
                      refine WL.assign ?_
                      refine WL.nil ?_
                      refine WQ.next ?_
                      refine WC.condF rfl (congrArg Value.bool (by first | (simp; done) | (simp; omega) | omega)) ?_
                      refine WC.seq ?_
                      refine WC.region ?_
                      refine WL.eqi ?_
                      refine WL.assign ?_
                      refine WL.nil ?_
                      refine WQ.next ?_
                      refine WC.condT rfl (congrArg Value.bool (by first | (simp; done) | (simp; omega) | omega)) ?_
                      refine WC.seq ?_
                      refine WC.seq ?_
                      refine WC.region ?_
                      refine WL.move ?_
                      refine WL.call (hc := Tryz.call19) (sp := aAbort (a := a) (c := c) (p := p) (bk0 := b0) (ik0 := k0) (bk := b) (ik := k)) (h := ?_)
                      rintro _ _ ⟨rfl, rfl⟩
                      refine WL.nei ?_
                      refine WL.move ?_
                      refine WL.gT ?_
                      refine WL.move ?_
                      refine WL.gT ?_
                      refine WL.call (hc := Tryz.call18) (sp := aBegin (a := a) (c := c) (p := p) (bk0 := b0) (ik0 := k0) (bk := b0) (ik := k0)) (h := ?_)
                      rintro _ _ ⟨rfl, rfl⟩
                      refine WL.gT ?_
                      refine WL.nei ?_
                      refine WL.pickF ?_
                      refine WL.nil ?_
                      refine WQ.next ?_
                      refine WC.condF rfl rfl ?_
                      refine WC.skip ?_
                      refine WQ.next ?_
                      refine WC.region ?_
                      refine WL.move ?_
                      refine WL.call (hc := Tryz.call8) (sp := rCopy (m := o) (p := p) (bk := b0) (ik := k0) hp) (h := ?_)
                      rintro _ _ ⟨m2, rfl, rfl⟩
                      refine WL.assign ?_
                      refine WL.nil ?_
                      refine WQ.blockNormal ?_
                      exact WQ.joined ⟨m2, o, b0, k0, b0, k0⟩ trivial
                    · refine WC.block ?_
                      refine WC.seq ?_
                      refine WC.region ?_
                      refine WL.eqi ?_
                      refine WL.assign ?_
                      refine WL.nil ?_
                      refine WQ.next ?_
                      refine WC.condF rfl (congrArg Value.bool (by first | (simp; done) | (simp; omega) | omega)) ?_
                      refine WC.seq ?_
                      refine WC.region ?_
                      refine WL.eqi ?_
                      refine WL.assign ?_
                      refine WL.nil ?_
                      refine WQ.next ?_
                      refine WC.condF rfl (congrArg Value.bool (by first | (simp; done) | (simp; omega) | omega)) ?_
                      refine WC.seq ?_
                      refine WC.region ?_
                      refine WL.eqi ?_
                      refine WL.assign ?_
                      refine WL.nil ?_
                      refine WQ.next ?_
                      refine WC.condF rfl (congrArg Value.bool (by first | (simp; done) | (simp; omega) | omega)) ?_
                      refine WC.seq ?_
                      refine WC.region ?_
                      refine WL.eqi ?_
                      refine WL.assign ?_
                      refine WL.nil ?_
                      refine WQ.next ?_
                      refine WC.condF rfl (congrArg Value.bool (by first | (simp; done) | (simp; omega) | omega)) ?_
                      refine WC.seq ?_
                      refine WC.region ?_
                      refine WL.eqi ?_
                      refine WL.assign ?_
                      refine WL.nil ?_
                      refine WQ.next ?_
                      refine WC.condF rfl (congrArg Value.bool (by first | (simp; done) | (simp; omega) | omega)) ?_
                      refine WC.seq ?_
                      refine WC.region ?_
                      refine WL.eqi ?_
                      refine WL.assign ?_
                      refine WL.nil ?_
                      refine WQ.next ?_
                      refine WC.condF rfl (congrArg Value.bool (by first | (simp; done) | (simp; omega) | omega)) ?_
                      refine WC.skip ?_
                      refine WQ.blockNormal ?_
                      exact WQ.joined ⟨m, o, b0, k0, b, k⟩ trivial
        · rintro ⟨m1, o1, b01, k01, b1, k1⟩ _
          simp only
          refine WQ.next ?_
          refine WC.seq ?_
          refine WC.region ?_
          refine WL.move ?_
          refine WL.call (hc := Tryz.call20) (sp := aFree (a := a) (c := c) (p := p) (bk0 := b01) (ik0 := k01) (bk := b1) (ik := k1) (op := true) hp) (h := ?_)
          rintro _ _ ⟨rfl, rfl⟩
          refine WL.move ?_
          refine WL.extract ?_
          refine WL.extract ?_
          refine WL.assign ?_
          refine WL.assign ?_
          refine WL.nil ?_
          refine WQ.next ?_
          refine WC.seq ?_
          refine WC.region ?_
          refine WL.move ?_
          refine WL.call (hc := Tryz.call21) (sp := rFreeM (m := m1) (p := p) (bk := b1) (ik := k1) hp) (h := ?_)
          rintro _ _ ⟨rfl, rfl⟩
          refine WL.move ?_
          refine WL.extract ?_
          refine WL.extract ?_
          refine WL.assign ?_
          refine WL.assign ?_
          refine WL.nil ?_
          refine WQ.next ?_
          refine WC.seq ?_
          refine WC.region ?_
          refine WL.move ?_
          refine WL.move ?_
          refine WL.nei ?_
          refine WL.move ?_
          refine WL.cast (d := 198) (u := .bool false) rfl (congrArg Value.bool (by first | (simp; done) | (simp; omega) | omega)) ?_
          refine WL.gT ?_
          refine WL.move ?_
          refine WL.gT ?_
          refine WL.move ?_
          refine WL.gT ?_
          refine WL.nei ?_
          refine WL.pickF ?_
          refine WL.nil ?_
          refine WQ.next ?_
          refine WC.condF rfl (congrArg Value.bool (by first | (simp; done) | (simp; omega) | omega)) ?_
          refine WC.skip ?_
          refine WQ.blockNormal ?_
          refine WQ.next ?_
          refine WC.region ?_
          refine WL.move ?_
          refine WL.add ?_
          refine WL.assign ?_
          refine WL.nil ?_
          refine WQ.cast (d := 15) (u := .int .i64 ((i + 1 : Nat) : Int)) rfl (congrArg (Value.int .i64) (by omega)) ?_
          exact WQ.back (i + 1, ⟨m1, o1, b01, k01, b1, k1⟩) (by show i + 1 ≤ L; omega) (by show L - (i + 1) < L - i; omega)
      · refine WC.exit (WQ.thenExit (WQ.thenExit (WQ.blockExit (?_))))
        refine WQ.next ?_
        refine WC.seq ?_
        refine WC.region ?_
        refine WL.call (hc := Tryz.call4) (sp := lawAwake) (h := ?_)
        rintro _ _ ⟨rfl, rfl⟩
        refine WL.assign ?_
        refine WL.nil ?_
        refine WQ.next ?_
        refine WC.ret (?_)
        exact WQ.ret1 (h1 := .tmp (t := 6) rfl) ⟨_, ⟨rfl, rfl⟩, Am.auto⟩
    · refine WL.move ?_
      refine WL.extract ?_
      refine WL.extract ?_
      refine WL.alloc z25 fun b7 => ?_
      refine WL.stV ?_ agg25
      refine WL.assign ?_
      refine WL.nil ?_
      refine WQ.next ?_
      refine WC.seq ?_
      refine WC.seq ?_
      refine WC.region ?_
      refine WL.move ?_
      refine WL.nei ?_
      refine WL.nil ?_
      refine WQ.next ?_
      refine WC.condT rfl rfl ?_
      refine WC.seq ?_
      refine WC.region ?_
      refine WL.call (hc := Tryz.call4) (sp := lawAwake) (h := ?_)
      rintro _ _ ⟨rfl, rfl⟩
      refine WL.assign ?_
      refine WL.nil ?_
      refine WQ.next ?_
      refine WC.ret (WQ.thenRet (?_))
      exact WQ.ret1 (h1 := .tmp (t := 6) rfl) ⟨_, ⟨rfl, rfl⟩, Am.auto⟩

end Go.Proofs.YtfmkhhdohfagkaaGreat
