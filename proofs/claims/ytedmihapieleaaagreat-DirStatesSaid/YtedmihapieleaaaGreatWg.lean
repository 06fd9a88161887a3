/- Walks of package journal: Open, on a device without a commit of its generation. -/
import Derived.Test.YtedmihapieleaaaGreatFa
import Derived.Test.YtedmihapieleaaaGreatWf
import Derived.KernelRfl
set_option linter.unusedVariables false
set_option linter.unusedSimpArgs false
namespace Go.Proofs.YtedmihapieleaaaGreat
open Go

theorem bdJ (d : Nat) (gn : Nat) (m : Nat) : BuildOk Tryz.prog 149 [(0, .pointer (some ⟨d, 0, none⟩)), (1, .int .u64 (gn : Int)), (5, .map (some m))] #[.pointer (some ⟨d, 0, none⟩), .int .u64 (gn : Int), .int .u64 0, .bool false, .slice none 0 0, .map (some m)] := fun w => by kernel_rfl
def NoHead (gen : Nat) (xs : Bytes) : Prop := xs.take 8 ≠ markH ∨ beNat (seg xs 8 8 false) ≠ gen
theorem le8_lt (xs : Bytes) (p : Nat) (b : Bool) : beNat (seg xs p 8 b) < 2 ^ 64 := by
  have h1 := beNat_lt (seg xs p 8 b)
  have h2 : (seg xs p 8 b).length ≤ 8 := by
    unfold seg
    cases b <;> simp <;> omega
  have h3 : 256 ^ (seg xs p 8 b).length ≤ 256 ^ 8 := Nat.pow_le_pow_right (by decide) h2
  omega
theorem Fit.nil (n : Nat) : Fit n [] := ⟨(fun p h => by cases h), (by decide), (by simp)⟩
theorem Kept.nil {kv : List ((Int × Int) × Value)} {bl : List (Value × Bytes)} {s : Nat} : Kept kv bl s [] := fun i h => by cases h

theorem jHeader0 {j d n t gen last mp i : Nat} {ov : Value} {cur : Nat → Bytes} (hi : i ≤ 3) (hn : 246 ≤ n) (hno : NoHead gen (cur (slotAt i 0))) : Spec Tryz.prog 89 #[.pointer (some ⟨j, 0, none⟩), .int .i64 (i : Int)] [pt j (jO d gen last ov mp), DevR d n cur t] fun F v M => v = .tuple #[.int .u64 0, .slice none 0 0] ∧ M = [pt j (jO d gen last ov mp), DevR d n cur t] ++ F := by
  refine Spec.intro Tryz.func89 rfl rfl fun B F => ?_
  simp only [Tryz.ntmps89, List.cons_append, List.nil_append, env0, Nat.reduceAdd]
  refine WC.seq ?_
  refine WC.region ?_
  refine WL.assign ?_
  refine WL.assign ?_
  refine WL.nil ?_
  refine WQ.next ?_
  refine WC.seq ?_
  refine WC.draw ([pt j (jO d gen last ov mp)]) [] 13 #[false, false, false, false, false, false, false, false, false, false, false, false, false] mixed (by kernel_rfl) NoPanic.autoJ ?_
  refine WD.take (i := 0) #[true, false, false, false, false, false, false, false, false, false, false, false, false] rfl (by kernel_rfl) (Qt.move ) ?_
  refine WD.take (i := 1) #[true, true, false, false, false, false, false, false, false, false, false, false, false] rfl (by kernel_rfl) (Qt.nilCheck ) ?_
  refine WD.take (i := 2) #[true, true, true, false, false, false, false, false, false, false, false, false, false] rfl (by kernel_rfl) (Qt.fa fo149_0) ?_
  refine WD.take (i := 3) #[true, true, true, true, false, false, false, false, false, false, false, false, false] rfl (by kernel_rfl) (Qt.ld sc76) ?_
  refine WD.take (i := 4) #[true, true, true, true, true, false, false, false, false, false, false, false, false] rfl (by kernel_rfl) (Qt.move ) ?_
  refine WD.take (i := 5) #[true, true, true, true, true, true, false, false, false, false, false, false, false] rfl (by kernel_rfl) (Qt.build (bdPlace _ _)) ?_
  refine WD.one (i := 6) #[true, true, true, true, true, true, true, false, false, false, false, false, false] rfl (by kernel_rfl) fun hnp => ?_
  refine WL.call (hc := Tryz.call84) (sp := placeAt (a := i) (b := 0) (by omega)) (h := ?_)
  rintro _ _ ⟨rfl, rfl⟩
  refine WL.nil (WQ.wd hnp (.inl Am.auto) ?_)
  refine WD.one (i := 7) #[true, true, true, true, true, true, true, true, false, false, false, false, false] rfl (by kernel_rfl) fun hnp => ?_
  refine WL.call (hc := Tryz.call91) (sp := devRead (n := n) (t := t) (k := slotAt i 0) (cur := cur) (by unfold slotAt; omega)) (h := ?_)
  rintro _ _ ⟨gb, q, rfl, ⟨hq1, hq2, hlen⟩, rfl⟩
  refine WL.nil (WQ.wd hnp (.inl Am.auto) ?_)
  refine WD.take (i := 8) #[true, true, true, true, true, true, true, true, true, false, false, false, false] rfl (by kernel_rfl) (Qt.move ) ?_
  refine WD.take (i := 9) #[true, true, true, true, true, true, true, true, true, true, false, false, false] rfl (by kernel_rfl) (Qt.extract ) ?_
  refine WD.take (i := 10) #[true, true, true, true, true, true, true, true, true, true, true, false, false] rfl (by kernel_rfl) (Qt.extract ) ?_
  refine WD.take (i := 11) #[true, true, true, true, true, true, true, true, true, true, true, true, false] rfl (by kernel_rfl) (Qt.assign ) ?_
  refine WD.take (i := 12) #[true, true, true, true, true, true, true, true, true, true, true, true, true] rfl (by kernel_rfl) (Qt.assign ) ?_
  refine WD.done (by kernel_rfl) ?_
  refine WQ.next ?_
  refine WC.seq ?_
  refine WC.seq ?_
  by_cases hmk : (cur (slotAt i 0)).take 8 = markH
  · rcases hno with hno | hno
    · exact absurd hmk hno
    refine WC.draw ([buf gb 5 q (bvs (cur (slotAt i 0))), pt j (jO d gen last ov mp)]) [] 17 #[false, false, false, false, false, false, false, false, false, false, false, false, false, false, false, false, false] mixed (by kernel_rfl) NoPanic.autoJ ?_
    refine WD.take (i := 0) #[true, false, false, false, false, false, false, false, false, false, false, false, false, false, false, false, false] rfl (by kernel_rfl) (Qt.move ) ?_
    refine WD.take (i := 1) #[true, true, false, false, false, false, false, false, false, false, false, false, false, false, false, false, false] rfl (by kernel_rfl) (Qt.nei ) ?_
    refine WD.take (i := 2) #[true, true, true, false, false, false, false, false, false, false, false, false, false, false, false, false, false] rfl (by kernel_rfl) (Qt.move ) ?_
    refine WD.takeOn (i := 3) #[true, true, true, true, false, false, false, false, false, false, false, false, false, false, false, false, false] rfl (by kernel_rfl) (Qt.move ) ?_
    refine WD.takeOn (i := 4) #[true, true, true, true, true, false, false, false, false, false, false, false, false, false, false, false, false] rfl (by kernel_rfl) (Qt.slcH so33) ?_
    refine WD.takeOn (i := 5) #[true, true, true, true, true, true, false, false, false, false, false, false, false, false, false, false, false] rfl (by kernel_rfl) (Qt.cvtBS (R := buf gb 5 q (bvs (cur (slotAt i 0)))) (xs := (cur (slotAt i 0)).take 8) by33 st9 (by rw [bvs_take]; exact Reads.buf.take 8) (by rw [List.length_take, hlen])) ?_
    refine WD.takeOn (i := 6) #[true, true, true, true, true, true, true, false, false, false, false, false, false, false, false, false, false] rfl (by kernel_rfl) ((Qt.neS ((cur (slotAt i 0)).take 8) markH).eq (v' := .bool false) (by rw [decide_eq_true hmk]; rfl)) ?_
    refine WD.take (i := 7) #[true, true, true, true, true, true, true, true, false, false, false, false, false, false, false, false, false] rfl (by kernel_rfl) (Qt.pickF ) ?_
    refine WD.take (i := 8) #[true, true, true, true, true, true, true, true, true, false, false, false, false, false, false, false, false] rfl (by kernel_rfl) (Qt.move ) ?_
    refine WD.takeOn (i := 9) #[true, true, true, true, true, true, true, true, true, true, false, false, false, false, false, false, false] rfl (by kernel_rfl) (Qt.move ) ?_
    refine WD.takeOn (i := 11) #[true, true, true, true, true, true, true, true, true, true, false, true, false, false, false, false, false] rfl (by kernel_rfl) (Qt.move ) ?_
    refine WD.takeOn (i := 12) #[true, true, true, true, true, true, true, true, true, true, false, true, true, false, false, false, false] rfl (by kernel_rfl) (Qt.nilCheck ) ?_
    refine WD.takeOn (i := 13) #[true, true, true, true, true, true, true, true, true, true, false, true, true, true, false, false, false] rfl (by kernel_rfl) (Qt.fa fo149_1) ?_
    refine WD.takeOn (i := 14) #[true, true, true, true, true, true, true, true, true, true, false, true, true, true, true, false, false] rfl (by kernel_rfl) (Qt.ld sc138) ?_
    refine WD.one (i := 10) #[true, true, true, true, true, true, true, true, true, true, true, true, true, true, true, false, false] rfl (by kernel_rfl) fun hnp => ?_
    refine WL.gT ?_
    refine WL.call (hc := Tryz.call121) (sp := jGet (k := 1) Reads.buf hlen (by decide) (by decide) (by decide)) (h := ?_)
    rintro _ _ ⟨rfl, rfl⟩
    refine WL.nil (WQ.wd hnp (.inl Am.auto) ?_)
    refine WD.takeOn (i := 15) #[true, true, true, true, true, true, true, true, true, true, true, true, true, true, true, true, false] rfl (by kernel_rfl) ((Qt.nei).eq (v' := .bool true) (by rw [decide_eq_false (fun h => hno (by exact_mod_cast h))]; rfl)) ?_
    refine WD.take (i := 16) #[true, true, true, true, true, true, true, true, true, true, true, true, true, true, true, true, true] rfl (by kernel_rfl) (Qt.pickF ) ?_
    refine WD.done (by kernel_rfl) ?_
    refine WQ.next ?_
    refine WC.condT rfl rfl ?_
    refine WC.seq ?_
    refine WC.region ?_
    refine WL.assign ?_
    refine WL.assign ?_
    refine WL.nil ?_
    refine WQ.next ?_
    refine WC.ret (WQ.thenRet (?_))
    exact WQ.ret2 (h1 := .tmp (t := 4) rfl) (h2 := .tmp (t := 5) rfl) ⟨_, ⟨rfl, rfl⟩, Am.auto⟩
  · refine WC.draw ([buf gb 5 q (bvs (cur (slotAt i 0))), pt j (jO d gen last ov mp)]) [] 17 #[false, false, false, false, false, false, false, false, false, false, false, false, false, false, false, false, false] mixed (by kernel_rfl) NoPanic.autoJ ?_
    refine WD.take (i := 0) #[true, false, false, false, false, false, false, false, false, false, false, false, false, false, false, false, false] rfl (by kernel_rfl) (Qt.move ) ?_
    refine WD.take (i := 1) #[true, true, false, false, false, false, false, false, false, false, false, false, false, false, false, false, false] rfl (by kernel_rfl) (Qt.nei ) ?_
    refine WD.take (i := 2) #[true, true, true, false, false, false, false, false, false, false, false, false, false, false, false, false, false] rfl (by kernel_rfl) (Qt.move ) ?_
    refine WD.takeOn (i := 3) #[true, true, true, true, false, false, false, false, false, false, false, false, false, false, false, false, false] rfl (by kernel_rfl) (Qt.move ) ?_
    refine WD.takeOn (i := 4) #[true, true, true, true, true, false, false, false, false, false, false, false, false, false, false, false, false] rfl (by kernel_rfl) (Qt.slcH so33) ?_
    refine WD.takeOn (i := 5) #[true, true, true, true, true, true, false, false, false, false, false, false, false, false, false, false, false] rfl (by kernel_rfl) (Qt.cvtBS (R := buf gb 5 q (bvs (cur (slotAt i 0)))) (xs := (cur (slotAt i 0)).take 8) by33 st9 (by rw [bvs_take]; exact Reads.buf.take 8) (by rw [List.length_take, hlen])) ?_
    refine WD.takeOn (i := 6) #[true, true, true, true, true, true, true, false, false, false, false, false, false, false, false, false, false] rfl (by kernel_rfl) ((Qt.neS ((cur (slotAt i 0)).take 8) markH).eq (v' := .bool true) (by rw [decide_eq_false hmk]; rfl)) ?_
    refine WD.take (i := 7) #[true, true, true, true, true, true, true, true, false, false, false, false, false, false, false, false, false] rfl (by kernel_rfl) (Qt.pickF ) ?_
    refine WD.take (i := 8) #[true, true, true, true, true, true, true, true, true, false, false, false, false, false, false, false, false] rfl (by kernel_rfl) (Qt.move ) ?_
    refine WD.takeOff (i := 9) #[true, true, true, true, true, true, true, true, true, true, false, false, false, false, false, false, false] rfl (by kernel_rfl) ?_
    refine WD.takeOff (i := 10) #[true, true, true, true, true, true, true, true, true, true, true, false, false, false, false, false, false] rfl (by kernel_rfl) ?_
    refine WD.takeOff (i := 11) #[true, true, true, true, true, true, true, true, true, true, true, true, false, false, false, false, false] rfl (by kernel_rfl) ?_
    refine WD.takeOff (i := 12) #[true, true, true, true, true, true, true, true, true, true, true, true, true, false, false, false, false] rfl (by kernel_rfl) ?_
    refine WD.takeOff (i := 13) #[true, true, true, true, true, true, true, true, true, true, true, true, true, true, false, false, false] rfl (by kernel_rfl) ?_
    refine WD.takeOff (i := 14) #[true, true, true, true, true, true, true, true, true, true, true, true, true, true, true, false, false] rfl (by kernel_rfl) ?_
    refine WD.takeOff (i := 15) #[true, true, true, true, true, true, true, true, true, true, true, true, true, true, true, true, false] rfl (by kernel_rfl) ?_
    refine WD.take (i := 16) #[true, true, true, true, true, true, true, true, true, true, true, true, true, true, true, true, true] rfl (by kernel_rfl) (Qt.pickT ) ?_
    refine WD.done (by kernel_rfl) ?_
    refine WQ.next ?_
    refine WC.condT rfl rfl ?_
    refine WC.seq ?_
    refine WC.region ?_
    refine WL.assign ?_
    refine WL.assign ?_
    refine WL.nil ?_
    refine WQ.next ?_
    refine WC.ret (WQ.thenRet (?_))
    exact WQ.ret2 (h1 := .tmp (t := 4) rfl) (h2 := .tmp (t := 5) rfl) ⟨_, ⟨rfl, rfl⟩, Am.auto⟩

theorem jOpen {d n : Nat} {cur : Nat → Bytes} (hn : 246 ≤ n) (hn2 : n ≤ 65536) (hmg : (cur 0).take 8 = magicJ) (hno : ∀ i, i ≤ 3 → NoHead (beNat (seg (cur 0) 8 8 false)) (cur (slotAt i 0))) :
    Spec Tryz.prog 43 #[.pointer (some ⟨d, 0, none⟩)] [DevR d n cur 0] fun F v M => ∃ j, v = .tuple #[.pointer (some ⟨j, 0, none⟩), .int .i64 0] ∧ M = JR j d n ⟨beNat (seg (cur 0) 8 8 false), 0, [], cur⟩ :: F := by
  refine Spec.intro Tryz.func43 rfl rfl fun B F => ?_
  simp only [Tryz.ntmps43, List.cons_append, List.nil_append, env0, Nat.reduceAdd]
  refine WC.seq ?_
  refine WC.region ?_
  refine WL.assign ?_
  refine WL.assign ?_
  refine WL.nil ?_
  refine WQ.next ?_
  refine WC.seq ?_
  refine WC.seq ?_
  refine WC.region ?_
  refine WL.move ?_
  refine WL.call (hc := Tryz.call80) (sp := devBlocksR (n := n) (t := 0) (cur := cur)) (h := ?_)
  rintro _ _ ⟨rfl, rfl⟩
  refine WL.lss ?_
  refine WL.nil ?_
  refine WQ.next ?_
  refine WC.condF rfl (congrArg Value.bool (by first | (simp; done) | (simp; omega) | omega)) ?_
  refine WC.skip ?_
  refine WQ.next ?_
  refine WC.seq ?_
  refine WC.region ?_
  refine WL.move ?_
  refine WL.call (hc := Tryz.call81) (sp := jFirst (n := n) (t := 0) (cur := cur) (by omega)) (h := ?_)
  rintro _ _ ⟨rfl, rfl⟩
  refine WL.move ?_
  refine WL.extract ?_
  refine WL.extract ?_
  refine WL.cast (d := 20) (u := .bool true) rfl (congrArg Value.bool (decide_eq_true hmg)) ?_
  refine WL.assign ?_
  refine WL.assign ?_
  refine WL.nil ?_
  refine WQ.next ?_
  refine WC.seq ?_
  refine WC.seq ?_
  refine WC.region ?_
  refine WL.move ?_
  refine WL.not ?_
  refine WL.nil ?_
  refine WQ.next ?_
  refine WC.condF rfl rfl ?_
  refine WC.skip ?_
  refine WQ.next ?_
  refine WC.seq ?_
  refine WC.region ?_
  refine WL.move ?_
  refine WL.move ?_
  refine WL.mkMap fun m25 => ?_
  refine WL.build ?_ (bdJ _ _ _)
  refine WL.box fun b27 => ?_
  refine WL.assign ?_
  refine WL.nil ?_
  refine WQ.next ?_
  refine WC.seq ?_
  refine WC.seq ?_
  refine WC.region ?_
  refine WL.move ?_
  refine WL.nil ?_
  refine WQ.next ?_
  refine WC.block ?_
  refine WC.blobsNil ?_
  refine WC.emp (rowR.nil (e := 3) (size := 1) _) ?_
  refine WC.loopN 5 (RC.succ ?_)
  refine WC.seq ?_
  refine WC.region ?_
  refine WL.lss ?_
  refine WL.nil ?_
  refine WQ.next ?_
  refine WC.seq ?_
  refine WC.condT rfl rfl ?_
  refine WC.skip ?_
  refine WQ.next ?_
  refine WC.seq ?_
  refine WC.block ?_
  refine WC.seq ?_
  refine WC.region ?_
  refine WL.move ?_
  refine WL.assign ?_
  refine WL.nil ?_
  refine WQ.next ?_
  refine WC.seq ?_
  refine WC.region ?_
  refine WL.move ?_
  refine WL.move ?_
  refine WL.call (hc := Tryz.call89) (sp := jHeader0 (i := 0) (n := n) (t := 0) (gen := beNat (seg (cur 0) 8 8 false)) (last := 0) (mp := m25) (ov := .slice none 0 0) (cur := cur) (by decide) hn (hno 0 (by decide))) (h := ?_)
  rintro _ _ ⟨rfl, rfl⟩
  simp only [List.cons_append, List.nil_append]
  refine WL.move ?_
  refine WL.extract ?_
  refine WL.extract ?_
  refine WL.assign ?_
  refine WL.assign ?_
  refine WL.nil ?_
  refine WQ.next ?_
  refine WC.seq ?_
  refine WC.region ?_
  refine WL.move ?_
  refine WL.move ?_
  refine WL.nilCheck ?_
  refine WL.fa ?_ fo149_2
  refine WL.ld ?_ sc138
  refine WL.gtr ?_
  refine WL.nil ?_
  refine WQ.next ?_
  refine WC.condF rfl rfl ?_
  refine WC.skip ?_
  refine WQ.blockNormal ?_
  refine WQ.next ?_
  refine WC.region ?_
  refine WL.add ?_
  refine WL.move ?_
  refine WL.nil ?_
  refine WQ.again (RC.succ ?_)
  refine WC.seq ?_
  refine WC.region ?_
  refine WL.lss ?_
  refine WL.nil ?_
  refine WQ.next ?_
  refine WC.seq ?_
  refine WC.condT rfl rfl ?_
  refine WC.skip ?_
  refine WQ.next ?_
  refine WC.seq ?_
  refine WC.block ?_
  refine WC.seq ?_
  refine WC.region ?_
  refine WL.move ?_
  refine WL.assign ?_
  refine WL.nil ?_
  refine WQ.next ?_
  refine WC.seq ?_
  refine WC.region ?_
  refine WL.move ?_
  refine WL.move ?_
  refine WL.call (hc := Tryz.call89) (sp := jHeader0 (i := 1) (n := n) (t := 0) (gen := beNat (seg (cur 0) 8 8 false)) (last := 0) (mp := m25) (ov := .slice none 0 0) (cur := cur) (by decide) hn (hno 1 (by decide))) (h := ?_)
  rintro _ _ ⟨rfl, rfl⟩
  simp only [List.cons_append, List.nil_append]
  refine WL.move ?_
  refine WL.extract ?_
  refine WL.extract ?_
  refine WL.assign ?_
  refine WL.assign ?_
  refine WL.nil ?_
  refine WQ.next ?_
  refine WC.seq ?_
  refine WC.region ?_
  refine WL.move ?_
  refine WL.move ?_
  refine WL.nilCheck ?_
  refine WL.fa ?_ fo149_2
  refine WL.ld ?_ sc138
  refine WL.gtr ?_
  refine WL.nil ?_
  refine WQ.next ?_
  refine WC.condF rfl rfl ?_
  refine WC.skip ?_
  refine WQ.blockNormal ?_
  refine WQ.next ?_
  refine WC.region ?_
  refine WL.add ?_
  refine WL.move ?_
  refine WL.nil ?_
  refine WQ.again (RC.succ ?_)
  refine WC.seq ?_
  refine WC.region ?_
  refine WL.lss ?_
  refine WL.nil ?_
  refine WQ.next ?_
  refine WC.seq ?_
  refine WC.condT rfl rfl ?_
  refine WC.skip ?_
  refine WQ.next ?_
  refine WC.seq ?_
  refine WC.block ?_
  refine WC.seq ?_
  refine WC.region ?_
  refine WL.move ?_
  refine WL.assign ?_
  refine WL.nil ?_
  refine WQ.next ?_
  refine WC.seq ?_
  refine WC.region ?_
  refine WL.move ?_
  refine WL.move ?_
  refine WL.call (hc := Tryz.call89) (sp := jHeader0 (i := 2) (n := n) (t := 0) (gen := beNat (seg (cur 0) 8 8 false)) (last := 0) (mp := m25) (ov := .slice none 0 0) (cur := cur) (by decide) hn (hno 2 (by decide))) (h := ?_)
  rintro _ _ ⟨rfl, rfl⟩
  simp only [List.cons_append, List.nil_append]
  refine WL.move ?_
  refine WL.extract ?_
  refine WL.extract ?_
  refine WL.assign ?_
  refine WL.assign ?_
  refine WL.nil ?_
  refine WQ.next ?_
  refine WC.seq ?_
  refine WC.region ?_
  refine WL.move ?_
  refine WL.move ?_
  refine WL.nilCheck ?_
  refine WL.fa ?_ fo149_2
  refine WL.ld ?_ sc138
  refine WL.gtr ?_
  refine WL.nil ?_
  refine WQ.next ?_
  refine WC.condF rfl rfl ?_
  refine WC.skip ?_
  refine WQ.blockNormal ?_
  refine WQ.next ?_
  refine WC.region ?_
  refine WL.add ?_
  refine WL.move ?_
  refine WL.nil ?_
  refine WQ.again (RC.succ ?_)
  refine WC.seq ?_
  refine WC.region ?_
  refine WL.lss ?_
  refine WL.nil ?_
  refine WQ.next ?_
  refine WC.seq ?_
  refine WC.condT rfl rfl ?_
  refine WC.skip ?_
  refine WQ.next ?_
  refine WC.seq ?_
  refine WC.block ?_
  refine WC.seq ?_
  refine WC.region ?_
  refine WL.move ?_
  refine WL.assign ?_
  refine WL.nil ?_
  refine WQ.next ?_
  refine WC.seq ?_
  refine WC.region ?_
  refine WL.move ?_
  refine WL.move ?_
  refine WL.call (hc := Tryz.call89) (sp := jHeader0 (i := 3) (n := n) (t := 0) (gen := beNat (seg (cur 0) 8 8 false)) (last := 0) (mp := m25) (ov := .slice none 0 0) (cur := cur) (by decide) hn (hno 3 (by decide))) (h := ?_)
  rintro _ _ ⟨rfl, rfl⟩
  simp only [List.cons_append, List.nil_append]
  refine WL.move ?_
  refine WL.extract ?_
  refine WL.extract ?_
  refine WL.assign ?_
  refine WL.assign ?_
  refine WL.nil ?_
  refine WQ.next ?_
  refine WC.seq ?_
  refine WC.region ?_
  refine WL.move ?_
  refine WL.move ?_
  refine WL.nilCheck ?_
  refine WL.fa ?_ fo149_2
  refine WL.ld ?_ sc138
  refine WL.gtr ?_
  refine WL.nil ?_
  refine WQ.next ?_
  refine WC.condF rfl rfl ?_
  refine WC.skip ?_
  refine WQ.blockNormal ?_
  refine WQ.next ?_
  refine WC.region ?_
  refine WL.add ?_
  refine WL.move ?_
  refine WL.nil ?_
  refine WQ.again (RC.succ ?_)
  refine WC.seq ?_
  refine WC.region ?_
  refine WL.lss ?_
  refine WL.nil ?_
  refine WQ.next ?_
  refine WC.seq ?_
  refine WC.condF rfl rfl ?_
  refine WC.exit (WQ.thenExit (WQ.thenExit (WQ.blockExit (?_))))
  refine WQ.next ?_
  refine WC.seq ?_
  refine WC.seq ?_
  refine WC.region ?_
  refine WL.move ?_
  refine WL.nilCheck ?_
  refine WL.fa ?_ fo149_4
  refine WL.ld ?_ sc22
  refine WL.lenS ?_ sl22
  refine WL.move ?_
  refine WL.nil ?_
  refine WQ.next ?_
  refine WC.block ?_
  refine WC.loopN 1 (RC.succ ?_)
  refine WC.seq ?_
  refine WC.region ?_
  refine WL.lss ?_
  refine WL.nil ?_
  refine WQ.next ?_
  refine WC.seq ?_
  refine WC.condF rfl (congrArg Value.bool (by first | (simp; done) | (simp; omega) | omega)) ?_
  refine WC.exit (WQ.thenExit (WQ.thenExit (WQ.blockExit (?_))))
  refine WQ.next ?_
  refine WC.seq ?_
  refine WC.seq ?_
  refine WC.region ?_
  refine WL.move ?_
  refine WL.makeFuncB ?_
  refine WL.move ?_
  refine WL.makeFuncB ?_
  refine WL.buildS (fun b88 => ?_) (bs141_2 _ _ _ _ _ _)
  refine WL.call (hc := Tryz.call85) (sp := jTriesC (Chain.cons (I := [pt b27 (jO d (beNat (seg (cur 0) 8 8 false)) 0 (.slice none 0 0) m25), rowR 3 1 (.slice none 0 0) 0 (blocksV []), pt m25 (.map #[] 0), blobs [], DevR d n cur 0]) (goesSettle (ch := []) (kv := []) (MapIs.empty _ _) Kept.nil (Fit.nil n) (t := 0) (cur := cur) (by decide)).sub (.cons (goesFlush (d := d) (n := n) (t := 0) (cur := cur)).sub .nil)) Reads.pt rfl (Nat.le_of_ble_eq_true rfl)) (h := ?_)
  rintro _ _ ⟨rfl, rfl⟩
  simp only [List.cons_append, List.nil_append]
  refine WL.assign ?_
  refine WL.nil ?_
  refine WQ.next ?_
  refine WC.seq ?_
  refine WC.region ?_
  refine WL.move ?_
  refine WL.nei ?_
  refine WL.nil ?_
  refine WQ.next ?_
  refine WC.condF rfl rfl ?_
  refine WC.skip ?_
  refine WQ.next ?_
  refine WC.seq ?_
  refine WC.region ?_
  refine WL.move ?_
  refine WL.move ?_
  refine WL.mkMap fun m95 => ?_
  refine WL.nilCheck ?_
  refine WL.fa ?_ fo149_4
  refine WL.st ?_ sc22
  refine WL.nilCheck ?_
  refine WL.fa ?_ fo149_5
  refine WL.st ?_ sc147
  refine WL.nil ?_
  refine WQ.next ?_
  refine WC.seq ?_
  refine WC.region ?_
  refine WL.move ?_
  refine WL.assign ?_
  refine WL.assign ?_
  refine WL.nil ?_
  refine WQ.next ?_
  refine WC.ret (?_)
  refine WQ.shutR (JR.opens b27 d n ⟨beNat (seg (cur 0) 8 8 false), 0, [], cur⟩) ⟨#[], 0, m95, [], [], .slice none 0 0⟩ ⟨MapIs.empty _ _, Kept.nil, Fit.nil n, hn, hn2, le8_lt _ _ _, (by decide : (0 : Nat) < 2 ^ 64)⟩ ?_
  exact WQ.ret2 (h1 := .tmp (t := 2) rfl) (h2 := .tmp (t := 3) rfl) ⟨_, ⟨_, rfl, rfl⟩, Am.auto⟩

end Go.Proofs.YtedmihapieleaaaGreat
