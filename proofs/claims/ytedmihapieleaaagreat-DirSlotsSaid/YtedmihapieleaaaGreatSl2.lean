/- A part of the proof of dirSlots_holds: texts of this work put together. -/
import Derived.Test.YtedmihapieleaaaGreatSl1
import Derived.KernelRfl
import Derived.Shelf.SlIterI.Sorted
import Derived.Shelf.Slices.In.SortNone
import Derived.Shelf.Sort.Plain
set_option linter.unusedVariables false
set_option linter.unusedSimpArgs false
set_option linter.unusedSectionVars false
section
namespace Go.Proofs.YtedmihapieleaaaGreat
open Go
def devO (n : Nat) (fl wr mn : Nat) (ops left : Int) : Obj := .cells #[.int .i64 (n : Int), .map (some fl), .map (some wr), .map (some mn), .int .i64 ops, .bool false, .int .i64 left] 175 (0, 0)
abbrev intE : Int → Value := Value.int .i64
abbrev pairE : Int × Int → Value := fun k => Value.agg (ints [k.1, k.2]).toArray
theorem klInt {kt : Nat} (h : intOk Tryz.prog kt .i64 = true) : KeyLaw Tryz.prog kt intE := intKeys (int_of h)
theorem klF : KeyLaw Tryz.prog 3 intE := klInt (by kernel_rfl)
theorem klW : KeyLaw Tryz.prog 179 pairE := structKeys (fun k : Int × Int => [k.1, k.2]) (n := 2) (by kernel_rfl) (fun _ => rfl) (fun a b h => by
  obtain ⟨a1, a2⟩ := a
  obtain ⟨b1, b2⟩ := b
  simp only [List.cons.injEq, and_true] at h
  rw [h.1, h.2])
theorem bdPend (a b : Int) : BuildOk Tryz.prog 179 [(0, .int .i64 a), (1, .int .i64 b)] #[.int .i64 a, .int .i64 b] := fun w => by kernel_rfl
theorem bdDev (n : Int) (a b c : Nat) : BuildOk Tryz.prog 175 [(0, .int .i64 n), (1, .map (some a)), (2, .map (some b)), (3, .map (some c))] #[.int .i64 n, .map (some a), .map (some b), .map (some c), .int .i64 0, .bool false, .int .i64 0] := fun w => by kernel_rfl
def nilS : Value := .slice none 0 0
def lastV (kF : List (Int × Value)) (kW : List ((Int × Int) × Value)) (k c : Int) : Value := if 0 < c then (kget kW (k, c)).getD nilS else (kget kF k).getD nilS
def zeros : Bytes := List.replicate 512 0
theorem zeros_length : zeros.length = 512 := List.length_replicate
structure DevX where
  fl : Nat
  wr : Nat
  mn : Nat
  esF : Array MapEntry
  esW : Array MapEntry
  esM : Array MapEntry
  cF : Nat
  cW : Nat
  cM : Nat
  kF : List (Int × Value)
  kW : List ((Int × Int) × Value)
  kM : List (Int × Value)
  bl : List (Value × Bytes)
  ops : Int
  left : Int
def Holds1 (kF : List (Int × Value)) (kW : List ((Int × Int) × Value)) (bl : List (Value × Bytes)) (k c : Int) (xs : Bytes) : Prop :=
  (lastV kF kW k c = nilS ∧ xs = zeros) ∨ (lastV kF kW k c, xs) ∈ bl
structure DevP (n : Nat) (cur : Nat → Bytes) (t : Nat) (x : DevX) : Prop where
  mF : MapIs intE x.esF x.cF x.kF
  mW : MapIs pairE x.esW x.cW x.kW
  mM : MapIs intE x.esM x.cM x.kM
  n1 : 1 ≤ n
  n2 : n ≤ 65536
  len : ∀ p ∈ x.bl, p.2.length = 512
  many : ∀ k v, kget x.kM k = some v → ∃ c : Int, v = .int .i64 c ∧ 0 ≤ c ∧ c ≤ (t : Int)
  dom : ∀ k v, kget x.kM k = some v → 0 ≤ k ∧ k < (n : Int)
  holds : ∀ k : Nat, k < n → ∀ c : Int, (kget x.kM (k : Int)).getD (.int .i64 0) = .int .i64 c → Holds1 x.kF x.kW x.bl k c (cur k)
def devL (d n : Nat) (x : DevX) : List HP := [pt d (devO n x.fl x.wr x.mn x.ops x.left), pt x.fl (.map x.esF x.cF), pt x.wr (.map x.esW x.cW), pt x.mn (.map x.esM x.cM), blobs x.bl]
def DevR (d n : Nat) (cur : Nat → Bytes) (t : Nat) : HP := fun h => ∃ x, DevP n cur t x ∧ star (devL d n x) h
theorem DevR.opens (d n : Nat) (cur : Nat → Bytes) (t : Nat) : Opens (DevR d n cur t) (DevP n cur t) (devL d n) := ⟨fun h hh => hh, fun x hp h hh => ⟨x, hp, hh⟩⟩
attribute [irreducible] DevR
theorem getM_int {n t : Nat} {cur : Nat → Bytes} {x : DevX} (hp : DevP n cur t x) (k : Int) : ∃ c : Int, (kget x.kM k).getD (.int .i64 0) = .int .i64 c ∧ 0 ≤ c ∧ c ≤ (t : Int) := by
  cases h : kget x.kM k with
  | none => exact ⟨0, rfl, by omega, by omega⟩
  | some v => obtain ⟨c, rfl, h1, h2⟩ := hp.many k v h; exact ⟨c, rfl, h1, h2⟩
theorem devMade {n : Int} : Spec Tryz.prog 79 #[.int .i64 n] [] fun F v M => ∃ d fl wr mn, v = .pointer (some ⟨d, 0, none⟩) ∧ M = pt d (.cells #[.int .i64 n, .map (some fl), .map (some wr), .map (some mn), .int .i64 0, .bool false, .int .i64 0] 175 (0, 0)) :: pt mn (.map #[] 0) :: pt wr (.map #[] 0) :: pt fl (.map #[] 0) :: F := by
  refine Spec.intro Tryz.func79 rfl rfl fun B F => ?_
  simp only [Tryz.ntmps79, List.cons_append, List.nil_append, env0, Nat.reduceAdd]
  refine WC.seq ?_
  refine WC.region ?_
  refine WL.assign ?_
  refine WL.nil ?_
  refine WQ.next ?_
  refine WC.seq ?_
  refine WC.region ?_
  refine WL.move ?_
  refine WL.mkMap fun m4 => ?_
  refine WL.mkMap fun m5 => ?_
  refine WL.mkMap fun m6 => ?_
  refine WL.build ?_ (bdDev _ _ _ _)
  refine WL.box fun b8 => ?_
  refine WL.assign ?_
  refine WL.nil ?_
  refine WQ.next ?_
  refine WC.ret (?_)
  exact WQ.ret1 (h1 := .tmp (t := 2) rfl) ⟨_, ⟨_, _, _, _, rfl, rfl⟩, Am.auto⟩
theorem devNew {n : Nat} (h1 : 1 ≤ n) (h2 : n ≤ 65536) : Spec Tryz.prog 41 #[.int .i64 (n : Int)] [] fun F v M => ∃ d, v = .tuple #[.pointer (some ⟨d, 0, none⟩), .int .i64 0] ∧ M = DevR d n (fun _ => zeros) 0 :: F := by
  refine Spec.intro Tryz.func41 rfl rfl fun B F => ?_
  simp only [Tryz.ntmps41, List.cons_append, List.nil_append, env0, Nat.reduceAdd]
  refine WC.seq ?_
  refine WC.region ?_
  refine WL.assign ?_
  refine WL.assign ?_
  refine WL.nil ?_
  refine WQ.next ?_
  refine WC.seq ?_
  refine WC.seq ?_
  refine WC.region ?_
  refine WL.move ?_
  refine WL.lss ?_
  refine WL.move ?_
  refine WL.cast (d := 6) (u := .bool false) rfl (congrArg Value.bool (by first | (simp; done) | (simp; omega) | omega)) ?_
  refine WL.gT ?_
  refine WL.move ?_
  refine WL.gT ?_
  refine WL.gtr ?_
  refine WL.pickF ?_
  refine WL.nil ?_
  refine WQ.next ?_
  refine WC.condF rfl (congrArg Value.bool (by first | (simp; done) | (simp; omega) | omega)) ?_
  refine WC.skip ?_
  refine WQ.next ?_
  refine WC.seq ?_
  refine WC.region ?_
  refine WL.move ?_
  refine WL.call (hc := Tryz.call79) (sp := devMade) (h := ?_)
  rintro _ _ ⟨d, fl, wr, mn, rfl, rfl⟩
  refine WL.assign ?_
  refine WL.assign ?_
  refine WL.nil ?_
  refine WQ.next ?_
  refine WC.ret (?_)
  refine WQ.blobsNil ?_
  refine WQ.shutR (DevR.opens d n (fun _ => zeros) 0) ⟨fl, wr, mn, #[], #[], #[], 0, 0, 0, [], [], [], [], 0, 0⟩ ⟨MapIs.empty _ _, MapIs.empty _ _, MapIs.empty _ _, h1, h2, by simp, by simp [kget], by simp [kget], ?_⟩ ?_
  · intro k hk c hc
    simp only [kget, Option.getD_none, Value.int.injEq, true_and] at hc
    subst hc
    exact .inl ⟨rfl, rfl⟩
  exact WQ.ret2 (h1 := .tmp (t := 2) rfl) (h2 := .tmp (t := 3) rfl) ⟨_, ⟨d, rfl, rfl⟩, Am.auto⟩
theorem devBlocksR {d n t : Nat} {cur : Nat → Bytes} : Spec Tryz.prog 80 #[.pointer (some ⟨d, 0, none⟩)] [DevR d n cur t] fun F v M => v = .int .i64 (n : Int) ∧ M = DevR d n cur t :: F := by
  refine Spec.intro Tryz.func80 rfl rfl fun B F => ?_
  simp only [Tryz.ntmps80, List.cons_append, List.nil_append, env0, Nat.reduceAdd]
  refine WC.openR (DevR.opens d n cur t) fun x hp => ?_
  simp only [devL, List.cons_append, List.nil_append]
  refine WC.seq ?_
  refine WC.region ?_
  refine WL.assign ?_
  refine WL.nil ?_
  refine WQ.next ?_
  refine WC.seq ?_
  refine WC.seq ?_
  refine WC.region ?_
  refine WL.move ?_
  refine WL.eqNil ?_ ptr76
  refine WL.nil ?_
  refine WQ.next ?_
  refine WC.condF rfl rfl ?_
  refine WC.skip ?_
  refine WQ.next ?_
  refine WC.seq ?_
  refine WC.region ?_
  refine WL.move ?_
  refine WL.nilCheck ?_
  refine WL.fa ?_ fo175_0
  refine WL.ld ?_ sc3
  refine WL.assign ?_
  refine WL.nil ?_
  refine WQ.next ?_
  refine WC.ret (?_)
  refine WQ.shutR (DevR.opens d n cur t) x hp ?_
  exact WQ.ret1 (h1 := .tmp (t := 2) rfl) ⟨_, ⟨rfl, rfl⟩, Am.auto⟩
theorem devOp {d n fl wr mn : Nat} {ops left : Int} (hn : 1 ≤ n) : Spec Tryz.prog 122 #[.pointer (some ⟨d, 0, none⟩)] [pt d (devO n fl wr mn ops left)] fun F v M => ∃ ops' left', v = .bool true ∧ M = pt d (devO n fl wr mn ops' left') :: F := by
  refine Spec.intro Tryz.func122 rfl rfl fun B F => ?_
  simp only [Tryz.ntmps122, List.cons_append, List.nil_append, env0, Nat.reduceAdd]
  refine WC.seq ?_
  refine WC.region ?_
  refine WL.assign ?_
  refine WL.nil ?_
  refine WQ.next ?_
  refine WC.seq ?_
  refine WC.seq ?_
  refine WC.region ?_
  refine WL.move ?_
  refine WL.eqNil ?_ ptr76
  refine WL.move ?_
  refine WL.gT ?_
  refine WL.move ?_
  refine WL.gT ?_
  refine WL.nilCheck ?_
  refine WL.gT ?_
  refine WL.fa ?_ fo175_0
  refine WL.gT ?_
  refine WL.ld ?_ sc3
  refine WL.gT ?_
  refine WL.eqi ?_
  refine WL.pickF ?_
  refine WL.nil ?_
  refine WQ.next ?_
  refine WC.condF rfl (congrArg Value.bool (by first | (simp; done) | (simp; omega) | omega)) ?_
  refine WC.skip ?_
  refine WQ.next ?_
  refine WC.seq ?_
  refine WC.region ?_
  refine WL.move ?_
  refine WL.nilCheck ?_
  refine WL.fa ?_ fo175_4
  refine WL.ld ?_ sc3
  refine WL.addw ?_
  refine WL.nilCheck ?_
  refine WL.fa ?_ fo175_4
  refine WL.st ?_ sc3
  refine WL.nil ?_
  refine WQ.next ?_
  refine WC.seq ?_
  refine WC.seq ?_
  refine WC.region ?_
  refine WL.move ?_
  refine WL.nilCheck ?_
  refine WL.fa ?_ fo175_5
  refine WL.ld ?_ sc4
  refine WL.move ?_
  refine WL.gF ?_
  refine WL.gF ?_
  refine WL.gF ?_
  refine WL.gF ?_
  refine WL.gF ?_
  refine WL.pickF ?_
  refine WL.nil ?_
  refine WQ.next ?_
  refine WC.condF rfl rfl ?_
  refine WC.skip ?_
  refine WQ.next ?_
  refine WC.seq ?_
  refine WC.region ?_
  refine WL.move ?_
  refine WL.nilCheck ?_
  refine WL.fa ?_ fo175_6
  refine WL.ld ?_ sc3
  refine WL.subw ?_
  refine WL.nilCheck ?_
  refine WL.fa ?_ fo175_6
  refine WL.st ?_ sc3
  refine WL.nil ?_
  refine WQ.next ?_
  refine WC.seq ?_
  refine WC.region ?_
  refine WL.assign ?_
  refine WL.nil ?_
  refine WQ.next ?_
  refine WC.ret (?_)
  exact WQ.ret1 (h1 := .tmp (t := 2) rfl) ⟨_, ⟨_, _, rfl, rfl⟩, Am.auto⟩
theorem devLast {d n fl wr mn : Nat} {ops left k c : Int} {esF esW esM : Array MapEntry} {cF cW cM : Nat} {kF : List (Int × Value)} {kW : List ((Int × Int) × Value)} {kM : List (Int × Value)} (mF : MapIs intE esF cF kF) (mW : MapIs pairE esW cW kW) (mM : MapIs intE esM cM kM) (hc : (kget kM k).getD (.int .i64 0) = .int .i64 c) :
    Spec Tryz.prog 124 #[.pointer (some ⟨d, 0, none⟩), .int .i64 k] [pt d (devO n fl wr mn ops left), pt fl (.map esF cF), pt wr (.map esW cW), pt mn (.map esM cM)] fun F v M => v = lastV kF kW k c ∧ M = pt d (devO n fl wr mn ops left) :: pt fl (.map esF cF) :: pt wr (.map esW cW) :: pt mn (.map esM cM) :: F := by
  refine Spec.intro Tryz.func124 rfl rfl fun B F => ?_
  simp only [Tryz.ntmps124, List.cons_append, List.nil_append, env0, Nat.reduceAdd]
  refine WC.seq ?_
  refine WC.region ?_
  refine WL.assign ?_
  refine WL.nil ?_
  refine WQ.next ?_
  refine WC.seq ?_
  refine WC.seq ?_
  refine WC.region ?_
  refine WL.move ?_
  refine WL.nilCheck ?_
  refine WL.fa ?_ fo175_3
  refine WL.ld ?_ sc173
  refine WL.move ?_
  refine WL.look klF mM mp173 zv3 ?_
  refine WL.cast (d := 11) rfl hc ?_
  refine WL.assign ?_
  refine WL.nil ?_
  refine WQ.next ?_
  refine WC.seq ?_
  refine WC.region ?_
  refine WL.move ?_
  refine WL.gtr ?_
  refine WL.nil ?_
  refine WQ.next ?_
  refine WC.cond rfl (fun hb => ?_) (fun hb => ?_)
  · have hpos : 0 < c := of_decide_eq_true hb
    refine WC.seq ?_
    refine WC.region ?_
    refine WL.move ?_
    refine WL.nilCheck ?_
    refine WL.fa ?_ fo175_2
    refine WL.ld ?_ sc172
    refine WL.move ?_
    refine WL.move ?_
    refine WL.build ?_ (bdPend _ _)
    refine WL.look (k := (k, c)) klW mW mp172 zv33 ?_
    refine WL.assign ?_
    refine WL.nil ?_
    refine WQ.next ?_
    refine WC.ret (WQ.thenRet (?_))
    exact WQ.ret1 (h1 := .tmp (t := 4) rfl) ⟨_, ⟨by unfold lastV; rw [if_pos hpos]; rfl, rfl⟩, Am.auto⟩
  · have hpos : ¬ 0 < c := of_decide_eq_false hb
    refine WC.skip ?_
    refine WQ.next ?_
    refine WC.seq ?_
    refine WC.region ?_
    refine WL.move ?_
    refine WL.nilCheck ?_
    refine WL.fa ?_ fo175_1
    refine WL.ld ?_ sc171
    refine WL.move ?_
    refine WL.look klF mF mp171 zv33 ?_
    refine WL.assign ?_
    refine WL.nil ?_
    refine WQ.next ?_
    refine WC.ret (?_)
    exact WQ.ret1 (h1 := .tmp (t := 4) rfl) ⟨_, ⟨by unfold lastV; rw [if_neg hpos]; rfl, rfl⟩, Am.auto⟩
theorem devRead {d n t k : Nat} {cur : Nat → Bytes} (hk : k < n) : Spec Tryz.prog 91 #[.pointer (some ⟨d, 0, none⟩), .int .i64 (k : Int)] [DevR d n cur t] fun F v M => ∃ g q, v = .tuple #[.slice (some ⟨g, 0, none⟩) 512 q, .int .i64 0] ∧ (512 ≤ q ∧ q ≤ maxLen ∧ (cur k).length = 512) ∧ M = buf g 5 q (bvs (cur k)) :: DevR d n cur t :: F := by
  refine Spec.intro Tryz.func91 rfl rfl fun B F => ?_
  simp only [Tryz.ntmps91, List.cons_append, List.nil_append, env0, Nat.reduceAdd]
  refine WC.openR (DevR.opens d n cur t) fun x hp => ?_
  simp only [devL, List.cons_append, List.nil_append]
  obtain ⟨c, hc, hc0, hct⟩ := getM_int hp (k : Int)
  have hn2 := hp.n2
  have hold := hp.holds k hk c hc
  refine WC.seq ?_
  refine WC.region ?_
  refine WL.assign ?_
  refine WL.assign ?_
  refine WL.nil ?_
  refine WQ.next ?_
  refine WC.seq ?_
  refine WC.seq ?_
  refine WC.region ?_
  refine WL.move ?_
  refine WL.eqNil ?_ ptr76
  refine WL.move ?_
  refine WL.gT ?_
  refine WL.move ?_
  refine WL.gT ?_
  refine WL.lss ?_
  refine WL.pickF ?_
  refine WL.move ?_
  refine WL.cast (d := 13) (u := .bool false) rfl (congrArg Value.bool (by first | (simp; done) | (simp; omega) | omega)) ?_
  refine WL.gT ?_
  refine WL.move ?_
  refine WL.gT ?_
  refine WL.move ?_
  refine WL.gT ?_
  refine WL.nilCheck ?_
  refine WL.gT ?_
  refine WL.fa ?_ fo175_0
  refine WL.gT ?_
  refine WL.ld ?_ sc3
  refine WL.gT ?_
  refine WL.geq ?_
  refine WL.pickF ?_
  refine WL.nil ?_
  refine WQ.next ?_
  refine WC.condF rfl (congrArg Value.bool (by first | (simp; done) | (simp; omega) | omega)) ?_
  refine WC.skip ?_
  refine WQ.next ?_
  refine WC.seq ?_
  refine WC.region ?_
  refine WL.mkSN 512 z5 so33 (by decide) (by decide) fun b21 => ?_
  refine WL.assign ?_
  refine WL.nil ?_
  refine WQ.next ?_
  refine WC.seq ?_
  refine WC.region ?_
  refine WL.move ?_
  refine WL.move ?_
  refine WL.move ?_
  refine WL.call (hc := Tryz.call124) (sp := devLast hp.mF hp.mW hp.mM hc) (h := ?_)
  rintro _ _ ⟨rfl, rfl⟩
  rcases hold with ⟨hnil, hzero⟩ | hbl
  · refine WL.cast (d := 25) rfl (hnil : lastV x.kF x.kW (k : Int) c = nilS) ?_
    refine WL.copy (R := blobs x.bl) (ys := []) so33 Reads.nil rfl (by simp) ?_
    have hxs : (List.replicate 512 (Value.int .u8 0)).take 0 ++ ([] : List Value).take (min 0 512) ++ (List.replicate 512 (Value.int .u8 0)).drop (0 + min 0 512) = bvs (cur k) := by
      rw [hzero]; unfold zeros; rw [bvs_replicate]; exact laid_none
    have hlen : (cur k).length = 512 := by rw [hzero]; exact zeros_length
    refine WL.nil ?_
    refine WQ.next ?_
    refine WC.seq ?_
    refine WC.region ?_
    refine WL.move ?_
    refine WL.assign ?_
    refine WL.assign ?_
    refine WL.nil ?_
    refine WQ.next ?_
    refine WC.ret (?_)
    refine WQ.to (r := .here) (A' := buf b21 5 512 (bvs (cur k))) (fun h hh => by rw [← hxs]; exact hh) ?_
    refine WQ.shutR (DevR.opens d n cur t) x hp ?_
    exact WQ.ret2 (h1 := .tmp (t := 4) rfl) (h2 := .tmp (t := 5) rfl) ⟨_, ⟨_, _, rfl, ⟨by decide, by decide, hlen⟩, rfl⟩, Am.auto⟩
  · refine WL.fact (blobs_shape hbl) fun hsh => ?_
    obtain ⟨gb, cb, hv, hcb⟩ := hsh
    rw [hv] at hbl
    have hl5 : (cur k).length = 512 := hp.len _ hbl
    refine WL.cast (d := 25) rfl (hv : lastV x.kF x.kW (k : Int) c = _) ?_
    refine WL.copy (R := blobs x.bl) (ys := bvs (cur k)) so33 (Reads.blob hbl) (bvs_length _) (bvs_single _) ?_
    have hxs : (List.replicate 512 (Value.int .u8 0)).take 0 ++ (bvs (cur k)).take (min (cur k).length 512) ++ (List.replicate 512 (Value.int .u8 0)).drop (0 + min (cur k).length 512) = bvs (cur k) := by
      exact laid_whole hl5 (bvs_length _) List.length_replicate
    have hlen : (cur k).length = 512 := hl5
    refine WL.nil ?_
    refine WQ.next ?_
    refine WC.seq ?_
    refine WC.region ?_
    refine WL.move ?_
    refine WL.assign ?_
    refine WL.assign ?_
    refine WL.nil ?_
    refine WQ.next ?_
    refine WC.ret (?_)
    refine WQ.to (r := .here) (A' := buf b21 5 512 (bvs (cur k))) (fun h hh => by rw [← hxs]; exact hh) ?_
    refine WQ.shutR (DevR.opens d n cur t) x hp ?_
    exact WQ.ret2 (h1 := .tmp (t := 4) rfl) (h2 := .tmp (t := 5) rfl) ⟨_, ⟨_, _, rfl, ⟨by decide, by decide, hlen⟩, rfl⟩, Am.auto⟩
def wr (cur : Nat → Bytes) (k : Nat) (xs : Bytes) : Nat → Bytes := fun j => if j = k then xs else cur j
theorem DevP.write {n t : Nat} {cur : Nat → Bytes} {x : DevX} (hp : DevP n cur t x) {k : Nat} (hk : k < n) {c : Int} (hc0 : 0 ≤ c) (hct : c ≤ (t : Int)) {v : Value} {xs : Bytes} (hx : xs.length = 512) {esW' esM' : Array MapEntry} {cW' cM' : Nat}
    (mW' : MapIs pairE esW' cW' (kput x.kW ((k : Int), c + 1) v)) (mM' : MapIs intE esM' cM' (kput x.kM (k : Int) (.int .i64 (c + 1)))) (ops left : Int) :
    DevP n (wr cur k xs) (t + 1) ⟨x.fl, x.wr, x.mn, x.esF, esW', esM', x.cF, cW', cM', x.kF, kput x.kW ((k : Int), c + 1) v, kput x.kM (k : Int) (.int .i64 (c + 1)), (v, xs) :: x.bl, ops, left⟩ := by
  refine ⟨hp.mF, mW', mM', hp.n1, hp.n2, ?_, ?_, ?_, ?_⟩
  · intro p hp'
    rcases List.mem_cons.1 hp' with rfl | hp'
    · exact hx
    · exact hp.len p hp'
  · intro j u hj
    simp only [kget_put] at hj
    split at hj
    · injection hj with hj
      exact ⟨c + 1, hj.symm, by omega, by omega⟩
    · obtain ⟨c', h1, h2, h3⟩ := hp.many j u hj
      exact ⟨c', h1, h2, by omega⟩
  · intro j u hj
    simp only [kget_put] at hj
    split at hj
    · rename_i h; subst h; omega
    · exact hp.dom j u hj
  · intro j hj c' hc'
    simp only [kget_put] at hc'
    by_cases hjk : j = k
    · subst hjk
      simp only [if_true, Option.getD_some, Value.int.injEq, true_and] at hc'
      subst hc'
      right
      simp only [wr, if_true]
      have : lastV x.kF (kput x.kW ((j : Int), c + 1) v) (j : Int) (c + 1) = v := by
        unfold lastV
        rw [if_pos (by omega), kget_put, if_pos rfl]
        rfl
      rw [this]
      exact List.mem_cons_self ..
    · have hjk' : ¬ (j : Int) = (k : Int) := by omega
      rw [if_neg hjk'] at hc'
      have h1 := hp.holds j hj c' hc'
      have hl : lastV x.kF (kput x.kW ((k : Int), c + 1) v) (j : Int) c' = lastV x.kF x.kW (j : Int) c' := by
        unfold lastV
        rw [kget_put, if_neg (show ¬ ((j : Int), c') = ((k : Int), c + 1) from fun h => hjk' (congrArg Prod.fst h))]
      unfold Holds1 at h1 ⊢
      simp only [wr, hjk, if_false]
      rw [hl]
      rcases h1 with h1 | h1
      · exact .inl h1
      · exact .inr (List.mem_cons_of_mem _ h1)
theorem devWrite {d n t k m c' : Nat} {cur : Nat → Bytes} {R : HP} {A : Addr} {xs : Bytes} (hR : Reads R (some A) (bvs xs)) (hm : xs.length = m) (hm5 : m = 512) (hk : k < n) (ht : t ≤ 1000000) : Spec Tryz.prog 83 #[.pointer (some ⟨d, 0, none⟩), .int .i64 (k : Int), .slice (some A) m c'] [DevR d n cur t, R] fun F v M => v = .int .i64 0 ∧ M = DevR d n (wr cur k xs) (t + 1) :: R :: F := by
  refine Spec.intro Tryz.func83 rfl rfl fun B F => ?_
  simp only [Tryz.ntmps83, List.cons_append, List.nil_append, env0, Nat.reduceAdd]
  refine WC.openR (DevR.opens d n cur t) fun x hp => ?_
  simp only [devL, List.cons_append, List.nil_append]
  obtain ⟨c, hc, hc0, hct⟩ := getM_int hp (k : Int)
  have hn2 := hp.n2
  have hn1 := hp.n1
  subst hm
  have hn : xs.length = xs.length := rfl
  have hl : xs.length ≤ 1073741824 := by omega
  refine WC.seq ?_
  refine WC.region ?_
  refine WL.assign ?_
  refine WL.nil ?_
  refine WQ.next ?_
  refine WC.seq ?_
  refine WC.seq ?_
  refine WC.region ?_
  refine WL.move ?_
  refine WL.call (hc := Tryz.call122) (sp := devOp hn1) (h := ?_)
  rintro _ _ ⟨ops', left', rfl, rfl⟩
  refine WL.not ?_
  refine WL.nil ?_
  refine WQ.next ?_
  refine WC.condF rfl rfl ?_
  refine WC.skip ?_
  refine WQ.next ?_
  refine WC.seq ?_
  refine WC.seq ?_
  refine WC.region ?_
  refine WL.move ?_
  refine WL.lss ?_
  refine WL.move ?_
  refine WL.cast (d := 12) (u := .bool false) rfl (congrArg Value.bool (by first | (simp; done) | (simp; omega) | omega)) ?_
  refine WL.gT ?_
  refine WL.move ?_
  refine WL.gT ?_
  refine WL.move ?_
  refine WL.gT ?_
  refine WL.nilCheck ?_
  refine WL.gT ?_
  refine WL.fa ?_ fo175_0
  refine WL.gT ?_
  refine WL.ld ?_ sc3
  refine WL.gT ?_
  refine WL.geq ?_
  refine WL.pickF ?_
  refine WL.move ?_
  refine WL.cast (d := 20) (u := .bool false) rfl (congrArg Value.bool (by first | (simp; done) | (simp; omega) | omega)) ?_
  refine WL.gT ?_
  refine WL.move ?_
  refine WL.gT ?_
  refine WL.lenS ?_ sl33
  refine WL.gT ?_
  refine WL.nei ?_
  refine WL.pickF ?_
  refine WL.nil ?_
  refine WQ.next ?_
  refine WC.condF rfl (congrArg Value.bool (by first | (simp; done) | (simp; omega) | omega)) ?_
  refine WC.skip ?_
  refine WQ.next ?_
  refine WC.seq ?_
  refine WC.region ?_
  refine WL.move ?_
  refine WL.nilCheck ?_
  refine WL.fa ?_ fo175_3
  refine WL.ld ?_ sc173
  refine WL.move ?_
  refine WL.look klF hp.mM mp173 zv3 ?_
  refine WL.cast (d := 30) rfl hc ?_
  refine WL.add ?_
  refine WL.upd klF hp.mM mp173 fun es_1 c_1 hm_1 => ?_
  refine WL.nil ?_
  refine WQ.next ?_
  refine WC.seq ?_
  refine WC.draw ([pt d (devO n x.fl x.wr x.mn ops' left'), pt x.mn (.map es_1 c_1)]) [14] 15 #[false, false, false, false, false, false, false, false, false, false, false, false, false, false, false] mixed (by kernel_rfl) NoPanic.autoJ ?_
  refine WD.take (i := 0) #[true, false, false, false, false, false, false, false, false, false, false, false, false, false, false] rfl (by kernel_rfl) (Qt.move ) ?_
  refine WD.take (i := 1) #[true, true, false, false, false, false, false, false, false, false, false, false, false, false, false] rfl (by kernel_rfl) (Qt.nilCheck ) ?_
  refine WD.take (i := 2) #[true, true, true, false, false, false, false, false, false, false, false, false, false, false, false] rfl (by kernel_rfl) (Qt.fa fo175_2) ?_
  refine WD.take (i := 3) #[true, true, true, true, false, false, false, false, false, false, false, false, false, false, false] rfl (by kernel_rfl) (Qt.ld sc172) ?_
  refine WD.take (i := 4) #[true, true, true, true, true, false, false, false, false, false, false, false, false, false, false] rfl (by kernel_rfl) (Qt.move ) ?_
  refine WD.take (i := 5) #[true, true, true, true, true, true, false, false, false, false, false, false, false, false, false] rfl (by kernel_rfl) (Qt.move ) ?_
  refine WD.take (i := 6) #[true, true, true, true, true, true, true, false, false, false, false, false, false, false, false] rfl (by kernel_rfl) (Qt.nilCheck ) ?_
  refine WD.take (i := 7) #[true, true, true, true, true, true, true, true, false, false, false, false, false, false, false] rfl (by kernel_rfl) (Qt.fa fo175_3) ?_
  refine WD.take (i := 8) #[true, true, true, true, true, true, true, true, true, false, false, false, false, false, false] rfl (by kernel_rfl) (Qt.ld sc173) ?_
  refine WD.take (i := 9) #[true, true, true, true, true, true, true, true, true, true, false, false, false, false, false] rfl (by kernel_rfl) (Qt.move ) ?_
  refine WD.take (i := 10) #[true, true, true, true, true, true, true, true, true, true, true, false, false, false, false] rfl (by kernel_rfl) ((Qt.look (k := (k : Int)) klF hm_1 mp173 zv3).eq (v' := .int .i64 (c + 1)) (by rw [kget_put, if_pos rfl]; rfl)) ?_
  refine WD.take (i := 11) #[true, true, true, true, true, true, true, true, true, true, true, true, false, false, false] rfl (by kernel_rfl) (Qt.build (bdPend _ _)) ?_
  refine WD.take (i := 12) #[true, true, true, true, true, true, true, true, true, true, true, true, true, false, false] rfl (by kernel_rfl) (Qt.move ) ?_
  refine WD.one (i := 13) #[true, true, true, true, true, true, true, true, true, true, true, true, true, true, false] rfl (by kernel_rfl) fun hnp => ?_
  refine WL.call (hc := Tryz.call123) (sp := bytesClone hR hn hl) (h := ?_)
  rintro _ _ ⟨gc, kc, ⟨rfl, hc1, hc2⟩, rfl⟩
  refine WL.nil (WQ.wd hnp (.inl Am.auto) ?_)
  refine WD.one (i := 14) #[true, true, true, true, true, true, true, true, true, true, true, true, true, true, true] rfl (by kernel_rfl) fun hnp => ?_
  refine WL.upd (k := ((k : Int), c + 1)) klW hp.mW mp172 fun es_2 c_2 hm_2 => ?_
  refine WL.nil (WQ.wd hnp (.inr rfl) ?_)
  refine WD.done (by kernel_rfl) ?_
  refine WQ.next ?_
  refine WC.seq ?_
  refine WC.region ?_
  refine WL.assign ?_
  refine WL.nil ?_
  refine WQ.next ?_
  refine WC.ret (?_)
  refine WQ.blobsAdd (bl := x.bl) hc1 ?_
  refine WQ.shutR (DevR.opens d n (wr cur k xs) (t + 1)) _ (hp.write hk hc0 hct hm5 hm_2 hm_1 ops' left') ?_
  exact WQ.ret1 (h1 := .tmp (t := 6) rfl) ⟨_, ⟨rfl, rfl⟩, Am.auto⟩
def cntOf (kM : List (Int × Value)) (k : Int) : Int := match (kget kM k).getD (.int .i64 0) with | .int _ c => c | _ => 0
def valF (kF : List (Int × Value)) (k : Int) : Value := (kget kF k).getD nilS
structure FlushI (x : DevX) (seen : Array Nat) (esF : Array MapEntry) (cF : Nat) (kF : List (Int × Value)) : Prop where
  mF : MapIs intE esF cF kF
  each : ∀ j, valF kF j = valF x.kF j ∨ valF kF j = lastV x.kF x.kW j (cntOf x.kM j)
  met : ∀ m ∈ x.esM.toList, seen.contains m.born = true → ∀ j, m.key = intE j → valF kF j = lastV x.kF x.kW j (cntOf x.kM j)
theorem FlushI.start {n t : Nat} {cur : Nat → Bytes} {x : DevX} (hp : DevP n cur t x) : FlushI x #[] x.esF x.cF x.kF := ⟨hp.mF, fun _ => .inl rfl, fun m _ h => by simp at h⟩
theorem MapIs.entry {κ : Type} [DecidableEq κ] {enc : κ → Value} {es : Array MapEntry} {c : Nat} {kvs : List (κ × Value)} (h : MapIs enc es c kvs) {m : MapEntry} (hm : m ∈ es.toList) : ∃ k, m.key = enc k ∧ kget kvs k = some m.val := by
  obtain ⟨i, hi, rfl⟩ := List.mem_iff_getElem.1 hm
  have hl : es.toList.length = kvs.length := by simpa using h.length
  have h1 : (es.toList.map (·.key))[i]? = (kvs.map fun p => enc p.1)[i]? := by rw [h.keys]
  have h2 : (es.toList.map (·.val))[i]? = (kvs.map (·.2))[i]? := by rw [h.vals]
  have hk : i < kvs.length := by omega
  rw [List.getElem?_map, List.getElem?_map, List.getElem?_eq_getElem hi, List.getElem?_eq_getElem hk] at h1 h2
  injection h1 with h1
  injection h2 with h2
  exact ⟨kvs[i].1, h1, (kget_mem h.nodup).2 (by
    have : (kvs[i].1, es.toList[i].val) = kvs[i] := Prod.ext rfl h2
    rw [this]
    exact List.getElem_mem hk)⟩
theorem MapIs.has {κ : Type} [DecidableEq κ] {enc : κ → Value} {es : Array MapEntry} {c : Nat} {kvs : List (κ × Value)} (h : MapIs enc es c kvs) {k : κ} {v : Value} (hk : kget kvs k = some v) : ∃ m ∈ es.toList, m.key = enc k := by
  have hm := (kget_mem h.nodup).1 hk
  have : enc k ∈ es.toList.map (·.key) := by
    rw [h.keys]
    exact List.mem_map.2 ⟨_, hm, rfl⟩
  obtain ⟨m, h1, h2⟩ := List.mem_map.1 this
  exact ⟨m, h1, h2⟩
theorem FlushI.step {n t : Nat} {cur : Nat → Bytes} {x : DevX} (hp : DevP n cur t x) {seen : Array Nat} {esF esF' : Array MapEntry} {cF cF' : Nat} {kF : List (Int × Value)} (h : FlushI x seen esF cF kF) {m : MapEntry} (hm : m ∈ left x.esM seen) {k c : Int} (hk : m.key = intE k)
    (hc : (kget x.kM k).getD (.int .i64 0) = .int .i64 c) (mF' : MapIs intE esF' cF' (kput kF k (lastV kF x.kW k c))) : FlushI x (seen.push m.born) esF' cF' (kput kF k (lastV kF x.kW k c)) := by
  have hcnt : cntOf x.kM k = c := by unfold cntOf; rw [hc]
  have hl : lastV kF x.kW k c = lastV x.kF x.kW k c := by
    unfold lastV
    split
    · rfl
    · rename_i h0
      rcases h.each k with h1 | h1
      · exact h1
      · refine h1.trans ?_
        rw [hcnt]; unfold lastV; rw [if_neg h0]
  have hv : ∀ j, valF (kput kF k (lastV kF x.kW k c)) j = if j = k then lastV x.kF x.kW k c else valF kF j := by
    intro j
    unfold valF
    rw [kget_put]
    split
    · exact hl
    · rfl
  refine ⟨mF', fun j => ?_, fun m' hm' hs j hj => ?_⟩
  · rw [hv]
    split
    · rename_i he; subst he; rw [hcnt]; exact .inr rfl
    · exact h.each j
  · rw [hv]
    split
    · rename_i he; subst he; rw [hcnt]
    · rename_i hne
      refine h.met m' hm' ?_ j hj
      rw [Array.contains_push] at hs
      simp only [Bool.or_eq_true, beq_iff_eq] at hs
      rcases hs with hs | hs
      · exact hs
      · exfalso
        have hmm := (List.mem_filter.1 hm).1
        have : m' = m := by
          have hb := hp.mM.born
          obtain ⟨i, hi, rfl⟩ := List.mem_iff_getElem.1 hm'
          obtain ⟨i', hi', rfl⟩ := List.mem_iff_getElem.1 hmm
          have hpw := List.pairwise_iff_getElem.1 hb
          rcases Nat.lt_trichotomy i i' with hlt | heq | hgt
          · have := hpw i i' (by simpa using hi) (by simpa using hi') hlt
            simp only [List.getElem_map] at this; omega
          · subst heq; rfl
          · have := hpw i' i (by simpa using hi') (by simpa using hi) hgt
            simp only [List.getElem_map] at this; omega
        subst this
        rw [hk] at hj
        injection hj with _ hj
        exact hne hj.symm
theorem FlushI.done {n t : Nat} {cur : Nat → Bytes} {x : DevX} (hp : DevP n cur t x) {seen : Array Nat} {esF : Array MapEntry} {cF : Nat} {kF : List (Int × Value)} (h : FlushI x seen esF cF kF) (h0 : left x.esM seen = []) (ops left' : Int) :
    DevP n cur 0 ⟨x.fl, x.wr, x.mn, esF, #[], #[], cF, x.cW, x.cM, kF, [], [], x.bl, ops, left'⟩ := by
  have hall : ∀ j, valF kF j = lastV x.kF x.kW j (cntOf x.kM j) := by
    intro j
    cases hk : kget x.kM j with
    | some v =>
      obtain ⟨m, h1, h2⟩ := hp.mM.has hk
      refine h.met m h1 ?_ j h2
      cases hs : seen.contains m.born with
      | true => rfl
      | false =>
        have : m ∈ left x.esM seen := List.mem_filter.2 ⟨h1, by simp only [hs]; rfl⟩
        rw [h0] at this; cases this
    | none =>
      have hc : cntOf x.kM j = 0 := by unfold cntOf; rw [hk]; rfl
      rcases h.each j with h1 | h1
      · rw [h1, hc]; unfold lastV; rw [if_neg (by decide)]; rfl
      · exact h1
  refine ⟨h.mF, MapIs.empty _ _, MapIs.empty _ _, hp.n1, hp.n2, hp.len, by simp [kget], by simp [kget], ?_⟩
  intro k hk c hc
  simp only [kget, Option.getD_none, Value.int.injEq, true_and] at hc
  subst hc
  obtain ⟨c, hc, _⟩ := getM_int hp (k : Int)
  have h1 := hp.holds k hk c hc
  have hcnt : cntOf x.kM (k : Int) = c := by unfold cntOf; rw [hc]
  have h2 : lastV kF [] (k : Int) 0 = lastV x.kF x.kW (k : Int) c := by
    have := hall (k : Int)
    rw [hcnt] at this
    rw [← this]
    unfold lastV valF
    rw [if_neg (by decide)]
  unfold Holds1 at h1 ⊢
  simp only [h2]
  exact h1
theorem devFlush {d n t : Nat} {cur : Nat → Bytes} : Spec Tryz.prog 86 #[.pointer (some ⟨d, 0, none⟩)] [DevR d n cur t] fun F v M => v = .int .i64 0 ∧ M = DevR d n cur 0 :: F := by
  refine Spec.intro Tryz.func86 rfl rfl fun B F => ?_
  simp only [Tryz.ntmps86, List.cons_append, List.nil_append, env0, Nat.reduceAdd]
  refine WC.openR (DevR.opens d n cur t) fun x hp => ?_
  simp only [devL, List.cons_append, List.nil_append]
  have hn1 := hp.n1
  refine WC.seq ?_
  refine WC.region ?_
  refine WL.assign ?_
  refine WL.nil ?_
  refine WQ.next ?_
  refine WC.seq ?_
  refine WC.seq ?_
  refine WC.region ?_
  refine WL.move ?_
  refine WL.call (hc := Tryz.call122) (sp := devOp hn1) (h := ?_)
  rintro _ _ ⟨ops', left', rfl, rfl⟩
  refine WL.not ?_
  refine WL.nil ?_
  refine WQ.next ?_
  refine WC.condF rfl rfl ?_
  refine WC.skip ?_
  refine WQ.next ?_
  refine WC.seq ?_
  refine WC.seq ?_
  refine WC.region ?_
  refine WL.move ?_
  refine WL.nilCheck ?_
  refine WL.fa ?_ fo175_3
  refine WL.ld ?_ sc173
  refine WL.range mp173 fun it => ?_
  refine WL.nil ?_
  refine WQ.next ?_
  refine WC.block ?_
  refine WC.loopA (σ := Array Nat × Array MapEntry × Nat × List (Int × Value)) (fun s => [(0, .pointer (some ⟨d, 0, none⟩)), (11, .pointer (some ⟨it, 0, none⟩))]) (fun s => pt it (.mapIter (some x.mn) x.cM s.1 x.cM) :: pt d (devO n x.fl x.wr x.mn ops' left') :: pt x.fl (.map s.2.1 s.2.2.1) :: pt x.wr (.map x.esW x.cW) :: pt x.mn (.map x.esM x.cM) :: blobs x.bl :: F) (fun s => FlushI x s.1 s.2.1 s.2.2.1 s.2.2.2) (fun s => (left x.esM s.1).length) (#[], x.esF, x.cF, x.kF) (FlushI.start hp) ?_
  rintro ⟨seen, esF', cF', kF⟩ hi
  refine WC.seq ?_
  refine WC.region ?_
  refine WL.next hp.mM.lt (fun h0 => ?_) (fun m hm => ?_)
  · refine WL.extract ?_
    refine WL.nil ?_
    refine WQ.next ?_
    refine WC.seq ?_
    refine WC.condF rfl rfl ?_
    refine WC.exit (WQ.thenExit (WQ.thenExit (WQ.blockExit (?_))))
    refine WQ.next ?_
    refine WC.seq ?_
    refine WC.region ?_
    refine WL.move ?_
    refine WL.nilCheck ?_
    refine WL.fa ?_ fo175_2
    refine WL.ld ?_ sc172
    refine WL.clearM ?_ mp172
    refine WL.nil ?_
    refine WQ.next ?_
    refine WC.seq ?_
    refine WC.region ?_
    refine WL.move ?_
    refine WL.nilCheck ?_
    refine WL.fa ?_ fo175_3
    refine WL.ld ?_ sc173
    refine WL.clearM ?_ mp173
    refine WL.nil ?_
    refine WQ.next ?_
    refine WC.seq ?_
    refine WC.region ?_
    refine WL.assign ?_
    refine WL.nil ?_
    refine WQ.next ?_
    refine WC.ret (?_)
    refine WQ.shutR (DevR.opens d n cur 0) _ (hi.done hp h0 ops' left') ?_
    exact WQ.ret1 (h1 := .tmp (t := 2) rfl) ⟨_, ⟨rfl, rfl⟩, Am.auto⟩
  · obtain ⟨k, hk, hkv⟩ := hp.mM.entry (List.mem_filter.1 hm).1
    obtain ⟨c, hc, hc0, hct⟩ := getM_int hp k
    refine WL.extract ?_
    refine WL.nil ?_
    refine WQ.next ?_
    refine WC.seq ?_
    refine WC.condT rfl rfl ?_
    refine WC.skip ?_
    refine WQ.next ?_
    refine WC.block ?_
    refine WC.seq ?_
    refine WC.region ?_
    refine WL.entry (List.mem_filter.1 hm).1 hp.mM.born ?_
    refine WL.extract ?_
    refine WL.cast (d := 15) rfl hk ?_
    refine WL.assign ?_
    refine WL.nil ?_
    refine WQ.next ?_
    refine WC.draw ([pt d (devO n x.fl x.wr x.mn ops' left')]) [8] 9 #[false, false, false, false, false, false, false, false, false] mixed (by kernel_rfl) NoPanic.autoJ ?_
    refine WD.take (i := 0) #[true, false, false, false, false, false, false, false, false] rfl (by kernel_rfl) (Qt.move ) ?_
    refine WD.take (i := 1) #[true, true, false, false, false, false, false, false, false] rfl (by kernel_rfl) (Qt.nilCheck ) ?_
    refine WD.take (i := 2) #[true, true, true, false, false, false, false, false, false] rfl (by kernel_rfl) (Qt.fa fo175_1) ?_
    refine WD.take (i := 3) #[true, true, true, true, false, false, false, false, false] rfl (by kernel_rfl) (Qt.ld sc171) ?_
    refine WD.take (i := 4) #[true, true, true, true, true, false, false, false, false] rfl (by kernel_rfl) (Qt.move ) ?_
    refine WD.take (i := 5) #[true, true, true, true, true, true, false, false, false] rfl (by kernel_rfl) (Qt.move ) ?_
    refine WD.take (i := 6) #[true, true, true, true, true, true, true, false, false] rfl (by kernel_rfl) (Qt.move ) ?_
    refine WD.one (i := 7) #[true, true, true, true, true, true, true, true, false] rfl (by kernel_rfl) fun hnp => ?_
    refine WL.call (hc := Tryz.call124) (sp := devLast hi.mF hp.mW hp.mM hc) (h := ?_)
    rintro _ _ ⟨rfl, rfl⟩
    refine WL.nil (WQ.wd hnp (.inl Am.auto) ?_)
    refine WD.one (i := 8) #[true, true, true, true, true, true, true, true, true] rfl (by kernel_rfl) fun hnp => ?_
    refine WL.upd (k := k) klF hi.mF mp171 fun es_1 c_1 hm_1 => ?_
    refine WL.nil (WQ.wd hnp (.inr rfl) ?_)
    refine WD.done (by kernel_rfl) ?_
    refine WQ.blockNormal ?_
    exact WQ.back (seen.push m.born, es_1, c_1, kput kF k (lastV kF x.kW k c)) (hi.step hp hm hk hc hm_1) (left_push hm)
end Go.Proofs.YtedmihapieleaaaGreat
end
section
namespace Go.Proofs.YtedmihapieleaaaGreat
open Go
theorem bdPlace (a b : Int) : BuildOk Tryz.prog 144 [(0, .int .i64 a), (1, .int .i64 b)] #[.int .i64 a, .int .i64 b] := fun w => by kernel_rfl
def u64s (l : List Nat) : List Value := l.map fun v => .int .u64 ((v : Nat) : Int)
theorem u64s_get {l : List Nat} {i : Nat} (h : i < l.length) : (u64s l)[i]? = some (.int .u64 (l.getD i 0 : Nat)) := by
  unfold u64s
  rw [List.getElem?_map, List.getElem?_eq_getElem h, List.getD_eq_getElem?_getD, List.getElem?_eq_getElem h]
  rfl
theorem u64_wrap1 (a : Nat) : IntKind.u64.wrap ((a : Int) + 1) = (((a + 1) % 2 ^ 64 : Nat) : Int) := by
  have : IntKind.u64.wrap ((a : Int) + 1) = ((a : Int) + 1) % 2 ^ 64 := by simp [IntKind.wrap, IntKind.bits, IntKind.signed]
  rw [this]; omega
def laidN (ys : Bytes) (nums : List Nat) : Nat → Bytes
  | 0 => ys ++ List.replicate (512 - ys.length) 0
  | i + 1 => put (laidN ys nums i) (8 * (i + 1)) 8 false (nums.getD i 0)
def laidB (ys : Bytes) (nums : List Nat) : Bytes := laidN ys nums nums.length
theorem laidN_length {ys : Bytes} (h : ys.length ≤ 512) (nums : List Nat) : ∀ i, (laidN ys nums i).length = 512
  | 0 => by rw [laidN, List.length_append, List.length_replicate]; omega
  | i + 1 => by rw [laidN, put_length]; exact laidN_length h nums i
def slotAt (a b : Nat) : Nat := 1 + a * 61 + b
def magicJ : Bytes := [66, 79, 76, 76, 65, 82, 68, 74]
def markH : Bytes := [66, 79, 76, 76, 65, 82, 68, 72]
theorem bs141_1 (f0 : Fn) (u0 c0 : Array Value) : BuildSOk Tryz.prog 141 1 [(0, .func f0 u0 c0)] 41 #[.func f0 u0 c0] := fun w => by kernel_rfl
theorem bs141_2 (f0 : Fn) (u0 c0 : Array Value) (f1 : Fn) (u1 c1 : Array Value) : BuildSOk Tryz.prog 141 2 [(0, .func f0 u0 c0), (1, .func f1 u1 c1)] 41 #[.func f0 u0 c0, .func f1 u1 c1] := fun w => by kernel_rfl
theorem bs141_3 (f0 : Fn) (u0 c0 : Array Value) (f1 : Fn) (u1 c1 : Array Value) (f2 : Fn) (u2 c2 : Array Value) : BuildSOk Tryz.prog 141 3 [(0, .func f0 u0 c0), (1, .func f1 u1 c1), (2, .func f2 u2 c2)] 41 #[.func f0 u0 c0, .func f1 u1 c1, .func f2 u2 c2] := fun w => by kernel_rfl
theorem bs181_1 (v0 : Int) : BuildSOk Tryz.prog 181 1 [(0, .int .u64 v0)] 138 #[.int .u64 v0] := fun w => by kernel_rfl
theorem bs181_3 (v0 : Int) (v1 : Int) (v2 : Int) : BuildSOk Tryz.prog 181 3 [(0, .int .u64 v0), (1, .int .u64 v1), (2, .int .u64 v2)] 138 #[.int .u64 v0, .int .u64 v1, .int .u64 v2] := fun w => by kernel_rfl
theorem placeAt {a b : Nat} (h : a ≤ 3 ∧ b ≤ 60) : Spec Tryz.prog 84 #[.agg #[.int .i64 (a : Int), .int .i64 (b : Int)]] [] fun F v M => v = .int .i64 ((slotAt a b : Nat) : Int) ∧ M = F := by
  refine Spec.intro Tryz.func84 rfl rfl fun B F => ?_
  simp only [Tryz.ntmps84, List.cons_append, List.nil_append, env0, Nat.reduceAdd]
  refine WC.seq ?_
  refine WC.region ?_
  refine WL.box fun b1 => ?_
  refine WL.assign ?_
  refine WL.nil ?_
  refine WQ.next ?_
  refine WC.seq ?_
  refine WC.region ?_
  refine WL.fa ?_ fo144_0
  refine WL.ld ?_ sc3
  refine WL.mul ?_
  refine WL.add ?_
  refine WL.fa ?_ fo144_1
  refine WL.ld ?_ sc3
  refine WL.add ?_
  refine WL.assign ?_
  refine WL.nil ?_
  refine WQ.next ?_
  refine WC.ret (?_)
  exact WQ.ret1 (h1 := .tmp (t := 2) rfl) ⟨_, ⟨congrArg (Value.int .i64) (by unfold slotAt; omega), rfl⟩, Am.auto⟩
theorem slotN {a : Nat} : Spec Tryz.prog 90 #[.int .u64 (a : Int)] [] fun F v M => v = .int .i64 ((a % 4 : Nat) : Int) ∧ M = F := by
  refine Spec.intro Tryz.func90 rfl rfl fun B F => ?_
  simp only [Tryz.ntmps90, List.cons_append, List.nil_append, env0, Nat.reduceAdd]
  refine WC.seq ?_
  refine WC.region ?_
  refine WL.assign ?_
  refine WL.nil ?_
  refine WQ.next ?_
  refine WC.seq ?_
  refine WC.region ?_
  refine WL.move ?_
  refine WL.bin (r := .int .u64 ((a : Int) % 4)) ?_ (run_ints fun w => by simp [binOp_ints, Op.intDiv, Int.tmod_eq_emod_of_nonneg (Int.natCast_nonneg a)]) rfl rfl rfl
  refine WL.cvt ?_ un138 un3
  refine WL.cast (d := 5) (u := .int .i64 ((a % 4 : Nat) : Int)) rfl (congrArg (Value.int .i64) (by rw [IntWalk.i64_in _ (by omega)]; omega)) ?_
  refine WL.assign ?_
  refine WL.nil ?_
  refine WQ.next ?_
  refine WC.ret (?_)
  exact WQ.ret1 (h1 := .tmp (t := 2) rfl) ⟨_, ⟨rfl, rfl⟩, Am.auto⟩
theorem jGet {R : HP} {A : Addr} {n c : Nat} {xs : Bytes} {k : Int} (hR : Reads R (some A) (bvs xs)) (hn : xs.length = n) (hl : n ≤ 1073741824) (hk : 0 ≤ k) (hk2 : 8 * k + 8 ≤ n) : Spec Tryz.prog 121 #[.slice (some A) n c, .int .i64 k] [R] fun F v M => v = .int .u64 (beNat (seg xs (8 * k).toNat 8 false) : Int) ∧ M = R :: F := by
  refine Spec.intro Tryz.func121 rfl rfl fun B F => ?_
  simp only [Tryz.ntmps121, List.cons_append, List.nil_append, env0, Nat.reduceAdd]
  refine WC.seq ?_
  refine WC.region ?_
  refine WL.assign ?_
  refine WL.nil ?_
  refine WQ.next ?_
  refine WC.seq ?_
  refine WC.region ?_
  refine WL.move ?_
  refine WL.move ?_
  refine WL.mul ?_
  refine WL.call (hc := Tryz.call117) (sp := bitsGet hR hn hl (by omega) (by omega) (by omega)) (h := ?_)
  rintro _ _ ⟨rfl, rfl⟩
  refine WL.move ?_
  refine WL.extract ?_
  refine WL.extract ?_
  refine WL.assign ?_
  refine WL.assign ?_
  refine WL.nil ?_
  refine WQ.next ?_
  refine WC.seq ?_
  refine WC.region ?_
  refine WL.move ?_
  refine WL.assign ?_
  refine WL.nil ?_
  refine WQ.next ?_
  refine WC.ret (?_)
  exact WQ.ret1 (h1 := .tmp (t := 4) rfl) ⟨_, ⟨rfl, rfl⟩, Am.auto⟩
theorem jLaid {R : HP} {A : Addr} {n c : Nat} {ys : Bytes} {nums : List Nat} (hy : ys.length ≤ 512) (hR : Reads R (some A) (u64s nums)) (hn : nums.length = n) (hl : n ≤ 60) (hv : ∀ v ∈ nums, v < 2 ^ 64) : Spec Tryz.prog 88 #[sv ys, .slice (some A) n c] [R] fun F v M => ∃ g q, (v = .slice (some ⟨g, 0, none⟩) 512 q ∧ 512 ≤ q ∧ q ≤ maxLen) ∧ M = buf g 5 q (bvs (laidB ys nums)) :: R :: F := by
  refine Spec.intro Tryz.func88 rfl rfl fun B F => ?_
  simp only [Tryz.ntmps88, List.cons_append, List.nil_append, env0, Nat.reduceAdd]
  obtain ⟨ab, ao, asp⟩ := A
  have hsp : asp = none := hR.1
  subst hsp
  refine WC.seq ?_
  refine WC.region ?_
  refine WL.assign ?_
  refine WL.nil ?_
  refine WQ.next ?_
  refine WC.seq ?_
  refine WC.region ?_
  refine WL.mkSN 512 z5 so33 (by decide) (by decide) fun b8 => ?_
  refine WL.assign ?_
  refine WL.nil ?_
  refine WQ.next ?_
  refine WC.seq ?_
  refine WC.region ?_
  refine WL.move ?_
  refine WL.move ?_
  refine WL.copyS ys so33 ?_ (hdl := by rw [List.length_replicate]; decide)
  refine WL.to (r := .here) (A' := buf b8 5 512 (bvs (laidN ys nums 0))) (fun h hh => by
    have e1 : (List.replicate 512 (Value.int .u8 0)).take 0 ++ (bvs ys).take (min ys.length 512) ++ (List.replicate 512 (Value.int .u8 0)).drop (0 + min ys.length 512) = bvs (laidN ys nums 0) := by
      rw [laidN, bvs_append, bvs_replicate, List.take_zero, List.nil_append, List.drop_replicate, List.take_of_length_le (by rw [bvs_length]; omega), show 512 - (0 + min ys.length 512) = 512 - ys.length from by omega]
    rw [← e1]; exact hh) ?_
  refine WL.nil ?_
  refine WQ.next ?_
  refine WC.seq ?_
  refine WC.seq ?_
  refine WC.region ?_
  refine WL.move ?_
  refine WL.lenS ?_ sl181
  refine WL.move ?_
  refine WL.nil ?_
  refine WQ.next ?_
  refine WC.block ?_
  refine WC.loopA (σ := Int × Nat × Nat) (fun s => [(5, .slice (some ⟨s.2.1, 0, none⟩) 512 s.2.2), (12, .slice (some ⟨ab, ao, none⟩) n c), (13, .int .i64 (n : Int)), (14, .int .i64 s.1)]) (fun s => buf s.2.1 5 s.2.2 (bvs (laidN ys nums s.1.toNat)) :: R :: F) (fun s => (0 ≤ s.1 ∧ s.1 ≤ n) ∧ 512 ≤ s.2.2 ∧ s.2.2 ≤ maxLen) (fun s => ((n : Int) - s.1).toNat) (0, b8, 512) ⟨by omega, Nat.le_refl 512, (by decide : 512 ≤ maxLen)⟩ ?_
  rintro ⟨i, g, q⟩ ⟨hi, hq1, hq2⟩
  refine WC.seq ?_
  refine WC.region ?_
  refine WL.lss ?_
  refine WL.nil ?_
  refine WQ.next ?_
  refine WC.seq ?_
  refine WC.cond rfl (fun hb => ?_) (fun hb => ?_)
  · have hlt : i < (n : Int) := of_decide_eq_true hb
    have hvv : nums.getD i.toNat 0 < 2 ^ 64 := by
      rw [List.getD_eq_getElem?_getD, List.getElem?_eq_getElem (show i.toNat < nums.length by omega)]
      exact hv _ (List.getElem_mem _)
    refine WC.skip ?_
    refine WQ.next ?_
    refine WC.seq ?_
    refine WC.block ?_
    refine WC.seq ?_
    refine WC.region ?_
    refine WL.move ?_
    refine WL.idx1 ?_ so181
    refine WL.ldR ?_ sc138 hR (u64s_get (show i.toNat < nums.length by omega))
    refine WL.assign ?_
    refine WL.assign ?_
    refine WL.nil ?_
    refine WQ.next ?_
    refine WC.region ?_
    refine WL.move ?_
    refine WL.move ?_
    refine WL.add ?_
    refine WL.mul ?_
    refine WL.move ?_
    refine WL.call (hc := Tryz.call116) (sp := bitsPut (xs := laidN ys nums i.toNat) Reads.buf (laidN_length hy nums _) (by decide) (by omega) (by omega) (by omega) hvv) (h := ?_)
    rintro _ _ ⟨g', q', ⟨rfl, h1, h2⟩, rfl⟩
    refine WL.move ?_
    refine WL.extract ?_
    refine WL.extract ?_
    refine WL.assign ?_
    refine WL.nil ?_
    refine WQ.blockNormal ?_
    refine WQ.next ?_
    refine WC.region ?_
    refine WL.add ?_
    refine WL.move ?_
    refine WL.nil ?_
    refine WQ.to (r := .here) (A' := buf g' 5 q' (bvs (laidN ys nums (i + 1).toNat))) (fun h hh => by
      rw [show (i + 1).toNat = i.toNat + 1 from by omega, laidN, show 8 * (i.toNat + 1) = (8 * (i + 1)).toNat from by omega]; exact hh) ?_
    exact WQ.back (i + 1, g', q') ⟨by omega, h1, h2⟩ (by show ((n : Int) - (i + 1)).toNat < ((n : Int) - i).toNat; omega)
  · have hge : ¬ i < (n : Int) := of_decide_eq_false hb
    have hin : i.toNat = nums.length := by omega
    refine WC.exit (WQ.thenExit (WQ.thenExit (WQ.blockExit (?_))))
    refine WQ.next ?_
    refine WC.seq ?_
    refine WC.region ?_
    refine WL.move ?_
    refine WL.assign ?_
    refine WL.nil ?_
    refine WQ.next ?_
    refine WC.ret (?_)
    refine WQ.to (r := .here) (A' := buf g 5 q (bvs (laidB ys nums))) (fun h hh => by unfold laidB; rw [← hin]; exact hh) ?_
    exact WQ.ret1 (h1 := .tmp (t := 4) rfl) ⟨_, ⟨g, q, ⟨rfl, hq1, hq2⟩, rfl⟩, Am.auto⟩
theorem jFirst {d n t : Nat} {cur : Nat → Bytes} (hn : 1 ≤ n) : Spec Tryz.prog 81 #[.pointer (some ⟨d, 0, none⟩)] [DevR d n cur t] fun F v M => v = .tuple #[.int .u64 (beNat (seg (cur 0) 8 8 false) : Int), .bool (decide ((cur 0).take 8 = magicJ))] ∧ M = DevR d n cur t :: F := by
  refine Spec.intro Tryz.func81 rfl rfl fun B F => ?_
  simp only [Tryz.ntmps81, List.cons_append, List.nil_append, env0, Nat.reduceAdd]
  refine WC.seq ?_
  refine WC.region ?_
  refine WL.assign ?_
  refine WL.assign ?_
  refine WL.nil ?_
  refine WQ.next ?_
  refine WC.seq ?_
  refine WC.region ?_
  refine WL.move ?_
  refine WL.call (hc := Tryz.call91) (sp := devRead (n := n) (t := t) (k := 0) (cur := cur) (by omega)) (h := ?_)
  rintro _ _ ⟨gb, q, rfl, ⟨hq1, hq2, hlen⟩, rfl⟩
  refine WL.move ?_
  refine WL.extract ?_
  refine WL.extract ?_
  refine WL.assign ?_
  refine WL.assign ?_
  refine WL.nil ?_
  refine WQ.next ?_
  refine WC.seq ?_
  refine WC.draw ([buf gb 5 q (bvs (cur 0))]) [] 12 #[false, false, false, false, false, false, false, false, false, false, false, false] mixed (by kernel_rfl) NoPanic.autoJ ?_
  refine WD.take (i := 0) #[true, false, false, false, false, false, false, false, false, false, false, false] rfl (by kernel_rfl) (Qt.move ) ?_
  refine WD.take (i := 2) #[true, false, true, false, false, false, false, false, false, false, false, false] rfl (by kernel_rfl) (Qt.move ) ?_
  refine WD.take (i := 3) #[true, false, true, true, false, false, false, false, false, false, false, false] rfl (by kernel_rfl) (Qt.eqi ) ?_
  refine WD.one (i := 1) #[true, true, true, true, false, false, false, false, false, false, false, false] rfl (by kernel_rfl) fun hnp => ?_
  refine WL.call (hc := Tryz.call121) (sp := jGet (k := 1) Reads.buf hlen (by decide) (by decide) (by decide)) (h := ?_)
  rintro _ _ ⟨rfl, rfl⟩
  refine WL.nil (WQ.wd hnp (.inl Am.auto) ?_)
  refine WD.take (i := 4) #[true, true, true, true, true, false, false, false, false, false, false, false] rfl (by kernel_rfl) (Qt.move ) ?_
  refine WD.takeOn (i := 5) #[true, true, true, true, true, true, false, false, false, false, false, false] rfl (by kernel_rfl) (Qt.move ) ?_
  refine WD.takeOn (i := 6) #[true, true, true, true, true, true, true, false, false, false, false, false] rfl (by kernel_rfl) (Qt.slcH so33) ?_
  refine WD.takeOn (i := 7) #[true, true, true, true, true, true, true, true, false, false, false, false] rfl (by kernel_rfl) (Qt.cvtBS (R := buf gb 5 q (bvs (cur 0))) (xs := (cur 0).take 8) by33 st9 (by rw [bvs_take]; exact Reads.buf.take 8) (by rw [List.length_take, hlen])) ?_
  refine WD.takeOn (i := 8) #[true, true, true, true, true, true, true, true, true, false, false, false] rfl (by kernel_rfl) (Qt.eqS ((cur 0).take 8) magicJ) ?_
  refine WD.take (i := 9) #[true, true, true, true, true, true, true, true, true, true, false, false] rfl (by kernel_rfl) (Qt.pickT ) ?_
  refine WD.take (i := 10) #[true, true, true, true, true, true, true, true, true, true, true, false] rfl (by kernel_rfl) (Qt.assign ) ?_
  refine WD.take (i := 11) #[true, true, true, true, true, true, true, true, true, true, true, true] rfl (by kernel_rfl) (Qt.assign ) ?_
  refine WD.done (by kernel_rfl) ?_
  refine WQ.next ?_
  refine WC.ret (?_)
  exact WQ.ret2 (h1 := .tmp (t := 2) rfl) (h2 := .tmp (t := 3) rfl) ⟨_, ⟨rfl, rfl⟩, Am.auto⟩
def okV : Value := .int .i64 0
def Goes (fv : Value) (I J : List HP) : Prop := ∃ f us cap, fv = .func (.func f) us cap ∧ (∀ args w, (callFunc f args).run Tryz.prog w = .ok (.enter f args) w) ∧ Spec Tryz.prog f (us ++ cap) I fun F v M => v = okV ∧ M = J ++ F
theorem jTries {R : HP} {A : Addr} {m c : Nat} {fs : List Value} (I : Nat → List HP) (hR : Reads R (some A) fs) (hm : fs.length = m) (hl : m ≤ 1000) (hfs : ∀ i (h : i < fs.length), Goes fs[i] (I i) (I (i + 1))) :
    Spec Tryz.prog 85 #[.slice (some A) m c] (I 0 ++ [R]) fun F v M => v = .int .i64 0 ∧ M = I m ++ (R :: F) := by
  refine Spec.intro Tryz.func85 rfl rfl fun B F => ?_
  simp only [Tryz.ntmps85, List.cons_append, List.nil_append, env0, Nat.reduceAdd]
  obtain ⟨ab, ao, asp⟩ := A
  have hsp : asp = none := hR.1
  subst hsp
  rw [List.append_assoc]
  simp only [List.cons_append, List.nil_append]
  refine WC.seq ?_
  refine WC.region ?_
  refine WL.assign ?_
  refine WL.nil ?_
  refine WQ.next ?_
  refine WC.seq ?_
  refine WC.seq ?_
  refine WC.region ?_
  refine WL.move ?_
  refine WL.lenS ?_ sl141
  refine WL.move ?_
  refine WL.nil ?_
  refine WQ.next ?_
  refine WC.block ?_
  refine WC.loopA (σ := Int) (fun i => [(6, .slice (some ⟨ab, ao, none⟩) m c), (7, .int .i64 (m : Int)), (8, .int .i64 i)]) (fun i => I i.toNat ++ (R :: F)) (fun i => 0 ≤ i ∧ i ≤ m) (fun i => ((m : Int) - i).toNat) 0 (by omega) ?_
  rintro i hi
  refine WC.seq ?_
  refine WC.region ?_
  refine WL.lss ?_
  refine WL.nil ?_
  refine WQ.next ?_
  refine WC.seq ?_
  refine WC.cond rfl (fun hb => ?_) (fun hb => ?_)
  · have hlt : i < (m : Int) := of_decide_eq_true hb
    have hil : i.toNat < fs.length := by omega
    obtain ⟨f, us, cap, hf, hc, hsp⟩ := hfs i.toNat hil
    refine WC.skip ?_
    refine WQ.next ?_
    refine WC.seq ?_
    refine WC.block ?_
    refine WC.seq ?_
    refine WC.region ?_
    refine WL.idx1 ?_ so141
    refine WL.ldR ?_ sc41 hR ((List.getElem?_eq_getElem hil).trans (congrArg some hf)) (hm := Mem.mid)
    refine WL.assign ?_
    refine WL.nil ?_
    refine WQ.next ?_
    refine WC.seq ?_
    refine WC.region ?_
    refine WL.move ?_
    refine WL.callF (vs := []) rfl rfl hc (by simpa using hsp) ?_ Tk.app
    rintro _ _ ⟨rfl, rfl⟩
    refine WL.assign ?_
    refine WL.nil ?_
    refine WQ.next ?_
    refine WC.seq ?_
    refine WC.region ?_
    refine WL.move ?_
    refine WL.nei ?_
    refine WL.nil ?_
    refine WQ.next ?_
    refine WC.condF rfl rfl ?_
    refine WC.skip ?_
    refine WQ.blockNormal ?_
    refine WQ.next ?_
    refine WC.region ?_
    refine WL.add ?_
    refine WL.move ?_
    refine WL.nil ?_
    exact WQ.back (i + 1) (by omega) (by omega) (hI := by rw [show (i + 1).toNat = i.toNat + 1 from by omega]; exact .refl)
  · have hge : ¬ i < (m : Int) := of_decide_eq_false hb
    have him : i.toNat = m := by omega
    rw [him]
    refine WC.exit (WQ.thenExit (WQ.thenExit (WQ.blockExit (?_))))
    refine WQ.next ?_
    refine WC.seq ?_
    refine WC.region ?_
    refine WL.assign ?_
    refine WL.nil ?_
    refine WQ.next ?_
    refine WC.ret (?_)
    exact WQ.ret1 (h1 := .tmp (t := 2) rfl) ⟨_, ⟨rfl, rfl⟩, .refl⟩
inductive Chain : List Value → List HP → List HP → Prop
  | nil {I} : Chain [] I I
  | cons {f fs I J K} : Goes f I J → Chain fs J K → Chain (f :: fs) I K
theorem Chain.append {fs gs : List Value} {I J K : List HP} (h : Chain fs I J) (h2 : Chain gs J K) : Chain (fs ++ gs) I K := by
  induction h with
  | nil => exact h2
  | cons g _ ih => exact .cons g (ih h2)
theorem Chain.states {fs : List Value} {I K : List HP} (h : Chain fs I K) : ∃ S : Nat → List HP, S 0 = I ∧ S fs.length = K ∧ ∀ i (hi : i < fs.length), Goes fs[i] (S i) (S (i + 1)) := by
  induction h with
  | @nil I => exact ⟨fun _ => I, rfl, rfl, fun i hi => by cases hi⟩
  | @cons f fs I J K g _ ih =>
    obtain ⟨S, h0, h1, h2⟩ := ih
    refine ⟨fun i => if i = 0 then I else S (i - 1), rfl, by simpa using h1, fun i hi => ?_⟩
    cases i with
    | zero =>
      simp only [if_true, List.getElem_cons_zero, Nat.zero_add, Nat.succ_ne_zero, if_false, Nat.sub_self, h0]
      exact g
    | succ i =>
      have := h2 i (by simpa using hi)
      simpa using this
theorem jTriesC {R : HP} {A : Addr} {m c : Nat} {fs : List Value} {I K : List HP} (ch : Chain fs I K) (hR : Reads R (some A) fs) (hm : fs.length = m) (hl : m ≤ 1000) :
    Spec Tryz.prog 85 #[.slice (some A) m c] (I ++ [R]) fun F v M => v = .int .i64 0 ∧ M = K ++ (R :: F) := by
  obtain ⟨S, h0, h1, h2⟩ := ch.states
  have := jTries (c := c) S hR hm hl h2
  rw [h0, ← hm, h1] at this
  rw [← hm]
  exact this
theorem Goes.sub {fv : Value} {I J L M K : List HP} (h : Goes fv I J) (t : Tk L I K := by repeat (first | exact .nil | (apply Tk.cons; (focus ((repeat (first | exact .here | apply Rem.there)); done)))))
    (m : Am (J ++ K) M := by repeat (first | exact .refl | exact .nil | (apply Am.take; (focus ((repeat (first | exact .here | apply Rem.there)); done))) | refine .skip ?_)) : Goes fv L M := by
  obtain ⟨f, us, cap, hf, hc, hs⟩ := h
  refine ⟨f, us, cap, hf, hc, fun B F w hsat => ?_⟩
  have h1 := hsat.take (Tk.right t)
  rw [← List.append_assoc] at h1
  have h2 := hs B (K ++ F) w (by rw [← List.append_assoc]; exact h1)
  refine h2.mono ?_
  rintro e w' ⟨v, M', rfl, ⟨rfl, rfl⟩, h3⟩
  refine ⟨_, _, rfl, ⟨rfl, rfl⟩, ?_⟩
  rw [← List.append_assoc] at h3
  exact (Am.right m).wk B w' h3
theorem goesFlush {d n t : Nat} {cur : Nat → Bytes} : Goes (.func (.func 86) #[.pointer (some ⟨d, 0, none⟩)] #[]) [DevR d n cur t] [DevR d n cur 0] := ⟨_, _, _, rfl, Tryz.call86, devFlush⟩
def boxD (b d : Nat) : HP := pt b (.cells #[.pointer (some ⟨d, 0, none⟩)] 76 (0, 0))
def cellI (b : Nat) (i : Nat) : HP := pt b (.cells #[.int .i64 (i : Int)] 3 (0, 0))
def cellU (b : Nat) (i : Nat) : HP := pt b (.cells #[.int .u64 (i : Int)] 138 (0, 0))
theorem jFormat1 {d n t b c i : Nat} {cur : Nat → Bytes} (hi : i ≤ 3) (hn : 246 ≤ n) (ht : t ≤ 1000) : Spec Tryz.prog 82 #[.pointer (some ⟨b, 0, none⟩), .pointer (some ⟨c, 0, none⟩)] [boxD b d, cellI c i, DevR d n cur t] fun F v M => v = okV ∧ M = [boxD b d, cellI c i, DevR d n (wr cur (slotAt i 0) zeros) (t + 1)] ++ F := by
  refine Spec.intro Tryz.func82 rfl rfl fun B F => ?_
  simp only [Tryz.ntmps82, List.cons_append, List.nil_append, env0, Nat.reduceAdd]
  simp only [boxD, cellI]
  refine WC.seq ?_
  refine WC.region ?_
  refine WL.assign ?_
  refine WL.nil ?_
  refine WQ.next ?_
  refine WC.seq ?_
  refine WC.draw ([pt b (.cells #[.pointer (some ⟨d, 0, none⟩)] 76 (0, 0)), pt c (.cells #[.int .i64 (i : Int)] 3 (0, 0))]) [] 7 #[false, false, false, false, false, false, false] mixed (by kernel_rfl) NoPanic.autoJ ?_
  refine WD.take (i := 0) #[true, false, false, false, false, false, false] rfl (by kernel_rfl) (Qt.ld sc76) ?_
  refine WD.take (i := 1) #[true, true, false, false, false, false, false] rfl (by kernel_rfl) (Qt.ld sc3) ?_
  refine WD.take (i := 2) #[true, true, true, false, false, false, false] rfl (by kernel_rfl) (Qt.build (bdPlace _ _)) ?_
  refine WD.two (i := 3) (j := 4) #[true, true, true, true, false, false, false] #[true, true, true, false, true, false, false] rfl rfl (by kernel_rfl) (fun hnp => ?_) (fun hnp => ?_)
  · refine WL.call (hc := Tryz.call84) (sp := placeAt (a := i) (b := 0) (by omega)) (h := ?_)
    rintro _ _ ⟨rfl, rfl⟩
    refine WL.nil (WQ.wd hnp (.inl Am.auto) ?_)
    refine WD.one (i := 4) #[true, true, true, true, true, false, false] rfl (by kernel_rfl) fun hnp => ?_
    refine WL.mkSN 512 z5 so33 (by decide) (by decide) fun b7 => ?_
    refine WL.to (r := .here) (A' := buf b7 5 512 (bvs zeros)) (fun h hh => by unfold zeros; rw [bvs_replicate]; exact hh) ?_
    refine WL.nil (WQ.wd hnp (.inl Am.auto) ?_)
    refine WD.one (i := 5) #[true, true, true, true, true, true, false] rfl (by kernel_rfl) fun hnp => ?_
    refine WL.call (hc := Tryz.call83) (sp := devWrite (n := n) (t := t) (cur := cur) (k := slotAt i 0) Reads.buf zeros_length rfl (by unfold slotAt; omega) (by omega)) (h := ?_)
    rintro _ _ ⟨rfl, rfl⟩
    refine WL.nil (WQ.wd hnp (.inl Am.auto) ?_)
    refine WD.take (i := 6) #[true, true, true, true, true, true, true] rfl (by kernel_rfl) (Qt.assign ) ?_
    refine WD.done (by kernel_rfl) ?_
    refine WQ.next ?_
    refine WC.ret (?_)
    exact WQ.ret1 (h1 := .tmp (t := 2) rfl) ⟨_, ⟨rfl, rfl⟩, Am.auto⟩
  · refine WL.mkSN 512 z5 so33 (by decide) (by decide) fun b7 => ?_
    refine WL.to (r := .here) (A' := buf b7 5 512 (bvs zeros)) (fun h hh => by unfold zeros; rw [bvs_replicate]; exact hh) ?_
    refine WL.nil (WQ.wd hnp (.inl Am.auto) ?_)
    refine WD.one (i := 3) #[true, true, true, true, true, false, false] rfl (by kernel_rfl) fun hnp => ?_
    refine WL.call (hc := Tryz.call84) (sp := placeAt (a := i) (b := 0) (by omega)) (h := ?_)
    rintro _ _ ⟨rfl, rfl⟩
    refine WL.nil (WQ.wd hnp (.inl Am.auto) ?_)
    refine WD.one (i := 5) #[true, true, true, true, true, true, false] rfl (by kernel_rfl) fun hnp => ?_
    refine WL.call (hc := Tryz.call83) (sp := devWrite (n := n) (t := t) (cur := cur) (k := slotAt i 0) Reads.buf zeros_length rfl (by unfold slotAt; omega) (by omega)) (h := ?_)
    rintro _ _ ⟨rfl, rfl⟩
    refine WL.nil (WQ.wd hnp (.inl Am.auto) ?_)
    refine WD.take (i := 6) #[true, true, true, true, true, true, true] rfl (by kernel_rfl) (Qt.assign ) ?_
    refine WD.done (by kernel_rfl) ?_
    refine WQ.next ?_
    refine WC.ret (?_)
    exact WQ.ret1 (h1 := .tmp (t := 2) rfl) ⟨_, ⟨rfl, rfl⟩, Am.auto⟩
theorem jFormat2 {d n t b c gen : Nat} {cur : Nat → Bytes} (hn : 246 ≤ n) (ht : t ≤ 1000) : Spec Tryz.prog 87 #[.pointer (some ⟨b, 0, none⟩), .pointer (some ⟨c, 0, none⟩)] [boxD b d, cellU c gen, DevR d n cur t] fun F v M => v = okV ∧ M = [boxD b d, cellU c gen, DevR d n (wr cur 0 (laidB magicJ [(gen + 1) % 2 ^ 64])) (t + 1)] ++ F := by
  refine Spec.intro Tryz.func87 rfl rfl fun B F => ?_
  simp only [Tryz.ntmps87, List.cons_append, List.nil_append, env0, Nat.reduceAdd]
  simp only [boxD, cellU]
  refine WC.seq ?_
  refine WC.region ?_
  refine WL.assign ?_
  refine WL.nil ?_
  refine WQ.next ?_
  refine WC.seq ?_
  refine WC.draw ([pt b (.cells #[.pointer (some ⟨d, 0, none⟩)] 76 (0, 0)), pt c (.cells #[.int .u64 (gen : Int)] 138 (0, 0))]) [] 7 #[false, false, false, false, false, false, false] mixed (by kernel_rfl) NoPanic.autoJ ?_
  refine WD.take (i := 0) #[true, false, false, false, false, false, false] rfl (by kernel_rfl) (Qt.ld sc76) ?_
  refine WD.take (i := 1) #[true, true, false, false, false, false, false] rfl (by kernel_rfl) (Qt.ld sc138) ?_
  refine WD.take (i := 2) #[true, true, true, false, false, false, false] rfl (by kernel_rfl) ((Qt.addw).eq (v' := .int .u64 (((gen + 1) % 2 ^ 64 : Nat) : Int)) (congrArg (Value.int .u64) (u64_wrap1 gen))) ?_
  refine WD.one (i := 3) #[true, true, true, true, false, false, false] rfl (by kernel_rfl) fun hnp => ?_
  refine WL.buildS (fun b6 => ?_) (bs181_1 _)
  refine WL.nil (WQ.wd hnp (.inl Am.auto) ?_)
  refine WD.one (i := 4) #[true, true, true, true, true, false, false] rfl (by kernel_rfl) fun hnp => ?_
  refine WL.call (hc := Tryz.call88) (sp := jLaid (ys := magicJ) (nums := [(gen + 1) % 2 ^ 64]) (by decide) Reads.pt rfl (Nat.le_of_ble_eq_true rfl) (by intro v hv; rw [List.mem_singleton] at hv; subst hv; exact Nat.mod_lt _ (by decide))) (h := ?_)
  rintro _ _ ⟨gl, ql, ⟨rfl, hl1, hl2⟩, rfl⟩
  refine WL.nil (WQ.wd hnp (.inl Am.auto) ?_)
  refine WD.one (i := 5) #[true, true, true, true, true, true, false] rfl (by kernel_rfl) fun hnp => ?_
  refine WL.call (hc := Tryz.call83) (sp := devWrite (n := n) (t := t) (cur := cur) (k := 0) Reads.buf (laidN_length (ys := magicJ) (by decide) _ _) rfl (by omega) (by omega)) (h := ?_)
  rintro _ _ ⟨rfl, rfl⟩
  refine WL.nil (WQ.wd hnp (.inl Am.auto) ?_)
  refine WD.take (i := 6) #[true, true, true, true, true, true, true] rfl (by kernel_rfl) (Qt.assign ) ?_
  refine WD.done (by kernel_rfl) ?_
  refine WQ.next ?_
  refine WC.ret (?_)
  exact WQ.ret1 (h1 := .tmp (t := 2) rfl) ⟨_, ⟨rfl, rfl⟩, Am.auto⟩
def clearH (cur : Nat → Bytes) : Nat → Nat → Bytes
  | 0 => cur
  | i + 1 => wr (clearH cur i) (slotAt i 0) zeros
def formatted (cur : Nat → Bytes) : Nat → Bytes := wr (if (cur 0).take 8 = magicJ then cur else clearH cur 4) 0 (laidB magicJ [(beNat (seg (cur 0) 8 8 false) + 1) % 2 ^ 64])
def fmt1V (b c : Nat) : Value := .func (.func 82) #[] #[.pointer (some ⟨b, 0, none⟩), .pointer (some ⟨c, 0, none⟩)]
def fmt2V (b c : Nat) : Value := .func (.func 87) #[] #[.pointer (some ⟨b, 0, none⟩), .pointer (some ⟨c, 0, none⟩)]
theorem goesFmt1 {d n t b c : Nat} {cur : Nat → Bytes} (i : Nat) (hi : i ≤ 3) (hn : 246 ≤ n) (ht : t ≤ 1000) : Goes (fmt1V b c) [boxD b d, cellI c i, DevR d n cur t] [boxD b d, cellI c i, DevR d n (wr cur (slotAt i 0) zeros) (t + 1)] := ⟨_, _, _, rfl, Tryz.call82, jFormat1 hi hn ht⟩
theorem goesFmt2 {d n t b c gen : Nat} {cur : Nat → Bytes} (hn : 246 ≤ n) (ht : t ≤ 1000) : Goes (fmt2V b c) [boxD b d, cellU c gen, DevR d n cur t] [boxD b d, cellU c gen, DevR d n (wr cur 0 (laidB magicJ [(gen + 1) % 2 ^ 64])) (t + 1)] := ⟨_, _, _, rfl, Tryz.call87, jFormat2 hn ht⟩
theorem jFormat {d n t : Nat} {cur : Nat → Bytes} (hn : 246 ≤ n) (ht : t ≤ 100) : Spec Tryz.prog 42 #[.pointer (some ⟨d, 0, none⟩)] [DevR d n cur t] fun F v M => v = .int .i64 0 ∧ M = DevR d n (formatted cur) 0 :: F := by
  refine Spec.intro Tryz.func42 rfl rfl fun B F => ?_
  simp only [Tryz.ntmps42, List.cons_append, List.nil_append, env0, Nat.reduceAdd]
  refine WC.seq ?_
  refine WC.region ?_
  refine WL.box fun b1 => ?_
  refine WL.assign ?_
  refine WL.nil ?_
  refine WQ.next ?_
  refine WC.seq ?_
  refine WC.seq ?_
  refine WC.region ?_
  refine WL.ld ?_ sc76
  refine WL.call (hc := Tryz.call80) (sp := devBlocksR (n := n) (t := t) (cur := cur)) (h := ?_)
  rintro _ _ ⟨rfl, rfl⟩
  refine WL.lss ?_
  refine WL.nil ?_
  refine WQ.next ?_
  refine WC.condF rfl (congrArg Value.bool (by first | (simp; done) | (simp; omega) | omega)) ?_
  refine WC.skip ?_
  refine WQ.next ?_
  refine WC.seq ?_
  refine WC.region ?_
  refine WL.ld ?_ sc76
  refine WL.call (hc := Tryz.call81) (sp := jFirst (n := n) (t := t) (cur := cur) (by omega)) (h := ?_)
  rintro _ _ ⟨rfl, rfl⟩
  refine WL.move ?_
  refine WL.extract ?_
  refine WL.extract ?_
  refine WL.alloc z138 fun b3 => ?_
  refine WL.st ?_ sc138
  refine WL.assign ?_
  refine WL.nil ?_
  refine WQ.next ?_
  refine WC.seq ?_
  refine WC.region ?_
  refine WL.assign ?_
  refine WL.emp (rowR.nil (e := 41) (size := 1) _) ?_
  refine WL.nil ?_
  refine WQ.next ?_
  refine WC.seq ?_
  refine WC.seq ?_
  refine WC.region ?_
  refine WL.move ?_
  refine WL.not ?_
  refine WL.nil ?_
  refine WQ.next ?_
  refine WC.cond rfl (fun hb => ?_) (fun hb => ?_)
  · have hno : ¬ (cur 0).take 8 = magicJ := by simpa using hb
    refine WC.seq ?_
    refine WC.region ?_
    refine WL.move ?_
    refine WL.nil ?_
    refine WQ.next ?_
    refine WC.block ?_
    refine WC.loopN 5 (RC.succ ?_)
    refine WC.seq ?_
    refine WC.region ?_
    refine WL.lss ?_
    refine WL.nil ?_
    refine WQ.next ?_
    refine WC.seq ?_
    refine WC.condT rfl rfl ?_
    refine WC.skip ?_
    refine WQ.next ?_
    refine WC.seq ?_
    refine WC.block ?_
    refine WC.seq ?_
    refine WC.region ?_
    refine WL.move ?_
    refine WL.alloc z3 fun b6_0 => ?_
    refine WL.st ?_ sc3
    refine WL.nil ?_
    refine WQ.next ?_
    refine WC.region ?_
    refine WL.move ?_
    refine WL.makeFuncB ?_
    refine WL.buildS (fun b22 => ?_) (bs141_1 _ _ _)
    refine WL.append (m := 1) so141 (by decide) (by repeat (first | exact .here | apply Rem.there | apply Repl.there | apply Mem.there)) Reads.pt (by repeat (first | exact .here | apply Rem.there | apply Repl.there | apply Mem.there)) rfl (by simp [Value.single]) (by decide) (by decide) ⟨_, z41, rfl⟩ (fun v_0 hv_0 => ?_)
    refine WL.assign ?_
    refine WL.nil ?_
    refine WQ.blockNormal ?_
    refine WQ.next ?_
    refine WC.region ?_
    refine WL.add ?_
    refine WL.move ?_
    refine WL.nil ?_
    refine WQ.again (RC.succ ?_)
    refine WC.seq ?_
    refine WC.region ?_
    refine WL.lss ?_
    refine WL.nil ?_
    refine WQ.next ?_
    refine WC.seq ?_
    refine WC.condT rfl rfl ?_
    refine WC.skip ?_
    refine WQ.next ?_
    refine WC.seq ?_
    refine WC.block ?_
    refine WC.seq ?_
    refine WC.region ?_
    refine WL.move ?_
    refine WL.alloc z3 fun b6_1 => ?_
    refine WL.st ?_ sc3
    refine WL.nil ?_
    refine WQ.next ?_
    refine WC.region ?_
    refine WL.move ?_
    refine WL.makeFuncB ?_
    refine WL.buildS (fun b22 => ?_) (bs141_1 _ _ _)
    refine WL.append (m := 1) so141 (by decide) (by repeat (first | exact .here | apply Rem.there | apply Repl.there | apply Mem.there)) Reads.pt (by repeat (first | exact .here | apply Rem.there | apply Repl.there | apply Mem.there)) rfl (by simp [Value.single]) (by decide) (by decide) ⟨_, z41, rfl⟩ (fun v_1 hv_1 => ?_)
    refine WL.assign ?_
    refine WL.nil ?_
    refine WQ.blockNormal ?_
    refine WQ.next ?_
    refine WC.region ?_
    refine WL.add ?_
    refine WL.move ?_
    refine WL.nil ?_
    refine WQ.again (RC.succ ?_)
    refine WC.seq ?_
    refine WC.region ?_
    refine WL.lss ?_
    refine WL.nil ?_
    refine WQ.next ?_
    refine WC.seq ?_
    refine WC.condT rfl rfl ?_
    refine WC.skip ?_
    refine WQ.next ?_
    refine WC.seq ?_
    refine WC.block ?_
    refine WC.seq ?_
    refine WC.region ?_
    refine WL.move ?_
    refine WL.alloc z3 fun b6_2 => ?_
    refine WL.st ?_ sc3
    refine WL.nil ?_
    refine WQ.next ?_
    refine WC.region ?_
    refine WL.move ?_
    refine WL.makeFuncB ?_
    refine WL.buildS (fun b22 => ?_) (bs141_1 _ _ _)
    refine WL.append (m := 1) so141 (by decide) (by repeat (first | exact .here | apply Rem.there | apply Repl.there | apply Mem.there)) Reads.pt (by repeat (first | exact .here | apply Rem.there | apply Repl.there | apply Mem.there)) rfl (by simp [Value.single]) (by decide) (by decide) ⟨_, z41, rfl⟩ (fun v_2 hv_2 => ?_)
    refine WL.assign ?_
    refine WL.nil ?_
    refine WQ.blockNormal ?_
    refine WQ.next ?_
    refine WC.region ?_
    refine WL.add ?_
    refine WL.move ?_
    refine WL.nil ?_
    refine WQ.again (RC.succ ?_)
    refine WC.seq ?_
    refine WC.region ?_
    refine WL.lss ?_
    refine WL.nil ?_
    refine WQ.next ?_
    refine WC.seq ?_
    refine WC.condT rfl rfl ?_
    refine WC.skip ?_
    refine WQ.next ?_
    refine WC.seq ?_
    refine WC.block ?_
    refine WC.seq ?_
    refine WC.region ?_
    refine WL.move ?_
    refine WL.alloc z3 fun b6_3 => ?_
    refine WL.st ?_ sc3
    refine WL.nil ?_
    refine WQ.next ?_
    refine WC.region ?_
    refine WL.move ?_
    refine WL.makeFuncB ?_
    refine WL.buildS (fun b22 => ?_) (bs141_1 _ _ _)
    refine WL.append (m := 1) so141 (by decide) (by repeat (first | exact .here | apply Rem.there | apply Repl.there | apply Mem.there)) Reads.pt (by repeat (first | exact .here | apply Rem.there | apply Repl.there | apply Mem.there)) rfl (by simp [Value.single]) (by decide) (by decide) ⟨_, z41, rfl⟩ (fun v_3 hv_3 => ?_)
    refine WL.assign ?_
    refine WL.nil ?_
    refine WQ.blockNormal ?_
    refine WQ.next ?_
    refine WC.region ?_
    refine WL.add ?_
    refine WL.move ?_
    refine WL.nil ?_
    refine WQ.again (RC.succ ?_)
    refine WC.seq ?_
    refine WC.region ?_
    refine WL.lss ?_
    refine WL.nil ?_
    refine WQ.next ?_
    refine WC.seq ?_
    refine WC.condF rfl rfl ?_
    refine WC.exit (WQ.thenExit (WQ.thenExit (WQ.blockExit (?_))))
    refine WQ.next ?_
    refine WC.seq ?_
    refine WC.region ?_
    refine WL.move ?_
    refine WL.ld ?_ sc76
    refine WL.makeFuncB ?_
    refine WL.makeFuncB ?_
    refine WL.ld ?_ sc76
    refine WL.makeFuncB ?_
    refine WL.buildS (fun b31 => ?_) (bs141_3 _ _ _ _ _ _ _ _ _)
    refine WL.append (m := 3) so141 (by decide) (by repeat (first | exact .here | apply Rem.there | apply Repl.there | apply Mem.there)) Reads.pt (by repeat (first | exact .here | apply Rem.there | apply Repl.there | apply Mem.there)) rfl (by simp [Value.single]) (by decide) (by decide) ⟨_, z41, rfl⟩ (fun vT hvT => ?_)
    refine WL.rowOpen (v := vT) fun A c hv hR hc1 hc2 => ?_
    subst hv
    refine WL.call (hc := Tryz.call85) (sp := jTriesC ((.cons (I := [boxD b1 d, cellI b6_0 0, cellI b6_1 1, cellI b6_2 2, cellI b6_3 3, cellU b3 (beNat (seg (cur 0) 8 8 false)), DevR d n cur t]) (goesFmt1 (d := d) (n := n) (t := t + 0) (cur := clearH cur 0) 0 (by decide) hn (by omega)).sub (.cons (goesFmt1 (d := d) (n := n) (t := t + 1) (cur := clearH cur 1) 1 (by decide) hn (by omega)).sub (.cons (goesFmt1 (d := d) (n := n) (t := t + 2) (cur := clearH cur 2) 2 (by decide) hn (by omega)).sub (.cons (goesFmt1 (d := d) (n := n) (t := t + 3) (cur := clearH cur 3) 3 (by decide) hn (by omega)).sub (.cons (goesFlush (d := d) (n := n) (t := t + 4) (cur := (clearH cur 4))).sub (.cons (goesFmt2 (d := d) (n := n) (t := 0) (cur := (clearH cur 4)) (gen := beNat (seg (cur 0) 8 8 false)) hn (by decide)).sub (.cons goesFlush.sub .nil)))))))) hR rfl (Nat.le_of_ble_eq_true rfl)) (h := ?_)
    rintro _ _ ⟨rfl, rfl⟩
    simp only [List.cons_append, List.nil_append]
    refine WL.assign ?_
    refine WL.nil ?_
    refine WQ.next ?_
    refine WC.ret (?_)
    have hfin : formatted cur = wr (clearH cur 4) 0 (laidB magicJ [(beNat (seg (cur 0) 8 8 false) + 1) % 2 ^ 64]) := by unfold formatted; rw [if_neg hno]
    rw [hfin]
    exact WQ.ret1 (h1 := .tmp (t := 2) rfl) ⟨_, ⟨rfl, rfl⟩, Am.auto⟩
  · have hyes : (cur 0).take 8 = magicJ := by simpa using hb
    refine WC.skip ?_
    refine WQ.next ?_
    refine WC.seq ?_
    refine WC.region ?_
    refine WL.move ?_
    refine WL.ld ?_ sc76
    refine WL.makeFuncB ?_
    refine WL.makeFuncB ?_
    refine WL.ld ?_ sc76
    refine WL.makeFuncB ?_
    refine WL.buildS (fun b31 => ?_) (bs141_3 _ _ _ _ _ _ _ _ _)
    refine WL.append (m := 3) so141 (by decide) (by repeat (first | exact .here | apply Rem.there | apply Repl.there | apply Mem.there)) Reads.pt (by repeat (first | exact .here | apply Rem.there | apply Repl.there | apply Mem.there)) rfl (by simp [Value.single]) (by decide) (by decide) ⟨_, z41, rfl⟩ (fun vT hvT => ?_)
    refine WL.rowOpen (v := vT) fun A c hv hR hc1 hc2 => ?_
    subst hv
    refine WL.call (hc := Tryz.call85) (sp := jTriesC ((.cons (I := [boxD b1 d, cellU b3 (beNat (seg (cur 0) 8 8 false)), DevR d n cur t]) (goesFlush (d := d) (n := n) (t := t) (cur := cur)).sub (.cons (goesFmt2 (d := d) (n := n) (t := 0) (cur := cur) (gen := beNat (seg (cur 0) 8 8 false)) hn (by decide)).sub (.cons goesFlush.sub .nil)))) hR rfl (Nat.le_of_ble_eq_true rfl)) (h := ?_)
    rintro _ _ ⟨rfl, rfl⟩
    simp only [List.cons_append, List.nil_append]
    refine WL.assign ?_
    refine WL.nil ?_
    refine WQ.next ?_
    refine WC.ret (?_)
    have hfin : formatted cur = wr cur 0 (laidB magicJ [(beNat (seg (cur 0) 8 8 false) + 1) % 2 ^ 64]) := by unfold formatted; rw [if_pos hyes]
    rw [hfin]
    exact WQ.ret1 (h1 := .tmp (t := 2) rfl) ⟨_, ⟨rfl, rfl⟩, Am.auto⟩
end Go.Proofs.YtedmihapieleaaaGreat
end
section
namespace Go.Proofs.YtedmihapieleaaaGreat
open Go
theorem klP : KeyLaw Tryz.prog 144 pairE := structKeys (fun k : Int × Int => [k.1, k.2]) (n := 2) (by kernel_rfl) (fun _ => rfl) (fun a b h => by
  obtain ⟨a1, a2⟩ := a
  obtain ⟨b1, b2⟩ := b
  simp only [List.cons.injEq, and_true] at h
  rw [h.1, h.2])
def jO (d gen last : Nat) (ov : Value) (mp : Nat) : Obj := .cells #[.pointer (some ⟨d, 0, none⟩), .int .u64 (gen : Int), .int .u64 (last : Int), .bool false, ov, .map (some mp)] 149 (0, 0)
def lay (cur : Nat → Bytes) (l : List (Nat × Bytes)) : Nat → Bytes := l.foldl (fun c p => wr c p.1 p.2) cur
theorem lay_snoc (cur : Nat → Bytes) (l : List (Nat × Bytes)) (p : Nat × Bytes) : lay cur (l ++ [p]) = wr (lay cur l) p.1 p.2 := by simp [lay]
theorem lay_take (cur : Nat → Bytes) (l : List (Nat × Bytes)) (i : Nat) (h : i < l.length) : lay cur (l.take (i + 1)) = wr (lay cur (l.take i)) l[i].1 l[i].2 := by
  rw [List.take_succ_eq_append_getElem h, lay_snoc]
def blocksV (l : List (Nat × Bytes)) : List Value := ints (l.map fun p => (p.1 : Int))
theorem blocksV_length (l : List (Nat × Bytes)) : (blocksV l).length = l.length := by simp [blocksV, ints]
theorem blocksV_get (l : List (Nat × Bytes)) (i : Nat) (h : i < l.length) : (blocksV l)[i]? = some (.int .i64 (l[i].1 : Int)) := by simp [blocksV, ints, h]
def Kept (kv : List ((Int × Int) × Value)) (bl : List (Value × Bytes)) (s : Nat) (l : List (Nat × Bytes)) : Prop :=
  ∀ i (h : i < l.length), ∃ v, kget kv ((s : Int), (i : Int)) = some v ∧ (v, l[i].2) ∈ bl
structure Fit (n : Nat) (l : List (Nat × Bytes)) : Prop where
  home : ∀ p ∈ l, 245 ≤ p.1 ∧ p.1 < n ∧ p.2.length = 512
  few : l.length ≤ 60
  apart : (l.map (·.1)).Nodup
theorem ints_get {xs : List Int} {i : Nat} (h : i < xs.length) : (ints xs)[i]? = some (.int .i64 xs[i]) := by simp [ints, h]
theorem idxOf_of {xs : List Int} {k : Int} {i : Nat} (hi : i < xs.length) (hk : xs[i] = k) (hb : ∀ j : Nat, j < i → xs[j]? ≠ some k) : xs.idxOf k = i := by
  induction xs generalizing i with
  | nil => simp at hi
  | cons x xs ih =>
    cases i with
    | zero => simp at hk; subst hk; simp
    | succ i =>
      have hx : x ≠ k := fun h => hb 0 (by omega) (by simp [h])
      rw [List.idxOf_cons, show (x == k) = false from by simpa using hx, cond_false, ih (by simpa using hi) (by simpa using hk) (fun j hj => by have := hb (j + 1) (by omega); simpa using this)]
theorem intsIndex {R : HP} {A : Option Addr} {m c : Nat} {xs : List Int} {k : Int} (hR : Reads R A (ints xs)) (hm : xs.length = m) (hl : m ≤ 1073741824) : Spec Tryz.prog 134 #[.slice A m c, .int .i64 k] [R] fun F v M => v = .int .i64 (if k ∈ xs then (xs.idxOf k : Int) else -1) ∧ M = R :: F := by
  refine Spec.intro Tryz.func134 rfl rfl fun B F => ?_
  simp only [Tryz.ntmps134, List.cons_append, List.nil_append, env0, Nat.reduceAdd]
  refine WC.seq ?_
  refine WC.region ?_
  refine WL.assign ?_
  refine WL.nil ?_
  refine WQ.next ?_
  refine WC.seq ?_
  refine WC.seq ?_
  refine WC.region ?_
  refine WL.move ?_
  refine WL.lenS ?_ sl22
  refine WL.move ?_
  refine WL.nil ?_
  refine WQ.next ?_
  refine WC.block ?_
  refine WC.loopA (σ := Int) (fun i => [(0, .slice A m c), (1, .int .i64 k), (7, .int .i64 (m : Int)), (8, .int .i64 i)]) (fun _ => R :: F) (fun i => (0 ≤ i ∧ i ≤ m) ∧ ∀ j : Nat, j < i.toNat → xs[j]? ≠ some k) (fun i => ((m : Int) - i).toNat) 0 ⟨by omega, fun j hj => by omega⟩ ?_
  rintro i hp
  refine WC.seq ?_
  refine WC.region ?_
  refine WL.lss ?_
  refine WL.nil ?_
  refine WQ.next ?_
  refine WC.seq ?_
  refine WC.cond rfl (fun hb => ?_) (fun hb => ?_)
  · have hlt : i < (m : Int) := of_decide_eq_true hb
    have hil : i.toNat < xs.length := by omega
    rcases A with _ | ⟨ab, ao, asp⟩
    · exact absurd hR (fun h => by have h2 : ints xs = [] := h; simp [ints] at h2; subst h2; simp at hil)
    have hsp : asp = none := hR.1
    subst hsp
    refine WC.skip ?_
    refine WQ.next ?_
    refine WC.seq ?_
    refine WC.block ?_
    refine WC.seq ?_
    refine WC.region ?_
    refine WL.move ?_
    refine WL.assign ?_
    refine WL.nil ?_
    refine WQ.next ?_
    refine WC.seq ?_
    refine WC.region ?_
    refine WL.move ?_
    refine WL.move ?_
    refine WL.move ?_
    refine WL.idx1 ?_ so22
    refine WL.ldR ?_ sc3 hR (ints_get hil)
    refine WL.eqi ?_
    refine WL.nil ?_
    refine WQ.next ?_
    refine WC.cond rfl (fun hb2 => ?_) (fun hb2 => ?_)
    · have hk : k = xs[i.toNat] := of_decide_eq_true hb2
      refine WC.seq ?_
      refine WC.region ?_
      refine WL.move ?_
      refine WL.assign ?_
      refine WL.nil ?_
      refine WQ.next ?_
      refine WC.ret (WQ.blockRet (WQ.thenRet (WQ.thenRet (WQ.blockRet (WQ.thenRet (?_))))))
      have hmem : k ∈ xs := hk ▸ List.getElem_mem hil
      have hidx : xs.idxOf k = i.toNat := idxOf_of hil hk.symm (fun j hj => hp.2 j hj)
      exact WQ.ret1 (h1 := .tmp (t := 4) rfl) ⟨_, ⟨by rw [if_pos hmem, hidx]; exact congrArg (Value.int .i64) (by omega), rfl⟩, Am.auto⟩
    · have hk : ¬ k = xs[i.toNat] := of_decide_eq_false hb2
      refine WC.skip ?_
      refine WQ.blockNormal ?_
      refine WQ.next ?_
      refine WC.region ?_
      refine WL.add ?_
      refine WL.move ?_
      refine WL.nil ?_
      exact WQ.back (i + 1) ⟨by omega, fun j hj h => if hji : j < i.toNat then hp.2 j hji h else by rw [show xs[j]? = xs[i.toNat]? from by rw [show j = i.toNat from by omega]] at h; rw [List.getElem?_eq_getElem hil] at h; exact hk (Option.some.inj h).symm⟩ (by omega)
  · have hge : ¬ i < (m : Int) := of_decide_eq_false hb
    refine WC.exit (WQ.thenExit (WQ.thenExit (WQ.blockExit (?_))))
    refine WQ.next ?_
    refine WC.seq ?_
    refine WC.region ?_
    refine WL.assign ?_
    refine WL.nil ?_
    refine WQ.next ?_
    refine WC.ret (?_)
    have hno : ¬ k ∈ xs := fun h => by obtain ⟨j, hj, hjk⟩ := List.mem_iff_getElem.1 h; exact hp.2 j (by omega) (by rw [List.getElem?_eq_getElem hj, hjk])
    exact WQ.ret1 (h1 := .tmp (t := 4) rfl) ⟨_, ⟨by rw [if_neg hno], rfl⟩, Am.auto⟩
theorem jHome {j d n t gen last mp : Nat} {ov : Value} {cur : Nat → Bytes} {k : Int} : Spec Tryz.prog 131 #[.pointer (some ⟨j, 0, none⟩), .int .i64 k] [pt j (jO d gen last ov mp), DevR d n cur t] fun F v M => v = .bool (decide (245 ≤ k ∧ k < n)) ∧ M = pt j (jO d gen last ov mp) :: DevR d n cur t :: F := by
  refine Spec.intro Tryz.func131 rfl rfl fun B F => ?_
  simp only [Tryz.ntmps131, List.cons_append, List.nil_append, env0, Nat.reduceAdd]
  by_cases h5 : 245 ≤ k
  · refine WC.seq ?_
    refine WC.region ?_
    refine WL.assign ?_
    refine WL.nil ?_
    refine WQ.next ?_
    refine WC.seq ?_
    refine WC.region ?_
    refine WL.move ?_
    refine WL.neNil ?_ ptr80
    refine WL.move ?_
    refine WL.gT ?_
    refine WL.move ?_
    refine WL.gT ?_
    refine WL.geq ?_
    refine WL.pickT ?_
    refine WL.move ?_
    refine WL.cast (d := 11) (u := .bool true) rfl (congrArg Value.bool (by first | (simp; done) | (simp; omega) | omega)) ?_
    refine WL.gT ?_
    refine WL.move ?_
    refine WL.gT ?_
    refine WL.move ?_
    refine WL.gT ?_
    refine WL.nilCheck ?_
    refine WL.gT ?_
    refine WL.fa ?_ fo149_0
    refine WL.gT ?_
    refine WL.ld ?_ sc76
    refine WL.gT ?_
    refine WL.call (hc := Tryz.call80) (sp := devBlocksR (n := n) (t := t) (cur := cur)) (h := ?_)
    rintro _ _ ⟨rfl, rfl⟩
    refine WL.gT ?_
    refine WL.lss ?_
    refine WL.pickT ?_
    refine WL.assign ?_
    refine WL.nil ?_
    refine WQ.next ?_
    refine WC.ret (?_)
    exact WQ.ret1 (h1 := .tmp (t := 4) rfl) ⟨_, ⟨congrArg Value.bool (by simp [h5]), rfl⟩, Am.auto⟩
  · refine WC.seq ?_
    refine WC.region ?_
    refine WL.assign ?_
    refine WL.nil ?_
    refine WQ.next ?_
    refine WC.seq ?_
    refine WC.region ?_
    refine WL.move ?_
    refine WL.neNil ?_ ptr80
    refine WL.move ?_
    refine WL.gT ?_
    refine WL.move ?_
    refine WL.gT ?_
    refine WL.geq ?_
    refine WL.pickT ?_
    refine WL.move ?_
    refine WL.cast (d := 11) (u := .bool false) rfl (congrArg Value.bool (by first | (simp; done) | (simp; omega) | omega)) ?_
    refine WL.gF ?_
    refine WL.gF ?_
    refine WL.gF ?_
    refine WL.gF ?_
    refine WL.gF ?_
    refine WL.gF ?_
    refine WL.gF ?_
    refine WL.pickF ?_
    refine WL.assign ?_
    refine WL.nil ?_
    refine WQ.next ?_
    refine WC.ret (?_)
    exact WQ.ret1 (h1 := .tmp (t := 4) rfl) ⟨_, ⟨congrArg Value.bool (by simp [h5]), rfl⟩, Am.auto⟩
theorem jSettle {j d n t gen last mp c : Nat} {ov : Value} {es : Array MapEntry} {kv : List ((Int × Int) × Value)} {bl : List (Value × Bytes)} {ch : List (Nat × Bytes)} {cur : Nat → Bytes} (hm : MapIs pairE es c kv) (hk : Kept kv bl (last % 4) ch) (hf : Fit n ch) (ht : t ≤ 1000) :
    Spec Tryz.prog 92 #[.pointer (some ⟨j, 0, none⟩)] [pt j (jO d gen last ov mp), rowR 3 1 ov ch.length (blocksV ch), pt mp (.map es c), blobs bl, DevR d n cur t] fun F v M => v = okV ∧ M = [pt j (jO d gen last ov mp), rowR 3 1 ov ch.length (blocksV ch), pt mp (.map es c), blobs bl, DevR d n (lay cur ch) (t + ch.length)] ++ F := by
  refine Spec.intro Tryz.func92 rfl rfl fun B F => ?_
  simp only [Tryz.ntmps92, List.cons_append, List.nil_append, env0, Nat.reduceAdd]
  refine WC.fact (rowR_shape (el := 3) (size := 1) (v := ov) (k := ch.length) (xs := blocksV ch)) (fun ⟨A, cc, hov, hR, hc1, hc2, hlen⟩ => ?_)
  subst hov
  have hfew := hf.few
  refine WC.seq ?_
  refine WC.region ?_
  refine WL.assign ?_
  refine WL.nil ?_
  refine WQ.next ?_
  refine WC.seq ?_
  refine WC.seq ?_
  refine WC.region ?_
  refine WL.move ?_
  refine WL.nilCheck ?_
  refine WL.fa ?_ fo149_4
  refine WL.ld ?_ sc22
  refine WL.lenS ?_ sl22
  refine WL.move ?_
  refine WL.nil ?_
  refine WQ.next ?_
  refine WC.block ?_
  refine WC.loopA (σ := Int) (fun i => [(0, .pointer (some ⟨j, 0, none⟩)), (9, .slice A ch.length cc), (10, .int .i64 (ch.length : Int)), (11, .int .i64 i)]) (fun i => [pt j (jO d gen last (.slice A ch.length cc) mp), rowR 3 1 (.slice A ch.length cc) ch.length (blocksV ch), pt mp (.map es c), blobs bl, DevR d n (lay cur (ch.take i.toNat)) (t + i.toNat)] ++ F) (fun i => 0 ≤ i ∧ i ≤ ch.length) (fun i => ((ch.length : Int) - i).toNat) 0 (by omega) ?_
  rintro i hi
  refine WC.seq ?_
  refine WC.region ?_
  refine WL.lss ?_
  refine WL.nil ?_
  refine WQ.next ?_
  refine WC.seq ?_
  refine WC.cond rfl (fun hb => ?_) (fun hb => ?_)
  · have hlt : i < (ch.length : Int) := of_decide_eq_true hb
    have hil : i.toNat < ch.length := by omega
    have hbl := blocksV_length ch
    rcases A with _ | ⟨ab, ao, asp⟩
    · exact absurd hR (fun h => by have h2 : blocksV ch = [] := h; rw [h2] at hbl; simp at hbl; omega)
    have hsp : asp = none := hR.1
    subst hsp
    obtain ⟨v, hv, hvb⟩ := hk i.toNat hil
    have hhome := hf.home _ (List.getElem_mem hil)
    rw [show ((i.toNat : Nat) : Int) = i from by omega] at hv
    refine WC.skip ?_
    refine WQ.next ?_
    refine WC.seq ?_
    refine WC.block ?_
    refine WC.seq ?_
    refine WC.region ?_
    refine WL.move ?_
    refine WL.idx1 ?_ so22
    refine WL.ldR ?_ sc3 hR (blocksV_get ch i.toNat hil)
    refine WL.assign ?_
    refine WL.assign ?_
    refine WL.nil ?_
    refine WQ.next ?_
    refine WC.seq ?_
    refine WC.fact (blobs_shape hvb) fun ⟨gb, cb, hvs, hcb⟩ => ?_
    subst hvs
    refine WC.draw ([pt j (jO d gen last (.slice (some ⟨ab, ao, none⟩) ch.length cc) mp), pt mp (.map es c)]) [] 19 #[false, false, false, false, false, false, false, false, false, false, false, false, false, false, false, false, false, false, false] mixed (by kernel_rfl) NoPanic.autoJ ?_
    refine WD.take (i := 0) #[true, false, false, false, false, false, false, false, false, false, false, false, false, false, false, false, false, false, false] rfl (by kernel_rfl) (Qt.move ) ?_
    refine WD.take (i := 1) #[true, true, false, false, false, false, false, false, false, false, false, false, false, false, false, false, false, false, false] rfl (by kernel_rfl) (Qt.nilCheck ) ?_
    refine WD.take (i := 2) #[true, true, true, false, false, false, false, false, false, false, false, false, false, false, false, false, false, false, false] rfl (by kernel_rfl) (Qt.fa fo149_0) ?_
    refine WD.take (i := 3) #[true, true, true, true, false, false, false, false, false, false, false, false, false, false, false, false, false, false, false] rfl (by kernel_rfl) (Qt.ld sc76) ?_
    refine WD.take (i := 4) #[true, true, true, true, true, false, false, false, false, false, false, false, false, false, false, false, false, false, false] rfl (by kernel_rfl) (Qt.move ) ?_
    refine WD.take (i := 5) #[true, true, true, true, true, true, false, false, false, false, false, false, false, false, false, false, false, false, false] rfl (by kernel_rfl) (Qt.move ) ?_
    refine WD.take (i := 6) #[true, true, true, true, true, true, true, false, false, false, false, false, false, false, false, false, false, false, false] rfl (by kernel_rfl) (Qt.nilCheck ) ?_
    refine WD.take (i := 7) #[true, true, true, true, true, true, true, true, false, false, false, false, false, false, false, false, false, false, false] rfl (by kernel_rfl) (Qt.fa fo149_5) ?_
    refine WD.take (i := 8) #[true, true, true, true, true, true, true, true, true, false, false, false, false, false, false, false, false, false, false] rfl (by kernel_rfl) (Qt.ld sc147) ?_
    refine WD.take (i := 9) #[true, true, true, true, true, true, true, true, true, true, false, false, false, false, false, false, false, false, false] rfl (by kernel_rfl) (Qt.move ) ?_
    refine WD.take (i := 10) #[true, true, true, true, true, true, true, true, true, true, true, false, false, false, false, false, false, false, false] rfl (by kernel_rfl) (Qt.nilCheck ) ?_
    refine WD.take (i := 11) #[true, true, true, true, true, true, true, true, true, true, true, true, false, false, false, false, false, false, false] rfl (by kernel_rfl) (Qt.fa fo149_2) ?_
    refine WD.take (i := 12) #[true, true, true, true, true, true, true, true, true, true, true, true, true, false, false, false, false, false, false] rfl (by kernel_rfl) (Qt.ld sc138) ?_
    refine WD.take (i := 14) #[true, true, true, true, true, true, true, true, true, true, true, true, true, false, true, false, false, false, false] rfl (by kernel_rfl) (Qt.move ) ?_
    refine WD.one (i := 13) #[true, true, true, true, true, true, true, true, true, true, true, true, true, true, true, false, false, false, false] rfl (by kernel_rfl) fun hnp => ?_
    refine WL.call (hc := Tryz.call90) (sp := slotN) (h := ?_)
    rintro _ _ ⟨rfl, rfl⟩
    refine WL.nil (WQ.wd hnp (.inl Am.auto) ?_)
    refine WD.take (i := 15) #[true, true, true, true, true, true, true, true, true, true, true, true, true, true, true, true, false, false, false] rfl (by kernel_rfl) (Qt.build (bdPlace _ _)) ?_
    refine WD.take (i := 16) #[true, true, true, true, true, true, true, true, true, true, true, true, true, true, true, true, true, false, false] rfl (by kernel_rfl) ((Qt.look (k := (((last % 4 : Nat) : Int), i)) klP hm mp147 zv33).eq (v' := .slice (some ⟨gb, 0, none⟩) ch[i.toNat].2.length cb) (by rw [hv]; rfl)) ?_
    refine WD.one (i := 17) #[true, true, true, true, true, true, true, true, true, true, true, true, true, true, true, true, true, true, false] rfl (by kernel_rfl) fun hnp => ?_
    refine WL.call (hc := Tryz.call83) (sp := devWrite (n := n) (t := t + i.toNat) (cur := lay cur (ch.take i.toNat)) (k := ch[i.toNat].1) (Reads.blob hvb) rfl hhome.2.2 hhome.2.1 (by omega)) (h := ?_)
    rintro _ _ ⟨rfl, rfl⟩
    refine WL.nil (WQ.wd hnp (.inl Am.auto) ?_)
    refine WD.take (i := 18) #[true, true, true, true, true, true, true, true, true, true, true, true, true, true, true, true, true, true, true] rfl (by kernel_rfl) (Qt.assign ) ?_
    refine WD.done (by kernel_rfl) ?_
    rw [← lay_take cur ch i.toNat hil]
    refine WQ.next ?_
    refine WC.seq ?_
    refine WC.region ?_
    refine WL.move ?_
    refine WL.nei ?_
    refine WL.nil ?_
    refine WQ.next ?_
    refine WC.condF rfl rfl ?_
    refine WC.skip ?_
    refine WQ.blockNormal ?_
    refine WQ.next ?_
    refine WC.region ?_
    refine WL.add ?_
    refine WL.move ?_
    refine WL.nil ?_
    exact WQ.back (i + 1) (by omega) (by omega) (hI := by rw [show (i + 1).toNat = i.toNat + 1 from by omega]; exact Am.auto)
  · have hge : ¬ i < (ch.length : Int) := of_decide_eq_false hb
    have hin : i.toNat = ch.length := by omega
    rw [hin, List.take_length]
    refine WC.exit (WQ.thenExit (WQ.thenExit (WQ.blockExit (?_))))
    refine WQ.next ?_
    refine WC.seq ?_
    refine WC.region ?_
    refine WL.assign ?_
    refine WL.nil ?_
    refine WQ.next ?_
    refine WC.ret (?_)
    exact WQ.ret1 (h1 := .tmp (t := 2) rfl) ⟨_, ⟨rfl, rfl⟩, Am.auto⟩
structure JS where
  gen : Nat
  last : Nat
  ch : List (Nat × Bytes)
  cur : Nat → Bytes
def JS.view (J : JS) (k : Nat) : Bytes := (kget J.ch k).getD (J.cur k)
structure JX where
  es : Array MapEntry
  c : Nat
  mp : Nat
  kv : List ((Int × Int) × Value)
  bl : List (Value × Bytes)
  ov : Value
structure JP (n : Nat) (J : JS) (x : JX) : Prop where
  hm : MapIs pairE x.es x.c x.kv
  hk : Kept x.kv x.bl (J.last % 4) J.ch
  hf : Fit n J.ch
  n1 : 246 ≤ n
  n2 : n ≤ 65536
  hg : J.gen < 2 ^ 64
  hl : J.last < 2 ^ 64
def jL (j d n : Nat) (J : JS) (x : JX) : List HP := [pt j (jO d J.gen J.last x.ov x.mp), rowR 3 1 x.ov J.ch.length (blocksV J.ch), pt x.mp (.map x.es x.c), blobs x.bl, DevR d n J.cur 0]
def JR (j d n : Nat) (J : JS) : HP := fun h => ∃ x, JP n J x ∧ star (jL j d n J x) h
theorem JR.opens (j d n : Nat) (J : JS) : Opens (JR j d n J) (JP n J) (jL j d n J) := ⟨fun h hh => hh, fun x hp h hh => ⟨x, hp, hh⟩⟩
attribute [irreducible] JR
theorem idx_cases (l : List (Nat × Bytes)) (k : Nat) : (∃ i, ∃ h : i < l.length, l[i].1 = k ∧ (if (k : Int) ∈ l.map (fun p => (p.1 : Int)) then (((l.map fun p => (p.1 : Int)).idxOf (k : Int) : Nat) : Int) else -1) = (i : Int)) ∨
    ((if (k : Int) ∈ l.map (fun p => (p.1 : Int)) then (((l.map fun p => (p.1 : Int)).idxOf (k : Int) : Nat) : Int) else -1) = -1 ∧ kget l k = none) := by
  by_cases h : (k : Int) ∈ l.map (fun p => (p.1 : Int))
  · left
    have h1 := List.idxOf_lt_length_of_mem h
    have h2 : (l.map fun p => (p.1 : Int))[(l.map fun p => (p.1 : Int)).idxOf (k : Int)] = (k : Int) := List.getElem_idxOf h1
    refine ⟨(l.map fun p => (p.1 : Int)).idxOf (k : Int), by simpa using h1, ?_, by rw [if_pos h]⟩
    rw [List.getElem_map] at h2
    omega
  · right
    refine ⟨by rw [if_neg h], kget_none.2 fun hk => h ?_⟩
    obtain ⟨p, hp, rfl⟩ := List.mem_map.1 hk
    exact List.mem_map.2 ⟨p, hp, rfl⟩
theorem Fit.get {n : Nat} {l : List (Nat × Bytes)} (h : Fit n l) {i : Nat} (hi : i < l.length) {k : Nat} (hk : l[i].1 = k) : kget l k = some l[i].2 := by
  subst hk
  exact (kget_mem h.apart).2 (List.getElem_mem hi)
theorem jRead {j d n k : Nat} {J : JS} (h5 : 245 ≤ k) (hkn : k < n) : Spec Tryz.prog 110 #[.pointer (some ⟨j, 0, none⟩), .int .i64 (k : Int)] [JR j d n J] fun F v M => ∃ g q, v = .tuple #[.slice (some ⟨g, 0, none⟩) 512 q, .int .i64 0] ∧ (512 ≤ q ∧ q ≤ maxLen ∧ (J.view k).length = 512) ∧ M = buf g 5 q (bvs (J.view k)) :: JR j d n J :: F := by
  refine Spec.intro Tryz.func110 rfl rfl fun B F => ?_
  simp only [Tryz.ntmps110, List.cons_append, List.nil_append, env0, Nat.reduceAdd]
  refine WC.openR (JR.opens j d n J) fun x hp => ?_
  simp only [jL, List.cons_append, List.nil_append]
  refine WC.fact (rowR_shape (el := 3) (size := 1) (v := x.ov) (k := J.ch.length) (xs := blocksV J.ch)) (fun ⟨A, cc, hov, hR, hc1, hc2, hlen⟩ => ?_)
  have hfew := hp.hf.few
  refine WC.seq ?_
  refine WC.region ?_
  refine WL.assign ?_
  refine WL.assign ?_
  refine WL.nil ?_
  refine WQ.next ?_
  refine WC.seq ?_
  refine WC.seq ?_
  refine WC.region ?_
  refine WL.move ?_
  refine WL.move ?_
  refine WL.call (hc := Tryz.call131) (sp := jHome (n := n) (t := 0) (cur := J.cur)) (h := ?_)
  rintro _ _ ⟨rfl, rfl⟩
  refine WL.cast (d := 9) (u := .bool true) rfl (congrArg Value.bool (decide_eq_true (by omega))) ?_
  refine WL.not ?_
  refine WL.nil ?_
  refine WQ.next ?_
  refine WC.condF rfl rfl ?_
  refine WC.skip ?_
  refine WQ.next ?_
  refine WC.seq ?_
  refine WC.seq ?_
  refine WC.region ?_
  refine WL.move ?_
  refine WL.nilCheck ?_
  refine WL.fa ?_ fo149_4
  refine WL.ld ?_ sc22
  refine WL.cast (d := 14) rfl hov ?_
  refine WL.move ?_
  refine WL.call (hc := Tryz.call134) (sp := intsIndex (xs := J.ch.map fun p => (p.1 : Int)) hR (List.length_map ..) (by omega)) (h := ?_)
  rintro _ _ ⟨rfl, rfl⟩
  refine WL.assign ?_
  refine WL.nil ?_
  refine WQ.next ?_
  refine WC.seq ?_
  refine WC.region ?_
  refine WL.move ?_
  refine WL.geq ?_
  refine WL.nil ?_
  refine WQ.next ?_
  rcases idx_cases J.ch k with ⟨i, hi, hik, hidx⟩ | ⟨hidx, hno⟩
  · obtain ⟨v, hv, hvb⟩ := hp.hk i hi
    have hhome := hp.hf.home _ (List.getElem_mem hi)
    have hview : J.view k = J.ch[i].2 := by unfold JS.view; rw [hp.hf.get hi hik]; rfl
    have hl5 : (J.view k).length = 512 := by rw [hview]; exact hhome.2.2
    refine WC.fact (blobs_shape hvb) fun ⟨gb, cb, hvs, hcb⟩ => ?_
    rw [← hview] at hvb hvs
    refine WC.cast (d := 6) rfl (congrArg (Value.int .i64) hidx) ?_
    refine WC.condT rfl (congrArg Value.bool (by first | (simp only [hidx]; simp; done) | omega)) ?_
    refine WC.seq ?_
    refine WC.draw ([pt j (jO d J.gen J.last x.ov x.mp), pt x.mp (.map x.es x.c)]) [] 15 #[false, false, false, false, false, false, false, false, false, false, false, false, false, false, false] mixed (by kernel_rfl) NoPanic.autoJ ?_
    refine WD.take (i := 0) #[true, false, false, false, false, false, false, false, false, false, false, false, false, false, false] rfl (by kernel_rfl) (Qt.move ) ?_
    refine WD.take (i := 1) #[true, true, false, false, false, false, false, false, false, false, false, false, false, false, false] rfl (by kernel_rfl) (Qt.nilCheck ) ?_
    refine WD.take (i := 2) #[true, true, true, false, false, false, false, false, false, false, false, false, false, false, false] rfl (by kernel_rfl) (Qt.fa fo149_5) ?_
    refine WD.take (i := 3) #[true, true, true, true, false, false, false, false, false, false, false, false, false, false, false] rfl (by kernel_rfl) (Qt.ld sc147) ?_
    refine WD.take (i := 4) #[true, true, true, true, true, false, false, false, false, false, false, false, false, false, false] rfl (by kernel_rfl) (Qt.move ) ?_
    refine WD.take (i := 5) #[true, true, true, true, true, true, false, false, false, false, false, false, false, false, false] rfl (by kernel_rfl) (Qt.nilCheck ) ?_
    refine WD.take (i := 6) #[true, true, true, true, true, true, true, false, false, false, false, false, false, false, false] rfl (by kernel_rfl) (Qt.fa fo149_2) ?_
    refine WD.take (i := 7) #[true, true, true, true, true, true, true, true, false, false, false, false, false, false, false] rfl (by kernel_rfl) (Qt.ld sc138) ?_
    refine WD.take (i := 9) #[true, true, true, true, true, true, true, true, false, true, false, false, false, false, false] rfl (by kernel_rfl) (Qt.move ) ?_
    refine WD.one (i := 8) #[true, true, true, true, true, true, true, true, true, true, false, false, false, false, false] rfl (by kernel_rfl) fun hnp => ?_
    refine WL.call (hc := Tryz.call90) (sp := slotN) (h := ?_)
    rintro _ _ ⟨rfl, rfl⟩
    refine WL.nil (WQ.wd hnp (.inl Am.auto) ?_)
    refine WD.take (i := 10) #[true, true, true, true, true, true, true, true, true, true, true, false, false, false, false] rfl (by kernel_rfl) (Qt.build (bdPlace _ _)) ?_
    refine WD.take (i := 11) #[true, true, true, true, true, true, true, true, true, true, true, true, false, false, false] rfl (by kernel_rfl) ((Qt.look (k := (((J.last % 4 : Nat) : Int), (i : Int))) klP hp.hm mp147 zv33).eq (v' := .slice (some ⟨gb, 0, none⟩) (J.view k).length cb) (by rw [hv]; exact hvs)) ?_
    refine WD.one (i := 12) #[true, true, true, true, true, true, true, true, true, true, true, true, true, false, false] rfl (by kernel_rfl) fun hnp => ?_
    refine WL.call (hc := Tryz.call123) (sp := bytesClone (Reads.blob (by rw [← hvs]; exact hvb)) rfl (by omega)) (h := ?_)
    rintro _ _ ⟨gc, kc, ⟨rfl, hk1, hk2⟩, rfl⟩
    refine WL.nil (WQ.wd hnp (.inl Am.auto) ?_)
    refine WD.take (i := 13) #[true, true, true, true, true, true, true, true, true, true, true, true, true, true, false] rfl (by kernel_rfl) (Qt.assign ) ?_
    refine WD.take (i := 14) #[true, true, true, true, true, true, true, true, true, true, true, true, true, true, true] rfl (by kernel_rfl) (Qt.assign ) ?_
    refine WD.done (by kernel_rfl) ?_
    refine WQ.next ?_
    refine WC.ret (WQ.thenRet (?_))
    rw [hl5] at hk1
    refine WQ.cast (d := 4) (u := .slice (some ⟨gc, 0, none⟩) 512 kc) rfl (by rw [hl5]) ?_
    refine WQ.shutR (JR.opens j d n J) x hp ?_
    exact WQ.ret2 (h1 := .tmp (t := 4) rfl) (h2 := .tmp (t := 5) rfl) ⟨_, ⟨_, _, rfl, ⟨hk1, hk2, hl5⟩, rfl⟩, Am.auto⟩
  · have hview : J.view k = J.cur k := by unfold JS.view; rw [hno]; rfl
    refine WC.cast (d := 6) rfl (congrArg (Value.int .i64) hidx) ?_
    refine WC.condF rfl (congrArg Value.bool (by first | (simp only [hidx]; simp; done) | omega)) ?_
    refine WC.skip ?_
    refine WQ.next ?_
    refine WC.seq ?_
    refine WC.region ?_
    refine WL.move ?_
    refine WL.nilCheck ?_
    refine WL.fa ?_ fo149_0
    refine WL.ld ?_ sc76
    refine WL.move ?_
    refine WL.call (hc := Tryz.call91) (sp := devRead (n := n) (t := 0) (k := k) (cur := J.cur) hkn) (h := ?_)
    rintro _ _ ⟨gb, q, rfl, ⟨hq1, hq2, hlen5⟩, rfl⟩
    refine WL.extract ?_
    refine WL.extract ?_
    refine WL.assign ?_
    refine WL.assign ?_
    refine WL.nil ?_
    refine WQ.next ?_
    refine WC.ret (?_)
    rw [← hview] at hlen5
    refine WQ.shutR (JR.opens j d n J) x hp ?_
    exact WQ.ret2 (h1 := .tmp (t := 4) rfl) (h2 := .tmp (t := 5) rfl) ⟨_, ⟨_, _, rfl, ⟨hq1, hq2, hlen5⟩, by rw [hview]⟩, Am.auto⟩
end Go.Proofs.YtedmihapieleaaaGreat
end
section
namespace Go.Proofs.YtedmihapieleaaaGreat
open Go
structure CV where
  k : Nat
  g : Nat
  q : Nat
  xs : Bytes
def CV.val (c : CV) : Value := .slice (some ⟨c.g, 0, none⟩) 512 c.q
def CV.pair (c : CV) : Nat × Bytes := (c.k, c.xs)
def chCells : List CV → List Value
  | [] => []
  | c :: l => .int .i64 (c.k : Int) :: c.val :: chCells l
theorem chCells_length : ∀ l : List CV, (chCells l).length = l.length * 2
  | [] => rfl
  | c :: l => by simp only [chCells, List.length_cons, chCells_length l]; omega
theorem chCells_get : ∀ (l : List CV) (i : Nat) (h : i < l.length), ((chCells l).drop (i * 2)).take 2 = [.int .i64 (l[i].k : Int), l[i].val]
  | c :: l, 0, _ => rfl
  | c :: l, i + 1, h => by
    rw [show (i + 1) * 2 = i * 2 + 2 from by omega]
    exact chCells_get l i (by simpa using h)
theorem chCells_single : ∀ (l : List CV), ∀ u ∈ chCells l, Value.single u = true
  | [], u, h => by cases h
  | c :: l, u, h => by
    simp only [chCells, List.mem_cons] at h
    rcases h with rfl | rfl | h
    · rfl
    · rfl
    · exact chCells_single l u h
def Lie (bl : List (Value × Bytes)) (l : List CV) : Prop := ∀ c ∈ l, (c.val, c.xs) ∈ bl
def dataL (s : Nat) (l : List (Nat × Bytes)) : List (Nat × Bytes) := l.zipIdx.map fun p => (slotAt s (p.2 + 1), p.1.2)
theorem dataL_length (s : Nat) (l : List (Nat × Bytes)) : (dataL s l).length = l.length := by simp [dataL]
theorem dataL_get (s : Nat) (l : List (Nat × Bytes)) (i : Nat) (h : i < l.length) : (dataL s l)[i]'(by rw [dataL_length]; exact h) = (slotAt s (i + 1), l[i].2) := by simp [dataL]
def headN (gen nn : Nat) (l : List (Nat × Bytes)) : Nat → Bytes
  | 0 => laidB markH [gen, nn, l.length]
  | i + 1 => put (headN gen nn l i) (32 + 4 * i) 4 false (match l[i]? with | some p => p.1 | none => 0)
def headB (gen nn : Nat) (l : List (Nat × Bytes)) : Bytes := headN gen nn l l.length
theorem headN_length (gen nn : Nat) (l : List (Nat × Bytes)) : ∀ i, (headN gen nn l i).length = 512
  | 0 => laidN_length (ys := markH) (by decide) _ _
  | i + 1 => by rw [headN, put_length]; exact headN_length gen nn l i
def JS.next (J : JS) : Nat := (J.last + 1) % 2 ^ 64
def JS.wrote (J : JS) (l : List (Nat × Bytes)) : Nat → Bytes := wr (lay (lay J.cur J.ch) (dataL (J.next % 4) l)) (slotAt (J.next % 4) 0) (headB J.gen J.next l)
def JS.commit (J : JS) (l : List (Nat × Bytes)) : JS := ⟨J.gen, J.next, l, J.wrote l⟩
def boxJ (b j : Nat) : HP := pt b (.cells #[.pointer (some ⟨j, 0, none⟩)] 80 (0, 0))
def intO (i : Int) : Obj := .cells #[.int .i64 i] 3 (0, 0)
def chO (c : CV) : Obj := .cells #[.int .i64 (c.k : Int), c.val] 108 (0, 0)
def wr1V (b2 b5 : Nat) (p : Nat × Nat) : Value := .func (.func 160) #[] #[.pointer (some ⟨b2, 0, none⟩), .pointer (some ⟨b5, 0, none⟩), .pointer (some ⟨p.1, 0, none⟩), .pointer (some ⟨p.2, 0, none⟩)]
def wr2V (b2 b5 b6 : Nat) : Value := .func (.func 161) #[] #[.pointer (some ⟨b2, 0, none⟩), .pointer (some ⟨b5, 0, none⟩), .pointer (some ⟨b6, 0, none⟩)]
def settleV (j : Nat) : Value := .func (.func 92) #[.pointer (some ⟨j, 0, none⟩)] #[]
theorem jWrite1 {j d n t gen last mp b2 b5 b8 b9 nn i : Nat} {ov : Value} {os : List (Nat × Obj)} {bl : List (Value × Bytes)} {c : CV} {cur : Nat → Bytes} (h8 : (b8, intO (i : Int)) ∈ os) (h9 : (b9, chO c) ∈ os) (hc : (c.val, c.xs) ∈ bl) (hx : c.xs.length = 512) (hi : i ≤ 59) (hn : 246 ≤ n) (ht : t ≤ 1000) :
    Spec Tryz.prog 160 #[.pointer (some ⟨b2, 0, none⟩), .pointer (some ⟨b5, 0, none⟩), .pointer (some ⟨b8, 0, none⟩), .pointer (some ⟨b9, 0, none⟩)] [boxJ b2 j, cellU b5 nn, frz os, blobs bl, pt j (jO d gen last ov mp), DevR d n cur t] fun F v M => v = okV ∧ M = [boxJ b2 j, cellU b5 nn, frz os, blobs bl, pt j (jO d gen last ov mp), DevR d n (wr cur (slotAt (nn % 4) (i + 1)) c.xs) (t + 1)] ++ F := by
  refine Spec.intro Tryz.func160 rfl rfl fun B F => ?_
  simp only [Tryz.ntmps160, List.cons_append, List.nil_append, env0, Nat.reduceAdd]
  simp only [boxJ, cellU]
  refine WC.seq ?_
  refine WC.region ?_
  refine WL.assign ?_
  refine WL.nil ?_
  refine WQ.next ?_
  refine WC.seq ?_
  refine WC.draw ([pt b2 (.cells #[.pointer (some ⟨j, 0, none⟩)] 80 (0, 0)), pt b5 (.cells #[.int .u64 (nn : Int)] 138 (0, 0)), frz os, pt j (jO d gen last ov mp)]) [] 14 #[false, false, false, false, false, false, false, false, false, false, false, false, false, false] mixed (by kernel_rfl) NoPanic.autoJ ?_
  refine WD.take (i := 0) #[true, false, false, false, false, false, false, false, false, false, false, false, false, false] rfl (by kernel_rfl) (Qt.ld sc80) ?_
  refine WD.take (i := 1) #[true, true, false, false, false, false, false, false, false, false, false, false, false, false] rfl (by kernel_rfl) (Qt.nilCheck ) ?_
  refine WD.take (i := 2) #[true, true, true, false, false, false, false, false, false, false, false, false, false, false] rfl (by kernel_rfl) (Qt.fa fo149_0) ?_
  refine WD.take (i := 3) #[true, true, true, true, false, false, false, false, false, false, false, false, false, false] rfl (by kernel_rfl) (Qt.ld sc76) ?_
  refine WD.take (i := 4) #[true, true, true, true, true, false, false, false, false, false, false, false, false, false] rfl (by kernel_rfl) (Qt.ld sc138) ?_
  refine WD.take (i := 6) #[true, true, true, true, true, false, true, false, false, false, false, false, false, false] rfl (by kernel_rfl) (Qt.ldR (i := 0) sc3 (Reads.frz h8) rfl) ?_
  refine WD.take (i := 7) #[true, true, true, true, true, false, true, true, false, false, false, false, false, false] rfl (by kernel_rfl) (Qt.add ) ?_
  refine WD.take (i := 10) #[true, true, true, true, true, false, true, true, false, false, true, false, false, false] rfl (by kernel_rfl) (Qt.fa fo108_1) ?_
  refine WD.take (i := 11) #[true, true, true, true, true, false, true, true, false, false, true, true, false, false] rfl (by kernel_rfl) (Qt.ldR (i := 1) sc33 (Reads.frz h9) rfl) ?_
  refine WD.one (i := 5) #[true, true, true, true, true, true, true, true, false, false, true, true, false, false] rfl (by kernel_rfl) fun hnp => ?_
  refine WL.call (hc := Tryz.call90) (sp := slotN (a := nn)) (h := ?_)
  rintro _ _ ⟨rfl, rfl⟩
  refine WL.nil (WQ.wd hnp (.inl Am.auto) ?_)
  refine WD.take (i := 8) #[true, true, true, true, true, true, true, true, true, false, true, true, false, false] rfl (by kernel_rfl) (Qt.build (bdPlace _ _)) ?_
  refine WD.one (i := 9) #[true, true, true, true, true, true, true, true, true, true, true, true, false, false] rfl (by kernel_rfl) fun hnp => ?_
  refine WL.call (hc := Tryz.call84) (sp := placeAt (a := nn % 4) (b := i + 1) (by omega)) (h := ?_)
  rintro _ _ ⟨rfl, rfl⟩
  refine WL.nil (WQ.wd hnp (.inl Am.auto) ?_)
  refine WD.one (i := 12) #[true, true, true, true, true, true, true, true, true, true, true, true, true, false] rfl (by kernel_rfl) fun hnp => ?_
  refine WL.call (hc := Tryz.call83) (sp := devWrite (n := n) (t := t) (cur := cur) (k := slotAt (nn % 4) (i + 1)) (Reads.blob hc) hx rfl (by unfold slotAt; omega) (by omega)) (h := ?_)
  rintro _ _ ⟨rfl, rfl⟩
  refine WL.nil (WQ.wd hnp (.inl Am.auto) ?_)
  refine WD.take (i := 13) #[true, true, true, true, true, true, true, true, true, true, true, true, true, true] rfl (by kernel_rfl) (Qt.assign ) ?_
  refine WD.done (by kernel_rfl) ?_
  refine WQ.next ?_
  refine WC.ret (?_)
  exact WQ.ret1 (h1 := .tmp (t := 4) rfl) ⟨_, ⟨rfl, rfl⟩, Am.auto⟩
theorem jWrite2 {j d n t gen last mp b2 b5 b6 gh qh nn : Nat} {ov : Value} {hd : Bytes} {cur : Nat → Bytes} (hx : hd.length = 512) (hn : 246 ≤ n) (ht : t ≤ 1000) :
    Spec Tryz.prog 161 #[.pointer (some ⟨b2, 0, none⟩), .pointer (some ⟨b5, 0, none⟩), .pointer (some ⟨b6, 0, none⟩)] [boxJ b2 j, cellU b5 nn, pt b6 (.cells #[.slice (some ⟨gh, 0, none⟩) 512 qh] 33 (0, 0)), buf gh 5 qh (bvs hd), pt j (jO d gen last ov mp), DevR d n cur t] fun F v M => v = okV ∧ M = [boxJ b2 j, cellU b5 nn, pt b6 (.cells #[.slice (some ⟨gh, 0, none⟩) 512 qh] 33 (0, 0)), buf gh 5 qh (bvs hd), pt j (jO d gen last ov mp), DevR d n (wr cur (slotAt (nn % 4) 0) hd) (t + 1)] ++ F := by
  refine Spec.intro Tryz.func161 rfl rfl fun B F => ?_
  simp only [Tryz.ntmps161, List.cons_append, List.nil_append, env0, Nat.reduceAdd]
  simp only [boxJ, cellU]
  refine WC.seq ?_
  refine WC.region ?_
  refine WL.assign ?_
  refine WL.nil ?_
  refine WQ.next ?_
  refine WC.seq ?_
  refine WC.draw ([pt b2 (.cells #[.pointer (some ⟨j, 0, none⟩)] 80 (0, 0)), pt b5 (.cells #[.int .u64 (nn : Int)] 138 (0, 0)), pt b6 (.cells #[.slice (some ⟨gh, 0, none⟩) 512 qh] 33 (0, 0)), pt j (jO d gen last ov mp)]) [] 11 #[false, false, false, false, false, false, false, false, false, false, false] mixed (by kernel_rfl) NoPanic.autoJ ?_
  refine WD.take (i := 0) #[true, false, false, false, false, false, false, false, false, false, false] rfl (by kernel_rfl) (Qt.ld sc80) ?_
  refine WD.take (i := 1) #[true, true, false, false, false, false, false, false, false, false, false] rfl (by kernel_rfl) (Qt.nilCheck ) ?_
  refine WD.take (i := 2) #[true, true, true, false, false, false, false, false, false, false, false] rfl (by kernel_rfl) (Qt.fa fo149_0) ?_
  refine WD.take (i := 3) #[true, true, true, true, false, false, false, false, false, false, false] rfl (by kernel_rfl) (Qt.ld sc76) ?_
  refine WD.take (i := 4) #[true, true, true, true, true, false, false, false, false, false, false] rfl (by kernel_rfl) (Qt.ld sc138) ?_
  refine WD.take (i := 8) #[true, true, true, true, true, false, false, false, true, false, false] rfl (by kernel_rfl) (Qt.ld sc33) ?_
  refine WD.one (i := 5) #[true, true, true, true, true, true, false, false, true, false, false] rfl (by kernel_rfl) fun hnp => ?_
  refine WL.call (hc := Tryz.call90) (sp := slotN (a := nn)) (h := ?_)
  rintro _ _ ⟨rfl, rfl⟩
  refine WL.nil (WQ.wd hnp (.inl Am.auto) ?_)
  refine WD.take (i := 6) #[true, true, true, true, true, true, true, false, true, false, false] rfl (by kernel_rfl) (Qt.build (bdPlace _ _)) ?_
  refine WD.one (i := 7) #[true, true, true, true, true, true, true, true, true, false, false] rfl (by kernel_rfl) fun hnp => ?_
  refine WL.call (hc := Tryz.call84) (sp := placeAt (a := nn % 4) (b := 0) (by omega)) (h := ?_)
  rintro _ _ ⟨rfl, rfl⟩
  refine WL.nil (WQ.wd hnp (.inl Am.auto) ?_)
  refine WD.one (i := 9) #[true, true, true, true, true, true, true, true, true, true, false] rfl (by kernel_rfl) fun hnp => ?_
  refine WL.call (hc := Tryz.call83) (sp := devWrite (n := n) (t := t) (cur := cur) (k := slotAt (nn % 4) 0) Reads.buf hx rfl (by unfold slotAt; omega) (by omega)) (h := ?_)
  rintro _ _ ⟨rfl, rfl⟩
  refine WL.nil (WQ.wd hnp (.inl Am.auto) ?_)
  refine WD.take (i := 10) #[true, true, true, true, true, true, true, true, true, true, true] rfl (by kernel_rfl) (Qt.assign ) ?_
  refine WD.done (by kernel_rfl) ?_
  refine WQ.next ?_
  refine WC.ret (?_)
  exact WQ.ret1 (h1 := .tmp (t := 3) rfl) ⟨_, ⟨rfl, rfl⟩, Am.auto⟩
theorem goesSettle {j d n t gen last mp c : Nat} {ov : Value} {es : Array MapEntry} {kv : List ((Int × Int) × Value)} {bl : List (Value × Bytes)} {ch : List (Nat × Bytes)} {cur : Nat → Bytes} (hm : MapIs pairE es c kv) (hk : Kept kv bl (last % 4) ch) (hf : Fit n ch) (ht : t ≤ 1000) :
    Goes (settleV j) [pt j (jO d gen last ov mp), rowR 3 1 ov ch.length (blocksV ch), pt mp (.map es c), blobs bl, DevR d n cur t] [pt j (jO d gen last ov mp), rowR 3 1 ov ch.length (blocksV ch), pt mp (.map es c), blobs bl, DevR d n (lay cur ch) (t + ch.length)] := ⟨_, _, _, rfl, Tryz.call92, jSettle hm hk hf ht⟩
theorem goesWr2 {j d n t gen last mp b2 b5 b6 gh qh nn : Nat} {ov : Value} {hd : Bytes} {cur : Nat → Bytes} (hx : hd.length = 512) (hn : 246 ≤ n) (ht : t ≤ 1000) :
    Goes (wr2V b2 b5 b6) [boxJ b2 j, cellU b5 nn, pt b6 (.cells #[.slice (some ⟨gh, 0, none⟩) 512 qh] 33 (0, 0)), buf gh 5 qh (bvs hd), pt j (jO d gen last ov mp), DevR d n cur t] [boxJ b2 j, cellU b5 nn, pt b6 (.cells #[.slice (some ⟨gh, 0, none⟩) 512 qh] 33 (0, 0)), buf gh 5 qh (bvs hd), pt j (jO d gen last ov mp), DevR d n (wr cur (slotAt (nn % 4) 0) hd) (t + 1)] := ⟨_, _, _, rfl, Tryz.call161, jWrite2 hx hn ht⟩
theorem dataChain {j d n t gen last mp b2 b5 nn : Nat} {ov : Value} {os : List (Nat × Obj)} {bs : List (Nat × Nat)} {bl : List (Value × Bytes)} {cvs : List CV} {cur : Nat → Bytes} (X : List HP) (hb : bs.length = cvs.length)
    (hos : ∀ i (h : i < cvs.length) (h' : i < bs.length), (bs[i].1, intO (i : Int)) ∈ os ∧ (bs[i].2, chO cvs[i]) ∈ os) (hli : Lie bl cvs) (hf : Fit n (cvs.map CV.pair)) (hn : 246 ≤ n) (ht : t ≤ 500) :
    Chain (bs.map (wr1V b2 b5)) ([boxJ b2 j, cellU b5 nn, frz os, blobs bl, pt j (jO d gen last ov mp), DevR d n cur t] ++ X) ([boxJ b2 j, cellU b5 nn, frz os, blobs bl, pt j (jO d gen last ov mp), DevR d n (lay cur (dataL (nn % 4) (cvs.map CV.pair))) (t + cvs.length)] ++ X) := by
  have hfew : cvs.length ≤ 60 := by simpa using hf.few
  have key : ∀ k i, k + i = cvs.length → Chain ((bs.drop i).map (wr1V b2 b5)) ([boxJ b2 j, cellU b5 nn, frz os, blobs bl, pt j (jO d gen last ov mp), DevR d n (lay cur ((dataL (nn % 4) (cvs.map CV.pair)).take i)) (t + i)] ++ X) ([boxJ b2 j, cellU b5 nn, frz os, blobs bl, pt j (jO d gen last ov mp), DevR d n (lay cur (dataL (nn % 4) (cvs.map CV.pair))) (t + cvs.length)] ++ X) := by
    intro k
    induction k with
    | zero =>
      intro i hi
      have hi : i = cvs.length := by omega
      rw [List.drop_of_length_le (by omega), List.take_of_length_le (by rw [dataL_length, List.length_map]; omega), hi]
      exact .nil
    | succ k ih =>
      intro i hi
      have hlt : i < cvs.length := by omega
      have hlt' : i < bs.length := by omega
      have hd : i < (dataL (nn % 4) (cvs.map CV.pair)).length := by rw [dataL_length, List.length_map]; exact hlt
      obtain ⟨h8, h9⟩ := hos i hlt hlt'
      have hhome := hf.home cvs[i].pair (List.mem_map.2 ⟨_, List.getElem_mem hlt, rfl⟩)
      rw [List.drop_eq_getElem_cons hlt', List.map_cons]
      refine Chain.cons ?_ (ih (i + 1) (by omega))
      have hg : Goes (wr1V b2 b5 bs[i]) [boxJ b2 j, cellU b5 nn, frz os, blobs bl, pt j (jO d gen last ov mp), DevR d n (lay cur ((dataL (nn % 4) (cvs.map CV.pair)).take i)) (t + i)] [boxJ b2 j, cellU b5 nn, frz os, blobs bl, pt j (jO d gen last ov mp), DevR d n (lay cur ((dataL (nn % 4) (cvs.map CV.pair)).take (i + 1))) (t + (i + 1))] := by
        rw [lay_take _ _ _ hd, dataL_get _ _ _ (by simpa using hlt), List.getElem_map]
        exact ⟨_, _, _, rfl, Tryz.call160, jWrite1 h8 h9 (hli _ (List.getElem_mem hlt)) hhome.2.2 (by omega) hn (by omega)⟩
      exact hg.sub (t := Tk.app) (m := .refl)
  have := key cvs.length 0 (by omega)
  exact this
structure WI (cvs : List CV) (i : Int) (os : List (Nat × Obj)) (bs : List (Nat × Nat)) : Prop where
  lo : 0 ≤ i
  hi : i ≤ cvs.length
  len : bs.length = i.toNat
  lie : ∀ k (h : k < cvs.length) (h' : k < bs.length), (bs[k].1, intO (k : Int)) ∈ os ∧ (bs[k].2, chO cvs[k]) ∈ os
theorem WI.step {cvs : List CV} {i : Int} {os : List (Nat × Obj)} {bs : List (Nat × Nat)} (h : WI cvs i os bs) (hlt : i.toNat < cvs.length) (b8 b9 : Nat) : WI cvs (i + 1) ((b9, chO cvs[i.toNat]) :: (b8, intO i) :: os) (bs ++ [(b8, b9)]) := by
  have hlen := h.len
  have hlo := h.lo
  refine ⟨by omega, by omega, by simp; omega, fun k hk hk' => ?_⟩
  simp only [List.length_append, List.length_cons, List.length_nil] at hk'
  by_cases hkl : k < bs.length
  · rw [List.getElem_append_left hkl]
    exact ⟨List.mem_cons_of_mem _ (List.mem_cons_of_mem _ (h.lie k hk hkl).1), List.mem_cons_of_mem _ (List.mem_cons_of_mem _ (h.lie k hk hkl).2)⟩
  · have hki : k = i.toNat := by omega
    subst hki
    rw [List.getElem_append_right (by omega)]
    simp only [hlen, Nat.sub_self, List.getElem_cons_zero]
    rw [show ((i.toNat : Nat) : Int) = i from by omega]
    exact ⟨List.mem_cons_of_mem _ (List.mem_cons_self ..), List.mem_cons_self ..⟩
theorem jWrite {j d n gen last mp c m c0 : Nat} {ov : Value} {es : Array MapEntry} {kv : List ((Int × Int) × Value)} {jbl bl : List (Value × Bytes)} {ch : List (Nat × Bytes)} {cur : Nat → Bytes} {Rl : HP} {A : Option Addr} {cvs : List CV}
    (hm : MapIs pairE es c kv) (hk : Kept kv jbl (last % 4) ch) (hf : Fit n ch) (hR : Reads Rl A (chCells cvs)) (hml : cvs.length = m) (hli : Lie bl cvs) (hfit : Fit n (cvs.map CV.pair)) (hgen : gen < 2 ^ 64) (hn : 246 ≤ n) (hn2 : n ≤ 65536) :
    Spec Tryz.prog 132 #[.pointer (some ⟨j, 0, none⟩), .slice A m c0] [Rl, blobs bl, pt j (jO d gen last ov mp), rowR 3 1 ov ch.length (blocksV ch), pt mp (.map es c), blobs jbl, DevR d n cur 0] fun F v M => v = okV ∧ M = [Rl, blobs bl, pt j (jO d gen last ov mp), rowR 3 1 ov ch.length (blocksV ch), pt mp (.map es c), blobs jbl, DevR d n ((JS.mk gen last ch cur).wrote (cvs.map CV.pair)) 0] ++ F := by
  refine Spec.intro Tryz.func132 rfl rfl fun B F => ?_
  simp only [Tryz.ntmps132, List.cons_append, List.nil_append, env0, Nat.reduceAdd]
  have hfew : cvs.length ≤ 60 := by simpa using hfit.few
  have hfew2 := hf.few
  have hnn : (last + 1) % 2 ^ 64 < 2 ^ 64 := Nat.mod_lt _ (by decide)
  subst hml
  refine WC.seq ?_
  refine WC.region ?_
  refine WL.box fun b2 => ?_
  refine WL.assign ?_
  refine WL.nil ?_
  refine WQ.next ?_
  refine WC.seq ?_
  refine WC.region ?_
  refine WL.ld ?_ sc80
  refine WL.nilCheck ?_
  refine WL.fa ?_ fo149_2
  refine WL.ld ?_ sc138
  refine WL.addw ?_
  refine WL.cast (d := 14) rfl (congrArg (Value.int .u64) (u64_wrap1 last)) ?_
  refine WL.alloc z138 fun b5 => ?_
  refine WL.st ?_ sc138
  refine WL.nil ?_
  refine WQ.next ?_
  refine WC.seq ?_
  refine WC.join (σ := Nat × Nat × Nat) (fun s => [(1, .slice A cvs.length c0), (2, .pointer (some ⟨b2, 0, none⟩)), (5, .pointer (some ⟨b5, 0, none⟩)), (6, .pointer (some ⟨s.1, 0, none⟩))])
    (fun s => [pt s.1 (.cells #[.slice (some ⟨s.2.1, 0, none⟩) 512 s.2.2] 33 (0, 0)), buf s.2.1 5 s.2.2 (bvs (headN gen ((last + 1) % 2 ^ 64) (cvs.map CV.pair) 0)), boxJ b2 j, cellU b5 ((last + 1) % 2 ^ 64), Rl, blobs bl, pt j (jO d gen last ov mp), rowR 3 1 ov ch.length (blocksV ch), pt mp (.map es c), blobs jbl, DevR d n cur 0] ++ F) (fun s => 512 ≤ s.2.2 ∧ s.2.2 ≤ maxLen) ?_ ?_
  · refine WC.draw ([pt b2 (.cells #[.pointer (some ⟨j, 0, none⟩)] 80 (0, 0)), pt b5 (.cells #[.int .u64 (((last + 1) % 2 ^ 64) : Nat)] 138 (0, 0)), pt j (jO d gen last ov mp)]) [11] 12 #[false, false, false, false, false, false, false, false, false, false, false, false] mixed (by kernel_rfl) NoPanic.autoJ ?_
    refine WD.take (i := 0) #[true, false, false, false, false, false, false, false, false, false, false, false] rfl (by kernel_rfl) (Qt.ld sc80) ?_
    refine WD.take (i := 1) #[true, true, false, false, false, false, false, false, false, false, false, false] rfl (by kernel_rfl) (Qt.nilCheck ) ?_
    refine WD.take (i := 2) #[true, true, true, false, false, false, false, false, false, false, false, false] rfl (by kernel_rfl) (Qt.fa fo149_1) ?_
    refine WD.take (i := 3) #[true, true, true, true, false, false, false, false, false, false, false, false] rfl (by kernel_rfl) (Qt.ld sc138) ?_
    refine WD.take (i := 4) #[true, true, true, true, true, false, false, false, false, false, false, false] rfl (by kernel_rfl) (Qt.ld sc138) ?_
    refine WD.take (i := 5) #[true, true, true, true, true, true, false, false, false, false, false, false] rfl (by kernel_rfl) (Qt.move ) ?_
    refine WD.take (i := 6) #[true, true, true, true, true, true, true, false, false, false, false, false] rfl (by kernel_rfl) (Qt.lenS sl98) ?_
    refine WD.take (i := 7) #[true, true, true, true, true, true, true, true, false, false, false, false] rfl (by kernel_rfl) ((Qt.cvt un3 un138).eq (v' := .int .u64 ((cvs.length : Nat) : Int)) (congrArg (Value.int .u64) (IntWalk.u64_in _ (by omega)))) ?_
    refine WD.two (i := 8) (j := 10) #[true, true, true, true, true, true, true, true, true, false, false, false] #[true, true, true, true, true, true, true, true, false, false, true, false] rfl rfl (by kernel_rfl) (fun hnp => ?_) (fun hnp => ?_)
    · refine WL.buildS (fun b23 => ?_) (bs181_3 _ _ _)
      refine WL.nil (WQ.wd hnp (.inl Am.auto) ?_)
      refine WD.two (i := 9) (j := 10) #[true, true, true, true, true, true, true, true, true, true, false, false] #[true, true, true, true, true, true, true, true, true, false, true, false] rfl rfl (by kernel_rfl) (fun hnp => ?_) (fun hnp => ?_)
      · refine WL.call (hc := Tryz.call88) (sp := jLaid (ys := markH) (nums := [gen, ((last + 1) % 2 ^ 64), cvs.length]) (by decide) Reads.pt rfl (Nat.le_of_ble_eq_true rfl) (by intro v hv; simp only [List.mem_cons, List.not_mem_nil, or_false] at hv; rcases hv with rfl | rfl | rfl <;> omega)) (h := ?_)
        rintro _ _ ⟨gh, qh, ⟨rfl, hq1, hq2⟩, rfl⟩
        refine WL.nil (WQ.wd hnp (.inl Am.auto) ?_)
        refine WD.one (i := 10) #[true, true, true, true, true, true, true, true, true, true, true, false] rfl (by kernel_rfl) fun hnp => ?_
        refine WL.alloc z33 fun b6 => ?_
        refine WL.nil (WQ.wd hnp (.inl Am.auto) ?_)
        refine WD.one (i := 11) #[true, true, true, true, true, true, true, true, true, true, true, true] rfl (by kernel_rfl) fun hnp => ?_
        refine WL.st ?_ sc33
        refine WL.nil (WQ.wd hnp (.inr rfl) ?_)
        refine WD.done (by kernel_rfl) ?_
        refine WQ.to (A' := buf gh 5 qh (bvs (headN gen ((last + 1) % 2 ^ 64) (cvs.map CV.pair) 0))) (fun h hh => by rw [headN, List.length_map]; exact hh) ?_
        exact WQ.joined (b6, gh, qh) ⟨hq1, hq2⟩
      · refine WL.alloc z33 fun b6 => ?_
        refine WL.nil (WQ.wd hnp (.inl Am.auto) ?_)
        refine WD.one (i := 9) #[true, true, true, true, true, true, true, true, true, true, true, false] rfl (by kernel_rfl) fun hnp => ?_
        refine WL.call (hc := Tryz.call88) (sp := jLaid (ys := markH) (nums := [gen, ((last + 1) % 2 ^ 64), cvs.length]) (by decide) Reads.pt rfl (Nat.le_of_ble_eq_true rfl) (by intro v hv; simp only [List.mem_cons, List.not_mem_nil, or_false] at hv; rcases hv with rfl | rfl | rfl <;> omega)) (h := ?_)
        rintro _ _ ⟨gh, qh, ⟨rfl, hq1, hq2⟩, rfl⟩
        refine WL.nil (WQ.wd hnp (.inl Am.auto) ?_)
        refine WD.one (i := 11) #[true, true, true, true, true, true, true, true, true, true, true, true] rfl (by kernel_rfl) fun hnp => ?_
        refine WL.st ?_ sc33
        refine WL.nil (WQ.wd hnp (.inr rfl) ?_)
        refine WD.done (by kernel_rfl) ?_
        refine WQ.to (A' := buf gh 5 qh (bvs (headN gen ((last + 1) % 2 ^ 64) (cvs.map CV.pair) 0))) (fun h hh => by rw [headN, List.length_map]; exact hh) ?_
        exact WQ.joined (b6, gh, qh) ⟨hq1, hq2⟩
    · refine WL.alloc z33 fun b6 => ?_
      refine WL.nil (WQ.wd hnp (.inl Am.auto) ?_)
      refine WD.one (i := 8) #[true, true, true, true, true, true, true, true, true, false, true, false] rfl (by kernel_rfl) fun hnp => ?_
      refine WL.buildS (fun b23 => ?_) (bs181_3 _ _ _)
      refine WL.nil (WQ.wd hnp (.inl Am.auto) ?_)
      refine WD.one (i := 9) #[true, true, true, true, true, true, true, true, true, true, true, false] rfl (by kernel_rfl) fun hnp => ?_
      refine WL.call (hc := Tryz.call88) (sp := jLaid (ys := markH) (nums := [gen, ((last + 1) % 2 ^ 64), cvs.length]) (by decide) Reads.pt rfl (Nat.le_of_ble_eq_true rfl) (by intro v hv; simp only [List.mem_cons, List.not_mem_nil, or_false] at hv; rcases hv with rfl | rfl | rfl <;> omega)) (h := ?_)
      rintro _ _ ⟨gh, qh, ⟨rfl, hq1, hq2⟩, rfl⟩
      refine WL.nil (WQ.wd hnp (.inl Am.auto) ?_)
      refine WD.one (i := 11) #[true, true, true, true, true, true, true, true, true, true, true, true] rfl (by kernel_rfl) fun hnp => ?_
      refine WL.st ?_ sc33
      refine WL.nil (WQ.wd hnp (.inr rfl) ?_)
      refine WD.done (by kernel_rfl) ?_
      refine WQ.to (A' := buf gh 5 qh (bvs (headN gen ((last + 1) % 2 ^ 64) (cvs.map CV.pair) 0))) (fun h hh => by rw [headN, List.length_map]; exact hh) ?_
      exact WQ.joined (b6, gh, qh) ⟨hq1, hq2⟩
  · rintro ⟨b6, gh0, qh0⟩ ⟨hq1, hq2⟩
    refine WQ.next ?_
    refine WC.seq ?_
    refine WC.region ?_
    refine WL.assign ?_
    refine WL.emp (rowR.nil (e := 41) (size := 1) _) ?_
    refine WL.emp frz_nil ?_
    refine WL.nil ?_
    refine WQ.next ?_
    refine WC.seq ?_
    refine WC.seq ?_
    refine WC.region ?_
    refine WL.move ?_
    refine WL.lenS ?_ sl98
    refine WL.move ?_
    refine WL.nil ?_
    refine WQ.next ?_
    refine WC.block ?_
    refine WC.loopA (σ := Int × Nat × Nat × Value × List (Nat × Obj) × List (Nat × Nat)) (fun s => [(1, .slice A cvs.length c0), (2, .pointer (some ⟨b2, 0, none⟩)), (5, .pointer (some ⟨b5, 0, none⟩)), (6, .pointer (some ⟨b6, 0, none⟩)), (7, s.2.2.2.1), (25, .slice A cvs.length c0), (26, .int .i64 (cvs.length : Int)), (27, .int .i64 s.1)]) (fun s => [pt b6 (.cells #[.slice (some ⟨s.2.1, 0, none⟩) 512 s.2.2.1] 33 (0, 0)), buf s.2.1 5 s.2.2.1 (bvs (headN gen ((last + 1) % 2 ^ 64) (cvs.map CV.pair) s.1.toNat)), rowR 41 1 s.2.2.2.1 s.1.toNat (s.2.2.2.2.2.map (wr1V b2 b5)), frz s.2.2.2.2.1, boxJ b2 j, cellU b5 ((last + 1) % 2 ^ 64), Rl, blobs bl, pt j (jO d gen last ov mp), rowR 3 1 ov ch.length (blocksV ch), pt mp (.map es c), blobs jbl, DevR d n cur 0] ++ F) (fun s => WI cvs s.1 s.2.2.2.2.1 s.2.2.2.2.2 ∧ 512 ≤ s.2.2.1 ∧ s.2.2.1 ≤ maxLen) (fun s => ((cvs.length : Int) - s.1).toNat) (0, gh0, qh0, .slice none 0 0, [], []) ⟨⟨by omega, by omega, rfl, fun k hk hk' => by simp at hk'⟩, hq1, hq2⟩ ?_
    rintro ⟨i, gh, qh, v, os, bs⟩ ⟨hi, hq1, hq2⟩
    refine WC.seq ?_
    refine WC.region ?_
    refine WL.lss ?_
    refine WL.nil ?_
    refine WQ.next ?_
    refine WC.seq ?_
    refine WC.cond rfl (fun hb => ?_) (fun hb => ?_)
    · have hlt : i < (cvs.length : Int) := of_decide_eq_true hb
      have hlo := hi.lo
      have hil : i.toNat < cvs.length := by omega
      have hcl := chCells_length cvs
      have hhome := hfit.home cvs[i.toNat].pair (List.mem_map.2 ⟨_, List.getElem_mem hil, rfl⟩)
      have hkk : cvs[i.toNat].k < n := hhome.2.1
      rcases A with _ | ⟨ab, ao, asp⟩
      · exact absurd hR (fun h => by have h2 : chCells cvs = [] := h; rw [h2] at hcl; simp at hcl; omega)
      have hsp : asp = none := hR.1
      subst hsp
      have hstep : put (headN gen ((last + 1) % 2 ^ 64) (cvs.map CV.pair) i.toNat) (32 + 4 * i).toNat (4 : Int).toNat false cvs[i.toNat].k = headN gen ((last + 1) % 2 ^ 64) (cvs.map CV.pair) (i + 1).toNat := by
        rw [show (i + 1).toNat = i.toNat + 1 from by omega, headN, show (cvs.map CV.pair)[i.toNat]? = some cvs[i.toNat].pair from by simp [hil], show (32 + 4 * i).toNat = 32 + 4 * i.toNat from by omega]
        rfl
      refine WC.skip ?_
      refine WQ.next ?_
      refine WC.seq ?_
      refine WC.block ?_
      refine WC.seq ?_
      refine WC.region ?_
      refine WL.move ?_
      refine WL.idx ?_ so98
      refine WL.ldAR ?_ agg108 hR (chCells_get cvs i.toNat hil) (by rw [chCells_length]; omega)
      refine WL.alloc z3 fun b8 => ?_
      refine WL.alloc z108 fun b9 => ?_
      refine WL.st ?_ sc3
      refine WL.stV ?_ agg108
      refine WL.nil ?_
      refine WQ.next ?_
      refine WC.seq ?_
      refine WC.region ?_
      refine WL.ld ?_ sc33
      refine WL.ld ?_ sc3
      refine WL.mul ?_
      refine WL.add ?_
      refine WL.fa ?_ fo108_0
      refine WL.ld ?_ sc3
      refine WL.cvt ?_ un3 un138
      refine WL.cast (d := 39) rfl (congrArg (Value.int .u64) (IntWalk.u64_in _ (by omega))) ?_
      refine WL.call (hc := Tryz.call116) (sp := bitsPut (xs := headN gen ((last + 1) % 2 ^ 64) (cvs.map CV.pair) i.toNat) (v := cvs[i.toNat].k) Reads.buf (headN_length _ _ _ _) (by decide) (by omega) (by omega) (by omega) (by omega)) (h := ?_)
      rintro _ _ ⟨g', q', ⟨rfl, h1, h2⟩, rfl⟩
      refine WL.move ?_
      refine WL.extract ?_
      refine WL.extract ?_
      refine WL.st ?_ sc33
      refine WL.nil ?_
      refine WQ.next ?_
      refine WC.region ?_
      refine WL.move ?_
      refine WL.makeFuncB ?_
      refine WL.buildS (fun b45 => ?_) (bs141_1 _ _ _)
      refine WL.append (m := 1) so141 (by decide) (by repeat (first | exact .here | apply Rem.there | apply Repl.there | apply Mem.there)) Reads.pt (by repeat (first | exact .here | apply Rem.there | apply Repl.there | apply Mem.there)) rfl (by simp [Value.single]) (by unfold maxLen; omega) (by omega) ⟨_, z41, rfl⟩ (fun v' hv' => ?_)
      refine WL.assign ?_
      refine WL.nil ?_
      refine WQ.blockNormal ?_
      refine WQ.next ?_
      refine WC.region ?_
      refine WL.add ?_
      refine WL.move ?_
      refine WL.nil ?_
      refine WQ.to (A' := pt b8 (intO i)) (fun h hh => hh) ?_
      refine WQ.to (A' := pt b9 (chO cvs[i.toNat])) (fun h hh => hh) ?_
      refine WQ.frzAdd (b := b8) (os := os) ?_
      refine WQ.frzAdd (b := b9) (os := (b8, intO i) :: os) ?_
      refine WQ.to (A := rowR 41 1 v' (i.toNat + 1) (bs.map (wr1V b2 b5) ++ [(b8, b9)].map (wr1V b2 b5))) (A' := rowR 41 1 v' (i + 1).toNat ((bs ++ [(b8, b9)]).map (wr1V b2 b5))) (fun h hh => by rw [show (i + 1).toNat = i.toNat + 1 from by omega, List.map_append]; exact hh) ?_
      refine WQ.to (A := buf g' 5 q' (bvs (put (headN gen ((last + 1) % 2 ^ 64) (cvs.map CV.pair) i.toNat) (32 + 4 * i).toNat (4 : Int).toNat false cvs[i.toNat].k))) (A' := buf g' 5 q' (bvs (headN gen ((last + 1) % 2 ^ 64) (cvs.map CV.pair) (i + 1).toNat))) (fun h hh => by rw [← hstep]; exact hh) ?_
      exact WQ.back (i + 1, g', q', v', (b9, chO cvs[i.toNat]) :: (b8, intO i) :: os, bs ++ [(b8, b9)]) ⟨hi.step hil b8 b9, h1, h2⟩ (by show ((cvs.length : Int) - (i + 1)).toNat < ((cvs.length : Int) - i).toNat; omega)
    · have hge : ¬ i < (cvs.length : Int) := of_decide_eq_false hb
      have hlo := hi.lo
      have hhi := hi.hi
      have hie : i = (cvs.length : Int) := by omega
      subst hie
      have hbl : bs.length = cvs.length := by rw [hi.len]; omega
      simp only [Int.toNat_natCast]
      have hhd : headN gen ((last + 1) % 2 ^ 64) (cvs.map CV.pair) cvs.length = headB gen ((last + 1) % 2 ^ 64) (cvs.map CV.pair) := by unfold headB; rw [List.length_map]
      have hhl : (headB gen ((last + 1) % 2 ^ 64) (cvs.map CV.pair)).length = 512 := headN_length _ _ _ _
      rw [hhd]
      refine WC.fact (rowR_shape (el := 41) (size := 1) (v := v) (k := cvs.length) (xs := bs.map (wr1V b2 b5))) (fun ⟨A2, c2, hv2, hR2, hk2, hc2, hl2⟩ => ?_)
      subst hv2
      refine WC.exit (WQ.thenExit (WQ.thenExit (WQ.blockExit (?_))))
      refine WQ.next ?_
      refine WC.seq ?_
      refine WC.region ?_
      refine WL.ld ?_ sc80
      refine WL.makeFuncB ?_
      refine WL.buildS (fun b50 => ?_) (bs141_1 _ _ _)
      refine WL.to (A' := buf b50 41 1 [settleV j]) (buf_of_pt (cs := #[settleV j]) rfl) ?_
      refine WL.to (rowR_of_buf (g := b50) (el := 41) (cap := 1) (xs := [settleV j]) (by decide)) ?_
      refine WL.move ?_
      refine WL.appendAny (m := cvs.length) so141 (by decide) (by repeat (first | exact .here | apply Rem.there | apply Repl.there | apply Mem.there)) hR2 (by repeat (first | exact .here | apply Rem.there | apply Repl.there | apply Mem.there)) hl2 (by intro u hu; obtain ⟨p, _, rfl⟩ := List.mem_map.1 hu; rfl) (by unfold maxLen; simp only [List.length_cons, List.length_nil]; omega) (by simp only [List.length_cons, List.length_nil]; omega) ⟨_, z41, rfl⟩ (fun vB hvB => ?_)
      refine WL.assign ?_
      refine WL.nil ?_
      refine WQ.next ?_
      refine WC.seq ?_
      refine WC.draw ([boxJ b2 j, pt j (jO d gen last ov mp)]) [] 16 #[false, false, false, false, false, false, false, false, false, false, false, false, false, false, false, false] mixed (by kernel_rfl) NoPanic.autoJ ?_
      refine WD.take (i := 0) #[true, false, false, false, false, false, false, false, false, false, false, false, false, false, false, false] rfl (by kernel_rfl) (Qt.move ) ?_
      refine WD.take (i := 1) #[true, true, false, false, false, false, false, false, false, false, false, false, false, false, false, false] rfl (by kernel_rfl) (Qt.ld sc80) ?_
      refine WD.take (i := 2) #[true, true, true, false, false, false, false, false, false, false, false, false, false, false, false, false] rfl (by kernel_rfl) (Qt.nilCheck ) ?_
      refine WD.take (i := 3) #[true, true, true, true, false, false, false, false, false, false, false, false, false, false, false, false] rfl (by kernel_rfl) (Qt.fa fo149_0) ?_
      refine WD.take (i := 4) #[true, true, true, true, true, false, false, false, false, false, false, false, false, false, false, false] rfl (by kernel_rfl) (Qt.ld sc76) ?_
      refine WD.take (i := 5) #[true, true, true, true, true, true, false, false, false, false, false, false, false, false, false, false] rfl (by kernel_rfl) (Qt.makeFuncB ) ?_
      refine WD.take (i := 6) #[true, true, true, true, true, true, true, false, false, false, false, false, false, false, false, false] rfl (by kernel_rfl) (Qt.makeFuncB ) ?_
      refine WD.take (i := 7) #[true, true, true, true, true, true, true, true, false, false, false, false, false, false, false, false] rfl (by kernel_rfl) (Qt.ld sc80) ?_
      refine WD.take (i := 8) #[true, true, true, true, true, true, true, true, true, false, false, false, false, false, false, false] rfl (by kernel_rfl) (Qt.nilCheck ) ?_
      refine WD.take (i := 9) #[true, true, true, true, true, true, true, true, true, true, false, false, false, false, false, false] rfl (by kernel_rfl) (Qt.fa fo149_0) ?_
      refine WD.take (i := 10) #[true, true, true, true, true, true, true, true, true, true, true, false, false, false, false, false] rfl (by kernel_rfl) (Qt.ld sc76) ?_
      refine WD.take (i := 11) #[true, true, true, true, true, true, true, true, true, true, true, true, false, false, false, false] rfl (by kernel_rfl) (Qt.makeFuncB ) ?_
      refine WD.one (i := 12) #[true, true, true, true, true, true, true, true, true, true, true, true, true, false, false, false] rfl (by kernel_rfl) fun hnp => ?_
      refine WL.buildS (fun b65 => ?_) (bs141_3 _ _ _ _ _ _ _ _ _)
      refine WL.nil (WQ.wd hnp (.inl Am.auto) ?_)
      refine WD.one (i := 13) #[true, true, true, true, true, true, true, true, true, true, true, true, true, true, false, false] rfl (by kernel_rfl) fun hnp => ?_
      refine WL.append (m := 3) so141 (by decide) (by repeat (first | exact .here | apply Rem.there | apply Repl.there | apply Mem.there)) Reads.pt (by repeat (first | exact .here | apply Rem.there | apply Repl.there | apply Mem.there)) rfl (by simp [Value.single]) (by unfold maxLen; simp only [List.length_cons, List.length_nil]; omega) (by simp only [List.length_cons, List.length_nil]; omega) ⟨_, z41, rfl⟩ (fun vT hvT => ?_)
      refine WL.rowOpen (v := vT) fun A3 c3 hv3 hR3 hc31 hc32 => ?_
      subst hv3
      refine WL.nil (WQ.wd hnp (.inl Am.auto) ?_)
      refine WD.one (i := 14) #[true, true, true, true, true, true, true, true, true, true, true, true, true, true, true, false] rfl (by kernel_rfl) fun hnp => ?_
      refine WL.call (hc := Tryz.call85) (sp := jTriesC ((Chain.cons (I := [boxJ b2 j, cellU b5 ((last + 1) % 2 ^ 64), frz os, blobs bl, pt j (jO d gen last ov mp), DevR d n cur 0, Rl, rowR 3 1 ov ch.length (blocksV ch), pt mp (.map es c), blobs jbl, pt b6 (.cells #[.slice (some ⟨gh, 0, none⟩) 512 qh] 33 (0, 0)), buf gh 5 qh (bvs (headB gen ((last + 1) % 2 ^ 64) (cvs.map CV.pair)))]) (goesSettle hm hk hf (t := 0) (cur := cur) (by omega)).sub (Chain.append (dataChain (t := 0 + ch.length) (cur := lay cur ch) [Rl, rowR 3 1 ov ch.length (blocksV ch), pt mp (.map es c), blobs jbl, pt b6 (.cells #[.slice (some ⟨gh, 0, none⟩) 512 qh] 33 (0, 0)), buf gh 5 qh (bvs (headB gen ((last + 1) % 2 ^ 64) (cvs.map CV.pair)))] hbl hi.lie hli hfit hn (by omega)) (.cons (goesFlush (d := d) (n := n) (t := 0 + ch.length + cvs.length) (cur := lay (lay cur ch) (dataL (((last + 1) % 2 ^ 64) % 4) (cvs.map CV.pair)))).sub (.cons (goesWr2 (j := j) (d := d) (n := n) (t := 0) (gen := gen) (last := last) (mp := mp) (b2 := b2) (b5 := b5) (b6 := b6) (gh := gh) (qh := qh) (nn := ((last + 1) % 2 ^ 64)) (ov := ov) (hd := headB gen ((last + 1) % 2 ^ 64) (cvs.map CV.pair)) (cur := lay (lay cur ch) (dataL (((last + 1) % 2 ^ 64) % 4) (cvs.map CV.pair))) hhl hn (by decide)).sub (.cons goesFlush.sub .nil)))))) hR3 (by simp only [List.length_append, List.length_cons, List.length_nil, List.length_map]; omega) (by simp only [List.length_cons, List.length_nil]; omega)) (h := ?_)
      rintro _ _ ⟨rfl, rfl⟩
      simp only [List.cons_append, List.nil_append]
      refine WL.nil (WQ.wd hnp (.inl Am.auto) ?_)
      refine WD.take (i := 15) #[true, true, true, true, true, true, true, true, true, true, true, true, true, true, true, true] rfl (by kernel_rfl) (Qt.assign ) ?_
      refine WD.done (by kernel_rfl) ?_
      refine WQ.next ?_
      refine WC.ret (?_)
      exact WQ.ret1 (h1 := .tmp (t := 4) rfl) ⟨_, ⟨rfl, rfl⟩, Am.auto⟩
theorem bs22_1 (v0 : Int) : BuildSOk Tryz.prog 22 1 [(0, .int .i64 v0)] 3 #[.int .i64 v0] := fun w => by kernel_rfl
theorem blocksV_take (l : List (Nat × Bytes)) (i : Nat) (h : i < l.length) : blocksV (l.take (i + 1)) = blocksV (l.take i) ++ [.int .i64 (l[i].1 : Int)] := by
  unfold blocksV ints
  rw [List.take_succ_eq_append_getElem h, List.map_append, List.map_append]
  rfl
theorem Kept.snoc {kv : List ((Int × Int) × Value)} {bl : List (Value × Bytes)} {s i : Nat} {l : List (Nat × Bytes)} (h : Kept kv bl s (l.take i)) (hi : i < l.length) {v : Value} {p : Value × Bytes} (hp : p = (v, l[i].2)) : Kept (kput kv ((s : Int), (i : Int)) v) (p :: bl) s (l.take (i + 1)) := by
  subst hp
  intro k hk
  rw [List.length_take] at hk
  by_cases hki : k = i
  · subst hki
    refine ⟨v, by rw [kget_put, if_pos rfl], ?_⟩
    rw [List.getElem_take]
    exact List.mem_cons_self ..
  · obtain ⟨u, h1, h2⟩ := h k (by rw [List.length_take]; omega)
    refine ⟨u, ?_, ?_⟩
    · rw [kget_put, if_neg (fun hh => hki (by have := congrArg Prod.snd hh; simp only at this; omega))]
      exact h1
    · rw [List.getElem_take] at h2 ⊢
      exact List.mem_cons_of_mem _ h2
structure CI (n : Nat) (s : Nat) (l : List (Nat × Bytes)) (i : Int) (es : Array MapEntry) (c : Nat) (kv : List ((Int × Int) × Value)) (bl : List (Value × Bytes)) : Prop where
  lo : 0 ≤ i
  hi : i ≤ l.length
  hm : MapIs pairE es c kv
  hk : Kept kv bl s (l.take i.toNat)
theorem jCommit0 {j d n m c0 : Nat} {J : JS} {bl : List (Value × Bytes)} {Rl : HP} {A : Option Addr} {cvs : List CV}
    (hR : Reads Rl A (chCells cvs)) (hml : cvs.length = m) (hli : Lie bl cvs) (hfit : Fit n (cvs.map CV.pair)) :
    Spec Tryz.prog 107 #[.pointer (some ⟨j, 0, none⟩), .slice A m c0] [Rl, blobs bl, JR j d n J] fun F v M => v = okV ∧ M = [Rl, blobs bl, JR j d n (J.commit (cvs.map CV.pair))] ++ F := by
  refine Spec.intro Tryz.func107 rfl rfl fun B F => ?_
  simp only [Tryz.ntmps107, List.cons_append, List.nil_append, env0, Nat.reduceAdd]
  refine WC.openR (JR.opens j d n J) fun x hp => ?_
  simp only [jL, List.cons_append, List.nil_append]
  subst hml
  have hfew : cvs.length ≤ 60 := by simpa using hfit.few
  have hnn : J.next < 2 ^ 64 := Nat.mod_lt _ (by decide)
  refine WC.seq ?_
  refine WC.region ?_
  refine WL.assign ?_
  refine WL.nil ?_
  refine WQ.next ?_
  refine WC.seq ?_
  refine WC.seq ?_
  refine WC.region ?_
  refine WL.move ?_
  refine WL.eqNil ?_ ptr80
  refine WL.move ?_
  refine WL.gT ?_
  refine WL.move ?_
  refine WL.gT ?_
  refine WL.nilCheck ?_
  refine WL.gT ?_
  refine WL.fa ?_ fo149_0
  refine WL.gT ?_
  refine WL.ld ?_ sc76
  refine WL.gT ?_
  refine WL.eqNil ?_ ptr76
  refine WL.pickF ?_
  refine WL.move ?_
  refine WL.gT ?_
  refine WL.move ?_
  refine WL.gT ?_
  refine WL.nilCheck ?_
  refine WL.gT ?_
  refine WL.fa ?_ fo149_3
  refine WL.gT ?_
  refine WL.ld ?_ sc4
  refine WL.pickF ?_
  refine WL.nil ?_
  refine WQ.next ?_
  refine WC.condF rfl rfl ?_
  refine WC.skip ?_
  refine WQ.next ?_
  refine WC.seq ?_
  refine WC.seq ?_
  refine WC.region ?_
  refine WL.move ?_
  refine WL.move ?_
  refine WL.call (hc := Tryz.call132) (sp := jWrite hp.hm hp.hk hp.hf hR rfl hli hfit hp.hg hp.n1 hp.n2) (h := ?_)
  rintro _ _ ⟨rfl, rfl⟩
  simp only [List.cons_append, List.nil_append]
  refine WL.assign ?_
  refine WL.nil ?_
  refine WQ.next ?_
  refine WC.seq ?_
  refine WC.region ?_
  refine WL.move ?_
  refine WL.nei ?_
  refine WL.nil ?_
  refine WQ.next ?_
  refine WC.condF rfl rfl ?_
  refine WC.skip ?_
  refine WQ.next ?_
  refine WC.seq ?_
  refine WC.region ?_
  refine WL.move ?_
  refine WL.nilCheck ?_
  refine WL.fa ?_ fo149_2
  refine WL.ld ?_ sc138
  refine WL.addw ?_
  refine WL.cast (d := 36) (u := .int .u64 (J.next : Int)) rfl (congrArg (Value.int .u64) (u64_wrap1 J.last)) ?_
  refine WL.nilCheck ?_
  refine WL.fa ?_ fo149_2
  refine WL.st ?_ sc138
  refine WL.nil ?_
  refine WQ.next ?_
  refine WC.seq ?_
  refine WC.region ?_
  refine WL.move ?_
  refine WL.move ?_
  refine WL.mkMap fun m41 => ?_
  refine WL.nilCheck ?_
  refine WL.fa ?_ fo149_4
  refine WL.st ?_ sc22
  refine WL.nilCheck ?_
  refine WL.fa ?_ fo149_5
  refine WL.st ?_ sc147
  refine WL.nil ?_
  refine WQ.next ?_
  refine WC.seq ?_
  refine WC.seq ?_
  refine WC.region ?_
  refine WL.move ?_
  refine WL.lenS ?_ sl98
  refine WL.move ?_
  refine WL.nil ?_
  refine WQ.next ?_
  refine WC.block ?_
  refine WC.blobsNil ?_
  refine WC.emp (rowR.nil (e := 3) (size := 1) _) ?_
  refine WC.loopA (σ := Int × Value × Array MapEntry × Nat × List ((Int × Int) × Value) × List (Value × Bytes)) (fun s => [(0, .pointer (some ⟨j, 0, none⟩)), (46, .slice A cvs.length c0), (47, .int .i64 (cvs.length : Int)), (48, .int .i64 s.1)]) (fun s => [pt j (jO d J.gen J.next s.2.1 m41), rowR 3 1 s.2.1 s.1.toNat (blocksV ((cvs.map CV.pair).take s.1.toNat)), pt m41 (.map s.2.2.1 s.2.2.2.1), blobs s.2.2.2.2.2, Rl, blobs bl, DevR d n (J.wrote (cvs.map CV.pair)) 0] ++ F) (fun s => CI n (J.next % 4) (cvs.map CV.pair) s.1 s.2.2.1 s.2.2.2.1 s.2.2.2.2.1 s.2.2.2.2.2) (fun s => ((cvs.length : Int) - s.1).toNat) (0, .slice none 0 0, #[], 0, [], []) ⟨by omega, by omega, MapIs.empty _ _, fun k hk => by simp at hk⟩ ?_
  rintro ⟨i, ov, es, c, kv, bl2⟩ hi
  refine WC.seq ?_
  refine WC.region ?_
  refine WL.lss ?_
  refine WL.nil ?_
  refine WQ.next ?_
  refine WC.seq ?_
  refine WC.cond rfl (fun hb => ?_) (fun hb => ?_)
  · have hlt : i < (cvs.length : Int) := of_decide_eq_true hb
    have hlo := hi.lo
    have hil : i.toNat < cvs.length := by omega
    have hcl := chCells_length cvs
    have hhome := hfit.home cvs[i.toNat].pair (List.mem_map.2 ⟨_, List.getElem_mem hil, rfl⟩)
    have hx5 : cvs[i.toNat].xs.length = 512 := hhome.2.2
    have hil2 : i.toNat < (cvs.map CV.pair).length := by simpa using hil
    rcases A with _ | ⟨ab, ao, asp⟩
    · exact absurd hR (fun h => by have h2 : chCells cvs = [] := h; rw [h2] at hcl; simp at hcl; omega)
    have hsp : asp = none := hR.1
    subst hsp
    refine WC.skip ?_
    refine WQ.next ?_
    refine WC.seq ?_
    refine WC.block ?_
    refine WC.seq ?_
    refine WC.region ?_
    refine WL.move ?_
    refine WL.idx ?_ so98
    refine WL.ldAR ?_ agg108 hR (chCells_get cvs i.toNat hil) (by rw [chCells_length]; omega)
    refine WL.alloc z108 fun b7 => ?_
    refine WL.assign ?_
    refine WL.stV ?_ agg108
    refine WL.nil ?_
    refine WQ.next ?_
    refine WC.seq ?_
    refine WC.draw ([pt j (jO d J.gen J.next ov m41), pt b7 (chO cvs[i.toNat])]) [11] 12 #[false, false, false, false, false, false, false, false, false, false, false, false] mixed (by kernel_rfl) NoPanic.autoJ ?_
    refine WD.take (i := 0) #[true, false, false, false, false, false, false, false, false, false, false, false] rfl (by kernel_rfl) (Qt.move ) ?_
    refine WD.take (i := 1) #[true, true, false, false, false, false, false, false, false, false, false, false] rfl (by kernel_rfl) (Qt.move ) ?_
    refine WD.take (i := 2) #[true, true, true, false, false, false, false, false, false, false, false, false] rfl (by kernel_rfl) (Qt.nilCheck ) ?_
    refine WD.take (i := 3) #[true, true, true, true, false, false, false, false, false, false, false, false] rfl (by kernel_rfl) (Qt.fa fo149_4) ?_
    refine WD.take (i := 4) #[true, true, true, true, true, false, false, false, false, false, false, false] rfl (by kernel_rfl) (Qt.ld sc22) ?_
    refine WD.take (i := 5) #[true, true, true, true, true, true, false, false, false, false, false, false] rfl (by kernel_rfl) (Qt.fa fo108_0) ?_
    refine WD.take (i := 6) #[true, true, true, true, true, true, true, false, false, false, false, false] rfl (by kernel_rfl) (Qt.ld sc3) ?_
    refine WD.one (i := 7) #[true, true, true, true, true, true, true, true, false, false, false, false] rfl (by kernel_rfl) fun hnp => ?_
    refine WL.buildS (fun b60 => ?_) (bs22_1 _)
    refine WL.nil (WQ.wd hnp (.inl Am.auto) ?_)
    refine WD.one (i := 8) #[true, true, true, true, true, true, true, true, true, false, false, false] rfl (by kernel_rfl) fun hnp => ?_
    refine WL.append (m := 1) so22 (by decide) (by repeat (first | exact .here | apply Rem.there | apply Repl.there | apply Mem.there)) Reads.pt (by repeat (first | exact .here | apply Rem.there | apply Repl.there | apply Mem.there)) rfl (by simp [Value.single]) (by unfold maxLen; omega) (by omega) ⟨_, z3, rfl⟩ (fun ov' hov' => ?_)
    refine WL.rowOpen (v := ov') fun A4 c4 hv4 hR4 h41 h42 => ?_
    subst hv4
    refine WL.nil (WQ.wd hnp (.inl Am.auto) ?_)
    refine WD.one (i := 9) #[true, true, true, true, true, true, true, true, true, true, false, false] rfl (by kernel_rfl) fun hnp => ?_
    refine WL.nilCheck ?_
    refine WL.nil (WQ.wd hnp (.inl Am.auto) ?_)
    refine WD.take (i := 10) #[true, true, true, true, true, true, true, true, true, true, true, false] rfl (by kernel_rfl) (Qt.fa fo149_4) ?_
    refine WD.one (i := 11) #[true, true, true, true, true, true, true, true, true, true, true, true] rfl (by kernel_rfl) fun hnp => ?_
    refine WL.st ?_ sc22
    refine WL.nil (WQ.wd hnp (.inr rfl) ?_)
    refine WD.done (by kernel_rfl) ?_
    refine WQ.next ?_
    refine WC.draw ([pt j (jO d J.gen J.next (.slice (some A4) (i.toNat + 1) c4) m41), pt b7 (chO cvs[i.toNat])]) [14] 15 #[false, false, false, false, false, false, false, false, false, false, false, false, false, false, false] mixed (by kernel_rfl) NoPanic.autoJ ?_
    refine WD.take (i := 0) #[true, false, false, false, false, false, false, false, false, false, false, false, false, false, false] rfl (by kernel_rfl) (Qt.move ) ?_
    refine WD.take (i := 1) #[true, true, false, false, false, false, false, false, false, false, false, false, false, false, false] rfl (by kernel_rfl) (Qt.nilCheck ) ?_
    refine WD.take (i := 2) #[true, true, true, false, false, false, false, false, false, false, false, false, false, false, false] rfl (by kernel_rfl) (Qt.fa fo149_5) ?_
    refine WD.take (i := 3) #[true, true, true, true, false, false, false, false, false, false, false, false, false, false, false] rfl (by kernel_rfl) (Qt.ld sc147) ?_
    refine WD.take (i := 4) #[true, true, true, true, true, false, false, false, false, false, false, false, false, false, false] rfl (by kernel_rfl) (Qt.move ) ?_
    refine WD.take (i := 5) #[true, true, true, true, true, true, false, false, false, false, false, false, false, false, false] rfl (by kernel_rfl) (Qt.nilCheck ) ?_
    refine WD.take (i := 6) #[true, true, true, true, true, true, true, false, false, false, false, false, false, false, false] rfl (by kernel_rfl) (Qt.fa fo149_2) ?_
    refine WD.take (i := 7) #[true, true, true, true, true, true, true, true, false, false, false, false, false, false, false] rfl (by kernel_rfl) (Qt.ld sc138) ?_
    refine WD.take (i := 9) #[true, true, true, true, true, true, true, true, false, true, false, false, false, false, false] rfl (by kernel_rfl) (Qt.move ) ?_
    refine WD.take (i := 11) #[true, true, true, true, true, true, true, true, false, true, false, true, false, false, false] rfl (by kernel_rfl) (Qt.fa fo108_1) ?_
    refine WD.take (i := 12) #[true, true, true, true, true, true, true, true, false, true, false, true, true, false, false] rfl (by kernel_rfl) (Qt.ld sc33) ?_
    refine WD.one (i := 8) #[true, true, true, true, true, true, true, true, true, true, false, true, true, false, false] rfl (by kernel_rfl) fun hnp => ?_
    refine WL.call (hc := Tryz.call90) (sp := slotN (a := J.next)) (h := ?_)
    rintro _ _ ⟨rfl, rfl⟩
    refine WL.nil (WQ.wd hnp (.inl Am.auto) ?_)
    refine WD.take (i := 10) #[true, true, true, true, true, true, true, true, true, true, true, true, true, false, false] rfl (by kernel_rfl) (Qt.build (bdPlace _ _)) ?_
    refine WD.one (i := 13) #[true, true, true, true, true, true, true, true, true, true, true, true, true, true, false] rfl (by kernel_rfl) fun hnp => ?_
    refine WL.call (hc := Tryz.call123) (sp := bytesClone (Reads.blob (hli _ (List.getElem_mem hil))) hx5 (by decide)) (h := ?_)
    rintro _ _ ⟨gc, kc, ⟨rfl, hk1, hk2⟩, rfl⟩
    refine WL.nil (WQ.wd hnp (.inl Am.auto) ?_)
    refine WD.one (i := 14) #[true, true, true, true, true, true, true, true, true, true, true, true, true, true, true] rfl (by kernel_rfl) fun hnp => ?_
    refine WL.upd (k := (((J.next % 4 : Nat) : Int), i)) klP hi.hm mp147 fun es' c' hm' => ?_
    refine WL.nil (WQ.wd hnp (.inr rfl) ?_)
    refine WD.done (by kernel_rfl) ?_
    refine WQ.blockNormal ?_
    refine WQ.next ?_
    refine WC.region ?_
    refine WL.add ?_
    refine WL.move ?_
    refine WL.nil ?_
    refine WQ.blobsAdd (bl := bl2) (g := gc) (k := kc) (xs := cvs[i.toNat].xs) (by rw [hx5]; exact hk1) ?_
    have hk3 : Kept (kput kv (((J.next % 4 : Nat) : Int), i) (.slice (some ⟨gc, 0, none⟩) 512 kc)) ((.slice (some ⟨gc, 0, none⟩) cvs[i.toNat].xs.length kc, cvs[i.toNat].xs) :: bl2) (J.next % 4) ((cvs.map CV.pair).take (i + 1).toNat) := by
      have := Kept.snoc hi.hk hil2 (v := .slice (some ⟨gc, 0, none⟩) 512 kc) (p := (.slice (some ⟨gc, 0, none⟩) cvs[i.toNat].xs.length kc, cvs[i.toNat].xs)) (by rw [hx5, List.getElem_map]; rfl)
      rw [show (i + 1).toNat = i.toNat + 1 from by omega]
      rw [show ((i.toNat : Nat) : Int) = i from by omega] at this
      exact this
    refine WQ.to (A := rowR 3 1 (.slice (some A4) (i.toNat + 1) c4) (i.toNat + 1) (blocksV ((cvs.map CV.pair).take i.toNat) ++ [.int .i64 (cvs[i.toNat].k : Int)])) (A' := rowR 3 1 (.slice (some A4) (i.toNat + 1) c4) (i + 1).toNat (blocksV ((cvs.map CV.pair).take (i + 1).toNat))) (fun h hh => by rw [show (i + 1).toNat = i.toNat + 1 from by omega, blocksV_take _ _ hil2, List.getElem_map]; exact hh) ?_
    exact WQ.back (i + 1, .slice (some A4) (i.toNat + 1) c4, es', c', kput kv (((J.next % 4 : Nat) : Int), i) (.slice (some ⟨gc, 0, none⟩) 512 kc), (.slice (some ⟨gc, 0, none⟩) cvs[i.toNat].xs.length kc, cvs[i.toNat].xs) :: bl2) ⟨by omega, by rw [List.length_map]; omega, hm', hk3⟩ (by show ((cvs.length : Int) - (i + 1)).toNat < ((cvs.length : Int) - i).toNat; omega)
  · have hge : ¬ i < (cvs.length : Int) := of_decide_eq_false hb
    have hlo := hi.lo
    have hhi := hi.hi
    rw [List.length_map] at hhi
    have hie : i = (cvs.length : Int) := by omega
    subst hie
    have hk3 := hi.hk
    have hll : (cvs.map CV.pair).length = cvs.length := List.length_map ..
    simp only [Int.toNat_natCast] at hk3 ⊢
    rw [List.take_of_length_le (by rw [hll]; exact Nat.le_refl _)] at hk3 ⊢
    refine WC.exit (WQ.thenExit (WQ.thenExit (WQ.blockExit (?_))))
    refine WQ.next ?_
    refine WC.seq ?_
    refine WC.region ?_
    refine WL.assign ?_
    refine WL.nil ?_
    refine WQ.next ?_
    refine WC.ret (?_)
    refine WQ.to (A := rowR 3 1 ov cvs.length (blocksV (cvs.map CV.pair))) (A' := rowR 3 1 ov (cvs.map CV.pair).length (blocksV (cvs.map CV.pair))) (fun h hh => by rw [hll]; exact hh) ?_
    refine WQ.shutR (JR.opens j d n (J.commit (cvs.map CV.pair))) ⟨es, c, m41, kv, bl2, ov⟩ ⟨hi.hm, hk3, hfit, hp.n1, hp.n2, hp.hg, hnn⟩ ?_
    exact WQ.ret1 (h1 := .tmp (t := 4) rfl) ⟨_, ⟨rfl, rfl⟩, Am.auto⟩
structure MI (l : List CV) (i : Int) (es : Array MapEntry) (c : Nat) (kv : List (Int × Value)) : Prop where
  lo : 0 ≤ i
  hi : i ≤ l.length
  hm : MapIs intE es c kv
  met : ∀ k, kget kv k ≠ none → ∃ a, ∃ h : a < l.length, a < i.toNat ∧ k = (l[a].k : Int)
theorem MI.fresh {n : Nat} {l : List CV} {i : Int} {es : Array MapEntry} {c : Nat} {kv : List (Int × Value)} (h : MI l i es c kv) (hf : Fit n (l.map CV.pair)) (hil : i.toNat < l.length) : kget kv (l[i.toNat].k : Int) = none := by
  cases hk : kget kv (l[i.toNat].k : Int) with
  | none => rfl
  | some v =>
    obtain ⟨a, ha, hai, hka⟩ := h.met _ (by rw [hk]; simp)
    exfalso
    have hnd := List.pairwise_iff_getElem.1 hf.apart
    have := hnd a i.toNat (by simpa using ha) (by simpa using hil) hai
    simp only [List.getElem_map] at this
    exact this (by show l[a].k = l[i.toNat].k; omega)
theorem MI.step {l : List CV} {i : Int} {es es' : Array MapEntry} {c c' : Nat} {kv : List (Int × Value)} (h : MI l i es c kv) (hil : i.toNat < l.length) {v : Value} (hm : MapIs intE es' c' (kput kv (l[i.toNat].k : Int) v)) : MI l (i + 1) es' c' (kput kv (l[i.toNat].k : Int) v) := by
  have := h.lo
  refine ⟨by omega, by omega, hm, fun k hk => ?_⟩
  rw [kget_put] at hk
  split at hk
  · exact ⟨i.toNat, hil, by omega, by assumption⟩
  · obtain ⟨a, ha, h1, h2⟩ := h.met k hk
    exact ⟨a, ha, by omega, h2⟩
theorem jMay {j d n m c0 : Nat} {J : JS} {Rl : HP} {A : Option Addr} {cvs : List CV} (hR : Reads Rl A (chCells cvs)) (hml : cvs.length = m) (hfit : Fit n (cvs.map CV.pair)) :
    Spec Tryz.prog 106 #[.pointer (some ⟨j, 0, none⟩), .slice A m c0] [Rl, JR j d n J] fun F v M => v = okV ∧ M = [Rl, JR j d n J] ++ F := by
  refine Spec.intro Tryz.func106 rfl rfl fun B F => ?_
  simp only [Tryz.ntmps106, List.cons_append, List.nil_append, env0, Nat.reduceAdd]
  refine WC.openR (JR.opens j d n J) fun x hp => ?_
  simp only [jL, List.cons_append, List.nil_append]
  subst hml
  have hfew : cvs.length ≤ 60 := by simpa using hfit.few
  refine WC.seq ?_
  refine WC.region ?_
  refine WL.assign ?_
  refine WL.nil ?_
  refine WQ.next ?_
  refine WC.seq ?_
  refine WC.region ?_
  refine WL.mkMap fun m8 => ?_
  refine WL.assign ?_
  refine WL.nil ?_
  refine WQ.next ?_
  refine WC.seq ?_
  refine WC.seq ?_
  refine WC.region ?_
  refine WL.move ?_
  refine WL.lenS ?_ sl98
  refine WL.move ?_
  refine WL.nil ?_
  refine WQ.next ?_
  refine WC.block ?_
  refine WC.loopA (σ := Int × Array MapEntry × Nat × List (Int × Value)) (fun s => [(0, .pointer (some ⟨j, 0, none⟩)), (1, .slice A cvs.length c0), (5, .map (some m8)), (9, .slice A cvs.length c0), (10, .int .i64 (cvs.length : Int)), (11, .int .i64 s.1)]) (fun s => [pt m8 (.map s.2.1 s.2.2.1), Rl, pt j (jO d J.gen J.last x.ov x.mp), rowR 3 1 x.ov J.ch.length (blocksV J.ch), pt x.mp (.map x.es x.c), blobs x.bl, DevR d n J.cur 0] ++ F) (fun s => MI cvs s.1 s.2.1 s.2.2.1 s.2.2.2) (fun s => ((cvs.length : Int) - s.1).toNat) (0, #[], 0, []) ⟨by omega, by omega, MapIs.empty _ _, fun k hk => absurd rfl hk⟩ ?_
  rintro ⟨i, es, c, kv⟩ hi
  refine WC.seq ?_
  refine WC.region ?_
  refine WL.lss ?_
  refine WL.nil ?_
  refine WQ.next ?_
  refine WC.seq ?_
  refine WC.cond rfl (fun hb => ?_) (fun hb => ?_)
  · have hlt : i < (cvs.length : Int) := of_decide_eq_true hb
    have hlo := hi.lo
    have hil : i.toNat < cvs.length := by omega
    have hcl := chCells_length cvs
    have hhome := hfit.home cvs[i.toNat].pair (List.mem_map.2 ⟨_, List.getElem_mem hil, rfl⟩)
    have hx5 : 245 ≤ cvs[i.toNat].k ∧ cvs[i.toNat].k < n := ⟨hhome.1, hhome.2.1⟩
    have hnew := hi.fresh hfit hil
    rcases A with _ | ⟨ab, ao, asp⟩
    · exact absurd hR (fun h => by have h2 : chCells cvs = [] := h; rw [h2] at hcl; simp at hcl; omega)
    have hsp : asp = none := hR.1
    subst hsp
    refine WC.skip ?_
    refine WQ.next ?_
    refine WC.seq ?_
    refine WC.block ?_
    refine WC.seq ?_
    refine WC.region ?_
    refine WL.idx ?_ so98
    refine WL.ldAR ?_ agg108 hR (chCells_get cvs i.toNat hil) (by rw [chCells_length]; omega)
    refine WL.alloc z108 fun b7 => ?_
    refine WL.stV ?_ agg108
    refine WL.nil ?_
    refine WQ.next ?_
    refine WC.seq ?_
    refine WC.seq ?_
    refine WC.region ?_
    refine WL.move ?_
    refine WL.fa ?_ fo108_0
    refine WL.ld ?_ sc3
    refine WL.call (hc := Tryz.call131) (sp := jHome (n := n) (t := 0) (cur := J.cur)) (h := ?_)
    rintro _ _ ⟨rfl, rfl⟩
    refine WL.cast (d := 18) (u := .bool true) rfl (congrArg Value.bool (decide_eq_true (by omega))) ?_
    refine WL.not ?_
    refine WL.move ?_
    refine WL.gT ?_
    refine WL.move ?_
    refine WL.gT ?_
    refine WL.fa ?_ fo108_0
    refine WL.gT ?_
    refine WL.ld ?_ sc3
    refine WL.gT ?_
    refine WL.look klF hi.hm mp173 zv3 ?_
    refine WL.cast (d := 24) (u := .int .i64 0) rfl (by rw [hnew]; rfl) ?_
    refine WL.gT ?_
    refine WL.gtr ?_
    refine WL.pickF ?_
    refine WL.move ?_
    refine WL.gT ?_
    refine WL.fa ?_ fo108_1
    refine WL.gT ?_
    refine WL.ld ?_ sc33
    refine WL.gT ?_
    refine WL.lenS ?_ sl33
    refine WL.gT ?_
    refine WL.nei ?_
    refine WL.pickF ?_
    refine WL.nil ?_
    refine WQ.next ?_
    refine WC.condF rfl rfl ?_
    refine WC.skip ?_
    refine WQ.next ?_
    refine WC.region ?_
    refine WL.move ?_
    refine WL.fa ?_ fo108_0
    refine WL.ld ?_ sc3
    refine WL.upd klF hi.hm mp173 fun es_1 c_1 hm_1 => ?_
    refine WL.nil ?_
    refine WQ.blockNormal ?_
    refine WQ.next ?_
    refine WC.region ?_
    refine WL.add ?_
    refine WL.move ?_
    refine WL.nil ?_
    exact WQ.back (i + 1, es_1, c_1, _) (hi.step hil hm_1) (by show ((cvs.length : Int) - (i + 1)).toNat < ((cvs.length : Int) - i).toNat; omega)
  · refine WC.exit (WQ.thenExit (WQ.thenExit (WQ.blockExit (?_))))
    refine WQ.next ?_
    refine WC.seq ?_
    refine WC.seq ?_
    refine WC.region ?_
    refine WL.move ?_
    refine WL.lenS ?_ sl98
    refine WL.gtr ?_
    refine WL.nil ?_
    refine WQ.next ?_
    refine WC.condF rfl (congrArg Value.bool (by first | (simp; done) | (simp; omega) | omega)) ?_
    refine WC.skip ?_
    refine WQ.next ?_
    refine WC.seq ?_
    refine WC.region ?_
    refine WL.assign ?_
    refine WL.nil ?_
    refine WQ.next ?_
    refine WC.ret (?_)
    refine WQ.shutR (JR.opens j d n J) x hp ?_
    exact WQ.ret1 (h1 := .tmp (t := 4) rfl) ⟨_, ⟨rfl, rfl⟩, Am.auto⟩
def JS.commits (J : JS) (l : List (Nat × Bytes)) : JS := if l = [] then J else J.commit l
theorem jCommit {j d n m c0 : Nat} {J : JS} {bl : List (Value × Bytes)} {Rl : HP} {A : Option Addr} {cvs : List CV}
    (hR : Reads Rl A (chCells cvs)) (hml : cvs.length = m) (hli : Lie bl cvs) (hfit : Fit n (cvs.map CV.pair)) :
    Spec Tryz.prog 59 #[.pointer (some ⟨j, 0, none⟩), .slice A m c0] [Rl, blobs bl, JR j d n J] fun F v M => v = okV ∧ M = [Rl, blobs bl, JR j d n (J.commits (cvs.map CV.pair))] ++ F := by
  refine Spec.intro Tryz.func59 rfl rfl fun B F => ?_
  simp only [Tryz.ntmps59, List.cons_append, List.nil_append, env0, Nat.reduceAdd]
  rcases cvs with _ | ⟨cv, cvs⟩
  · have hm0 : m = 0 := hml.symm
    subst hm0
    refine WC.seq ?_
    refine WC.region ?_
    refine WL.assign ?_
    refine WL.nil ?_
    refine WQ.next ?_
    refine WC.seq ?_
    refine WC.seq ?_
    refine WC.region ?_
    refine WL.move ?_
    refine WL.move ?_
    refine WL.call (hc := Tryz.call106) (sp := jMay (n := n) hR hml hfit) (h := ?_)
    rintro _ _ ⟨rfl, rfl⟩
    simp only [List.cons_append, List.nil_append]
    refine WL.assign ?_
    refine WL.nil ?_
    refine WQ.next ?_
    refine WC.seq ?_
    refine WC.region ?_
    refine WL.move ?_
    refine WL.nei ?_
    refine WL.move ?_
    refine WL.gT ?_
    refine WL.move ?_
    refine WL.gT ?_
    refine WL.lenS ?_ sl98
    refine WL.gT ?_
    refine WL.eqi ?_
    refine WL.pickF ?_
    refine WL.nil ?_
    refine WQ.next ?_
    refine WC.condT rfl rfl ?_
    refine WC.seq ?_
    refine WC.region ?_
    refine WL.move ?_
    refine WL.assign ?_
    refine WL.nil ?_
    refine WQ.next ?_
    refine WC.ret (WQ.thenRet (?_))
    exact WQ.ret1 (h1 := .tmp (t := 4) rfl) ⟨_, ⟨rfl, rfl⟩, Am.auto⟩
  · have hm0 : m ≠ 0 := by rw [← hml]; simp
    refine WC.seq ?_
    refine WC.region ?_
    refine WL.assign ?_
    refine WL.nil ?_
    refine WQ.next ?_
    refine WC.seq ?_
    refine WC.seq ?_
    refine WC.region ?_
    refine WL.move ?_
    refine WL.move ?_
    refine WL.call (hc := Tryz.call106) (sp := jMay (n := n) hR hml hfit) (h := ?_)
    rintro _ _ ⟨rfl, rfl⟩
    simp only [List.cons_append, List.nil_append]
    refine WL.assign ?_
    refine WL.nil ?_
    refine WQ.next ?_
    refine WC.seq ?_
    refine WC.region ?_
    refine WL.move ?_
    refine WL.nei ?_
    refine WL.move ?_
    refine WL.gT ?_
    refine WL.move ?_
    refine WL.gT ?_
    refine WL.lenS ?_ sl98
    refine WL.gT ?_
    refine WL.eqi ?_
    refine WL.pickF ?_
    refine WL.nil ?_
    refine WQ.next ?_
    refine WC.condF rfl (congrArg Value.bool (by first | (simp; done) | (simp; omega) | omega)) ?_
    refine WC.skip ?_
    refine WQ.next ?_
    refine WC.seq ?_
    refine WC.region ?_
    refine WL.move ?_
    refine WL.move ?_
    refine WL.call (hc := Tryz.call107) (sp := jCommit0 (n := n) hR hml hli hfit) (h := ?_)
    rintro _ _ ⟨rfl, rfl⟩
    simp only [List.cons_append, List.nil_append]
    refine WL.assign ?_
    refine WL.nil ?_
    refine WQ.next ?_
    refine WC.ret (?_)
    exact WQ.ret1 (h1 := .tmp (t := 4) rfl) ⟨_, ⟨rfl, rfl⟩, Am.auto⟩
end Go.Proofs.YtedmihapieleaaaGreat
end
section
namespace Go.Proofs.YtedmihapieleaaaGreat
open Go
theorem bdJ (d : Nat) (gn : Nat) (m : Nat) : BuildOk Tryz.prog 149 [(0, .pointer (some ⟨d, 0, none⟩)), (1, .int .u64 (gn : Int)), (5, .map (some m))] #[.pointer (some ⟨d, 0, none⟩), .int .u64 (gn : Int), .int .u64 0, .bool false, .slice none 0 0, .map (some m)] := fun w => by kernel_rfl
def NoHead (gen : Nat) (xs : Bytes) : Prop := xs.take 8 ≠ markH ∨ beNat (seg xs 8 8 false) ≠ gen
theorem le8_lt (xs : Bytes) (p : Nat) (b : Bool) : beNat (seg xs p 8 b) < 2 ^ 64 := by
  have h1 := beNat_lt (seg xs p 8 b)
  have h2 : (seg xs p 8 b).length ≤ 8 := by
    unfold seg
    cases b <;> simp <;> omega
  have h3 : 256 ^ (seg xs p 8 b).length ≤ 256 ^ 8 := Nat.pow_le_pow_right (by decide) h2
  omega
theorem Fit.nil (n : Nat) : Fit n [] := ⟨(fun p h => by cases h), (by decide), (by simp)⟩
theorem Kept.nil {kv : List ((Int × Int) × Value)} {bl : List (Value × Bytes)} {s : Nat} : Kept kv bl s [] := fun i h => by cases h
theorem jHeader0 {j d n t gen last mp i : Nat} {ov : Value} {cur : Nat → Bytes} (hi : i ≤ 3) (hn : 246 ≤ n) (hno : NoHead gen (cur (slotAt i 0))) : Spec Tryz.prog 89 #[.pointer (some ⟨j, 0, none⟩), .int .i64 (i : Int)] [pt j (jO d gen last ov mp), DevR d n cur t] fun F v M => v = .tuple #[.int .u64 0, .slice none 0 0] ∧ M = [pt j (jO d gen last ov mp), DevR d n cur t] ++ F := by
  refine Spec.intro Tryz.func89 rfl rfl fun B F => ?_
  simp only [Tryz.ntmps89, List.cons_append, List.nil_append, env0, Nat.reduceAdd]
  refine WC.seq ?_
  refine WC.region ?_
  refine WL.assign ?_
  refine WL.assign ?_
  refine WL.nil ?_
  refine WQ.next ?_
  refine WC.seq ?_
  refine WC.draw ([pt j (jO d gen last ov mp)]) [] 13 #[false, false, false, false, false, false, false, false, false, false, false, false, false] mixed (by kernel_rfl) NoPanic.autoJ ?_
  refine WD.take (i := 0) #[true, false, false, false, false, false, false, false, false, false, false, false, false] rfl (by kernel_rfl) (Qt.move ) ?_
  refine WD.take (i := 1) #[true, true, false, false, false, false, false, false, false, false, false, false, false] rfl (by kernel_rfl) (Qt.nilCheck ) ?_
  refine WD.take (i := 2) #[true, true, true, false, false, false, false, false, false, false, false, false, false] rfl (by kernel_rfl) (Qt.fa fo149_0) ?_
  refine WD.take (i := 3) #[true, true, true, true, false, false, false, false, false, false, false, false, false] rfl (by kernel_rfl) (Qt.ld sc76) ?_
  refine WD.take (i := 4) #[true, true, true, true, true, false, false, false, false, false, false, false, false] rfl (by kernel_rfl) (Qt.move ) ?_
  refine WD.take (i := 5) #[true, true, true, true, true, true, false, false, false, false, false, false, false] rfl (by kernel_rfl) (Qt.build (bdPlace _ _)) ?_
  refine WD.one (i := 6) #[true, true, true, true, true, true, true, false, false, false, false, false, false] rfl (by kernel_rfl) fun hnp => ?_
  refine WL.call (hc := Tryz.call84) (sp := placeAt (a := i) (b := 0) (by omega)) (h := ?_)
  rintro _ _ ⟨rfl, rfl⟩
  refine WL.nil (WQ.wd hnp (.inl Am.auto) ?_)
  refine WD.one (i := 7) #[true, true, true, true, true, true, true, true, false, false, false, false, false] rfl (by kernel_rfl) fun hnp => ?_
  refine WL.call (hc := Tryz.call91) (sp := devRead (n := n) (t := t) (k := slotAt i 0) (cur := cur) (by unfold slotAt; omega)) (h := ?_)
  rintro _ _ ⟨gb, q, rfl, ⟨hq1, hq2, hlen⟩, rfl⟩
  refine WL.nil (WQ.wd hnp (.inl Am.auto) ?_)
  refine WD.take (i := 8) #[true, true, true, true, true, true, true, true, true, false, false, false, false] rfl (by kernel_rfl) (Qt.move ) ?_
  refine WD.take (i := 9) #[true, true, true, true, true, true, true, true, true, true, false, false, false] rfl (by kernel_rfl) (Qt.extract ) ?_
  refine WD.take (i := 10) #[true, true, true, true, true, true, true, true, true, true, true, false, false] rfl (by kernel_rfl) (Qt.extract ) ?_
  refine WD.take (i := 11) #[true, true, true, true, true, true, true, true, true, true, true, true, false] rfl (by kernel_rfl) (Qt.assign ) ?_
  refine WD.take (i := 12) #[true, true, true, true, true, true, true, true, true, true, true, true, true] rfl (by kernel_rfl) (Qt.assign ) ?_
  refine WD.done (by kernel_rfl) ?_
  refine WQ.next ?_
  refine WC.seq ?_
  refine WC.seq ?_
  by_cases hmk : (cur (slotAt i 0)).take 8 = markH
  · rcases hno with hno | hno
    · exact absurd hmk hno
    refine WC.draw ([buf gb 5 q (bvs (cur (slotAt i 0))), pt j (jO d gen last ov mp)]) [] 17 #[false, false, false, false, false, false, false, false, false, false, false, false, false, false, false, false, false] mixed (by kernel_rfl) NoPanic.autoJ ?_
    refine WD.take (i := 0) #[true, false, false, false, false, false, false, false, false, false, false, false, false, false, false, false, false] rfl (by kernel_rfl) (Qt.move ) ?_
    refine WD.take (i := 1) #[true, true, false, false, false, false, false, false, false, false, false, false, false, false, false, false, false] rfl (by kernel_rfl) (Qt.nei ) ?_
    refine WD.take (i := 2) #[true, true, true, false, false, false, false, false, false, false, false, false, false, false, false, false, false] rfl (by kernel_rfl) (Qt.move ) ?_
    refine WD.takeOn (i := 3) #[true, true, true, true, false, false, false, false, false, false, false, false, false, false, false, false, false] rfl (by kernel_rfl) (Qt.move ) ?_
    refine WD.takeOn (i := 4) #[true, true, true, true, true, false, false, false, false, false, false, false, false, false, false, false, false] rfl (by kernel_rfl) (Qt.slcH so33) ?_
    refine WD.takeOn (i := 5) #[true, true, true, true, true, true, false, false, false, false, false, false, false, false, false, false, false] rfl (by kernel_rfl) (Qt.cvtBS (R := buf gb 5 q (bvs (cur (slotAt i 0)))) (xs := (cur (slotAt i 0)).take 8) by33 st9 (by rw [bvs_take]; exact Reads.buf.take 8) (by rw [List.length_take, hlen])) ?_
    refine WD.takeOn (i := 6) #[true, true, true, true, true, true, true, false, false, false, false, false, false, false, false, false, false] rfl (by kernel_rfl) ((Qt.neS ((cur (slotAt i 0)).take 8) markH).eq (v' := .bool false) (by rw [decide_eq_true hmk]; rfl)) ?_
    refine WD.take (i := 7) #[true, true, true, true, true, true, true, true, false, false, false, false, false, false, false, false, false] rfl (by kernel_rfl) (Qt.pickF ) ?_
    refine WD.take (i := 8) #[true, true, true, true, true, true, true, true, true, false, false, false, false, false, false, false, false] rfl (by kernel_rfl) (Qt.move ) ?_
    refine WD.takeOn (i := 9) #[true, true, true, true, true, true, true, true, true, true, false, false, false, false, false, false, false] rfl (by kernel_rfl) (Qt.move ) ?_
    refine WD.takeOn (i := 11) #[true, true, true, true, true, true, true, true, true, true, false, true, false, false, false, false, false] rfl (by kernel_rfl) (Qt.move ) ?_
    refine WD.takeOn (i := 12) #[true, true, true, true, true, true, true, true, true, true, false, true, true, false, false, false, false] rfl (by kernel_rfl) (Qt.nilCheck ) ?_
    refine WD.takeOn (i := 13) #[true, true, true, true, true, true, true, true, true, true, false, true, true, true, false, false, false] rfl (by kernel_rfl) (Qt.fa fo149_1) ?_
    refine WD.takeOn (i := 14) #[true, true, true, true, true, true, true, true, true, true, false, true, true, true, true, false, false] rfl (by kernel_rfl) (Qt.ld sc138) ?_
    refine WD.one (i := 10) #[true, true, true, true, true, true, true, true, true, true, true, true, true, true, true, false, false] rfl (by kernel_rfl) fun hnp => ?_
    refine WL.gT ?_
    refine WL.call (hc := Tryz.call121) (sp := jGet (k := 1) Reads.buf hlen (by decide) (by decide) (by decide)) (h := ?_)
    rintro _ _ ⟨rfl, rfl⟩
    refine WL.nil (WQ.wd hnp (.inl Am.auto) ?_)
    refine WD.takeOn (i := 15) #[true, true, true, true, true, true, true, true, true, true, true, true, true, true, true, true, false] rfl (by kernel_rfl) ((Qt.nei).eq (v' := .bool true) (by rw [decide_eq_false (fun h => hno (by exact_mod_cast h))]; rfl)) ?_
    refine WD.take (i := 16) #[true, true, true, true, true, true, true, true, true, true, true, true, true, true, true, true, true] rfl (by kernel_rfl) (Qt.pickF ) ?_
    refine WD.done (by kernel_rfl) ?_
    refine WQ.next ?_
    refine WC.condT rfl rfl ?_
    refine WC.seq ?_
    refine WC.region ?_
    refine WL.assign ?_
    refine WL.assign ?_
    refine WL.nil ?_
    refine WQ.next ?_
    refine WC.ret (WQ.thenRet (?_))
    exact WQ.ret2 (h1 := .tmp (t := 4) rfl) (h2 := .tmp (t := 5) rfl) ⟨_, ⟨rfl, rfl⟩, Am.auto⟩
  · refine WC.draw ([buf gb 5 q (bvs (cur (slotAt i 0))), pt j (jO d gen last ov mp)]) [] 17 #[false, false, false, false, false, false, false, false, false, false, false, false, false, false, false, false, false] mixed (by kernel_rfl) NoPanic.autoJ ?_
    refine WD.take (i := 0) #[true, false, false, false, false, false, false, false, false, false, false, false, false, false, false, false, false] rfl (by kernel_rfl) (Qt.move ) ?_
    refine WD.take (i := 1) #[true, true, false, false, false, false, false, false, false, false, false, false, false, false, false, false, false] rfl (by kernel_rfl) (Qt.nei ) ?_
    refine WD.take (i := 2) #[true, true, true, false, false, false, false, false, false, false, false, false, false, false, false, false, false] rfl (by kernel_rfl) (Qt.move ) ?_
    refine WD.takeOn (i := 3) #[true, true, true, true, false, false, false, false, false, false, false, false, false, false, false, false, false] rfl (by kernel_rfl) (Qt.move ) ?_
    refine WD.takeOn (i := 4) #[true, true, true, true, true, false, false, false, false, false, false, false, false, false, false, false, false] rfl (by kernel_rfl) (Qt.slcH so33) ?_
    refine WD.takeOn (i := 5) #[true, true, true, true, true, true, false, false, false, false, false, false, false, false, false, false, false] rfl (by kernel_rfl) (Qt.cvtBS (R := buf gb 5 q (bvs (cur (slotAt i 0)))) (xs := (cur (slotAt i 0)).take 8) by33 st9 (by rw [bvs_take]; exact Reads.buf.take 8) (by rw [List.length_take, hlen])) ?_
    refine WD.takeOn (i := 6) #[true, true, true, true, true, true, true, false, false, false, false, false, false, false, false, false, false] rfl (by kernel_rfl) ((Qt.neS ((cur (slotAt i 0)).take 8) markH).eq (v' := .bool true) (by rw [decide_eq_false hmk]; rfl)) ?_
    refine WD.take (i := 7) #[true, true, true, true, true, true, true, true, false, false, false, false, false, false, false, false, false] rfl (by kernel_rfl) (Qt.pickF ) ?_
    refine WD.take (i := 8) #[true, true, true, true, true, true, true, true, true, false, false, false, false, false, false, false, false] rfl (by kernel_rfl) (Qt.move ) ?_
    refine WD.takeOff (i := 9) #[true, true, true, true, true, true, true, true, true, true, false, false, false, false, false, false, false] rfl (by kernel_rfl) ?_
    refine WD.takeOff (i := 10) #[true, true, true, true, true, true, true, true, true, true, true, false, false, false, false, false, false] rfl (by kernel_rfl) ?_
    refine WD.takeOff (i := 11) #[true, true, true, true, true, true, true, true, true, true, true, true, false, false, false, false, false] rfl (by kernel_rfl) ?_
    refine WD.takeOff (i := 12) #[true, true, true, true, true, true, true, true, true, true, true, true, true, false, false, false, false] rfl (by kernel_rfl) ?_
    refine WD.takeOff (i := 13) #[true, true, true, true, true, true, true, true, true, true, true, true, true, true, false, false, false] rfl (by kernel_rfl) ?_
    refine WD.takeOff (i := 14) #[true, true, true, true, true, true, true, true, true, true, true, true, true, true, true, false, false] rfl (by kernel_rfl) ?_
    refine WD.takeOff (i := 15) #[true, true, true, true, true, true, true, true, true, true, true, true, true, true, true, true, false] rfl (by kernel_rfl) ?_
    refine WD.take (i := 16) #[true, true, true, true, true, true, true, true, true, true, true, true, true, true, true, true, true] rfl (by kernel_rfl) (Qt.pickT ) ?_
    refine WD.done (by kernel_rfl) ?_
    refine WQ.next ?_
    refine WC.condT rfl rfl ?_
    refine WC.seq ?_
    refine WC.region ?_
    refine WL.assign ?_
    refine WL.assign ?_
    refine WL.nil ?_
    refine WQ.next ?_
    refine WC.ret (WQ.thenRet (?_))
    exact WQ.ret2 (h1 := .tmp (t := 4) rfl) (h2 := .tmp (t := 5) rfl) ⟨_, ⟨rfl, rfl⟩, Am.auto⟩
theorem jOpen {d n : Nat} {cur : Nat → Bytes} (hn : 246 ≤ n) (hn2 : n ≤ 65536) (hmg : (cur 0).take 8 = magicJ) (hno : ∀ i, i ≤ 3 → NoHead (beNat (seg (cur 0) 8 8 false)) (cur (slotAt i 0))) :
    Spec Tryz.prog 43 #[.pointer (some ⟨d, 0, none⟩)] [DevR d n cur 0] fun F v M => ∃ j, v = .tuple #[.pointer (some ⟨j, 0, none⟩), .int .i64 0] ∧ M = JR j d n ⟨beNat (seg (cur 0) 8 8 false), 0, [], cur⟩ :: F := by
  refine Spec.intro Tryz.func43 rfl rfl fun B F => ?_
  simp only [Tryz.ntmps43, List.cons_append, List.nil_append, env0, Nat.reduceAdd]
  refine WC.seq ?_
  refine WC.region ?_
  refine WL.assign ?_
  refine WL.assign ?_
  refine WL.nil ?_
  refine WQ.next ?_
  refine WC.seq ?_
  refine WC.seq ?_
  refine WC.region ?_
  refine WL.move ?_
  refine WL.call (hc := Tryz.call80) (sp := devBlocksR (n := n) (t := 0) (cur := cur)) (h := ?_)
  rintro _ _ ⟨rfl, rfl⟩
  refine WL.lss ?_
  refine WL.nil ?_
  refine WQ.next ?_
  refine WC.condF rfl (congrArg Value.bool (by first | (simp; done) | (simp; omega) | omega)) ?_
  refine WC.skip ?_
  refine WQ.next ?_
  refine WC.seq ?_
  refine WC.region ?_
  refine WL.move ?_
  refine WL.call (hc := Tryz.call81) (sp := jFirst (n := n) (t := 0) (cur := cur) (by omega)) (h := ?_)
  rintro _ _ ⟨rfl, rfl⟩
  refine WL.move ?_
  refine WL.extract ?_
  refine WL.extract ?_
  refine WL.cast (d := 20) (u := .bool true) rfl (congrArg Value.bool (decide_eq_true hmg)) ?_
  refine WL.assign ?_
  refine WL.assign ?_
  refine WL.nil ?_
  refine WQ.next ?_
  refine WC.seq ?_
  refine WC.seq ?_
  refine WC.region ?_
  refine WL.move ?_
  refine WL.not ?_
  refine WL.nil ?_
  refine WQ.next ?_
  refine WC.condF rfl rfl ?_
  refine WC.skip ?_
  refine WQ.next ?_
  refine WC.seq ?_
  refine WC.region ?_
  refine WL.move ?_
  refine WL.move ?_
  refine WL.mkMap fun m25 => ?_
  refine WL.build ?_ (bdJ _ _ _)
  refine WL.box fun b27 => ?_
  refine WL.assign ?_
  refine WL.nil ?_
  refine WQ.next ?_
  refine WC.seq ?_
  refine WC.seq ?_
  refine WC.region ?_
  refine WL.move ?_
  refine WL.nil ?_
  refine WQ.next ?_
  refine WC.block ?_
  refine WC.blobsNil ?_
  refine WC.emp (rowR.nil (e := 3) (size := 1) _) ?_
  refine WC.loopN 5 (RC.succ ?_)
  refine WC.seq ?_
  refine WC.region ?_
  refine WL.lss ?_
  refine WL.nil ?_
  refine WQ.next ?_
  refine WC.seq ?_
  refine WC.condT rfl rfl ?_
  refine WC.skip ?_
  refine WQ.next ?_
  refine WC.seq ?_
  refine WC.block ?_
  refine WC.seq ?_
  refine WC.region ?_
  refine WL.move ?_
  refine WL.assign ?_
  refine WL.nil ?_
  refine WQ.next ?_
  refine WC.seq ?_
  refine WC.region ?_
  refine WL.move ?_
  refine WL.move ?_
  refine WL.call (hc := Tryz.call89) (sp := jHeader0 (i := 0) (n := n) (t := 0) (gen := beNat (seg (cur 0) 8 8 false)) (last := 0) (mp := m25) (ov := .slice none 0 0) (cur := cur) (by decide) hn (hno 0 (by decide))) (h := ?_)
  rintro _ _ ⟨rfl, rfl⟩
  simp only [List.cons_append, List.nil_append]
  refine WL.move ?_
  refine WL.extract ?_
  refine WL.extract ?_
  refine WL.assign ?_
  refine WL.assign ?_
  refine WL.nil ?_
  refine WQ.next ?_
  refine WC.seq ?_
  refine WC.region ?_
  refine WL.move ?_
  refine WL.move ?_
  refine WL.nilCheck ?_
  refine WL.fa ?_ fo149_2
  refine WL.ld ?_ sc138
  refine WL.gtr ?_
  refine WL.nil ?_
  refine WQ.next ?_
  refine WC.condF rfl rfl ?_
  refine WC.skip ?_
  refine WQ.blockNormal ?_
  refine WQ.next ?_
  refine WC.region ?_
  refine WL.add ?_
  refine WL.move ?_
  refine WL.nil ?_
  refine WQ.again (RC.succ ?_)
  refine WC.seq ?_
  refine WC.region ?_
  refine WL.lss ?_
  refine WL.nil ?_
  refine WQ.next ?_
  refine WC.seq ?_
  refine WC.condT rfl rfl ?_
  refine WC.skip ?_
  refine WQ.next ?_
  refine WC.seq ?_
  refine WC.block ?_
  refine WC.seq ?_
  refine WC.region ?_
  refine WL.move ?_
  refine WL.assign ?_
  refine WL.nil ?_
  refine WQ.next ?_
  refine WC.seq ?_
  refine WC.region ?_
  refine WL.move ?_
  refine WL.move ?_
  refine WL.call (hc := Tryz.call89) (sp := jHeader0 (i := 1) (n := n) (t := 0) (gen := beNat (seg (cur 0) 8 8 false)) (last := 0) (mp := m25) (ov := .slice none 0 0) (cur := cur) (by decide) hn (hno 1 (by decide))) (h := ?_)
  rintro _ _ ⟨rfl, rfl⟩
  simp only [List.cons_append, List.nil_append]
  refine WL.move ?_
  refine WL.extract ?_
  refine WL.extract ?_
  refine WL.assign ?_
  refine WL.assign ?_
  refine WL.nil ?_
  refine WQ.next ?_
  refine WC.seq ?_
  refine WC.region ?_
  refine WL.move ?_
  refine WL.move ?_
  refine WL.nilCheck ?_
  refine WL.fa ?_ fo149_2
  refine WL.ld ?_ sc138
  refine WL.gtr ?_
  refine WL.nil ?_
  refine WQ.next ?_
  refine WC.condF rfl rfl ?_
  refine WC.skip ?_
  refine WQ.blockNormal ?_
  refine WQ.next ?_
  refine WC.region ?_
  refine WL.add ?_
  refine WL.move ?_
  refine WL.nil ?_
  refine WQ.again (RC.succ ?_)
  refine WC.seq ?_
  refine WC.region ?_
  refine WL.lss ?_
  refine WL.nil ?_
  refine WQ.next ?_
  refine WC.seq ?_
  refine WC.condT rfl rfl ?_
  refine WC.skip ?_
  refine WQ.next ?_
  refine WC.seq ?_
  refine WC.block ?_
  refine WC.seq ?_
  refine WC.region ?_
  refine WL.move ?_
  refine WL.assign ?_
  refine WL.nil ?_
  refine WQ.next ?_
  refine WC.seq ?_
  refine WC.region ?_
  refine WL.move ?_
  refine WL.move ?_
  refine WL.call (hc := Tryz.call89) (sp := jHeader0 (i := 2) (n := n) (t := 0) (gen := beNat (seg (cur 0) 8 8 false)) (last := 0) (mp := m25) (ov := .slice none 0 0) (cur := cur) (by decide) hn (hno 2 (by decide))) (h := ?_)
  rintro _ _ ⟨rfl, rfl⟩
  simp only [List.cons_append, List.nil_append]
  refine WL.move ?_
  refine WL.extract ?_
  refine WL.extract ?_
  refine WL.assign ?_
  refine WL.assign ?_
  refine WL.nil ?_
  refine WQ.next ?_
  refine WC.seq ?_
  refine WC.region ?_
  refine WL.move ?_
  refine WL.move ?_
  refine WL.nilCheck ?_
  refine WL.fa ?_ fo149_2
  refine WL.ld ?_ sc138
  refine WL.gtr ?_
  refine WL.nil ?_
  refine WQ.next ?_
  refine WC.condF rfl rfl ?_
  refine WC.skip ?_
  refine WQ.blockNormal ?_
  refine WQ.next ?_
  refine WC.region ?_
  refine WL.add ?_
  refine WL.move ?_
  refine WL.nil ?_
  refine WQ.again (RC.succ ?_)
  refine WC.seq ?_
  refine WC.region ?_
  refine WL.lss ?_
  refine WL.nil ?_
  refine WQ.next ?_
  refine WC.seq ?_
  refine WC.condT rfl rfl ?_
  refine WC.skip ?_
  refine WQ.next ?_
  refine WC.seq ?_
  refine WC.block ?_
  refine WC.seq ?_
  refine WC.region ?_
  refine WL.move ?_
  refine WL.assign ?_
  refine WL.nil ?_
  refine WQ.next ?_
  refine WC.seq ?_
  refine WC.region ?_
  refine WL.move ?_
  refine WL.move ?_
  refine WL.call (hc := Tryz.call89) (sp := jHeader0 (i := 3) (n := n) (t := 0) (gen := beNat (seg (cur 0) 8 8 false)) (last := 0) (mp := m25) (ov := .slice none 0 0) (cur := cur) (by decide) hn (hno 3 (by decide))) (h := ?_)
  rintro _ _ ⟨rfl, rfl⟩
  simp only [List.cons_append, List.nil_append]
  refine WL.move ?_
  refine WL.extract ?_
  refine WL.extract ?_
  refine WL.assign ?_
  refine WL.assign ?_
  refine WL.nil ?_
  refine WQ.next ?_
  refine WC.seq ?_
  refine WC.region ?_
  refine WL.move ?_
  refine WL.move ?_
  refine WL.nilCheck ?_
  refine WL.fa ?_ fo149_2
  refine WL.ld ?_ sc138
  refine WL.gtr ?_
  refine WL.nil ?_
  refine WQ.next ?_
  refine WC.condF rfl rfl ?_
  refine WC.skip ?_
  refine WQ.blockNormal ?_
  refine WQ.next ?_
  refine WC.region ?_
  refine WL.add ?_
  refine WL.move ?_
  refine WL.nil ?_
  refine WQ.again (RC.succ ?_)
  refine WC.seq ?_
  refine WC.region ?_
  refine WL.lss ?_
  refine WL.nil ?_
  refine WQ.next ?_
  refine WC.seq ?_
  refine WC.condF rfl rfl ?_
  refine WC.exit (WQ.thenExit (WQ.thenExit (WQ.blockExit (?_))))
  refine WQ.next ?_
  refine WC.seq ?_
  refine WC.seq ?_
  refine WC.region ?_
  refine WL.move ?_
  refine WL.nilCheck ?_
  refine WL.fa ?_ fo149_4
  refine WL.ld ?_ sc22
  refine WL.lenS ?_ sl22
  refine WL.move ?_
  refine WL.nil ?_
  refine WQ.next ?_
  refine WC.block ?_
  refine WC.loopN 1 (RC.succ ?_)
  refine WC.seq ?_
  refine WC.region ?_
  refine WL.lss ?_
  refine WL.nil ?_
  refine WQ.next ?_
  refine WC.seq ?_
  refine WC.condF rfl (congrArg Value.bool (by first | (simp; done) | (simp; omega) | omega)) ?_
  refine WC.exit (WQ.thenExit (WQ.thenExit (WQ.blockExit (?_))))
  refine WQ.next ?_
  refine WC.seq ?_
  refine WC.seq ?_
  refine WC.region ?_
  refine WL.move ?_
  refine WL.makeFuncB ?_
  refine WL.move ?_
  refine WL.makeFuncB ?_
  refine WL.buildS (fun b88 => ?_) (bs141_2 _ _ _ _ _ _)
  refine WL.call (hc := Tryz.call85) (sp := jTriesC (Chain.cons (I := [pt b27 (jO d (beNat (seg (cur 0) 8 8 false)) 0 (.slice none 0 0) m25), rowR 3 1 (.slice none 0 0) 0 (blocksV []), pt m25 (.map #[] 0), blobs [], DevR d n cur 0]) (goesSettle (ch := []) (kv := []) (MapIs.empty _ _) Kept.nil (Fit.nil n) (t := 0) (cur := cur) (by decide)).sub (.cons (goesFlush (d := d) (n := n) (t := 0) (cur := cur)).sub .nil)) Reads.pt rfl (Nat.le_of_ble_eq_true rfl)) (h := ?_)
  rintro _ _ ⟨rfl, rfl⟩
  simp only [List.cons_append, List.nil_append]
  refine WL.assign ?_
  refine WL.nil ?_
  refine WQ.next ?_
  refine WC.seq ?_
  refine WC.region ?_
  refine WL.move ?_
  refine WL.nei ?_
  refine WL.nil ?_
  refine WQ.next ?_
  refine WC.condF rfl rfl ?_
  refine WC.skip ?_
  refine WQ.next ?_
  refine WC.seq ?_
  refine WC.region ?_
  refine WL.move ?_
  refine WL.move ?_
  refine WL.mkMap fun m95 => ?_
  refine WL.nilCheck ?_
  refine WL.fa ?_ fo149_4
  refine WL.st ?_ sc22
  refine WL.nilCheck ?_
  refine WL.fa ?_ fo149_5
  refine WL.st ?_ sc147
  refine WL.nil ?_
  refine WQ.next ?_
  refine WC.seq ?_
  refine WC.region ?_
  refine WL.move ?_
  refine WL.assign ?_
  refine WL.assign ?_
  refine WL.nil ?_
  refine WQ.next ?_
  refine WC.ret (?_)
  refine WQ.shutR (JR.opens b27 d n ⟨beNat (seg (cur 0) 8 8 false), 0, [], cur⟩) ⟨#[], 0, m95, [], [], .slice none 0 0⟩ ⟨MapIs.empty _ _, Kept.nil, Fit.nil n, hn, hn2, le8_lt _ _ _, (by decide : (0 : Nat) < 2 ^ 64)⟩ ?_
  exact WQ.ret2 (h1 := .tmp (t := 2) rfl) (h2 := .tmp (t := 3) rfl) ⟨_, ⟨_, rfl, rfl⟩, Am.auto⟩
end Go.Proofs.YtedmihapieleaaaGreat
end
section
namespace Go.Proofs.YtedmihapieleaaaGreat
open Go
theorem bdC (j : Nat) (m : Nat) : BuildOk Tryz.prog 106 [(0, .pointer (some ⟨j, 0, none⟩)), (3, .map (some m))] #[.pointer (some ⟨j, 0, none⟩), .bool false, .bool false, .map (some m)] := fun w => by kernel_rfl
theorem klI : KeyLaw Tryz.prog 3 intE := klInt (by kernel_rfl)
def wkv (l : List (Nat × Bytes)) : List (Int × Value) := l.map fun p => ((p.1 : Int), arrV p.2)
theorem wkv_length (l : List (Nat × Bytes)) : (wkv l).length = l.length := by simp [wkv]
theorem wkv_get (l : List (Nat × Bytes)) (k : Nat) : kget (wkv l) (k : Int) = (kget l k).map arrV := by
  induction l with
  | nil => rfl
  | cons p l ih =>
    obtain ⟨a, xs⟩ := p
    simp only [wkv, List.map_cons, kget]
    by_cases h : k = a
    · subst h; simp
    · rw [if_neg (by omega), if_neg h]; exact ih
theorem wkv_put (l : List (Nat × Bytes)) (k : Nat) (xs : Bytes) : kput (wkv l) (k : Int) (arrV xs) = wkv (kput l k xs) := by
  induction l with
  | nil => rfl
  | cons p l ih =>
    obtain ⟨a, ys⟩ := p
    simp only [wkv, List.map_cons, kput]
    by_cases h : k = a
    · subst h; simp
    · rw [if_neg (by omega), if_neg h, List.map_cons]; congr 1
structure CS where
  J : JS
  W : List (Nat × Bytes)
  op : Bool
  ov : Bool
def CS.view (S : CS) (k : Nat) : Bytes := (kget S.W k).getD (S.J.view k)
structure CX where
  m : Nat
  es : Array MapEntry
  c : Nat
structure CP (n : Nat) (S : CS) (x : CX) : Prop where
  hm : MapIs intE x.es x.c (wkv S.W)
  hf : Fit n S.W
  n1 : 246 ≤ n
  n2 : n ≤ 65536
def cL (c j d n : Nat) (S : CS) (x : CX) : List HP := [pt c (cacheO (some j) S.op S.ov x.m), pt x.m (.map x.es x.c), JR j d n S.J]
def CR (c j d n : Nat) (S : CS) : HP := fun h => ∃ x, CP n S x ∧ star (cL c j d n S x) h
theorem CR.opens (c j d n : Nat) (S : CS) : Opens (CR c j d n S) (CP n S) (cL c j d n S) := ⟨fun h hh => hh, fun x hp h hh => ⟨x, hp, hh⟩⟩
attribute [irreducible] CR
theorem CP.get {n : Nat} {S : CS} {x : CX} (hp : CP n S x) (k : Nat) : ∃ ys : Bytes, (kget (wkv S.W) (k : Int)).getD (.agg (Array.replicate 512 (.int .u8 0))) = arrV ys ∧ ys.length = 512 ∧ ((kget S.W k = some ys ∧ (kget (wkv S.W) (k : Int)).isSome = true) ∨ (kget S.W k = none ∧ (kget (wkv S.W) (k : Int)).isSome = false)) := by
  rw [wkv_get]
  cases h : kget S.W k with
  | none => exact ⟨List.replicate 512 0, zeros_arr, List.length_replicate, .inr ⟨rfl, rfl⟩⟩
  | some ys => exact ⟨ys, rfl, (hp.hf.home _ ((kget_mem hp.hf.apart).1 h)).2.2, .inl ⟨rfl, rfl⟩⟩
theorem Fit.put {n : Nat} {l : List (Nat × Bytes)} (h : Fit n l) {k : Nat} {xs : Bytes} (h1 : 245 ≤ k) (h2 : k < n) (h3 : xs.length = 512) (h4 : (kget l k).isSome = true ∨ l.length < 60) : Fit n (kput l k xs) := by
  refine ⟨?_, ?_, kput_nodup h.apart _ _⟩
  · have key : ∀ l : List (Nat × Bytes), (∀ p ∈ l, 245 ≤ p.1 ∧ p.1 < n ∧ p.2.length = 512) → ∀ p ∈ kput l k xs, 245 ≤ p.1 ∧ p.1 < n ∧ p.2.length = 512 := by
      intro l
      induction l with
      | nil => intro _ p hp; simp only [kput, List.mem_singleton] at hp; subst hp; exact ⟨h1, h2, h3⟩
      | cons q l ih =>
        intro hq p hp
        obtain ⟨a, ys⟩ := q
        simp only [kput] at hp
        split at hp
        · rcases List.mem_cons.1 hp with rfl | hp
          · have := hq (a, ys) (List.mem_cons_self ..)
            exact ⟨this.1, this.2.1, h3⟩
          · exact hq p (List.mem_cons_of_mem _ hp)
        · rcases List.mem_cons.1 hp with rfl | hp
          · exact hq _ (List.mem_cons_self ..)
          · exact ih (fun p hp => hq p (List.mem_cons_of_mem _ hp)) p hp
    exact key l h.home
  · rw [kput_length]
    have := h.few
    rcases h4 with h4 | h4
    · rw [if_pos h4]; exact this
    · split <;> omega
theorem cNew {j d n : Nat} {J : JS} (hn : 246 ≤ n) (hn2 : n ≤ 65536) : Spec Tryz.prog 44 #[.pointer (some ⟨j, 0, none⟩)] [JR j d n J] fun F v M => ∃ c, v = .pointer (some ⟨c, 0, none⟩) ∧ M = CR c j d n ⟨J, [], false, false⟩ :: F := by
  refine Spec.intro Tryz.func44 rfl rfl fun B F => ?_
  simp only [Tryz.ntmps44, List.cons_append, List.nil_append, env0, Nat.reduceAdd]
  refine WC.seq ?_
  refine WC.region ?_
  refine WL.assign ?_
  refine WL.nil ?_
  refine WQ.next ?_
  refine WC.seq ?_
  refine WC.region ?_
  refine WL.move ?_
  refine WL.mkMap fun m4 => ?_
  refine WL.build ?_ (bdC _ _)
  refine WL.box fun b6 => ?_
  refine WL.assign ?_
  refine WL.nil ?_
  refine WQ.next ?_
  refine WC.ret (?_)
  refine WQ.shutR (CR.opens b6 j d n ⟨J, [], false, false⟩) ⟨m4, #[], 0⟩ ⟨MapIs.empty _ _, Fit.nil n, hn, hn2⟩ ?_
  exact WQ.ret1 (h1 := .tmp (t := 2) rfl) ⟨_, ⟨_, rfl, rfl⟩, Am.auto⟩
theorem cReady {c j m : Nat} {op ov : Bool} : Spec Tryz.prog 60 #[.pointer (some ⟨c, 0, none⟩)] [pt c (cacheO (some j) op ov m)] fun F v M => v = .bool true ∧ M = pt c (cacheO (some j) op ov m) :: F := by
  refine Spec.intro Tryz.func60 rfl rfl fun B F => ?_
  simp only [Tryz.ntmps60, List.cons_append, List.nil_append, env0, Nat.reduceAdd]
  refine WC.seq ?_
  refine WC.region ?_
  refine WL.assign ?_
  refine WL.nil ?_
  refine WQ.next ?_
  refine WC.seq ?_
  refine WC.region ?_
  refine WL.move ?_
  refine WL.neNil ?_ ptr24
  refine WL.move ?_
  refine WL.gT ?_
  refine WL.move ?_
  refine WL.gT ?_
  refine WL.nilCheck ?_
  refine WL.gT ?_
  refine WL.fa ?_ fo106_0
  refine WL.gT ?_
  refine WL.ld ?_ sc80
  refine WL.gT ?_
  refine WL.neNil ?_ ptr80
  refine WL.pickT ?_
  refine WL.assign ?_
  refine WL.nil ?_
  refine WQ.next ?_
  refine WC.ret (?_)
  exact WQ.ret1 (h1 := .tmp (t := 2) rfl) ⟨_, ⟨rfl, rfl⟩, Am.auto⟩
theorem cOpenR {c j d n : Nat} {S : CS} : Spec Tryz.prog 55 #[.pointer (some ⟨c, 0, none⟩)] [CR c j d n S] fun F v M => v = .bool S.op ∧ M = CR c j d n S :: F := by
  refine Spec.intro Tryz.func55 rfl rfl fun B F => ?_
  simp only [Tryz.ntmps55, List.cons_append, List.nil_append, env0, Nat.reduceAdd]
  refine WC.openR (CR.opens c j d n S) fun x hp => ?_
  simp only [cL, List.cons_append, List.nil_append]
  refine WC.seq ?_
  refine WC.region ?_
  refine WL.assign ?_
  refine WL.nil ?_
  refine WQ.next ?_
  refine WC.seq ?_
  refine WC.region ?_
  refine WL.move ?_
  refine WL.neNil ?_ ptr24
  refine WL.move ?_
  refine WL.gT ?_
  refine WL.move ?_
  refine WL.gT ?_
  refine WL.nilCheck ?_
  refine WL.gT ?_
  refine WL.fa ?_ fo106_1
  refine WL.gT ?_
  refine WL.ld ?_ sc4
  refine WL.pickT ?_
  refine WL.assign ?_
  refine WL.nil ?_
  refine WQ.next ?_
  refine WC.ret (?_)
  refine WQ.shutR (CR.opens c j d n S) x hp ?_
  exact WQ.ret1 (h1 := .tmp (t := 2) rfl) ⟨_, ⟨rfl, rfl⟩, Am.auto⟩
theorem cBegin {c j d n : Nat} {S : CS} (hop : S.op = false) : Spec Tryz.prog 22 #[.pointer (some ⟨c, 0, none⟩)] [CR c j d n S] fun F v M => v = okV ∧ M = CR c j d n ⟨S.J, S.W, true, false⟩ :: F := by
  refine Spec.intro Tryz.func22 rfl rfl fun B F => ?_
  simp only [Tryz.ntmps22, List.cons_append, List.nil_append, env0, Nat.reduceAdd]
  refine WC.openR (CR.opens c j d n S) fun x hp => ?_
  simp only [cL, List.cons_append, List.nil_append]
  refine WC.seq ?_
  refine WC.region ?_
  refine WL.assign ?_
  refine WL.nil ?_
  refine WQ.next ?_
  refine WC.seq ?_
  refine WC.seq ?_
  refine WC.region ?_
  refine WL.move ?_
  refine WL.call (hc := Tryz.call60) (sp := cReady) (h := ?_)
  rintro _ _ ⟨rfl, rfl⟩
  refine WL.not ?_
  refine WL.move ?_
  refine WL.gT ?_
  refine WL.move ?_
  refine WL.gT ?_
  refine WL.nilCheck ?_
  refine WL.gT ?_
  refine WL.fa ?_ fo106_1
  refine WL.gT ?_
  refine WL.ld ?_ sc4
  refine WL.cast (d := 10) (u := .bool false) rfl (congrArg Value.bool hop) ?_
  refine WL.pickF ?_
  refine WL.nil ?_
  refine WQ.next ?_
  refine WC.condF rfl rfl ?_
  refine WC.skip ?_
  refine WQ.next ?_
  refine WC.seq ?_
  refine WC.region ?_
  refine WL.move ?_
  refine WL.move ?_
  refine WL.nilCheck ?_
  refine WL.fa ?_ fo106_1
  refine WL.st ?_ sc4
  refine WL.nilCheck ?_
  refine WL.fa ?_ fo106_2
  refine WL.st ?_ sc4
  refine WL.nil ?_
  refine WQ.next ?_
  refine WC.seq ?_
  refine WC.region ?_
  refine WL.assign ?_
  refine WL.nil ?_
  refine WQ.next ?_
  refine WC.ret (?_)
  refine WQ.shutR (CR.opens c j d n ⟨S.J, S.W, true, false⟩) x ⟨hp.hm, hp.hf, hp.n1, hp.n2⟩ ?_
  exact WQ.ret1 (h1 := .tmp (t := 2) rfl) ⟨_, ⟨rfl, rfl⟩, Am.auto⟩
theorem cDone {c j m cc : Nat} {op ov : Bool} {es : Array MapEntry} : Spec Tryz.prog 58 #[.pointer (some ⟨c, 0, none⟩)] [pt c (cacheO (some j) op ov m), pt m (.map es cc)] fun F v M => v = .tuple #[] ∧ M = pt c (cacheO (some j) false ov m) :: pt m (.map #[] cc) :: F := by
  refine Spec.intro Tryz.func58 rfl rfl fun B F => ?_
  simp only [Tryz.ntmps58, List.cons_append, List.nil_append, env0, Nat.reduceAdd]
  refine WC.seq ?_
  refine WC.region ?_
  refine WL.move ?_
  refine WL.nilCheck ?_
  refine WL.fa ?_ fo106_1
  refine WL.st ?_ sc4
  refine WL.nil ?_
  refine WQ.next ?_
  refine WC.region ?_
  refine WL.move ?_
  refine WL.nilCheck ?_
  refine WL.fa ?_ fo106_3
  refine WL.ld ?_ sc103
  refine WL.clearM ?_ mp103
  refine WL.nil ?_
  exact WQ.ret0 ⟨_, ⟨rfl, rfl⟩, Am.auto⟩
theorem cRead {c j d n k : Nat} {S : CS} (h5 : 245 ≤ k) (hkn : k < n) : Spec Tryz.prog 63 #[.pointer (some ⟨c, 0, none⟩), .int .i64 (k : Int)] [CR c j d n S] fun F v M => ∃ g q el, v = .tuple #[.slice (some ⟨g, 0, none⟩) 512 q, .int .i64 0] ∧ (512 ≤ q ∧ q ≤ maxLen ∧ (S.view k).length = 512) ∧ M = buf g el q (bvs (S.view k)) :: CR c j d n S :: F := by
  refine Spec.intro Tryz.func63 rfl rfl fun B F => ?_
  simp only [Tryz.ntmps63, List.cons_append, List.nil_append, env0, Nat.reduceAdd]
  refine WC.openR (CR.opens c j d n S) fun x hp => ?_
  simp only [cL, List.cons_append, List.nil_append]
  obtain ⟨ys, hys, hy5, hcase⟩ := hp.get k
  refine WC.seq ?_
  refine WC.region ?_
  refine WL.assign ?_
  refine WL.assign ?_
  refine WL.nil ?_
  refine WQ.next ?_
  refine WC.seq ?_
  refine WC.seq ?_
  refine WC.region ?_
  refine WL.move ?_
  refine WL.call (hc := Tryz.call60) (sp := cReady) (h := ?_)
  rintro _ _ ⟨rfl, rfl⟩
  refine WL.not ?_
  refine WL.nil ?_
  refine WQ.next ?_
  refine WC.condF rfl rfl ?_
  refine WC.skip ?_
  refine WQ.next ?_
  refine WC.seq ?_
  refine WC.seq ?_
  refine WC.region ?_
  refine WL.move ?_
  refine WL.nilCheck ?_
  refine WL.fa ?_ fo106_3
  refine WL.ld ?_ sc103
  refine WL.move ?_
  refine WL.lookOk klI hp.hm mp103 zv104 ?_
  refine WL.move ?_
  refine WL.extract ?_
  refine WL.cast (d := 18) rfl hys ?_
  refine WL.extract ?_
  refine WL.alloc z104 fun b6 => ?_
  refine WL.stArr (cs := Array.replicate 512 (.int .u8 0)) ?_ agg104 hy5 (by decide) Array.size_replicate
  refine WL.assign ?_
  refine WL.nil ?_
  refine WQ.next ?_
  refine WC.seq ?_
  refine WC.region ?_
  refine WL.move ?_
  refine WL.nil ?_
  refine WQ.next ?_
  refine WC.cond rfl (fun hb => ?_) (fun hb => ?_)
  · have hview : S.view k = ys := by rcases hcase with ⟨h1, h2⟩ | ⟨h1, h2⟩; (unfold CS.view; rw [h1]; rfl); (rw [h2] at hb; cases hb)
    refine WC.seq ?_
    refine WC.region ?_
    refine WL.slcArr ?_ un104 (by kernel_rfl)
    refine WL.assign ?_
    refine WL.assign ?_
    refine WL.nil ?_
    refine WQ.next ?_
    refine WC.ret (WQ.thenRet (?_))
    refine WQ.shutR (CR.opens c j d n S) x hp ?_
    rw [← hview] at hy5 ⊢
    exact WQ.ret2 (h1 := .tmp (t := 4) rfl) (h2 := .tmp (t := 5) rfl) ⟨_, ⟨_, _, _, rfl, ⟨Nat.le_refl 512, (by decide : 512 ≤ maxLen), hy5⟩, rfl⟩, Am.auto⟩
  · have hview : S.view k = S.J.view k := by rcases hcase with ⟨h1, h2⟩ | ⟨h1, h2⟩; (rw [h2] at hb; cases hb); (unfold CS.view; rw [h1]; rfl)
    refine WC.skip ?_
    refine WQ.next ?_
    refine WC.seq ?_
    refine WC.region ?_
    refine WL.move ?_
    refine WL.nilCheck ?_
    refine WL.fa ?_ fo106_0
    refine WL.ld ?_ sc80
    refine WL.move ?_
    refine WL.call (hc := Tryz.call110) (sp := jRead (J := S.J) (n := n) h5 hkn) (h := ?_)
    rintro _ _ ⟨gb, q, rfl, ⟨hq1, hq2, hl5⟩, rfl⟩
    refine WL.extract ?_
    refine WL.extract ?_
    refine WL.assign ?_
    refine WL.assign ?_
    refine WL.nil ?_
    refine WQ.next ?_
    refine WC.ret (?_)
    rw [← hview] at hl5 ⊢
    refine WQ.shutR (CR.opens c j d n S) x hp ?_
    exact WQ.ret2 (h1 := .tmp (t := 4) rfl) (h2 := .tmp (t := 5) rfl) ⟨_, ⟨_, _, _, rfl, ⟨hq1, hq2, hl5⟩, rfl⟩, Am.auto⟩
theorem cWrite {c j d n k m cc : Nat} {S : CS} {R : HP} {A : Addr} {xs : Bytes} (hop : S.op = true) (h5 : 245 ≤ k) (hkn : k < n) (hR : Reads R (some A) (bvs xs)) (hx : xs.length = m) (hm5 : m = 512) (hroom : (kget S.W k).isSome = true ∨ S.W.length < 60) : Spec Tryz.prog 96 #[.pointer (some ⟨c, 0, none⟩), .int .i64 (k : Int), .slice (some A) m cc] [CR c j d n S, R] fun F v M => v = okV ∧ M = CR c j d n ⟨S.J, kput S.W k xs, true, S.ov⟩ :: R :: F := by
  refine Spec.intro Tryz.func96 rfl rfl fun B F => ?_
  simp only [Tryz.ntmps96, List.cons_append, List.nil_append, env0, Nat.reduceAdd]
  subst hm5
  obtain ⟨ab, ao, asp⟩ := A
  have hsp : asp = none := hR.1
  subst hsp
  refine WC.openR (CR.opens c j d n S) fun x hp => ?_
  simp only [cL, List.cons_append, List.nil_append]
  obtain ⟨ys, hys, hy5, hcase⟩ := hp.get k
  have hes : x.es.size = S.W.length := by rw [hp.hm.length, wkv_length]
  refine WC.seq ?_
  refine WC.region ?_
  refine WL.assign ?_
  refine WL.nil ?_
  refine WQ.next ?_
  refine WC.seq ?_
  refine WC.seq ?_
  refine WC.region ?_
  refine WL.move ?_
  refine WL.call (hc := Tryz.call55) (sp := cacheOpen) (h := ?_)
  rintro _ _ ⟨rfl, rfl⟩
  refine WL.cast (d := 12) (u := .bool true) rfl (congrArg Value.bool hop) ?_
  refine WL.not ?_
  refine WL.nil ?_
  refine WQ.next ?_
  refine WC.condF rfl rfl ?_
  refine WC.skip ?_
  refine WQ.next ?_
  refine WC.seq ?_
  refine WC.seq ?_
  refine WC.region ?_
  refine WL.move ?_
  refine WL.nilCheck ?_
  refine WL.fa ?_ fo106_0
  refine WL.ld ?_ sc80
  refine WL.move ?_
  refine WL.call (hc := Tryz.call110) (sp := jRead (J := S.J) (n := n) h5 hkn) (h := ?_)
  rintro _ _ ⟨gb, q, rfl, ⟨hq1, hq2, hl5⟩, rfl⟩
  refine WL.move ?_
  refine WL.extract ?_
  refine WL.extract ?_
  refine WL.assign ?_
  refine WL.assign ?_
  refine WL.nil ?_
  refine WQ.next ?_
  refine WC.seq ?_
  refine WC.region ?_
  refine WL.move ?_
  refine WL.nei ?_
  refine WL.move ?_
  refine WL.gT ?_
  refine WL.move ?_
  refine WL.gT ?_
  refine WL.lenS ?_ sl33
  refine WL.gT ?_
  refine WL.nei ?_
  refine WL.pickF ?_
  refine WL.nil ?_
  refine WQ.next ?_
  refine WC.condF rfl rfl ?_
  refine WC.skip ?_
  refine WQ.next ?_
  refine WC.seq ?_
  refine WC.seq ?_
  refine WC.region ?_
  refine WL.move ?_
  refine WL.nilCheck ?_
  refine WL.fa ?_ fo106_3
  refine WL.ld ?_ sc103
  refine WL.move ?_
  refine WL.lookOk klI hp.hm mp103 zv104 ?_
  refine WL.move ?_
  refine WL.extract ?_
  refine WL.cast (d := 37) rfl hys ?_
  refine WL.extract ?_
  refine WL.alloc z104 fun b9 => ?_
  refine WL.stArr (cs := Array.replicate 512 (.int .u8 0)) ?_ agg104 hy5 (by decide) Array.size_replicate
  refine WL.assign ?_
  refine WL.nil ?_
  refine WQ.next ?_
  refine WC.seq ?_
  refine WC.region ?_
  refine WL.move ?_
  refine WL.not ?_
  refine WL.move ?_
  rcases hcase with ⟨hno, hss⟩ | ⟨hno, hss⟩
  · refine WL.cast (d := 41) (u := .bool false) rfl (congrArg (fun b => Value.bool (!b)) hss) ?_
    refine WL.gF ?_
    refine WL.gF ?_
    refine WL.gF ?_
    refine WL.gF ?_
    refine WL.gF ?_
    refine WL.gF ?_
    refine WL.pickF ?_
    refine WL.nil ?_
    refine WQ.next ?_
    refine WC.condF rfl rfl ?_
    refine WC.skip ?_
    refine WQ.next ?_
    refine WC.seq ?_
    refine WC.draw ([pt c (cacheO (some j) S.op S.ov x.m), R]) [8] 9 #[false, false, false, false, false, false, false, false, false] mixed (by kernel_rfl) NoPanic.autoJ ?_
    refine WD.take (i := 0) #[true, false, false, false, false, false, false, false, false] rfl (by kernel_rfl) (Qt.move ) ?_
    refine WD.take (i := 1) #[true, true, false, false, false, false, false, false, false] rfl (by kernel_rfl) (Qt.nilCheck ) ?_
    refine WD.take (i := 2) #[true, true, true, false, false, false, false, false, false] rfl (by kernel_rfl) (Qt.fa fo106_3) ?_
    refine WD.take (i := 3) #[true, true, true, true, false, false, false, false, false] rfl (by kernel_rfl) (Qt.ld sc103) ?_
    refine WD.take (i := 4) #[true, true, true, true, true, false, false, false, false] rfl (by kernel_rfl) (Qt.move ) ?_
    refine WD.take (i := 5) #[true, true, true, true, true, true, false, false, false] rfl (by kernel_rfl) (Qt.move ) ?_
    refine WD.take (i := 6) #[true, true, true, true, true, true, true, false, false] rfl (by kernel_rfl) (Qt.toArr un104) ?_
    refine WD.take (i := 7) #[true, true, true, true, true, true, true, true, false] rfl (by kernel_rfl) (Qt.ldAR (i := 0) (us := bvs xs) agg104 hR (by rw [List.drop_zero]; exact List.take_of_length_le (by rw [bvs_length, hx]; exact Nat.le_refl _)) (by rw [bvs_length, hx]; exact Nat.le_refl _)) ?_
    refine WD.one (i := 8) #[true, true, true, true, true, true, true, true, true] rfl (by kernel_rfl) fun hnp => ?_
    refine WL.upd (k := (k : Int)) klI hp.hm mp103 fun es_1 c_1 hm_1 => ?_
    rw [show Value.agg (bvs xs).toArray = arrV xs from rfl, wkv_put] at hm_1
    refine WL.nil (WQ.wd hnp (.inr rfl) ?_)
    refine WD.done (by kernel_rfl) ?_
    refine WQ.next ?_
    refine WC.seq ?_
    refine WC.region ?_
    refine WL.assign ?_
    refine WL.nil ?_
    refine WQ.next ?_
    refine WC.ret (?_)
    refine WQ.to (A := pt c (cacheO (some j) S.op S.ov x.m)) (A' := pt c (cacheO (some j) true S.ov x.m)) (fun h hh => by rw [← hop]; exact hh) ?_
    refine WQ.shutR (CR.opens c j d n ⟨S.J, kput S.W k xs, true, S.ov⟩) ⟨x.m, es_1, c_1⟩ ⟨hm_1, hp.hf.put h5 hkn hx hroom, hp.n1, hp.n2⟩ ?_
    exact WQ.ret1 (h1 := .tmp (t := 6) rfl) ⟨_, ⟨rfl, rfl⟩, Am.auto⟩
  · refine WL.cast (d := 41) (u := .bool true) rfl (congrArg (fun b => Value.bool (!b)) hss) ?_
    have hlt : S.W.length < 60 := by rcases hroom with h | h; (rw [hno] at h; cases h); exact h
    refine WL.gT ?_
    refine WL.move ?_
    refine WL.gT ?_
    refine WL.nilCheck ?_
    refine WL.gT ?_
    refine WL.fa ?_ fo106_3
    refine WL.gT ?_
    refine WL.ld ?_ sc103
    refine WL.gT ?_
    refine WL.lenM ?_ mp103
    refine WL.gT ?_
    refine WL.geq ?_
    refine WL.pickT ?_
    refine WL.nil ?_
    refine WQ.next ?_
    refine WC.condF rfl (congrArg Value.bool (by first | (simp; done) | (simp; omega) | omega)) ?_
    refine WC.skip ?_
    refine WQ.next ?_
    refine WC.seq ?_
    refine WC.draw ([pt c (cacheO (some j) S.op S.ov x.m), R]) [8] 9 #[false, false, false, false, false, false, false, false, false] mixed (by kernel_rfl) NoPanic.autoJ ?_
    refine WD.take (i := 0) #[true, false, false, false, false, false, false, false, false] rfl (by kernel_rfl) (Qt.move ) ?_
    refine WD.take (i := 1) #[true, true, false, false, false, false, false, false, false] rfl (by kernel_rfl) (Qt.nilCheck ) ?_
    refine WD.take (i := 2) #[true, true, true, false, false, false, false, false, false] rfl (by kernel_rfl) (Qt.fa fo106_3) ?_
    refine WD.take (i := 3) #[true, true, true, true, false, false, false, false, false] rfl (by kernel_rfl) (Qt.ld sc103) ?_
    refine WD.take (i := 4) #[true, true, true, true, true, false, false, false, false] rfl (by kernel_rfl) (Qt.move ) ?_
    refine WD.take (i := 5) #[true, true, true, true, true, true, false, false, false] rfl (by kernel_rfl) (Qt.move ) ?_
    refine WD.take (i := 6) #[true, true, true, true, true, true, true, false, false] rfl (by kernel_rfl) (Qt.toArr un104) ?_
    refine WD.take (i := 7) #[true, true, true, true, true, true, true, true, false] rfl (by kernel_rfl) (Qt.ldAR (i := 0) (us := bvs xs) agg104 hR (by rw [List.drop_zero]; exact List.take_of_length_le (by rw [bvs_length, hx]; exact Nat.le_refl _)) (by rw [bvs_length, hx]; exact Nat.le_refl _)) ?_
    refine WD.one (i := 8) #[true, true, true, true, true, true, true, true, true] rfl (by kernel_rfl) fun hnp => ?_
    refine WL.upd (k := (k : Int)) klI hp.hm mp103 fun es_1 c_1 hm_1 => ?_
    rw [show Value.agg (bvs xs).toArray = arrV xs from rfl, wkv_put] at hm_1
    refine WL.nil (WQ.wd hnp (.inr rfl) ?_)
    refine WD.done (by kernel_rfl) ?_
    refine WQ.next ?_
    refine WC.seq ?_
    refine WC.region ?_
    refine WL.assign ?_
    refine WL.nil ?_
    refine WQ.next ?_
    refine WC.ret (?_)
    refine WQ.to (A := pt c (cacheO (some j) S.op S.ov x.m)) (A' := pt c (cacheO (some j) true S.ov x.m)) (fun h hh => by rw [← hop]; exact hh) ?_
    refine WQ.shutR (CR.opens c j d n ⟨S.J, kput S.W k xs, true, S.ov⟩) ⟨x.m, es_1, c_1⟩ ⟨hm_1, hp.hf.put h5 hkn hx hroom, hp.n1, hp.n2⟩ ?_
    exact WQ.ret1 (h1 := .tmp (t := 6) rfl) ⟨_, ⟨rfl, rfl⟩, Am.auto⟩
end Go.Proofs.YtedmihapieleaaaGreat
end
section
namespace Go.Proofs.YtedmihapieleaaaGreat
open Go
open Go.Shelf Go.Sort Go.RowKit Go.Maps
def lays189_ren : Go.Shelf.Ren := ⟨fun | 189 => 104 | 125 => 119 | 257 => 130 | 128 => 148 | 129 => 149 | 294 => 151 | 295 => 152 | 296 => 153 | 297 => 154 | 298 => 155 | 299 => 156 | 216 => 157 | 300 => 158 | 301 => 159 | 328 => 171 | 329 => 167 | 330 => 168 | 331 => 172 | 332 => 173 | 215 => 174 | 343 => 177 | n => n, fun | 28 => 22 | 3 => 3 | 46 => 170 | 0 => 0 | 51 => 203 | 53 => 138 | 4 => 4 | 183 => 196 | 182 => 195 | 131 => 200 | 5 => 5 | 9 => 9 | 218 => 212 | 222 => 132 | 228 => 219 | 229 => 47 | n => n, fun n => n⟩
theorem lays189 : Lays.n189 Tryz.prog lays189_ren where
  mixed := by kernel_rfl
  f125 := Tryz.func119.trans (congrArg some (by kernel_rfl))
  f128 := Tryz.func148.trans (congrArg some (by kernel_rfl))
  f129 := Tryz.func149.trans (congrArg some (by kernel_rfl))
  f189 := Tryz.func104.trans (congrArg some (by kernel_rfl))
  f215 := Tryz.func174.trans (congrArg some (by kernel_rfl))
  f216 := Tryz.func157.trans (congrArg some (by kernel_rfl))
  f257 := Tryz.func130.trans (congrArg some (by kernel_rfl))
  f294 := Tryz.func151.trans (congrArg some (by kernel_rfl))
  f295 := Tryz.func152.trans (congrArg some (by kernel_rfl))
  f296 := Tryz.func153.trans (congrArg some (by kernel_rfl))
  f297 := Tryz.func154.trans (congrArg some (by kernel_rfl))
  f298 := Tryz.func155.trans (congrArg some (by kernel_rfl))
  f299 := Tryz.func156.trans (congrArg some (by kernel_rfl))
  f300 := Tryz.func158.trans (congrArg some (by kernel_rfl))
  f301 := Tryz.func159.trans (congrArg some (by kernel_rfl))
  f328 := Tryz.func171.trans (congrArg some (by kernel_rfl))
  f329 := Tryz.func167.trans (congrArg some (by kernel_rfl))
  f330 := Tryz.func168.trans (congrArg some (by kernel_rfl))
  f331 := Tryz.func172.trans (congrArg some (by kernel_rfl))
  f332 := Tryz.func173.trans (congrArg some (by kernel_rfl))
  f343 := Tryz.func177.trans (congrArg some (by kernel_rfl))
  t0 := Tryz.underlying0
  a0 := Tryz.isAgg0
  z0 := Tryz.sizeOf0
  v0 := Tryz.zeroValue0
  t3 := Tryz.underlying3
  a3 := Tryz.isAgg3
  z3 := Tryz.sizeOf3
  v3 := Tryz.zeroValue3
  t4 := Tryz.underlying4
  a4 := Tryz.isAgg4
  z4 := Tryz.sizeOf4
  v4 := Tryz.zeroValue4
  t5 := Tryz.underlying5
  a5 := Tryz.isAgg5
  z5 := Tryz.sizeOf5
  v5 := Tryz.zeroValue5
  t9 := Tryz.underlying9
  a9 := Tryz.isAgg9
  z9 := Tryz.sizeOf9
  v9 := Tryz.zeroValue9
  t28 := Tryz.underlying22
  a28 := Tryz.isAgg22
  z28 := Tryz.sizeOf22
  v28 := Tryz.zeroValue22
  t46 := Tryz.underlying170
  a46 := Tryz.isAgg170
  z46 := Tryz.sizeOf170
  v46 := Tryz.zeroValue170
  t51 := Tryz.underlying203
  a51 := Tryz.isAgg203
  z51 := Tryz.sizeOf203
  v51 := Tryz.zeroValue203
  t53 := Tryz.underlying138
  a53 := Tryz.isAgg138
  z53 := Tryz.sizeOf138
  v53 := Tryz.zeroValue138
  t131 := Tryz.underlying200
  a131 := Tryz.isAgg200
  z131 := Tryz.sizeOf200
  v131 := Tryz.zeroValue200
  t182 := Tryz.underlying195
  a182 := Tryz.isAgg195
  z182 := Tryz.sizeOf195
  v182 := Tryz.zeroValue195
  t183 := Tryz.underlying196
  a183 := Tryz.isAgg196
  z183 := Tryz.sizeOf196
  v183 := Tryz.zeroValue196
  t218 := Tryz.underlying212
  a218 := Tryz.isAgg212
  z218 := Tryz.sizeOf212
  v218 := Tryz.zeroValue212
  t222 := Tryz.underlying132
  a222 := Tryz.isAgg132
  z222 := Tryz.sizeOf132
  v222 := Tryz.zeroValue132
  t228 := Tryz.underlying219
  a228 := Tryz.isAgg219
  z228 := Tryz.sizeOf219
  v228 := Tryz.zeroValue219
  t229 := Tryz.underlying47
  a229 := Tryz.isAgg47
  z229 := Tryz.sizeOf47
  v229 := Tryz.zeroValue47
def laysSorted_ren : Go.Shelf.Ren := ⟨fun | 6 => 56 | 8 => 103 | 9 => 104 | 11 => 129 | n => n, fun | 26 => 3 | 28 => 101 | 24 => 22 | 0 => 0 | 3 => 3 | 33 => 51 | 4 => 4 | n => n, fun n => n⟩
theorem laysSorted : SlLaysZI.n6 Tryz.prog laysSorted_ren where
  mixed := by kernel_rfl
  f6 := ⟨ "slices.Sorted[int]", by decide, Tryz.func56.trans (congrArg some (by kernel_rfl))⟩
  f8 := ⟨ "slices.Collect[int]", by decide, Tryz.func103.trans (congrArg some (by kernel_rfl))⟩
  f11 := ⟨ "slices.AppendSeq[[]int,int]", by decide, Tryz.func129.trans (congrArg some (by kernel_rfl))⟩
  t0 := Tryz.underlying0
  a0 := Tryz.isAgg0
  z0 := Tryz.sizeOf0
  v0 := Tryz.zeroValue0
  t24 := Tryz.underlying22
  a24 := Tryz.isAgg22
  z24 := Tryz.sizeOf22
  v24 := Tryz.zeroValue22
  t26 := Tryz.underlying3
  a26 := Tryz.isAgg3
  z26 := Tryz.sizeOf3
  v26 := Tryz.zeroValue3
  t28 := Tryz.underlying101
  a28 := Tryz.isAgg101
  z28 := Tryz.sizeOf101
  v28 := Tryz.zeroValue101
  i26 := by kernel_rfl
def laysKeys_ren : Go.Shelf.Ren := ⟨fun | 7 => 57 | 10 => 105 | n => n, fun | 23 => 103 | 26 => 3 | 3 => 104 | 28 => 101 | 0 => 0 | 27 => 100 | 33 => 51 | 4 => 4 | n => n, fun n => n⟩
theorem laysKeys : SlLaysZI.n7 Tryz.prog laysKeys_ren where
  mixed := by kernel_rfl
  f7 := ⟨ "maps.Keys[map[int][512]byte,int,[512]byte]", by decide, Tryz.func57.trans (congrArg some (by kernel_rfl))⟩
  f10 := ⟨ "maps.Keys[map[int][512]byte,int,[512]byte]$1", by decide, Tryz.func105.trans (congrArg some (by kernel_rfl))⟩
  t0 := Tryz.underlying0
  a0 := Tryz.isAgg0
  z0 := Tryz.sizeOf0
  v0 := Tryz.zeroValue0
  t4 := Tryz.underlying4
  a4 := Tryz.isAgg4
  z4 := Tryz.sizeOf4
  v4 := Tryz.zeroValue4
  t23 := Tryz.underlying103
  a23 := Tryz.isAgg103
  z23 := Tryz.sizeOf103
  v23 := Tryz.zeroValue103
  t26 := Tryz.underlying3
  a26 := Tryz.isAgg3
  z26 := Tryz.sizeOf3
  v26 := Tryz.zeroValue3
  t27 := Tryz.underlying100
  a27 := Tryz.isAgg100
  z27 := Tryz.sizeOf100
  v27 := Tryz.zeroValue100
  t28 := Tryz.underlying101
  a28 := Tryz.isAgg101
  z28 := Tryz.sizeOf101
  v28 := Tryz.zeroValue101
  t33 := Tryz.underlying51
  a33 := Tryz.isAgg51
  z33 := Tryz.sizeOf51
  v33 := Tryz.zeroValue51
theorem mapsKeys {b : Nat} : Spec Tryz.prog 57 #[.map (some b)] [] fun F v M => ∃ bm, v = .func (.func 105) #[] #[.pointer (some ⟨bm, 0, none⟩)] ∧ M = pt bm (.cells #[.map (some b)] 103 (0, 0)) :: F := by
  refine Spec.intro Tryz.func57 rfl rfl fun B F => ?_
  simp only [Tryz.ntmps57, List.cons_append, List.nil_append, env0, Nat.reduceAdd]
  refine WC.seq ?_
  refine WC.region ?_
  refine WL.box fun b1 => ?_
  refine WL.assign ?_
  refine WL.nil ?_
  refine WQ.next ?_
  refine WC.seq ?_
  refine WC.region ?_
  refine WL.makeFuncB ?_
  refine WL.assign ?_
  refine WL.nil ?_
  refine WQ.next ?_
  refine WC.ret (?_)
  exact WQ.ret1 (h1 := .tmp (t := 2) rfl) ⟨_, ⟨_, rfl, rfl⟩, Am.auto⟩
theorem sortsI (m : Nat) : AnyZI.SortsIn Tryz.prog laysSorted_ren Fence.wide m :=
  ⟨fun blk off cap ss W hH hblk hsz => callsIn_wide.2 (Any.slices_Sort_int lays189 blk off cap ss W hH hblk hsz),
   fun p cap W => callsIn_wide.2 (Any.slices_Sort_int_none lays189 p cap W)⟩
theorem sortedKeys {b c bm : Nat} {es : Array MapEntry} {kvs : List (Int × Value)} (hm : MapIs intE es c kvs) (hl : kvs.length ≤ 1000) (hr : ∀ p ∈ kvs, -9223372036854775808 ≤ p.1 ∧ p.1 ≤ 9223372036854775807) :
    Spec Tryz.prog 56 #[.func (.func 105) #[] #[.pointer (some ⟨bm, 0, none⟩)]] [pt bm (.cells #[.map (some b)] 103 (0, 0)), pt b (.map es c)] fun F v M => ∃ ss : List Int, ss.Perm (kvs.map (·.1)) ∧ M = rowR 3 1 v ss.length (ints ss) :: pt bm (.cells #[.map (some b)] 103 (0, 0)) :: pt b (.map es c) :: F := by
  intro B F w hs
  have hbm := hs.get .here
  have hb := hs.get (.there .here)
  obtain ⟨D, hown, hsize, hperm⟩ := ownsMap_of (P := Tryz.prog) (kt := 3) (by kernel_rfl) hb hm (by unfold maxLen; omega) hr
  have hseq : SeqGives Fence.wide 2 Tryz.prog 105 #[.pointer (some ⟨bm, 0, none⟩)] encZ (fun ss => ss.Perm (Go.intKeys D)) (Maps.size D) w :=
    AnyZI.keys_gives (ρ := laysKeys_ren) { laysKeys with } Fence.wide 2 trivial rfl (by omega) bm b kvs.length D w (Array.getElem?_eq_some_iff.1 hbm).1 (by rw [cell_of hbm]; rfl) hown
  have cS := AnyZI.sorted_in laysSorted Fence.wide 5 trivial trivial trivial trivial rfl (by omega) (sortsI _) (enters_of Tryz.func104 (by kernel_rfl) rfl) 105 #[.pointer (some ⟨bm, 0, none⟩)] trivial (enters_of Tryz.func105 (by kernel_rfl) rfl) _ _ (by rw [hsize]; unfold maxLen; omega) (by rw [hsize]; omega) w hseq
  change CallsIn _ _ Tryz.prog 56 _ _ _ at cS
  refine ((callsIn_wide (n := 5)).1 cS).mono ?_
  rintro e w' ⟨v, ss, rfl, hS, hrow, hnil, hbel⟩
  refine ⟨v, _, rfl, ⟨ss.mergeSort fun x y => decide (x ≤ y), (List.mergeSort_perm ss _).trans (hS.trans hperm), rfl⟩, ?_⟩
  rw [List.length_mergeSort]
  exact hs.newRow hbel hrow
end Go.Proofs.YtedmihapieleaaaGreat
end
section
namespace Go.Proofs.YtedmihapieleaaaGreat
open Go
theorem bdCh (k : Int) (b : Nat) : BuildOk Tryz.prog 108 [(0, .int .i64 k), (1, .slice (some ⟨b, 0, none⟩) 512 512)] #[.int .i64 k, .slice (some ⟨b, 0, none⟩) 512 512] := fun w => by kernel_rfl
theorem bsCh (k : Int) (b : Nat) : BuildSOk Tryz.prog 98 1 [(0, .agg #[.int .i64 k, .slice (some ⟨b, 0, none⟩) 512 512])] 108 #[.int .i64 k, .slice (some ⟨b, 0, none⟩) 512 512] := fun w => by kernel_rfl
theorem chCells_append : ∀ (a b : List CV), chCells (a ++ b) = chCells a ++ chCells b
  | [], b => rfl
  | c :: a, b => by simp only [List.cons_append, chCells, chCells_append a b]
structure KI (W : List (Nat × Bytes)) (ss : List Int) (i : Int) (cvs : List CV) (bl : List (Value × Bytes)) : Prop where
  lo : 0 ≤ i
  hi : i ≤ ss.length
  keys : cvs.map (fun c => (c.k : Int)) = ss.take i.toNat
  are : ∀ c ∈ cvs, kget W c.k = some c.xs
  lie : Lie bl cvs
theorem KI.len {W : List (Nat × Bytes)} {ss : List Int} {i : Int} {cvs : List CV} {bl : List (Value × Bytes)} (h : KI W ss i cvs bl) : cvs.length = i.toNat := by
  have := congrArg List.length h.keys
  have := h.lo
  have := h.hi
  simp at *
  omega
theorem KI.step {W : List (Nat × Bytes)} {ss : List Int} {i : Int} {cvs : List CV} {bl : List (Value × Bytes)} (h : KI W ss i cvs bl) (hlt : i.toNat < ss.length) {k b : Nat} {xs : Bytes} (hk : ss[i.toNat] = (k : Int)) (hx : kget W k = some xs) (h5 : xs.length = 512) :
    KI W ss (i + 1) (cvs ++ [⟨k, b, 512, xs⟩]) ((.slice (some ⟨b, 0, none⟩) xs.length 512, xs) :: bl) := by
  have h0 := h.lo
  refine ⟨by omega, by omega, ?_, fun c hc => ?_, fun c hc => ?_⟩
  · rw [List.map_append, h.keys, show (i + 1).toNat = i.toNat + 1 from by omega, List.take_succ_eq_append_getElem hlt, hk]; rfl
  · rcases List.mem_append.1 hc with hc | hc
    · exact h.are c hc
    · rw [List.mem_singleton] at hc; subst hc; exact hx
  · rcases List.mem_append.1 hc with hc | hc
    · exact List.mem_cons_of_mem _ (h.lie c hc)
    · rw [List.mem_singleton] at hc; subst hc; rw [h5]; exact List.mem_cons_self ..
theorem nodup_self {W : List (Nat × Bytes)} (h : (W.map (·.1)).Nodup) : W = (W.map (·.1)).map fun k => (k, (kget W k).getD []) := by
  rw [List.map_map]
  conv => lhs; rw [← List.map_id W]
  apply List.map_congr_left
  intro p hp
  have := (kget_mem h).2 (show (p.1, p.2) ∈ W from hp)
  simp [this]
theorem KI.perm {W : List (Nat × Bytes)} {ss : List Int} {i : Int} {cvs : List CV} {bl : List (Value × Bytes)} (h : KI W ss i cvs bl) (hi : i = ss.length) (hs : ss.Perm ((wkv W).map (·.1))) (hn : (W.map (·.1)).Nodup) : (cvs.map CV.pair).Perm W := by
  have h1 : (cvs.map CV.pair).map (·.1) = (ss.map Int.toNat) := by
    have h2 := h.keys
    rw [hi, Int.toNat_natCast, List.take_length] at h2
    rw [← h2, List.map_map, List.map_map]
    apply List.map_congr_left
    intro c _
    simp [CV.pair]
  have h3 : (ss.map Int.toNat).Perm (W.map (·.1)) := by
    refine (hs.map Int.toNat).trans (List.Perm.of_eq ?_)
    rw [List.map_map, wkv, List.map_map]
    apply List.map_congr_left
    intro p _
    simp
  have h4 : (cvs.map CV.pair) = ((cvs.map CV.pair).map (·.1)).map fun k => (k, (kget W k).getD []) := by
    rw [List.map_map, List.map_map]
    apply List.map_congr_left
    intro c hc
    simp [CV.pair, h.are c hc]
  rw [h4, nodup_self hn, ← nodup_self hn, h1]
  refine (h3.map _).trans (List.Perm.of_eq ?_)
  exact (nodup_self hn).symm
theorem Fit.perm {n : Nat} {a b : List (Nat × Bytes)} (h : Fit n b) (hp : a.Perm b) : Fit n a := ⟨fun p hp' => h.home p (hp.mem_iff.1 hp'), by rw [hp.length_eq]; exact h.few, (hp.map _).nodup_iff.2 h.apart⟩
theorem cCommitF {c j d n : Nat} {S : CS} (hop : S.op = true) : Spec Tryz.prog 21 #[.pointer (some ⟨c, 0, none⟩)] [CR c j d n S] fun F v M => ∃ L : List (Nat × Bytes), L.Perm S.W ∧ Fit n S.W ∧ Fit n S.J.ch ∧ v = okV ∧ M = CR c j d n ⟨S.J.commits L, [], false, S.ov⟩ :: F := by
  refine Spec.intro Tryz.func21 rfl rfl fun B F => ?_
  simp only [Tryz.ntmps21, List.cons_append, List.nil_append, env0, Nat.reduceAdd]
  refine WC.openR (CR.opens c j d n S) fun x hp => ?_
  simp only [cL, List.cons_append, List.nil_append]
  have hfew := hp.hf.few
  refine WC.fact (A := JR j d n S.J) (fun h hh => ((JR.opens j d n S.J).to h hh).elim fun x hx => hx.1.hf) fun hjf => ?_
  have hwl := wkv_length S.W
  have hn2 := hp.n2
  have hrange : ∀ p ∈ wkv S.W, -9223372036854775808 ≤ p.1 ∧ p.1 ≤ 9223372036854775807 := by
    intro p hp'
    obtain ⟨q, hq, rfl⟩ := List.mem_map.1 hp'
    have := (hp.hf.home q hq).2.1
    constructor <;> simp only <;> omega
  refine WC.seq ?_
  refine WC.region ?_
  refine WL.assign ?_
  refine WL.nil ?_
  refine WQ.next ?_
  refine WC.seq ?_
  refine WC.seq ?_
  refine WC.region ?_
  refine WL.move ?_
  refine WL.call (hc := Tryz.call55) (sp := cacheOpen) (h := ?_)
  rintro _ _ ⟨rfl, rfl⟩
  refine WL.cast (d := 8) (u := .bool true) rfl (congrArg Value.bool hop) ?_
  refine WL.not ?_
  refine WL.nil ?_
  refine WQ.next ?_
  refine WC.condF rfl rfl ?_
  refine WC.skip ?_
  refine WQ.next ?_
  refine WC.seq ?_
  refine WC.region ?_
  refine WL.assign ?_
  refine WL.nil ?_
  refine WQ.next ?_
  refine WC.seq ?_
  refine WC.seq ?_
  refine WC.region ?_
  refine WL.move ?_
  refine WL.nilCheck ?_
  refine WL.fa ?_ fo106_3
  refine WL.ld ?_ sc103
  refine WL.call (hc := Tryz.call57) (sp := mapsKeys) (h := ?_)
  rintro _ _ ⟨bm, rfl, rfl⟩
  refine WL.call (hc := Tryz.call56) (sp := sortedKeys (c := x.c) hp.hm (by omega) hrange) (h := ?_)
  rintro vs _ ⟨ss, hss, rfl⟩
  refine WL.fact (rowR_shape (el := 3) (size := 1) (v := vs) (k := ss.length) (xs := ints ss)) (fun ⟨A, ca, hva, hR, hA1, hA2, hA3⟩ => ?_)
  subst hva
  have hsl : ss.length = S.W.length := by rw [hss.length_eq, List.length_map, hwl]
  refine WL.lenS ?_ sl22
  refine WL.move ?_
  refine WL.nil ?_
  refine WQ.next ?_
  refine WC.block ?_
  refine WC.blobsNil ?_
  refine WC.emp (rowR.nil (e := 108) (size := 2) _) ?_
  refine WC.loopA (σ := Int × Value × List CV × List (Value × Bytes)) (fun s => [(0, .pointer (some ⟨c, 0, none⟩)), (3, s.2.1), (15, .slice A ss.length ca), (16, .int .i64 (ss.length : Int)), (17, .int .i64 s.1)]) (fun s => [rowR 108 2 s.2.1 s.1.toNat (chCells s.2.2.1), blobs s.2.2.2, rowR 3 1 (.slice A ss.length ca) ss.length (ints ss), pt c (cacheO (some j) S.op S.ov x.m), pt x.m (.map x.es x.c), JR j d n S.J] ++ F) (fun s => KI S.W ss s.1 s.2.2.1 s.2.2.2) (fun s => ((ss.length : Int) - s.1).toNat) (0, .slice none 0 0, [], []) ⟨by omega, by omega, rfl, (fun c hc => by cases hc), (fun c hc => by cases hc)⟩ ?_
  rintro ⟨i, v, cvs, bl⟩ hi
  refine WC.seq ?_
  refine WC.region ?_
  refine WL.lss ?_
  refine WL.nil ?_
  refine WQ.next ?_
  refine WC.seq ?_
  refine WC.cond rfl (fun hb => ?_) (fun hb => ?_)
  · have hlt : i < (ss.length : Int) := of_decide_eq_true hb
    have hlo := hi.lo
    have hil : i.toNat < ss.length := by omega
    rcases A with _ | ⟨ab, ao, asp⟩
    · exact absurd hR (fun h => by have h2 : ints ss = [] := h; simp [ints] at h2; subst h2; simp at hil)
    have hsp : asp = none := hR.1
    subst hsp
    obtain ⟨k, hk, xs, hx⟩ : ∃ k : Nat, ss[i.toNat] = (k : Int) ∧ ∃ xs, kget S.W k = some xs := by
      have h1 := hss.mem_iff.1 (List.getElem_mem hil)
      obtain ⟨q, hq, hqs⟩ := List.mem_map.1 h1
      obtain ⟨p, hp', rfl⟩ := List.mem_map.1 hq
      exact ⟨p.1, hqs.symm, p.2, (kget_mem hp.hf.apart).2 hp'⟩
    have hhome := hp.hf.home _ ((kget_mem hp.hf.apart).1 hx)
    have hx5 : xs.length = 512 := hhome.2.2
    have hgx : (kget (wkv S.W) (k : Int)).getD (.agg (Array.replicate 512 (.int .u8 0))) = arrV xs := by rw [wkv_get, hx]; rfl
    refine WC.skip ?_
    refine WQ.next ?_
    refine WC.seq ?_
    refine WC.block ?_
    refine WC.seq ?_
    refine WC.region ?_
    refine WL.idx1 ?_ so22
    refine WL.ldR ?_ sc3 hR (ints_get hil)
    refine WL.cast (d := 20) rfl (congrArg (Value.int .i64) hk) ?_
    refine WL.assign ?_
    refine WL.nil ?_
    refine WQ.next ?_
    refine WC.seq ?_
    refine WC.region ?_
    refine WL.move ?_
    refine WL.nilCheck ?_
    refine WL.fa ?_ fo106_3
    refine WL.ld ?_ sc103
    refine WL.move ?_
    refine WL.look klI hp.hm mp103 zv104 ?_
    refine WL.cast (d := 26) rfl hgx ?_
    refine WL.alloc z104 fun b6 => ?_
    refine WL.stArr (cs := Array.replicate 512 (.int .u8 0)) ?_ agg104 hx5 (by decide) Array.size_replicate
    refine WL.nil ?_
    refine WQ.next ?_
    refine WC.region ?_
    refine WL.move ?_
    refine WL.move ?_
    refine WL.slcArr ?_ un104 (by kernel_rfl)
    refine WL.build ?_ (bdCh _ _)
    refine WL.buildS (fun b31 => ?_) (bsCh _ _)
    refine WL.append (m := 1) so98 (by decide) (by repeat (first | exact .here | apply Rem.there | apply Repl.there | apply Mem.there)) Reads.pt (by repeat (first | exact .here | apply Rem.there | apply Repl.there | apply Mem.there)) rfl (by simp [Value.single]) (by unfold maxLen; omega) (by omega) ⟨_, z108, rfl⟩ (fun v' hv' => ?_)
    refine WL.assign ?_
    refine WL.nil ?_
    refine WQ.blockNormal ?_
    refine WQ.next ?_
    refine WC.region ?_
    refine WL.add ?_
    refine WL.move ?_
    refine WL.nil ?_
    refine WQ.blobsAdd (bl := bl) (g := b6) (k := 512) (xs := xs) (by rw [hx5]; exact Nat.le_refl _) ?_
    refine WQ.to (A := rowR 108 2 v' (i.toNat + 1) (chCells cvs ++ [.int .i64 (k : Int), .slice (some ⟨b6, 0, none⟩) 512 512])) (A' := rowR 108 2 v' (i + 1).toNat (chCells (cvs ++ [⟨k, b6, 512, xs⟩]))) (fun h hh => by rw [show (i + 1).toNat = i.toNat + 1 from by omega, chCells_append]; exact hh) ?_
    exact WQ.back (i + 1, v', cvs ++ [⟨k, b6, 512, xs⟩], (.slice (some ⟨b6, 0, none⟩) xs.length 512, xs) :: bl) (hi.step hil hk hx hx5) (by show ((ss.length : Int) - (i + 1)).toNat < ((ss.length : Int) - i).toNat; omega)
  · have hge : ¬ i < (ss.length : Int) := of_decide_eq_false hb
    have hlo := hi.lo
    have hhi := hi.hi
    have hie : i = (ss.length : Int) := by omega
    have hper := hi.perm hie hss hp.hf.apart
    have hfit := hp.hf.perm hper
    have hcl : cvs.length = i.toNat := hi.len
    have hlie := hi.lie
    rw [← hcl]
    refine WC.fact (rowR_shape (el := 108) (size := 2) (v := v) (k := cvs.length) (xs := chCells cvs)) (fun ⟨A2, c2, hv2, hR2, hk2, hc2, hl2⟩ => ?_)
    subst hv2
    refine WC.exit (WQ.thenExit (WQ.thenExit (WQ.blockExit (?_))))
    refine WQ.next ?_
    refine WC.seq ?_
    refine WC.region ?_
    refine WL.move ?_
    refine WL.call (hc := Tryz.call58) (sp := cDone) (h := ?_)
    rintro _ _ ⟨rfl, rfl⟩
    refine WL.nil ?_
    refine WQ.next ?_
    refine WC.seq ?_
    refine WC.region ?_
    refine WL.move ?_
    refine WL.nilCheck ?_
    refine WL.fa ?_ fo106_0
    refine WL.ld ?_ sc80
    refine WL.move ?_
    refine WL.call (hc := Tryz.call59) (sp := jCommit (n := n) (J := S.J) hR2 rfl hlie hfit) (h := ?_)
    rintro _ _ ⟨rfl, rfl⟩
    simp only [List.cons_append, List.nil_append]
    refine WL.assign ?_
    refine WL.nil ?_
    refine WQ.next ?_
    refine WC.ret (?_)
    refine WQ.shutR (CR.opens c j d n ⟨S.J.commits (cvs.map CV.pair), [], false, S.ov⟩) ⟨x.m, #[], x.c⟩ ⟨MapIs.empty _ _, Fit.nil n, hp.n1, hp.n2⟩ ?_
    exact WQ.ret1 (h1 := .tmp (t := 2) rfl) ⟨_, ⟨_, hper, hp.hf, hjf, rfl, rfl⟩, Am.auto⟩
end Go.Proofs.YtedmihapieleaaaGreat
end
section
namespace Go.Proofs.YtedmihapieleaaaGreat
open Go
theorem lay_other (cur : Nat → Bytes) (l : List (Nat × Bytes)) (k : Nat) (h : ∀ p ∈ l, p.1 ≠ k) : lay cur l k = cur k := by
  induction l generalizing cur with
  | nil => rfl
  | cons p l ih =>
    show lay (wr cur p.1 p.2) l k = cur k
    rw [ih _ (fun q hq => h q (List.mem_cons_of_mem _ hq))]
    unfold wr
    rw [if_neg (fun hh => h p (List.mem_cons_self ..) hh.symm)]
theorem lay_view (cur : Nat → Bytes) (l : List (Nat × Bytes)) (hn : (l.map (·.1)).Nodup) (k : Nat) : lay cur l k = (kget l k).getD (cur k) := by
  induction l generalizing cur with
  | nil => rfl
  | cons p l ih =>
    obtain ⟨a, xs⟩ := p
    simp only [List.map_cons, List.nodup_cons] at hn
    show lay (wr cur a xs) l k = _
    rw [ih _ hn.2]
    by_cases h : k = a
    · subst h
      rw [kget_none.2 hn.1]
      simp [kget, wr]
    · simp only [kget, if_neg h, wr]
theorem dataL_low (s : Nat) (hs : s < 4) (l : List (Nat × Bytes)) (hl : l.length ≤ 60) : ∀ p ∈ dataL s l, p.1 < 245 := by
  intro p hp
  obtain ⟨i, hi, rfl⟩ := List.mem_iff_getElem.1 hp
  rw [dataL_length] at hi
  rw [dataL_get s l i hi]
  unfold slotAt
  simp only
  omega
theorem JS.view_commits {n : Nat} {J : JS} {l : List (Nat × Bytes)} (hf : Fit n J.ch) (hl : Fit n l) (k : Nat) (hk : 245 ≤ k) : (J.commits l).view k = (kget l k).getD (J.view k) := by
  unfold JS.commits
  split
  · rename_i h; subst h; rfl
  · show (kget l k).getD (J.wrote l k) = _
    congr 1
    unfold JS.wrote
    have h4 : J.next % 4 < 4 := Nat.mod_lt _ (by decide)
    rw [show wr (lay (lay J.cur J.ch) (dataL (J.next % 4) l)) (slotAt (J.next % 4) 0) (headB J.gen J.next l) k = lay (lay J.cur J.ch) (dataL (J.next % 4) l) k from by unfold wr; rw [if_neg (by unfold slotAt; omega)]]
    rw [lay_other _ _ _ (fun p hp => by have := dataL_low _ h4 l hl.few p hp; omega), lay_view _ _ hf.apart]
    rfl
theorem kget_perm {a b : List (Nat × Bytes)} (h : a.Perm b) (hn : (b.map (·.1)).Nodup) (k : Nat) : kget a k = kget b k := by
  have hna : (a.map (·.1)).Nodup := (h.map _).nodup_iff.2 hn
  cases hb : kget b k with
  | some v => exact (kget_mem hna).2 (h.mem_iff.2 ((kget_mem hn).1 hb))
  | none =>
    rw [kget_none] at hb ⊢
    exact fun hh => hb ((h.map _).mem_iff.1 hh)
structure TP (n : Nat) (V0 V : Nat → Bytes) (D : List Nat) (op : Bool) (y : Nat × Nat × CS) : Prop where
  hop : y.2.2.op = op
  h0 : ∀ k, 245 ≤ k → k < n → y.2.2.J.view k = V0 k
  h1 : ∀ k, 245 ≤ k → k < n → y.2.2.view k = V k
  hd : y.2.2.W.map (·.1) = D
def TR (c n : Nat) (V0 V : Nat → Bytes) (D : List Nat) (op : Bool) : HP := fun h => ∃ y : Nat × Nat × CS, TP n V0 V D op y ∧ star [CR c y.1 y.2.1 n y.2.2] h
theorem TR.opens (c n : Nat) (V0 V : Nat → Bytes) (D : List Nat) (op : Bool) : Opens (TR c n V0 V D op) (TP n V0 V D op) (fun y => [CR c y.1 y.2.1 n y.2.2]) := ⟨fun h hh => hh, fun x hp h hh => ⟨x, hp, hh⟩⟩
attribute [irreducible] TR
def insD (D : List Nat) (k : Nat) : List Nat := if k ∈ D then D else D ++ [k]
variable {c n k : Nat} {V0 V : Nat → Bytes} {D : List Nat} {op : Bool}
theorem tOpen : Spec Tryz.prog 55 #[.pointer (some ⟨c, 0, none⟩)] [TR c n V0 V D op] fun F v M => v = .bool op ∧ M = TR c n V0 V D op :: F := by
  refine Spec.opens (TR.opens c n V0 V D op) fun y hy => (cOpenR (c := c) (j := y.1) (d := y.2.1) (n := n) (S := y.2.2)).post ?_
  rintro F v M ⟨rfl, rfl⟩
  exact ⟨_, ⟨congrArg Value.bool hy.hop, rfl⟩, Wk.shutR (TR.opens c n V0 V D op) y hy⟩
theorem tRead (h5 : 245 ≤ k) (hk : k < n) : Spec Tryz.prog 63 #[.pointer (some ⟨c, 0, none⟩), .int .i64 (k : Int)] [TR c n V0 V D op] fun F v M => ∃ g q el, v = .tuple #[.slice (some ⟨g, 0, none⟩) 512 q, .int .i64 0] ∧ (512 ≤ q ∧ q ≤ maxLen ∧ (V k).length = 512) ∧ M = buf g el q (bvs (V k)) :: TR c n V0 V D op :: F := by
  refine Spec.opens (TR.opens c n V0 V D op) fun y hy => (cRead (c := c) (j := y.1) (d := y.2.1) (n := n) (S := y.2.2) h5 hk).post ?_
  rintro F v M ⟨g, q, el, rfl, ⟨h1, h2, h3⟩, rfl⟩
  rw [hy.h1 k h5 hk] at h3
  refine ⟨_, ⟨g, q, el, rfl, ⟨h1, h2, h3⟩, rfl⟩, ?_⟩
  rw [hy.h1 k h5 hk]
  exact Wk.second (TR.opens c n V0 V D op) y hy
theorem tWrite {m cc : Nat} {R : HP} {A : Addr} {xs : Bytes} (h5 : 245 ≤ k) (hk : k < n) (hR : Reads R (some A) (bvs xs)) (hx : xs.length = m) (hm5 : m = 512) (hroom : k ∈ D ∨ D.length < 60) :
    Spec Tryz.prog 96 #[.pointer (some ⟨c, 0, none⟩), .int .i64 (k : Int), .slice (some A) m cc] [TR c n V0 V D true, R] fun F v M => v = okV ∧ M = TR c n V0 (wr V k xs) (insD D k) true :: R :: F := by
  refine Spec.opens (TR.opens c n V0 V D true) fun y hy => ?_
  have hr : (kget y.2.2.W k).isSome = true ∨ y.2.2.W.length < 60 := by
    rcases hroom with h | h
    · left
      cases hg : kget y.2.2.W k with
      | some v => rfl
      | none => rw [kget_none, hy.hd] at hg; exact absurd h hg
    · right
      rw [← hy.hd, List.length_map] at h
      exact h
  refine (cWrite (c := c) (j := y.1) (d := y.2.1) (n := n) (S := y.2.2) hy.hop h5 hk hR hx hm5 hr).post ?_
  rintro F v M ⟨rfl, rfl⟩
  refine ⟨_, ⟨rfl, rfl⟩, Wk.shutR (M := R :: F) (TR.opens c n V0 (wr V k xs) (insD D k) true) (y.1, y.2.1, ⟨y.2.2.J, kput y.2.2.W k xs, true, y.2.2.ov⟩) ⟨rfl, hy.h0, fun j h1 h2 => ?_, ?_⟩⟩
  · have := hy.h1 j h1 h2
    unfold CS.view at this ⊢
    simp only [kget_put, wr]
    split
    · rfl
    · exact this
  · show (kput y.2.2.W k xs).map (·.1) = _
    rw [kput_keys, hy.hd]; rfl
theorem tCommit : Spec Tryz.prog 21 #[.pointer (some ⟨c, 0, none⟩)] [TR c n V0 V D true] fun F v M => v = okV ∧ M = TR c n V V [] false :: F := by
  refine Spec.opens (TR.opens c n V0 V D true) fun y hy => (cCommitF (c := c) (j := y.1) (d := y.2.1) (n := n) (S := y.2.2) hy.hop).post ?_
  rintro F v M ⟨L, hL, hW, hJ, rfl, rfl⟩
  have hv : ∀ k, 245 ≤ k → k < n → (y.2.2.J.commits L).view k = V k := fun k h1 h2 => by
    rw [JS.view_commits hJ (hW.perm hL) k h1, kget_perm hL hW.apart]
    exact hy.h1 k h1 h2
  exact ⟨_, ⟨rfl, rfl⟩, Wk.shutR (M := F) (TR.opens c n V V [] false) (y.1, y.2.1, ⟨y.2.2.J.commits L, [], false, y.2.2.ov⟩) ⟨rfl, hv, hv, rfl⟩⟩
theorem tBegin : Spec Tryz.prog 22 #[.pointer (some ⟨c, 0, none⟩)] [TR c n V0 V D false] fun F v M => v = okV ∧ M = TR c n V0 V D true :: F := by
  refine Spec.opens (TR.opens c n V0 V D false) fun y hy => (cBegin (c := c) (j := y.1) (d := y.2.1) (n := n) (S := y.2.2) hy.hop).post ?_
  rintro F v M ⟨rfl, rfl⟩
  exact ⟨_, ⟨rfl, rfl⟩, Wk.shutR (M := F) (TR.opens c n V0 V D true) (y.1, y.2.1, ⟨y.2.2.J, y.2.2.W, true, false⟩) ⟨rfl, hy.h0, hy.h1, hy.hd⟩⟩
end Go.Proofs.YtedmihapieleaaaGreat
end
section
namespace Go.Proofs.YtedmihapieleaaaGreat
open Go
theorem bdArea (a b : Int) : BuildOk Tryz.prog 114 [(0, .int .i64 a), (1, .int .i64 b)] #[.int .i64 a, .int .i64 b] := fun w => by kernel_rfl
structure Pl where
  n : Nat
  ino : Nat
  im : Nat
  bm : Nat
  tb : Nat
  da : Nat
  dc : Nat
def Pl.cells (p : Pl) : Array Value := #[.int .i64 (p.n : Int), .int .i64 (p.ino : Int), .int .i64 (p.im : Int), .int .i64 (p.bm : Int), .int .i64 (p.tb : Int), .int .i64 (p.da : Int), .int .i64 (p.dc : Int)]
def alO (c : Nat) (p : Pl) : Obj := .cells #[.pointer (some ⟨c, 0, none⟩), .int .i64 (p.n : Int), .int .i64 (p.ino : Int), .int .i64 (p.im : Int), .int .i64 (p.bm : Int), .int .i64 (p.tb : Int), .int .i64 (p.da : Int), .int .i64 (p.dc : Int)] 154 (0, 0)
theorem bdAlloc (c : Nat) (a b cc d e f gg : Int) : BuildOk Tryz.prog 154 [(0, .pointer (some ⟨c, 0, none⟩)), (1, .agg #[.int .i64 a, .int .i64 b, .int .i64 cc, .int .i64 d, .int .i64 e, .int .i64 f, .int .i64 gg])] #[.pointer (some ⟨c, 0, none⟩), .int .i64 a, .int .i64 b, .int .i64 cc, .int .i64 d, .int .i64 e, .int .i64 f, .int .i64 gg] := fun w => by kernel_rfl
def areaV (first many : Nat) : Value := .agg #[.int .i64 (first : Int), .int .i64 (many : Int)]
theorem alNew {c : Nat} {p : Pl} : Spec Tryz.prog 45 #[.pointer (some ⟨c, 0, none⟩), .agg p.cells] [] fun F v M => ∃ a, v = .pointer (some ⟨a, 0, none⟩) ∧ M = pt a (alO c p) :: F := by
  refine Spec.intro Tryz.func45 rfl rfl fun B F => ?_
  simp only [Tryz.ntmps45, List.cons_append, List.nil_append, env0, Nat.reduceAdd]
  refine WC.seq ?_
  refine WC.region ?_
  refine WL.box fun b3 => ?_
  refine WL.assign ?_
  refine WL.nil ?_
  refine WQ.next ?_
  refine WC.seq ?_
  refine WC.region ?_
  refine WL.move ?_
  refine WL.ldA ?_ agg28
  refine WL.build ?_ (bdAlloc _ _ _ _ _ _ _ _)
  refine WL.box fun b8 => ?_
  refine WL.assign ?_
  refine WL.nil ?_
  refine WQ.next ?_
  refine WC.ret (?_)
  exact WQ.ret1 (h1 := .tmp (t := 4) rfl) ⟨_, ⟨_, rfl, rfl⟩, Am.auto⟩
theorem alBlocks {a c : Nat} {p : Pl} : Spec Tryz.prog 65 #[.pointer (some ⟨a, 0, none⟩)] [pt a (alO c p)] fun F v M => v = areaV p.bm p.dc ∧ M = pt a (alO c p) :: F := by
  refine Spec.intro Tryz.func65 rfl rfl fun B F => ?_
  simp only [Tryz.ntmps65, List.cons_append, List.nil_append, env0, Nat.reduceAdd]
  refine WC.seq ?_
  refine WC.region ?_
  refine WL.alloc z114 fun b2 => ?_
  refine WL.nil ?_
  refine WQ.next ?_
  refine WC.seq ?_
  refine WC.draw ([pt a (alO c p)]) [11] 12 #[false, false, false, false, false, false, false, false, false, false, false, false] mixed (by kernel_rfl) NoPanic.autoJ ?_
  refine WD.take (i := 0) #[true, false, false, false, false, false, false, false, false, false, false, false] rfl (by kernel_rfl) (Qt.move ) ?_
  refine WD.take (i := 1) #[true, true, false, false, false, false, false, false, false, false, false, false] rfl (by kernel_rfl) (Qt.nilCheck ) ?_
  refine WD.take (i := 2) #[true, true, true, false, false, false, false, false, false, false, false, false] rfl (by kernel_rfl) (Qt.fa fo154_1) ?_
  refine WD.take (i := 3) #[true, true, true, true, false, false, false, false, false, false, false, false] rfl (by kernel_rfl) (Qt.fa fo28_3) ?_
  refine WD.take (i := 4) #[true, true, true, true, true, false, false, false, false, false, false, false] rfl (by kernel_rfl) (Qt.ld sc3) ?_
  refine WD.take (i := 5) #[true, true, true, true, true, true, false, false, false, false, false, false] rfl (by kernel_rfl) (Qt.move ) ?_
  refine WD.take (i := 6) #[true, true, true, true, true, true, true, false, false, false, false, false] rfl (by kernel_rfl) (Qt.nilCheck ) ?_
  refine WD.take (i := 7) #[true, true, true, true, true, true, true, true, false, false, false, false] rfl (by kernel_rfl) (Qt.fa fo154_1) ?_
  refine WD.take (i := 8) #[true, true, true, true, true, true, true, true, true, false, false, false] rfl (by kernel_rfl) (Qt.fa fo28_6) ?_
  refine WD.take (i := 9) #[true, true, true, true, true, true, true, true, true, true, false, false] rfl (by kernel_rfl) (Qt.ld sc3) ?_
  refine WD.take (i := 10) #[true, true, true, true, true, true, true, true, true, true, true, false] rfl (by kernel_rfl) (Qt.build (bdArea _ _)) ?_
  refine WD.one (i := 11) #[true, true, true, true, true, true, true, true, true, true, true, true] rfl (by kernel_rfl) fun hnp => ?_
  refine WL.stV ?_ agg114
  refine WL.nil (WQ.wd hnp (.inr rfl) ?_)
  refine WD.done (by kernel_rfl) ?_
  refine WQ.next ?_
  refine WC.ret (?_)
  exact WQ.ret1 ⟨_, ⟨rfl, rfl⟩, Am.auto⟩
theorem alInodes {a c : Nat} {p : Pl} : Spec Tryz.prog 66 #[.pointer (some ⟨a, 0, none⟩)] [pt a (alO c p)] fun F v M => v = areaV p.im p.ino ∧ M = pt a (alO c p) :: F := by
  refine Spec.intro Tryz.func66 rfl rfl fun B F => ?_
  simp only [Tryz.ntmps66, List.cons_append, List.nil_append, env0, Nat.reduceAdd]
  refine WC.seq ?_
  refine WC.region ?_
  refine WL.alloc z114 fun b2 => ?_
  refine WL.nil ?_
  refine WQ.next ?_
  refine WC.seq ?_
  refine WC.draw ([pt a (alO c p)]) [11] 12 #[false, false, false, false, false, false, false, false, false, false, false, false] mixed (by kernel_rfl) NoPanic.autoJ ?_
  refine WD.take (i := 0) #[true, false, false, false, false, false, false, false, false, false, false, false] rfl (by kernel_rfl) (Qt.move ) ?_
  refine WD.take (i := 1) #[true, true, false, false, false, false, false, false, false, false, false, false] rfl (by kernel_rfl) (Qt.nilCheck ) ?_
  refine WD.take (i := 2) #[true, true, true, false, false, false, false, false, false, false, false, false] rfl (by kernel_rfl) (Qt.fa fo154_1) ?_
  refine WD.take (i := 3) #[true, true, true, true, false, false, false, false, false, false, false, false] rfl (by kernel_rfl) (Qt.fa fo28_2) ?_
  refine WD.take (i := 4) #[true, true, true, true, true, false, false, false, false, false, false, false] rfl (by kernel_rfl) (Qt.ld sc3) ?_
  refine WD.take (i := 5) #[true, true, true, true, true, true, false, false, false, false, false, false] rfl (by kernel_rfl) (Qt.move ) ?_
  refine WD.take (i := 6) #[true, true, true, true, true, true, true, false, false, false, false, false] rfl (by kernel_rfl) (Qt.nilCheck ) ?_
  refine WD.take (i := 7) #[true, true, true, true, true, true, true, true, false, false, false, false] rfl (by kernel_rfl) (Qt.fa fo154_1) ?_
  refine WD.take (i := 8) #[true, true, true, true, true, true, true, true, true, false, false, false] rfl (by kernel_rfl) (Qt.fa fo28_1) ?_
  refine WD.take (i := 9) #[true, true, true, true, true, true, true, true, true, true, false, false] rfl (by kernel_rfl) (Qt.ld sc3) ?_
  refine WD.take (i := 10) #[true, true, true, true, true, true, true, true, true, true, true, false] rfl (by kernel_rfl) (Qt.build (bdArea _ _)) ?_
  refine WD.one (i := 11) #[true, true, true, true, true, true, true, true, true, true, true, true] rfl (by kernel_rfl) fun hnp => ?_
  refine WL.stV ?_ agg114
  refine WL.nil (WQ.wd hnp (.inr rfl) ?_)
  refine WD.done (by kernel_rfl) ?_
  refine WQ.next ?_
  refine WC.ret (?_)
  exact WQ.ret1 ⟨_, ⟨rfl, rfl⟩, Am.auto⟩
theorem alReady {a c n : Nat} {p : Pl} {V0 V : Nat → Bytes} {D : List Nat} {op : Bool} : Spec Tryz.prog 93 #[.pointer (some ⟨a, 0, none⟩)] [pt a (alO c p), TR c n V0 V D op] fun F v M => v = .bool op ∧ M = pt a (alO c p) :: TR c n V0 V D op :: F := by
  refine Spec.intro Tryz.func93 rfl rfl fun B F => ?_
  simp only [Tryz.ntmps93, List.cons_append, List.nil_append, env0, Nat.reduceAdd]
  refine WC.seq ?_
  refine WC.region ?_
  refine WL.assign ?_
  refine WL.nil ?_
  refine WQ.next ?_
  refine WC.seq ?_
  refine WC.region ?_
  refine WL.move ?_
  refine WL.neNil ?_ ptr25
  refine WL.move ?_
  refine WL.gT ?_
  refine WL.move ?_
  refine WL.gT ?_
  refine WL.nilCheck ?_
  refine WL.gT ?_
  refine WL.fa ?_ fo154_0
  refine WL.gT ?_
  refine WL.ld ?_ sc24
  refine WL.gT ?_
  refine WL.call (hc := Tryz.call55) (sp := tOpen (n := n) (V0 := V0) (V := V) (D := D) (op := op)) (h := ?_)
  rintro _ _ ⟨rfl, rfl⟩
  refine WL.pickT ?_
  refine WL.assign ?_
  refine WL.nil ?_
  refine WQ.next ?_
  refine WC.ret (?_)
  exact WQ.ret1 (h1 := .tmp (t := 2) rfl) ⟨_, ⟨rfl, rfl⟩, Am.auto⟩
theorem areaEach {f first many : Nat} {cap : Array Value} (I : Nat → List HP) (H : Nat → Prop) (K : List HP → Prop) (hc : ∀ args w, (callFunc f args).run Tryz.prog w = .ok (.enter f args) w) (hm : many ≤ 65536) (hf : first ≤ 65536) (h0 : H 0)
    (hs : ∀ j : Nat, 4096 * j < many → H j → Spec Tryz.prog f (#[.int .i64 ((first + j : Nat) : Int), .int .i64 ((4096 * j : Nat) : Int), .int .i64 ((min (many - 4096 * j) 4096 : Nat) : Int)] ++ cap) (I j) fun F v M => (v = .bool true ∧ H (j + 1) ∧ M = I (j + 1) ++ F) ∨ (v = .bool false ∧ ∃ Q, K Q ∧ M = Q ++ F)) :
    Spec Tryz.prog 94 #[areaV first many, .func (.func f) #[] cap] (I 0) fun F v M => v = .tuple #[] ∧ ((∃ j, many ≤ 4096 * j ∧ H j ∧ M = I j ++ F) ∨ ∃ Q, K Q ∧ M = Q ++ F) := by
  refine Spec.intro Tryz.func94 rfl rfl fun B F => ?_
  simp only [Tryz.ntmps94, List.cons_append, List.nil_append, env0, Nat.reduceAdd]
  refine WC.seq ?_
  refine WC.region ?_
  refine WL.box fun b2 => ?_
  refine WL.nil ?_
  refine WQ.next ?_
  refine WC.seq ?_
  refine WC.region ?_
  refine WL.assign ?_
  refine WL.nil ?_
  refine WQ.next ?_
  refine WC.block ?_
  refine WC.loopA (σ := Nat) (fun j => [(1, .func (.func f) #[] cap), (2, .pointer (some ⟨b2, 0, none⟩)), (4, .int .i64 ((4096 * j : Nat) : Int))]) (fun j => I j ++ (pt b2 (.cells #[.int .i64 (first : Int), .int .i64 (many : Int)] 114 (0, 0)) :: F)) (fun j => H j) (fun j => many - 4096 * j) 0 h0 ?_ (hI := Am.toMid)
  rintro j hp
  refine WC.seq ?_
  refine WC.seq ?_
  refine WC.region ?_
  refine WL.move ?_
  refine WL.fa ?_ fo114_1
  refine WL.ld ?_ sc3 (hm := Mem.mid)
  refine WL.lss ?_
  refine WL.nil ?_
  refine WQ.next ?_
  refine WC.cond rfl (fun hb => ?_) (fun hb => ?_)
  · have hlt : 4096 * j < many := by have := of_decide_eq_true hb; omega
    refine WC.skip ?_
    refine WQ.next ?_
    refine WC.seq ?_
    refine WC.block ?_
    refine WC.seq ?_
    refine WC.region ?_
    refine WL.move ?_
    refine WL.fa ?_ fo114_0
    refine WL.ld ?_ sc3 (hm := Mem.mid)
    refine WL.move ?_
    refine WL.quo ?_
    refine WL.add ?_
    refine WL.cast (d := 16) (u := .int .i64 ((first + j : Nat) : Int)) rfl (congrArg (Value.int .i64) (by omega)) ?_
    refine WL.move ?_
    refine WL.fa ?_ fo114_1
    refine WL.ld ?_ sc3 (hm := Mem.mid)
    refine WL.move ?_
    refine WL.sub ?_
    refine WL.minI ?_
    refine WL.cast (d := 22) (u := .int .i64 ((min (many - 4096 * j) 4096 : Nat) : Int)) rfl (congrArg (Value.int .i64) (by split <;> omega)) ?_
    refine WL.callF (t := 11) (vs := [.int .i64 ((first + j : Nat) : Int), .int .i64 ((4096 * j : Nat) : Int), .int .i64 ((min (many - 4096 * j) 4096 : Nat) : Int)]) rfl rfl hc (by simpa using hs j hlt hp) ?_ Tk.app
    rintro v M (⟨rfl, hH, rfl⟩ | ⟨rfl, Q, hQ, rfl⟩)
    · refine WL.not ?_
      refine WL.nil ?_
      refine WQ.next ?_
      refine WC.condF rfl rfl ?_
      refine WC.skip ?_
      refine WQ.blockNormal ?_
      refine WQ.next ?_
      refine WC.region ?_
      refine WL.move ?_
      refine WL.add ?_
      refine WL.assign ?_
      refine WL.nil ?_
      refine WQ.cast (d := 4) (u := .int .i64 ((4096 * (j + 1) : Nat) : Int)) rfl (congrArg (Value.int .i64) (by omega)) ?_
      exact WQ.back (j + 1) hH (by omega) (hI := .refl)
    · refine WL.not ?_
      refine WL.nil ?_
      refine WQ.next ?_
      refine WC.condT rfl rfl ?_
      refine WC.ret (WQ.blockRet (WQ.thenRet (WQ.thenRet (WQ.blockRet (?_)))))
      exact WQ.ret0 ⟨_, ⟨rfl, .inr ⟨Q, hQ, rfl⟩⟩, Am.trans_mid⟩
  · have hge : ¬ 4096 * j < many := by have := of_decide_eq_false hb; omega
    refine WC.exit (WQ.thenExit (WQ.thenExit (WQ.blockExit (?_))))
    exact WQ.ret0 ⟨_, ⟨rfl, .inl ⟨j, by omega, hp, rfl⟩⟩, Am.trans_mid⟩
def dig (V : Nat → Bytes) (first k : Nat) : Bool := tb (V (first + k / 4096)) (k % 4096)
theorem dig_at (V : Nat → Bytes) (first j i : Nat) (hi : i < 4096) : dig V first (4096 * j + i) = tb (V (first + j)) i := by
  unfold dig
  rw [show (4096 * j + i) / 4096 = j from by omega, show (4096 * j + i) % 4096 = i from by omega]
theorem tb_cases (xs : Bytes) : ∀ n : Nat, (∀ i < n, tb xs i = true) ∨ ∃ i < n, tb xs i = false ∧ ∀ j < i, tb xs j = true
  | 0 => .inl fun i hi => by omega
  | n + 1 => by
    rcases tb_cases xs n with h | ⟨i, hi, h1, h2⟩
    · cases hn : tb xs n with
      | true =>
        refine .inl fun i hi => ?_
        by_cases hin : i = n
        · subst hin; exact hn
        · exact h i (by omega)
      | false => exact .inr ⟨n, by omega, hn, h⟩
    · exact .inr ⟨i, by omega, h1, h2⟩
def boxA (b a : Nat) : HP := pt b (.cells #[.pointer (some ⟨a, 0, none⟩)] 25 (0, 0))
def errC (b : Nat) (e : Int) : HP := pt b (.cells #[.int .i64 e] 35 (0, 0))
def intC (b : Nat) (i : Int) : HP := pt b (.cells #[.int .i64 i] 3 (0, 0))
theorem alTake1 {a c n b2 b4 b5 blk fr mj : Nat} {p : Pl} {V0 V : Nat → Bytes} {D : List Nat} (h5 : 245 ≤ blk) (hk : blk < n) (hm : mj ≤ 4096) (hfr : fr ≤ 65536) (hroom : blk ∈ D ∨ D.length < 60) :
    Spec Tryz.prog 125 #[.int .i64 (blk : Int), .int .i64 (fr : Int), .int .i64 (mj : Int), .pointer (some ⟨b2, 0, none⟩), .pointer (some ⟨b5, 0, none⟩), .pointer (some ⟨b4, 0, none⟩)] [boxA b2 a, errC b5 3, intC b4 (-1), pt a (alO c p), TR c n V0 V D true] fun F v M =>
      (v = .bool true ∧ (∀ i < mj, tb (V blk) i = true) ∧ M = [boxA b2 a, errC b5 3, intC b4 (-1), pt a (alO c p), TR c n V0 V D true] ++ F) ∨
      (v = .bool false ∧ ∃ i, i < mj ∧ tb (V blk) i = false ∧ (∀ j < i, tb (V blk) j = true) ∧ M = [boxA b2 a, errC b5 0, intC b4 ((fr + i : Nat) : Int), pt a (alO c p), TR c n V0 (wr V blk (setDigit (V blk) i true)) (insD D blk) true] ++ F) := by
  refine Spec.intro Tryz.func125 rfl rfl fun B F => ?_
  simp only [Tryz.ntmps125, List.cons_append, List.nil_append, env0, Nat.reduceAdd]
  simp only [boxA, errC, intC]
  refine WC.seq ?_
  refine WC.region ?_
  refine WL.assign ?_
  refine WL.nil ?_
  refine WQ.next ?_
  refine WC.seq ?_
  refine WC.region ?_
  refine WL.ld ?_ sc25
  refine WL.nilCheck ?_
  refine WL.fa ?_ fo154_0
  refine WL.ld ?_ sc24
  refine WL.move ?_
  refine WL.call (hc := Tryz.call63) (sp := tRead (n := n) (V0 := V0) (V := V) (D := D) (op := true) h5 hk) (h := ?_)
  rintro _ _ ⟨gb, q, el, rfl, ⟨hq1, hq2, hl5⟩, rfl⟩
  refine WL.move ?_
  refine WL.extract ?_
  refine WL.extract ?_
  refine WL.assign ?_
  refine WL.assign ?_
  refine WL.nil ?_
  refine WQ.next ?_
  refine WC.seq ?_
  refine WC.seq ?_
  refine WC.region ?_
  refine WL.move ?_
  refine WL.nei ?_
  refine WL.nil ?_
  refine WQ.next ?_
  refine WC.condF rfl rfl ?_
  refine WC.skip ?_
  refine WQ.next ?_
  refine WC.seq ?_
  refine WC.region ?_
  refine WL.move ?_
  refine WL.move ?_
  refine WL.call (hc := Tryz.call126) (sp := bitsFirst Reads.buf hl5 (by decide) (m := (mj : Int)) (by omega)) (h := ?_)
  rintro _ _ ⟨rfl, rfl⟩
  refine WL.assign ?_
  refine WL.nil ?_
  refine WQ.next ?_
  refine WC.seq ?_
  refine WC.seq ?_
  refine WC.region ?_
  refine WL.move ?_
  refine WL.lss ?_
  refine WL.nil ?_
  refine WQ.next ?_
  rcases tb_cases (V blk) mj with hall | ⟨i, hi, hi0, hib⟩
  · have hf0 : first0 (V blk) mj = none := first0_none hall
    refine WC.cast (d := 29) (u := .bool true) rfl (congrArg Value.bool (by rw [Int.toNat_natCast, hf0]; rfl)) ?_
    refine WC.condT rfl rfl ?_
    refine WC.seq ?_
    refine WC.region ?_
    refine WL.assign ?_
    refine WL.nil ?_
    refine WQ.next ?_
    refine WC.ret (WQ.thenRet (?_))
    exact WQ.ret1 (h1 := .tmp (t := 9) rfl) ⟨_, .inl ⟨rfl, hall, rfl⟩, Am.auto⟩
  · have hf0 : first0 (V blk) mj = some i := first0_some hi hi0 hib
    refine WC.cast (d := 29) (u := .bool false) rfl (congrArg Value.bool (by rw [Int.toNat_natCast, hf0]; exact decide_eq_false (by simp only; omega))) ?_
    refine WC.cast (d := 12) (u := .int .i64 (i : Int)) rfl (congrArg (Value.int .i64) (by rw [Int.toNat_natCast, hf0])) ?_
    refine WC.condF rfl rfl ?_
    refine WC.skip ?_
    refine WQ.next ?_
    refine WC.seq ?_
    refine WC.draw ([pt b2 (.cells #[.pointer (some ⟨a, 0, none⟩)] 25 (0, 0)), pt a (alO c p)]) [13] 14 #[false, false, false, false, false, false, false, false, false, false, false, false, false, false] mixed (by kernel_rfl) NoPanic.autoJ ?_
    refine WD.take (i := 0) #[true, false, false, false, false, false, false, false, false, false, false, false, false, false] rfl (by kernel_rfl) (Qt.move ) ?_
    refine WD.take (i := 1) #[true, true, false, false, false, false, false, false, false, false, false, false, false, false] rfl (by kernel_rfl) (Qt.move ) ?_
    refine WD.take (i := 2) #[true, true, true, false, false, false, false, false, false, false, false, false, false, false] rfl (by kernel_rfl) (Qt.add ) ?_
    refine WD.take (i := 3) #[true, true, true, true, false, false, false, false, false, false, false, false, false, false] rfl (by kernel_rfl) (Qt.ld sc25) ?_
    refine WD.take (i := 4) #[true, true, true, true, true, false, false, false, false, false, false, false, false, false] rfl (by kernel_rfl) (Qt.nilCheck ) ?_
    refine WD.take (i := 5) #[true, true, true, true, true, true, false, false, false, false, false, false, false, false] rfl (by kernel_rfl) (Qt.fa fo154_0) ?_
    refine WD.take (i := 6) #[true, true, true, true, true, true, true, false, false, false, false, false, false, false] rfl (by kernel_rfl) (Qt.ld sc24) ?_
    refine WD.take (i := 7) #[true, true, true, true, true, true, true, true, false, false, false, false, false, false] rfl (by kernel_rfl) (Qt.move ) ?_
    refine WD.take (i := 8) #[true, true, true, true, true, true, true, true, true, false, false, false, false, false] rfl (by kernel_rfl) (Qt.move ) ?_
    refine WD.take (i := 9) #[true, true, true, true, true, true, true, true, true, true, false, false, false, false] rfl (by kernel_rfl) (Qt.move ) ?_
    refine WD.one (i := 10) #[true, true, true, true, true, true, true, true, true, true, true, false, false, false] rfl (by kernel_rfl) fun hnp => ?_
    refine WL.call (hc := Tryz.call127) (sp := bitsSet Reads.buf hl5 (by decide) (k := (i : Int)) (by omega) (by omega)) (h := ?_)
    rintro _ _ ⟨gc, kc, ⟨rfl, hc1, hc2⟩, rfl⟩
    rw [Int.toNat_natCast]
    refine WL.nil (WQ.wd hnp (.inl Am.auto) ?_)
    refine WD.one (i := 11) #[true, true, true, true, true, true, true, true, true, true, true, true, false, false] rfl (by kernel_rfl) fun hnp => ?_
    refine WL.call (hc := Tryz.call96) (sp := tWrite (n := n) (V0 := V0) (V := V) (D := D) h5 hk Reads.buf ((setDigit_length _ _ _).trans hl5) rfl hroom) (h := ?_)
    rintro _ _ ⟨rfl, rfl⟩
    refine WL.nil (WQ.wd hnp (.inl Am.auto) ?_)
    refine WD.one (i := 12) #[true, true, true, true, true, true, true, true, true, true, true, true, true, false] rfl (by kernel_rfl) fun hnp => ?_
    refine WL.st ?_ sc3
    refine WL.nil (WQ.wd hnp (.inl Am.auto) ?_)
    refine WD.one (i := 13) #[true, true, true, true, true, true, true, true, true, true, true, true, true, true] rfl (by kernel_rfl) fun hnp => ?_
    refine WL.st ?_ sc35
    refine WL.nil (WQ.wd hnp (.inr rfl) ?_)
    refine WD.done (by kernel_rfl) ?_
    refine WQ.next ?_
    refine WC.seq ?_
    refine WC.region ?_
    refine WL.assign ?_
    refine WL.nil ?_
    refine WQ.next ?_
    refine WC.ret (?_)
    exact WQ.ret1 (h1 := .tmp (t := 9) rfl) ⟨_, .inr ⟨rfl, i, hi, hi0, hib, rfl⟩, Am.auto⟩
def setD (V : Nat → Bytes) (first k : Nat) (on : Bool) : Nat → Bytes := wr V (first + k / 4096) (setDigit (V (first + k / 4096)) (k % 4096) on)
structure AreaOk (n first many : Nat) : Prop where
  lo : 245 ≤ first
  hi : first + (many + 4095) / 4096 ≤ n
  few : many ≤ 65536
  n2 : n ≤ 65536
theorem AreaOk.blk {n first many : Nat} (h : AreaOk n first many) {j : Nat} (hj : 4096 * j < many) : 245 ≤ first + j ∧ first + j < n := by
  have := h.lo
  have := h.hi
  omega
def takeI (a c n b2 b4 b5 : Nat) (p : Pl) (V0 V : Nat → Bytes) (D : List Nat) : List HP := [boxA b2 a, errC b5 3, intC b4 (-1), pt a (alO c p), TR c n V0 V D true]
def takeK (a c n b2 b4 b5 first many : Nat) (p : Pl) (V0 V : Nat → Bytes) (D : List Nat) (Q : List HP) : Prop := ∃ k, k < many ∧ dig V first k = false ∧ (∀ i < k, dig V first i = true) ∧ Q = [boxA b2 a, errC b5 0, intC b4 (k : Int), pt a (alO c p), TR c n V0 (setD V first k true) (insD D (first + k / 4096)) true]
def takeH (V : Nat → Bytes) (first many j : Nat) : Prop := ∀ i, i < 4096 * j → i < many → dig V first i = true
theorem takeEach {a c n b2 b4 b5 first many : Nat} {p : Pl} {V0 V : Nat → Bytes} {D : List Nat} (h : AreaOk n first many) (hroom : ∀ j, 4096 * j < many → first + j ∈ D ∨ D.length < 60) :
    Spec Tryz.prog 94 #[areaV first many, .func (.func 125) #[] #[.pointer (some ⟨b2, 0, none⟩), .pointer (some ⟨b5, 0, none⟩), .pointer (some ⟨b4, 0, none⟩)]] (takeI a c n b2 b4 b5 p V0 V D)
      fun F v M => v = .tuple #[] ∧ ((∃ j, many ≤ 4096 * j ∧ takeH V first many j ∧ M = takeI a c n b2 b4 b5 p V0 V D ++ F) ∨ ∃ Q, takeK a c n b2 b4 b5 first many p V0 V D Q ∧ M = Q ++ F) := by
  refine areaEach (fun _ => takeI a c n b2 b4 b5 p V0 V D) (takeH V first many) (takeK a c n b2 b4 b5 first many p V0 V D) Tryz.call125 h.few (by have := h.hi; have := h.n2; omega) (fun i hi => by omega) fun j hj hH => ?_
  have hb := h.blk hj
  have hs := alTake1 (a := a) (c := c) (b2 := b2) (b4 := b4) (b5 := b5) (fr := 4096 * j) (mj := min (many - 4096 * j) 4096) (p := p) (V0 := V0) (V := V) hb.1 hb.2 (by omega) (by have := h.few; omega) (hroom j hj)
  refine Spec.weak hs ?_
  rintro F v M (⟨rfl, hall, rfl⟩ | ⟨rfl, i, hi, hi0, hib, rfl⟩)
  · refine ⟨_, .inl ⟨rfl, fun k hk hkm => ?_, rfl⟩, .refl⟩
    by_cases hkj : k < 4096 * j
    · exact hH k hkj hkm
    · have := dig_at V first j (k - 4096 * j) (by omega)
      rw [show 4096 * j + (k - 4096 * j) = k from by omega] at this
      rw [this]
      exact hall _ (by omega)
  · refine ⟨_, .inr ⟨rfl, _, ⟨4096 * j + i, by omega, ?_, fun k hk => ?_, rfl⟩, ?_⟩, .refl⟩
    · rw [dig_at V first j i (by omega)]; exact hi0
    · by_cases hkj : k < 4096 * j
      · exact hH k hkj (by omega)
      · have := dig_at V first j (k - 4096 * j) (by omega)
        rw [show 4096 * j + (k - 4096 * j) = k from by omega] at this
        rw [this]
        exact hib _ (by omega)
    · unfold setD
      rw [show (4096 * j + i) / 4096 = j from by omega, show (4096 * j + i) % 4096 = i from by omega]
theorem alTake {a c n first many : Nat} {p : Pl} {V0 V : Nat → Bytes} {D : List Nat} (h : AreaOk n first many) (hroom : ∀ j, 4096 * j < many → first + j ∈ D ∨ D.length < 60) :
    Spec Tryz.prog 97 #[.pointer (some ⟨a, 0, none⟩), areaV first many] [pt a (alO c p), TR c n V0 V D true] fun F v M =>
      (∃ k, k < many ∧ dig V first k = false ∧ (∀ i < k, dig V first i = true) ∧ v = .tuple #[.int .i64 (k : Int), .int .i64 0] ∧ M = [pt a (alO c p), TR c n V0 (setD V first k true) (insD D (first + k / 4096)) true] ++ F) ∨
      ((∀ i < many, dig V first i = true) ∧ v = .tuple #[.int .i64 0, .int .i64 3] ∧ M = [pt a (alO c p), TR c n V0 V D true] ++ F) := by
  refine Spec.intro Tryz.func97 rfl rfl fun B F => ?_
  simp only [Tryz.ntmps97, List.cons_append, List.nil_append, env0, Nat.reduceAdd]
  refine WC.seq ?_
  refine WC.region ?_
  refine WL.box fun b2 => ?_
  refine WL.box fun b3 => ?_
  refine WL.alloc z3 fun b4 => ?_
  refine WL.alloc z35 fun b5 => ?_
  refine WL.nil ?_
  refine WQ.next ?_
  refine WC.seq ?_
  refine WC.seq ?_
  refine WC.region ?_
  refine WL.ld ?_ sc25
  refine WL.call (hc := Tryz.call93) (sp := alReady (n := n) (V0 := V0) (V := V) (D := D) (op := true)) (h := ?_)
  rintro _ _ ⟨rfl, rfl⟩
  refine WL.not ?_
  refine WL.nil ?_
  refine WQ.next ?_
  refine WC.condF rfl rfl ?_
  refine WC.skip ?_
  refine WQ.next ?_
  refine WC.seq ?_
  refine WC.region ?_
  refine WL.st ?_ sc3
  refine WL.st ?_ sc35
  refine WL.nil ?_
  refine WQ.next ?_
  refine WC.seq ?_
  refine WC.region ?_
  refine WL.ldA ?_ agg114
  refine WL.makeFuncB ?_
  refine WL.call (hc := Tryz.call94) (sp := takeEach (a := a) (c := c) (b2 := b2) (b4 := b4) (b5 := b5) (p := p) (V0 := V0) (V := V) (D := D) h hroom) (h := ?_)
  rintro _ _ ⟨rfl, (⟨j, hj, hH, rfl⟩ | ⟨Q, ⟨k, hk, hk0, hkb, rfl⟩, rfl⟩)⟩ <;> simp only [takeI, List.cons_append, List.nil_append, errC, intC]
  · refine WL.nil ?_
    refine WQ.next ?_
    refine WC.seq ?_
    refine WC.seq ?_
    refine WC.region ?_
    refine WL.ld ?_ sc35
    refine WL.nei ?_
    refine WL.nil ?_
    refine WQ.next ?_
    refine WC.condT rfl rfl ?_
    refine WC.seq ?_
    refine WC.draw ([errC b5 3]) [2] 3 #[false, false, false] mixed (by kernel_rfl) NoPanic.autoJ ?_
    refine WD.take (i := 0) #[true, false, false] rfl (by kernel_rfl) (Qt.ld sc35) ?_
    refine WD.one (i := 1) #[true, true, false] rfl (by kernel_rfl) fun hnp => ?_
    refine WL.st ?_ sc3
    refine WL.nil (WQ.wd hnp (.inl Am.auto) ?_)
    refine WD.one (i := 2) #[true, true, true] rfl (by kernel_rfl) fun hnp => ?_
    refine WL.st ?_ sc35
    refine WL.nil (WQ.wd hnp (.inr rfl) ?_)
    refine WD.done (by kernel_rfl) ?_
    refine WQ.next ?_
    refine WC.ret (WQ.thenRet (?_))
    exact WQ.ret2 ⟨_, .inr ⟨fun i hi => hH i (by omega) hi, rfl, rfl⟩, Am.auto⟩
  · refine WL.nil ?_
    refine WQ.next ?_
    refine WC.seq ?_
    refine WC.seq ?_
    refine WC.region ?_
    refine WL.ld ?_ sc35
    refine WL.nei ?_
    refine WL.nil ?_
    refine WQ.next ?_
    refine WC.condF rfl rfl ?_
    refine WC.skip ?_
    refine WQ.next ?_
    refine WC.seq ?_
    refine WC.region ?_
    refine WL.ld ?_ sc3
    refine WL.st ?_ sc3
    refine WL.st ?_ sc35
    refine WL.nil ?_
    refine WQ.next ?_
    refine WC.ret (?_)
    exact WQ.ret2 ⟨_, .inl ⟨k, hk, hk0, hkb, rfl, rfl⟩, Am.auto⟩
structure PlOk (p : Pl) : Prop where
  aI : AreaOk p.n p.im p.ino
  aB : AreaOk p.n p.bm p.dc
  i1 : 1 ≤ p.ino
  i2 : p.ino ≤ 4096
  apart : p.im + 1 ≤ p.bm
  tbl : p.bm + (p.dc + 4095) / 4096 ≤ p.tb
  tab : p.tb + (p.ino + 7) / 8 ≤ p.da
  dat : p.da + p.dc = p.n
  d1 : 1 ≤ p.dc
def Room (D : List Nat) : Prop := D.length < 60
theorem alTakeBlock {a c : Nat} {p : Pl} {V0 V : Nat → Bytes} {D : List Nat} (h : PlOk p) (hroom : Room D) : Spec Tryz.prog 150 #[.pointer (some ⟨a, 0, none⟩)] [pt a (alO c p), TR c p.n V0 V D true] fun F v M =>
      (∃ k, k < p.dc ∧ dig V p.bm k = false ∧ (∀ i < k, dig V p.bm i = true) ∧ v = .tuple #[.int .i64 ((p.da + k : Nat) : Int), .int .i64 0] ∧ M = [pt a (alO c p), TR c p.n V0 (setD V p.bm k true) (insD D (p.bm + k / 4096)) true] ++ F) ∨
      ((∀ i < p.dc, dig V p.bm i = true) ∧ v = .tuple #[.int .i64 0, .int .i64 3] ∧ M = [pt a (alO c p), TR c p.n V0 V D true] ++ F) := by
  refine Spec.intro Tryz.func150 rfl rfl fun B F => ?_
  simp only [Tryz.ntmps150, List.cons_append, List.nil_append, env0, Nat.reduceAdd]
  have hn2 := h.aB.n2
  have hdat := h.dat
  refine WC.seq ?_
  refine WC.region ?_
  refine WL.assign ?_
  refine WL.assign ?_
  refine WL.nil ?_
  refine WQ.next ?_
  refine WC.seq ?_
  refine WC.seq ?_
  refine WC.region ?_
  refine WL.move ?_
  refine WL.eqNil ?_ ptr25
  refine WL.nil ?_
  refine WQ.next ?_
  refine WC.condF rfl rfl ?_
  refine WC.skip ?_
  refine WQ.next ?_
  refine WC.seq ?_
  refine WC.region ?_
  refine WL.move ?_
  refine WL.move ?_
  refine WL.call (hc := Tryz.call65) (sp := alBlocks) (h := ?_)
  rintro _ _ ⟨rfl, rfl⟩
  refine WL.call (hc := Tryz.call97) (sp := alTake (n := p.n) (p := p) (V0 := V0) (V := V) (D := D) h.aB (fun _ _ => .inr hroom)) (h := ?_)
  rintro _ _ (⟨k, hk, hk0, hkb, rfl, rfl⟩ | ⟨hall, rfl, rfl⟩) <;> simp only [List.cons_append, List.nil_append]
  · refine WL.move ?_
    refine WL.extract ?_
    refine WL.extract ?_
    refine WL.assign ?_
    refine WL.assign ?_
    refine WL.nil ?_
    refine WQ.next ?_
    refine WC.seq ?_
    refine WC.seq ?_
    refine WC.region ?_
    refine WL.move ?_
    refine WL.nei ?_
    refine WL.nil ?_
    refine WQ.next ?_
    refine WC.condF rfl rfl ?_
    refine WC.skip ?_
    refine WQ.next ?_
    refine WC.seq ?_
    refine WC.region ?_
    refine WL.move ?_
    refine WL.nilCheck ?_
    refine WL.fa ?_ fo154_1
    refine WL.fa ?_ fo28_5
    refine WL.ld ?_ sc3
    refine WL.move ?_
    refine WL.add ?_
    refine WL.cast (d := 24) (u := .int .i64 ((p.da + k : Nat) : Int)) rfl (congrArg (Value.int .i64) (by omega)) ?_
    refine WL.assign ?_
    refine WL.assign ?_
    refine WL.nil ?_
    refine WQ.next ?_
    refine WC.ret (?_)
    exact WQ.ret2 (h1 := .tmp (t := 2) rfl) (h2 := .tmp (t := 3) rfl) ⟨_, .inl ⟨k, hk, hk0, hkb, rfl, rfl⟩, Am.auto⟩
  · refine WL.move ?_
    refine WL.extract ?_
    refine WL.extract ?_
    refine WL.assign ?_
    refine WL.assign ?_
    refine WL.nil ?_
    refine WQ.next ?_
    refine WC.seq ?_
    refine WC.seq ?_
    refine WC.region ?_
    refine WL.move ?_
    refine WL.nei ?_
    refine WL.nil ?_
    refine WQ.next ?_
    refine WC.condT rfl rfl ?_
    refine WC.seq ?_
    refine WC.region ?_
    refine WL.move ?_
    refine WL.assign ?_
    refine WL.assign ?_
    refine WL.nil ?_
    refine WQ.next ?_
    refine WC.ret (WQ.thenRet (?_))
    exact WQ.ret2 (h1 := .tmp (t := 2) rfl) (h2 := .tmp (t := 3) rfl) ⟨_, .inr ⟨hall, rfl, rfl⟩, Am.auto⟩
theorem alTakeInode {a c : Nat} {p : Pl} {V0 V : Nat → Bytes} {D : List Nat} (h : PlOk p) (hroom : Room D) : Spec Tryz.prog 50 #[.pointer (some ⟨a, 0, none⟩)] [pt a (alO c p), TR c p.n V0 V D true] fun F v M =>
      (∃ k, k < p.ino ∧ dig V p.im k = false ∧ (∀ i < k, dig V p.im i = true) ∧ v = .tuple #[.int .i64 (k : Int), .int .i64 0] ∧ M = [pt a (alO c p), TR c p.n V0 (setD V p.im k true) (insD D (p.im + k / 4096)) true] ++ F) ∨
      ((∀ i < p.ino, dig V p.im i = true) ∧ v = .tuple #[.int .i64 0, .int .i64 3] ∧ M = [pt a (alO c p), TR c p.n V0 V D true] ++ F) := by
  refine Spec.intro Tryz.func50 rfl rfl fun B F => ?_
  simp only [Tryz.ntmps50, List.cons_append, List.nil_append, env0, Nat.reduceAdd]
  refine WC.seq ?_
  refine WC.region ?_
  refine WL.assign ?_
  refine WL.assign ?_
  refine WL.nil ?_
  refine WQ.next ?_
  refine WC.seq ?_
  refine WC.seq ?_
  refine WC.region ?_
  refine WL.move ?_
  refine WL.eqNil ?_ ptr25
  refine WL.nil ?_
  refine WQ.next ?_
  refine WC.condF rfl rfl ?_
  refine WC.skip ?_
  refine WQ.next ?_
  refine WC.seq ?_
  refine WC.region ?_
  refine WL.move ?_
  refine WL.move ?_
  refine WL.call (hc := Tryz.call66) (sp := alInodes) (h := ?_)
  rintro _ _ ⟨rfl, rfl⟩
  refine WL.call (hc := Tryz.call97) (sp := alTake (n := p.n) (p := p) (V0 := V0) (V := V) (D := D) h.aI (fun _ _ => .inr hroom)) (h := ?_)
  rintro _ _ (⟨k, hk, hk0, hkb, rfl, rfl⟩ | ⟨hall, rfl, rfl⟩) <;> simp only [List.cons_append, List.nil_append]
  · refine WL.extract ?_
    refine WL.extract ?_
    refine WL.assign ?_
    refine WL.assign ?_
    refine WL.nil ?_
    refine WQ.next ?_
    refine WC.ret (?_)
    exact WQ.ret2 (h1 := .tmp (t := 2) rfl) (h2 := .tmp (t := 3) rfl) ⟨_, .inl ⟨k, hk, hk0, hkb, rfl, rfl⟩, Am.auto⟩
  · refine WL.extract ?_
    refine WL.extract ?_
    refine WL.assign ?_
    refine WL.assign ?_
    refine WL.nil ?_
    refine WQ.next ?_
    refine WC.ret (?_)
    exact WQ.ret2 (h1 := .tmp (t := 2) rfl) (h2 := .tmp (t := 3) rfl) ⟨_, .inr ⟨hall, rfl, rfl⟩, Am.auto⟩
end Go.Proofs.YtedmihapieleaaaGreat
end
