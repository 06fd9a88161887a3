/- Walks of package device. -/
import Derived.Test.YtedmihapieleaaaGreatFa
import Derived.Test.YtedmihapieleaaaGreatWb
import Derived.Test.YtedmihapieleaaaGreatSc
import Derived.KernelRfl
set_option linter.unusedVariables false
set_option linter.unusedSimpArgs false
namespace Go.Proofs.YtedmihapieleaaaGreat
open Go

def devO (n : Nat) (fl wr mn : Nat) (ops left : Int) : Obj := .cells #[.int .i64 (n : Int), .map (some fl), .map (some wr), .map (some mn), .int .i64 ops, .bool false, .int .i64 left] 175 (0, 0)
abbrev intE : Int → Value := Value.int .i64
abbrev pairE : Int × Int → Value := fun k => Value.agg (ints [k.1, k.2]).toArray
theorem klInt {kt : Nat} (h : intOk Tryz.prog kt .i64 = true) : KeyLaw Tryz.prog kt intE := intKeys (int_of h)
theorem klF : KeyLaw Tryz.prog 3 intE := klInt (by kernel_rfl)
theorem klW : KeyLaw Tryz.prog 179 pairE := structKeys (fun k : Int × Int => [k.1, k.2]) (n := 2) (by kernel_rfl) (fun _ => rfl) (fun a b h => by
  obtain ⟨a1, a2⟩ := a
  obtain ⟨b1, b2⟩ := b
  simp only [List.cons.injEq, and_true] at h
  rw [h.1, h.2])
theorem bdPend (a b : Int) : BuildOk Tryz.prog 179 [(0, .int .i64 a), (1, .int .i64 b)] #[.int .i64 a, .int .i64 b] := fun w => by kernel_rfl
theorem bdDev (n : Int) (a b c : Nat) : BuildOk Tryz.prog 175 [(0, .int .i64 n), (1, .map (some a)), (2, .map (some b)), (3, .map (some c))] #[.int .i64 n, .map (some a), .map (some b), .map (some c), .int .i64 0, .bool false, .int .i64 0] := fun w => by kernel_rfl
def nilS : Value := .slice none 0 0
/-- What 'last' answers. -/
def lastV (kF : List (Int × Value)) (kW : List ((Int × Int) × Value)) (k c : Int) : Value := if 0 < c then (kget kW (k, c)).getD nilS else (kget kF k).getD nilS
def zeros : Bytes := List.replicate 512 0
theorem zeros_length : zeros.length = 512 := List.length_replicate
/-- What a device bears within. -/
structure DevX where
  fl : Nat
  wr : Nat
  mn : Nat
  esF : Array MapEntry
  esW : Array MapEntry
  esM : Array MapEntry
  cF : Nat
  cW : Nat
  cM : Nat
  kF : List (Int × Value)
  kW : List ((Int × Int) × Value)
  kM : List (Int × Value)
  bl : List (Value × Bytes)
  ops : Int
  left : Int
/-- Block k holds xs. -/
def Holds1 (kF : List (Int × Value)) (kW : List ((Int × Int) × Value)) (bl : List (Value × Bytes)) (k c : Int) (xs : Bytes) : Prop :=
  (lastV kF kW k c = nilS ∧ xs = zeros) ∨ (lastV kF kW k c, xs) ∈ bl
structure DevP (n : Nat) (cur : Nat → Bytes) (t : Nat) (x : DevX) : Prop where
  mF : MapIs intE x.esF x.cF x.kF
  mW : MapIs pairE x.esW x.cW x.kW
  mM : MapIs intE x.esM x.cM x.kM
  n1 : 1 ≤ n
  n2 : n ≤ 65536
  len : ∀ p ∈ x.bl, p.2.length = 512
  many : ∀ k v, kget x.kM k = some v → ∃ c : Int, v = .int .i64 c ∧ 0 ≤ c ∧ c ≤ (t : Int)
  dom : ∀ k v, kget x.kM k = some v → 0 ≤ k ∧ k < (n : Int)
  holds : ∀ k : Nat, k < n → ∀ c : Int, (kget x.kM (k : Int)).getD (.int .i64 0) = .int .i64 c → Holds1 x.kF x.kW x.bl k c (cur k)
def devL (d n : Nat) (x : DevX) : List HP := [pt d (devO n x.fl x.wr x.mn x.ops x.left), pt x.fl (.map x.esF x.cF), pt x.wr (.map x.esW x.cW), pt x.mn (.map x.esM x.cM), blobs x.bl]
/-- A device of n blocks, that never lost its power; block k holds cur k; no block was written more than t times since the last flush. -/
def DevR (d n : Nat) (cur : Nat → Bytes) (t : Nat) : HP := fun h => ∃ x, DevP n cur t x ∧ star (devL d n x) h
theorem DevR.opens (d n : Nat) (cur : Nat → Bytes) (t : Nat) : Opens (DevR d n cur t) (DevP n cur t) (devL d n) := ⟨fun h hh => hh, fun x hp h hh => ⟨x, hp, hh⟩⟩
attribute [irreducible] DevR
theorem getM_int {n t : Nat} {cur : Nat → Bytes} {x : DevX} (hp : DevP n cur t x) (k : Int) : ∃ c : Int, (kget x.kM k).getD (.int .i64 0) = .int .i64 c ∧ 0 ≤ c ∧ c ≤ (t : Int) := by
  cases h : kget x.kM k with
  | none => exact ⟨0, rfl, by omega, by omega⟩
  | some v => obtain ⟨c, rfl, h1, h2⟩ := hp.many k v h; exact ⟨c, rfl, h1, h2⟩

theorem devMade {n : Int} : Spec Tryz.prog 79 #[.int .i64 n] [] fun F v M => ∃ d fl wr mn, v = .pointer (some ⟨d, 0, none⟩) ∧ M = pt d (.cells #[.int .i64 n, .map (some fl), .map (some wr), .map (some mn), .int .i64 0, .bool false, .int .i64 0] 175 (0, 0)) :: pt mn (.map #[] 0) :: pt wr (.map #[] 0) :: pt fl (.map #[] 0) :: F := by
  refine Spec.intro Tryz.func79 rfl rfl fun B F => ?_
  simp only [Tryz.ntmps79, List.cons_append, List.nil_append, env0, Nat.reduceAdd]
  refine WC.seq ?_
  refine WC.region ?_
  refine WL.assign ?_
  refine WL.nil ?_
  refine WQ.next ?_
  refine WC.seq ?_
  refine WC.region ?_
  refine WL.move ?_
  refine WL.mkMap fun m4 => ?_
  refine WL.mkMap fun m5 => ?_
  refine WL.mkMap fun m6 => ?_
  refine WL.build ?_ (bdDev _ _ _ _)
  refine WL.box fun b8 => ?_
  refine WL.assign ?_
  refine WL.nil ?_
  refine WQ.next ?_
  refine WC.ret (?_)
  exact WQ.ret1 (h1 := .tmp (t := 2) rfl) ⟨_, ⟨_, _, _, _, rfl, rfl⟩, Am.auto⟩

theorem devNew {n : Nat} (h1 : 1 ≤ n) (h2 : n ≤ 65536) : Spec Tryz.prog 41 #[.int .i64 (n : Int)] [] fun F v M => ∃ d, v = .tuple #[.pointer (some ⟨d, 0, none⟩), .int .i64 0] ∧ M = DevR d n (fun _ => zeros) 0 :: F := by
  refine Spec.intro Tryz.func41 rfl rfl fun B F => ?_
  simp only [Tryz.ntmps41, List.cons_append, List.nil_append, env0, Nat.reduceAdd]
  refine WC.seq ?_
  refine WC.region ?_
  refine WL.assign ?_
  refine WL.assign ?_
  refine WL.nil ?_
  refine WQ.next ?_
  refine WC.seq ?_
  refine WC.seq ?_
  refine WC.region ?_
  refine WL.move ?_
  refine WL.lss ?_
  refine WL.move ?_
  refine WL.cast (d := 6) (u := .bool false) rfl (congrArg Value.bool (by first | (simp; done) | (simp; omega) | omega)) ?_
  refine WL.gT ?_
  refine WL.move ?_
  refine WL.gT ?_
  refine WL.gtr ?_
  refine WL.pickF ?_
  refine WL.nil ?_
  refine WQ.next ?_
  refine WC.condF rfl (congrArg Value.bool (by first | (simp; done) | (simp; omega) | omega)) ?_
  refine WC.skip ?_
  refine WQ.next ?_
  refine WC.seq ?_
  refine WC.region ?_
  refine WL.move ?_
  refine WL.call (hc := Tryz.call79) (sp := devMade) (h := ?_)
  rintro _ _ ⟨d, fl, wr, mn, rfl, rfl⟩
  refine WL.assign ?_
  refine WL.assign ?_
  refine WL.nil ?_
  refine WQ.next ?_
  refine WC.ret (?_)
  refine WQ.blobsNil ?_
  refine WQ.shutR (DevR.opens d n (fun _ => zeros) 0) ⟨fl, wr, mn, #[], #[], #[], 0, 0, 0, [], [], [], [], 0, 0⟩ ⟨MapIs.empty _ _, MapIs.empty _ _, MapIs.empty _ _, h1, h2, by simp, by simp [kget], by simp [kget], ?_⟩ ?_
  · intro k hk c hc
    simp only [kget, Option.getD_none, Value.int.injEq, true_and] at hc
    subst hc
    exact .inl ⟨rfl, rfl⟩
  exact WQ.ret2 (h1 := .tmp (t := 2) rfl) (h2 := .tmp (t := 3) rfl) ⟨_, ⟨d, rfl, rfl⟩, Am.auto⟩

theorem devBlocks {d n fl wr mn : Nat} {ops left : Int} : Spec Tryz.prog 80 #[.pointer (some ⟨d, 0, none⟩)] [pt d (devO n fl wr mn ops left)] fun F v M => v = .int .i64 (n : Int) ∧ M = pt d (devO n fl wr mn ops left) :: F := by
  refine Spec.intro Tryz.func80 rfl rfl fun B F => ?_
  simp only [Tryz.ntmps80, List.cons_append, List.nil_append, env0, Nat.reduceAdd]
  refine WC.seq ?_
  refine WC.region ?_
  refine WL.assign ?_
  refine WL.nil ?_
  refine WQ.next ?_
  refine WC.seq ?_
  refine WC.seq ?_
  refine WC.region ?_
  refine WL.move ?_
  refine WL.eqNil ?_ ptr76
  refine WL.nil ?_
  refine WQ.next ?_
  refine WC.condF rfl rfl ?_
  refine WC.skip ?_
  refine WQ.next ?_
  refine WC.seq ?_
  refine WC.region ?_
  refine WL.move ?_
  refine WL.nilCheck ?_
  refine WL.fa ?_ fo175_0
  refine WL.ld ?_ sc3
  refine WL.assign ?_
  refine WL.nil ?_
  refine WQ.next ?_
  refine WC.ret (?_)
  exact WQ.ret1 (h1 := .tmp (t := 2) rfl) ⟨_, ⟨rfl, rfl⟩, Am.auto⟩

theorem devBlocksR {d n t : Nat} {cur : Nat → Bytes} : Spec Tryz.prog 80 #[.pointer (some ⟨d, 0, none⟩)] [DevR d n cur t] fun F v M => v = .int .i64 (n : Int) ∧ M = DevR d n cur t :: F := by
  refine Spec.intro Tryz.func80 rfl rfl fun B F => ?_
  simp only [Tryz.ntmps80, List.cons_append, List.nil_append, env0, Nat.reduceAdd]
  refine WC.openR (DevR.opens d n cur t) fun x hp => ?_
  simp only [devL, List.cons_append, List.nil_append]
  refine WC.seq ?_
  refine WC.region ?_
  refine WL.assign ?_
  refine WL.nil ?_
  refine WQ.next ?_
  refine WC.seq ?_
  refine WC.seq ?_
  refine WC.region ?_
  refine WL.move ?_
  refine WL.eqNil ?_ ptr76
  refine WL.nil ?_
  refine WQ.next ?_
  refine WC.condF rfl rfl ?_
  refine WC.skip ?_
  refine WQ.next ?_
  refine WC.seq ?_
  refine WC.region ?_
  refine WL.move ?_
  refine WL.nilCheck ?_
  refine WL.fa ?_ fo175_0
  refine WL.ld ?_ sc3
  refine WL.assign ?_
  refine WL.nil ?_
  refine WQ.next ?_
  refine WC.ret (?_)
  refine WQ.shutR (DevR.opens d n cur t) x hp ?_
  exact WQ.ret1 (h1 := .tmp (t := 2) rfl) ⟨_, ⟨rfl, rfl⟩, Am.auto⟩

theorem devOp {d n fl wr mn : Nat} {ops left : Int} (hn : 1 ≤ n) : Spec Tryz.prog 122 #[.pointer (some ⟨d, 0, none⟩)] [pt d (devO n fl wr mn ops left)] fun F v M => ∃ ops' left', v = .bool true ∧ M = pt d (devO n fl wr mn ops' left') :: F := by
  refine Spec.intro Tryz.func122 rfl rfl fun B F => ?_
  simp only [Tryz.ntmps122, List.cons_append, List.nil_append, env0, Nat.reduceAdd]
  refine WC.seq ?_
  refine WC.region ?_
  refine WL.assign ?_
  refine WL.nil ?_
  refine WQ.next ?_
  refine WC.seq ?_
  refine WC.seq ?_
  refine WC.region ?_
  refine WL.move ?_
  refine WL.eqNil ?_ ptr76
  refine WL.move ?_
  refine WL.gT ?_
  refine WL.move ?_
  refine WL.gT ?_
  refine WL.nilCheck ?_
  refine WL.gT ?_
  refine WL.fa ?_ fo175_0
  refine WL.gT ?_
  refine WL.ld ?_ sc3
  refine WL.gT ?_
  refine WL.eqi ?_
  refine WL.pickF ?_
  refine WL.nil ?_
  refine WQ.next ?_
  refine WC.condF rfl (congrArg Value.bool (by first | (simp; done) | (simp; omega) | omega)) ?_
  refine WC.skip ?_
  refine WQ.next ?_
  refine WC.seq ?_
  refine WC.region ?_
  refine WL.move ?_
  refine WL.nilCheck ?_
  refine WL.fa ?_ fo175_4
  refine WL.ld ?_ sc3
  refine WL.addw ?_
  refine WL.nilCheck ?_
  refine WL.fa ?_ fo175_4
  refine WL.st ?_ sc3
  refine WL.nil ?_
  refine WQ.next ?_
  refine WC.seq ?_
  refine WC.seq ?_
  refine WC.region ?_
  refine WL.move ?_
  refine WL.nilCheck ?_
  refine WL.fa ?_ fo175_5
  refine WL.ld ?_ sc4
  refine WL.move ?_
  refine WL.gF ?_
  refine WL.gF ?_
  refine WL.gF ?_
  refine WL.gF ?_
  refine WL.gF ?_
  refine WL.pickF ?_
  refine WL.nil ?_
  refine WQ.next ?_
  refine WC.condF rfl rfl ?_
  refine WC.skip ?_
  refine WQ.next ?_
  refine WC.seq ?_
  refine WC.region ?_
  refine WL.move ?_
  refine WL.nilCheck ?_
  refine WL.fa ?_ fo175_6
  refine WL.ld ?_ sc3
  refine WL.subw ?_
  refine WL.nilCheck ?_
  refine WL.fa ?_ fo175_6
  refine WL.st ?_ sc3
  refine WL.nil ?_
  refine WQ.next ?_
  refine WC.seq ?_
  refine WC.region ?_
  refine WL.assign ?_
  refine WL.nil ?_
  refine WQ.next ?_
  refine WC.ret (?_)
  exact WQ.ret1 (h1 := .tmp (t := 2) rfl) ⟨_, ⟨_, _, rfl, rfl⟩, Am.auto⟩

theorem devLast {d n fl wr mn : Nat} {ops left k c : Int} {esF esW esM : Array MapEntry} {cF cW cM : Nat} {kF : List (Int × Value)} {kW : List ((Int × Int) × Value)} {kM : List (Int × Value)} (mF : MapIs intE esF cF kF) (mW : MapIs pairE esW cW kW) (mM : MapIs intE esM cM kM) (hc : (kget kM k).getD (.int .i64 0) = .int .i64 c) :
    Spec Tryz.prog 124 #[.pointer (some ⟨d, 0, none⟩), .int .i64 k] [pt d (devO n fl wr mn ops left), pt fl (.map esF cF), pt wr (.map esW cW), pt mn (.map esM cM)] fun F v M => v = lastV kF kW k c ∧ M = pt d (devO n fl wr mn ops left) :: pt fl (.map esF cF) :: pt wr (.map esW cW) :: pt mn (.map esM cM) :: F := by
  refine Spec.intro Tryz.func124 rfl rfl fun B F => ?_
  simp only [Tryz.ntmps124, List.cons_append, List.nil_append, env0, Nat.reduceAdd]
  refine WC.seq ?_
  refine WC.region ?_
  refine WL.assign ?_
  refine WL.nil ?_
  refine WQ.next ?_
  refine WC.seq ?_
  refine WC.seq ?_
  refine WC.region ?_
  refine WL.move ?_
  refine WL.nilCheck ?_
  refine WL.fa ?_ fo175_3
  refine WL.ld ?_ sc173
  refine WL.move ?_
  refine WL.look klF mM mp173 zv3 ?_
  refine WL.cast (d := 11) rfl hc ?_
  refine WL.assign ?_
  refine WL.nil ?_
  refine WQ.next ?_
  refine WC.seq ?_
  refine WC.region ?_
  refine WL.move ?_
  refine WL.gtr ?_
  refine WL.nil ?_
  refine WQ.next ?_
  refine WC.cond rfl (fun hb => ?_) (fun hb => ?_)
  · have hpos : 0 < c := of_decide_eq_true hb
    refine WC.seq ?_
    refine WC.region ?_
    refine WL.move ?_
    refine WL.nilCheck ?_
    refine WL.fa ?_ fo175_2
    refine WL.ld ?_ sc172
    refine WL.move ?_
    refine WL.move ?_
    refine WL.build ?_ (bdPend _ _)
    refine WL.look (k := (k, c)) klW mW mp172 zv33 ?_
    refine WL.assign ?_
    refine WL.nil ?_
    refine WQ.next ?_
    refine WC.ret (WQ.thenRet (?_))
    exact WQ.ret1 (h1 := .tmp (t := 4) rfl) ⟨_, ⟨by unfold lastV; rw [if_pos hpos]; rfl, rfl⟩, Am.auto⟩
  · have hpos : ¬ 0 < c := of_decide_eq_false hb
    refine WC.skip ?_
    refine WQ.next ?_
    refine WC.seq ?_
    refine WC.region ?_
    refine WL.move ?_
    refine WL.nilCheck ?_
    refine WL.fa ?_ fo175_1
    refine WL.ld ?_ sc171
    refine WL.move ?_
    refine WL.look klF mF mp171 zv33 ?_
    refine WL.assign ?_
    refine WL.nil ?_
    refine WQ.next ?_
    refine WC.ret (?_)
    exact WQ.ret1 (h1 := .tmp (t := 4) rfl) ⟨_, ⟨by unfold lastV; rw [if_neg hpos]; rfl, rfl⟩, Am.auto⟩

theorem devRead {d n t k : Nat} {cur : Nat → Bytes} (hk : k < n) : Spec Tryz.prog 91 #[.pointer (some ⟨d, 0, none⟩), .int .i64 (k : Int)] [DevR d n cur t] fun F v M => ∃ g q, v = .tuple #[.slice (some ⟨g, 0, none⟩) 512 q, .int .i64 0] ∧ (512 ≤ q ∧ q ≤ maxLen ∧ (cur k).length = 512) ∧ M = buf g 5 q (bvs (cur k)) :: DevR d n cur t :: F := by
  refine Spec.intro Tryz.func91 rfl rfl fun B F => ?_
  simp only [Tryz.ntmps91, List.cons_append, List.nil_append, env0, Nat.reduceAdd]
  refine WC.openR (DevR.opens d n cur t) fun x hp => ?_
  simp only [devL, List.cons_append, List.nil_append]
  obtain ⟨c, hc, hc0, hct⟩ := getM_int hp (k : Int)
  have hn2 := hp.n2
  have hold := hp.holds k hk c hc
  refine WC.seq ?_
  refine WC.region ?_
  refine WL.assign ?_
  refine WL.assign ?_
  refine WL.nil ?_
  refine WQ.next ?_
  refine WC.seq ?_
  refine WC.seq ?_
  refine WC.region ?_
  refine WL.move ?_
  refine WL.eqNil ?_ ptr76
  refine WL.move ?_
  refine WL.gT ?_
  refine WL.move ?_
  refine WL.gT ?_
  refine WL.lss ?_
  refine WL.pickF ?_
  refine WL.move ?_
  refine WL.cast (d := 13) (u := .bool false) rfl (congrArg Value.bool (by first | (simp; done) | (simp; omega) | omega)) ?_
  refine WL.gT ?_
  refine WL.move ?_
  refine WL.gT ?_
  refine WL.move ?_
  refine WL.gT ?_
  refine WL.nilCheck ?_
  refine WL.gT ?_
  refine WL.fa ?_ fo175_0
  refine WL.gT ?_
  refine WL.ld ?_ sc3
  refine WL.gT ?_
  refine WL.geq ?_
  refine WL.pickF ?_
  refine WL.nil ?_
  refine WQ.next ?_
  refine WC.condF rfl (congrArg Value.bool (by first | (simp; done) | (simp; omega) | omega)) ?_
  refine WC.skip ?_
  refine WQ.next ?_
  refine WC.seq ?_
  refine WC.region ?_
  refine WL.mkSN 512 z5 so33 (by decide) (by decide) fun b21 => ?_
  refine WL.assign ?_
  refine WL.nil ?_
  refine WQ.next ?_
  refine WC.seq ?_
  refine WC.region ?_
  refine WL.move ?_
  refine WL.move ?_
  refine WL.move ?_
  refine WL.call (hc := Tryz.call124) (sp := devLast hp.mF hp.mW hp.mM hc) (h := ?_)
  rintro _ _ ⟨rfl, rfl⟩
  rcases hold with ⟨hnil, hzero⟩ | hbl
  · refine WL.cast (d := 25) rfl (hnil : lastV x.kF x.kW (k : Int) c = nilS) ?_
    refine WL.copy (R := blobs x.bl) (ys := []) so33 Reads.nil rfl (by simp) ?_
    have hxs : (List.replicate 512 (Value.int .u8 0)).take 0 ++ ([] : List Value).take (min 0 512) ++ (List.replicate 512 (Value.int .u8 0)).drop (0 + min 0 512) = bvs (cur k) := by
      rw [hzero]; unfold zeros; rw [bvs_replicate]; exact laid_none
    have hlen : (cur k).length = 512 := by rw [hzero]; exact zeros_length
    refine WL.nil ?_
    refine WQ.next ?_
    refine WC.seq ?_
    refine WC.region ?_
    refine WL.move ?_
    refine WL.assign ?_
    refine WL.assign ?_
    refine WL.nil ?_
    refine WQ.next ?_
    refine WC.ret (?_)
    refine WQ.to (r := .here) (A' := buf b21 5 512 (bvs (cur k))) (fun h hh => by rw [← hxs]; exact hh) ?_
    refine WQ.shutR (DevR.opens d n cur t) x hp ?_
    exact WQ.ret2 (h1 := .tmp (t := 4) rfl) (h2 := .tmp (t := 5) rfl) ⟨_, ⟨_, _, rfl, ⟨by decide, by decide, hlen⟩, rfl⟩, Am.auto⟩
  · refine WL.fact (blobs_shape hbl) fun hsh => ?_
    obtain ⟨gb, cb, hv, hcb⟩ := hsh
    rw [hv] at hbl
    have hl5 : (cur k).length = 512 := hp.len _ hbl
    refine WL.cast (d := 25) rfl (hv : lastV x.kF x.kW (k : Int) c = _) ?_
    refine WL.copy (R := blobs x.bl) (ys := bvs (cur k)) so33 (Reads.blob hbl) (bvs_length _) (bvs_single _) ?_
    have hxs : (List.replicate 512 (Value.int .u8 0)).take 0 ++ (bvs (cur k)).take (min (cur k).length 512) ++ (List.replicate 512 (Value.int .u8 0)).drop (0 + min (cur k).length 512) = bvs (cur k) := by
      exact laid_whole hl5 (bvs_length _) List.length_replicate
    have hlen : (cur k).length = 512 := hl5
    refine WL.nil ?_
    refine WQ.next ?_
    refine WC.seq ?_
    refine WC.region ?_
    refine WL.move ?_
    refine WL.assign ?_
    refine WL.assign ?_
    refine WL.nil ?_
    refine WQ.next ?_
    refine WC.ret (?_)
    refine WQ.to (r := .here) (A' := buf b21 5 512 (bvs (cur k))) (fun h hh => by rw [← hxs]; exact hh) ?_
    refine WQ.shutR (DevR.opens d n cur t) x hp ?_
    exact WQ.ret2 (h1 := .tmp (t := 4) rfl) (h2 := .tmp (t := 5) rfl) ⟨_, ⟨_, _, rfl, ⟨by decide, by decide, hlen⟩, rfl⟩, Am.auto⟩

theorem devReadNo {d n t : Nat} {k : Int} {cur : Nat → Bytes} (hk : k < 0 ∨ (n : Int) ≤ k) : Spec Tryz.prog 91 #[.pointer (some ⟨d, 0, none⟩), .int .i64 k] [DevR d n cur t] fun F v M => v = .tuple #[.slice none 0 0, .int .i64 1] ∧ M = DevR d n cur t :: F := by
  refine Spec.intro Tryz.func91 rfl rfl fun B F => ?_
  simp only [Tryz.ntmps91, List.cons_append, List.nil_append, env0, Nat.reduceAdd]
  refine WC.openR (DevR.opens d n cur t) fun x hp => ?_
  simp only [devL, List.cons_append, List.nil_append]
  by_cases hneg : k < 0
  · refine WC.seq ?_
    refine WC.region ?_
    refine WL.assign ?_
    refine WL.assign ?_
    refine WL.nil ?_
    refine WQ.next ?_
    refine WC.seq ?_
    refine WC.seq ?_
    refine WC.region ?_
    refine WL.move ?_
    refine WL.eqNil ?_ ptr76
    refine WL.move ?_
    refine WL.gT ?_
    refine WL.move ?_
    refine WL.gT ?_
    refine WL.lss ?_
    refine WL.pickF ?_
    refine WL.move ?_
    refine WL.cast (d := 13) (u := .bool true) rfl (congrArg Value.bool (by first | (simp; done) | (simp; omega) | omega)) ?_
    refine WL.gF ?_
    refine WL.gF ?_
    refine WL.gF ?_
    refine WL.gF ?_
    refine WL.gF ?_
    refine WL.gF ?_
    refine WL.pickT ?_
    refine WL.nil ?_
    refine WQ.next ?_
    refine WC.condT rfl rfl ?_
    refine WC.seq ?_
    refine WC.region ?_
    refine WL.assign ?_
    refine WL.assign ?_
    refine WL.nil ?_
    refine WQ.next ?_
    refine WC.ret (WQ.thenRet (?_))
    refine WQ.shutR (DevR.opens d n cur t) x hp ?_
    exact WQ.ret2 (h1 := .tmp (t := 4) rfl) (h2 := .tmp (t := 5) rfl) ⟨_, ⟨rfl, rfl⟩, Am.auto⟩
  · refine WC.seq ?_
    refine WC.region ?_
    refine WL.assign ?_
    refine WL.assign ?_
    refine WL.nil ?_
    refine WQ.next ?_
    refine WC.seq ?_
    refine WC.seq ?_
    refine WC.region ?_
    refine WL.move ?_
    refine WL.eqNil ?_ ptr76
    refine WL.move ?_
    refine WL.gT ?_
    refine WL.move ?_
    refine WL.gT ?_
    refine WL.lss ?_
    refine WL.pickF ?_
    refine WL.move ?_
    refine WL.cast (d := 13) (u := .bool false) rfl (congrArg Value.bool (by first | (simp; done) | (simp; omega) | omega)) ?_
    refine WL.gT ?_
    refine WL.move ?_
    refine WL.gT ?_
    refine WL.move ?_
    refine WL.gT ?_
    refine WL.nilCheck ?_
    refine WL.gT ?_
    refine WL.fa ?_ fo175_0
    refine WL.gT ?_
    refine WL.ld ?_ sc3
    refine WL.gT ?_
    refine WL.geq ?_
    refine WL.pickF ?_
    refine WL.nil ?_
    refine WQ.next ?_
    refine WC.condT rfl (congrArg Value.bool (by first | (simp; done) | (simp; omega) | omega)) ?_
    refine WC.seq ?_
    refine WC.region ?_
    refine WL.assign ?_
    refine WL.assign ?_
    refine WL.nil ?_
    refine WQ.next ?_
    refine WC.ret (WQ.thenRet (?_))
    refine WQ.shutR (DevR.opens d n cur t) x hp ?_
    exact WQ.ret2 (h1 := .tmp (t := 4) rfl) (h2 := .tmp (t := 5) rfl) ⟨_, ⟨rfl, rfl⟩, Am.auto⟩

/-- A block is written. -/
def wr (cur : Nat → Bytes) (k : Nat) (xs : Bytes) : Nat → Bytes := fun j => if j = k then xs else cur j
theorem DevP.write {n t : Nat} {cur : Nat → Bytes} {x : DevX} (hp : DevP n cur t x) {k : Nat} (hk : k < n) {c : Int} (hc0 : 0 ≤ c) (hct : c ≤ (t : Int)) {v : Value} {xs : Bytes} (hx : xs.length = 512) {esW' esM' : Array MapEntry} {cW' cM' : Nat}
    (mW' : MapIs pairE esW' cW' (kput x.kW ((k : Int), c + 1) v)) (mM' : MapIs intE esM' cM' (kput x.kM (k : Int) (.int .i64 (c + 1)))) (ops left : Int) :
    DevP n (wr cur k xs) (t + 1) ⟨x.fl, x.wr, x.mn, x.esF, esW', esM', x.cF, cW', cM', x.kF, kput x.kW ((k : Int), c + 1) v, kput x.kM (k : Int) (.int .i64 (c + 1)), (v, xs) :: x.bl, ops, left⟩ := by
  refine ⟨hp.mF, mW', mM', hp.n1, hp.n2, ?_, ?_, ?_, ?_⟩
  · intro p hp'
    rcases List.mem_cons.1 hp' with rfl | hp'
    · exact hx
    · exact hp.len p hp'
  · intro j u hj
    simp only [kget_put] at hj
    split at hj
    · injection hj with hj
      exact ⟨c + 1, hj.symm, by omega, by omega⟩
    · obtain ⟨c', h1, h2, h3⟩ := hp.many j u hj
      exact ⟨c', h1, h2, by omega⟩
  · intro j u hj
    simp only [kget_put] at hj
    split at hj
    · rename_i h; subst h; omega
    · exact hp.dom j u hj
  · intro j hj c' hc'
    simp only [kget_put] at hc'
    by_cases hjk : j = k
    · subst hjk
      simp only [if_true, Option.getD_some, Value.int.injEq, true_and] at hc'
      subst hc'
      right
      simp only [wr, if_true]
      have : lastV x.kF (kput x.kW ((j : Int), c + 1) v) (j : Int) (c + 1) = v := by
        unfold lastV
        rw [if_pos (by omega), kget_put, if_pos rfl]
        rfl
      rw [this]
      exact List.mem_cons_self ..
    · have hjk' : ¬ (j : Int) = (k : Int) := by omega
      rw [if_neg hjk'] at hc'
      have h1 := hp.holds j hj c' hc'
      have hl : lastV x.kF (kput x.kW ((k : Int), c + 1) v) (j : Int) c' = lastV x.kF x.kW (j : Int) c' := by
        unfold lastV
        rw [kget_put, if_neg (show ¬ ((j : Int), c') = ((k : Int), c + 1) from fun h => hjk' (congrArg Prod.fst h))]
      unfold Holds1 at h1 ⊢
      simp only [wr, hjk, if_false]
      rw [hl]
      rcases h1 with h1 | h1
      · exact .inl h1
      · exact .inr (List.mem_cons_of_mem _ h1)

theorem devWrite {d n t k m c' : Nat} {cur : Nat → Bytes} {R : HP} {A : Addr} {xs : Bytes} (hR : Reads R (some A) (bvs xs)) (hm : xs.length = m) (hm5 : m = 512) (hk : k < n) (ht : t ≤ 1000000) : Spec Tryz.prog 83 #[.pointer (some ⟨d, 0, none⟩), .int .i64 (k : Int), .slice (some A) m c'] [DevR d n cur t, R] fun F v M => v = .int .i64 0 ∧ M = DevR d n (wr cur k xs) (t + 1) :: R :: F := by
  refine Spec.intro Tryz.func83 rfl rfl fun B F => ?_
  simp only [Tryz.ntmps83, List.cons_append, List.nil_append, env0, Nat.reduceAdd]
  refine WC.openR (DevR.opens d n cur t) fun x hp => ?_
  simp only [devL, List.cons_append, List.nil_append]
  obtain ⟨c, hc, hc0, hct⟩ := getM_int hp (k : Int)
  have hn2 := hp.n2
  have hn1 := hp.n1
  subst hm
  have hn : xs.length = xs.length := rfl
  have hl : xs.length ≤ 1073741824 := by omega
  refine WC.seq ?_
  refine WC.region ?_
  refine WL.assign ?_
  refine WL.nil ?_
  refine WQ.next ?_
  refine WC.seq ?_
  refine WC.seq ?_
  refine WC.region ?_
  refine WL.move ?_
  refine WL.call (hc := Tryz.call122) (sp := devOp hn1) (h := ?_)
  rintro _ _ ⟨ops', left', rfl, rfl⟩
  refine WL.not ?_
  refine WL.nil ?_
  refine WQ.next ?_
  refine WC.condF rfl rfl ?_
  refine WC.skip ?_
  refine WQ.next ?_
  refine WC.seq ?_
  refine WC.seq ?_
  refine WC.region ?_
  refine WL.move ?_
  refine WL.lss ?_
  refine WL.move ?_
  refine WL.cast (d := 12) (u := .bool false) rfl (congrArg Value.bool (by first | (simp; done) | (simp; omega) | omega)) ?_
  refine WL.gT ?_
  refine WL.move ?_
  refine WL.gT ?_
  refine WL.move ?_
  refine WL.gT ?_
  refine WL.nilCheck ?_
  refine WL.gT ?_
  refine WL.fa ?_ fo175_0
  refine WL.gT ?_
  refine WL.ld ?_ sc3
  refine WL.gT ?_
  refine WL.geq ?_
  refine WL.pickF ?_
  refine WL.move ?_
  refine WL.cast (d := 20) (u := .bool false) rfl (congrArg Value.bool (by first | (simp; done) | (simp; omega) | omega)) ?_
  refine WL.gT ?_
  refine WL.move ?_
  refine WL.gT ?_
  refine WL.lenS ?_ sl33
  refine WL.gT ?_
  refine WL.nei ?_
  refine WL.pickF ?_
  refine WL.nil ?_
  refine WQ.next ?_
  refine WC.condF rfl (congrArg Value.bool (by first | (simp; done) | (simp; omega) | omega)) ?_
  refine WC.skip ?_
  refine WQ.next ?_
  refine WC.seq ?_
  refine WC.region ?_
  refine WL.move ?_
  refine WL.nilCheck ?_
  refine WL.fa ?_ fo175_3
  refine WL.ld ?_ sc173
  refine WL.move ?_
  refine WL.look klF hp.mM mp173 zv3 ?_
  refine WL.cast (d := 30) rfl hc ?_
  refine WL.add ?_
  refine WL.upd klF hp.mM mp173 fun es_1 c_1 hm_1 => ?_
  refine WL.nil ?_
  refine WQ.next ?_
  refine WC.seq ?_
  refine WC.draw ([pt d (devO n x.fl x.wr x.mn ops' left'), pt x.mn (.map es_1 c_1)]) [14] 15 #[false, false, false, false, false, false, false, false, false, false, false, false, false, false, false] mixed (by kernel_rfl) NoPanic.autoJ ?_
  refine WD.take (i := 0) #[true, false, false, false, false, false, false, false, false, false, false, false, false, false, false] rfl (by kernel_rfl) (Qt.move ) ?_
  refine WD.take (i := 1) #[true, true, false, false, false, false, false, false, false, false, false, false, false, false, false] rfl (by kernel_rfl) (Qt.nilCheck ) ?_
  refine WD.take (i := 2) #[true, true, true, false, false, false, false, false, false, false, false, false, false, false, false] rfl (by kernel_rfl) (Qt.fa fo175_2) ?_
  refine WD.take (i := 3) #[true, true, true, true, false, false, false, false, false, false, false, false, false, false, false] rfl (by kernel_rfl) (Qt.ld sc172) ?_
  refine WD.take (i := 4) #[true, true, true, true, true, false, false, false, false, false, false, false, false, false, false] rfl (by kernel_rfl) (Qt.move ) ?_
  refine WD.take (i := 5) #[true, true, true, true, true, true, false, false, false, false, false, false, false, false, false] rfl (by kernel_rfl) (Qt.move ) ?_
  refine WD.take (i := 6) #[true, true, true, true, true, true, true, false, false, false, false, false, false, false, false] rfl (by kernel_rfl) (Qt.nilCheck ) ?_
  refine WD.take (i := 7) #[true, true, true, true, true, true, true, true, false, false, false, false, false, false, false] rfl (by kernel_rfl) (Qt.fa fo175_3) ?_
  refine WD.take (i := 8) #[true, true, true, true, true, true, true, true, true, false, false, false, false, false, false] rfl (by kernel_rfl) (Qt.ld sc173) ?_
  refine WD.take (i := 9) #[true, true, true, true, true, true, true, true, true, true, false, false, false, false, false] rfl (by kernel_rfl) (Qt.move ) ?_
  refine WD.take (i := 10) #[true, true, true, true, true, true, true, true, true, true, true, false, false, false, false] rfl (by kernel_rfl) ((Qt.look (k := (k : Int)) klF hm_1 mp173 zv3).eq (v' := .int .i64 (c + 1)) (by rw [kget_put, if_pos rfl]; rfl)) ?_
  refine WD.take (i := 11) #[true, true, true, true, true, true, true, true, true, true, true, true, false, false, false] rfl (by kernel_rfl) (Qt.build (bdPend _ _)) ?_
  refine WD.take (i := 12) #[true, true, true, true, true, true, true, true, true, true, true, true, true, false, false] rfl (by kernel_rfl) (Qt.move ) ?_
  refine WD.one (i := 13) #[true, true, true, true, true, true, true, true, true, true, true, true, true, true, false] rfl (by kernel_rfl) fun hnp => ?_
  refine WL.call (hc := Tryz.call123) (sp := bytesClone hR hn hl) (h := ?_)
  rintro _ _ ⟨gc, kc, ⟨rfl, hc1, hc2⟩, rfl⟩
  refine WL.nil (WQ.wd hnp (.inl Am.auto) ?_)
  refine WD.one (i := 14) #[true, true, true, true, true, true, true, true, true, true, true, true, true, true, true] rfl (by kernel_rfl) fun hnp => ?_
  refine WL.upd (k := ((k : Int), c + 1)) klW hp.mW mp172 fun es_2 c_2 hm_2 => ?_
  refine WL.nil (WQ.wd hnp (.inr rfl) ?_)
  refine WD.done (by kernel_rfl) ?_
  refine WQ.next ?_
  refine WC.seq ?_
  refine WC.region ?_
  refine WL.assign ?_
  refine WL.nil ?_
  refine WQ.next ?_
  refine WC.ret (?_)
  refine WQ.blobsAdd (bl := x.bl) hc1 ?_
  refine WQ.shutR (DevR.opens d n (wr cur k xs) (t + 1)) _ (hp.write hk hc0 hct hm5 hm_2 hm_1 ops' left') ?_
  exact WQ.ret1 (h1 := .tmp (t := 6) rfl) ⟨_, ⟨rfl, rfl⟩, Am.auto⟩


def cntOf (kM : List (Int × Value)) (k : Int) : Int := match (kget kM k).getD (.int .i64 0) with | .int _ c => c | _ => 0
def valF (kF : List (Int × Value)) (k : Int) : Value := (kget kF k).getD nilS
/-- A round of Flush. -/
structure FlushI (x : DevX) (seen : Array Nat) (esF : Array MapEntry) (cF : Nat) (kF : List (Int × Value)) : Prop where
  mF : MapIs intE esF cF kF
  each : ∀ j, valF kF j = valF x.kF j ∨ valF kF j = lastV x.kF x.kW j (cntOf x.kM j)
  met : ∀ m ∈ x.esM.toList, seen.contains m.born = true → ∀ j, m.key = intE j → valF kF j = lastV x.kF x.kW j (cntOf x.kM j)
theorem FlushI.start {n t : Nat} {cur : Nat → Bytes} {x : DevX} (hp : DevP n cur t x) : FlushI x #[] x.esF x.cF x.kF := ⟨hp.mF, fun _ => .inl rfl, fun m _ h => by simp at h⟩
theorem MapIs.entry {κ : Type} [DecidableEq κ] {enc : κ → Value} {es : Array MapEntry} {c : Nat} {kvs : List (κ × Value)} (h : MapIs enc es c kvs) {m : MapEntry} (hm : m ∈ es.toList) : ∃ k, m.key = enc k ∧ kget kvs k = some m.val := by
  obtain ⟨i, hi, rfl⟩ := List.mem_iff_getElem.1 hm
  have hl : es.toList.length = kvs.length := by simpa using h.length
  have h1 : (es.toList.map (·.key))[i]? = (kvs.map fun p => enc p.1)[i]? := by rw [h.keys]
  have h2 : (es.toList.map (·.val))[i]? = (kvs.map (·.2))[i]? := by rw [h.vals]
  have hk : i < kvs.length := by omega
  rw [List.getElem?_map, List.getElem?_map, List.getElem?_eq_getElem hi, List.getElem?_eq_getElem hk] at h1 h2
  injection h1 with h1
  injection h2 with h2
  exact ⟨kvs[i].1, h1, (kget_mem h.nodup).2 (by
    have : (kvs[i].1, es.toList[i].val) = kvs[i] := Prod.ext rfl h2
    rw [this]
    exact List.getElem_mem hk)⟩
theorem MapIs.has {κ : Type} [DecidableEq κ] {enc : κ → Value} {es : Array MapEntry} {c : Nat} {kvs : List (κ × Value)} (h : MapIs enc es c kvs) {k : κ} {v : Value} (hk : kget kvs k = some v) : ∃ m ∈ es.toList, m.key = enc k := by
  have hm := (kget_mem h.nodup).1 hk
  have : enc k ∈ es.toList.map (·.key) := by
    rw [h.keys]
    exact List.mem_map.2 ⟨_, hm, rfl⟩
  obtain ⟨m, h1, h2⟩ := List.mem_map.1 this
  exact ⟨m, h1, h2⟩
theorem FlushI.step {n t : Nat} {cur : Nat → Bytes} {x : DevX} (hp : DevP n cur t x) {seen : Array Nat} {esF esF' : Array MapEntry} {cF cF' : Nat} {kF : List (Int × Value)} (h : FlushI x seen esF cF kF) {m : MapEntry} (hm : m ∈ left x.esM seen) {k c : Int} (hk : m.key = intE k)
    (hc : (kget x.kM k).getD (.int .i64 0) = .int .i64 c) (mF' : MapIs intE esF' cF' (kput kF k (lastV kF x.kW k c))) : FlushI x (seen.push m.born) esF' cF' (kput kF k (lastV kF x.kW k c)) := by
  have hcnt : cntOf x.kM k = c := by unfold cntOf; rw [hc]
  have hl : lastV kF x.kW k c = lastV x.kF x.kW k c := by
    unfold lastV
    split
    · rfl
    · rename_i h0
      rcases h.each k with h1 | h1
      · exact h1
      · refine h1.trans ?_
        rw [hcnt]; unfold lastV; rw [if_neg h0]
  have hv : ∀ j, valF (kput kF k (lastV kF x.kW k c)) j = if j = k then lastV x.kF x.kW k c else valF kF j := by
    intro j
    unfold valF
    rw [kget_put]
    split
    · exact hl
    · rfl
  refine ⟨mF', fun j => ?_, fun m' hm' hs j hj => ?_⟩
  · rw [hv]
    split
    · rename_i he; subst he; rw [hcnt]; exact .inr rfl
    · exact h.each j
  · rw [hv]
    split
    · rename_i he; subst he; rw [hcnt]
    · rename_i hne
      refine h.met m' hm' ?_ j hj
      rw [Array.contains_push] at hs
      simp only [Bool.or_eq_true, beq_iff_eq] at hs
      rcases hs with hs | hs
      · exact hs
      · exfalso
        have hmm := (List.mem_filter.1 hm).1
        have : m' = m := by
          have hb := hp.mM.born
          obtain ⟨i, hi, rfl⟩ := List.mem_iff_getElem.1 hm'
          obtain ⟨i', hi', rfl⟩ := List.mem_iff_getElem.1 hmm
          have hpw := List.pairwise_iff_getElem.1 hb
          rcases Nat.lt_trichotomy i i' with hlt | heq | hgt
          · have := hpw i i' (by simpa using hi) (by simpa using hi') hlt
            simp only [List.getElem_map] at this; omega
          · subst heq; rfl
          · have := hpw i' i (by simpa using hi') (by simpa using hi) hgt
            simp only [List.getElem_map] at this; omega
        subst this
        rw [hk] at hj
        injection hj with _ hj
        exact hne hj.symm
theorem FlushI.done {n t : Nat} {cur : Nat → Bytes} {x : DevX} (hp : DevP n cur t x) {seen : Array Nat} {esF : Array MapEntry} {cF : Nat} {kF : List (Int × Value)} (h : FlushI x seen esF cF kF) (h0 : left x.esM seen = []) (ops left' : Int) :
    DevP n cur 0 ⟨x.fl, x.wr, x.mn, esF, #[], #[], cF, x.cW, x.cM, kF, [], [], x.bl, ops, left'⟩ := by
  have hall : ∀ j, valF kF j = lastV x.kF x.kW j (cntOf x.kM j) := by
    intro j
    cases hk : kget x.kM j with
    | some v =>
      obtain ⟨m, h1, h2⟩ := hp.mM.has hk
      refine h.met m h1 ?_ j h2
      cases hs : seen.contains m.born with
      | true => rfl
      | false =>
        have : m ∈ left x.esM seen := List.mem_filter.2 ⟨h1, by simp only [hs]; rfl⟩
        rw [h0] at this; cases this
    | none =>
      have hc : cntOf x.kM j = 0 := by unfold cntOf; rw [hk]; rfl
      rcases h.each j with h1 | h1
      · rw [h1, hc]; unfold lastV; rw [if_neg (by decide)]; rfl
      · exact h1
  refine ⟨h.mF, MapIs.empty _ _, MapIs.empty _ _, hp.n1, hp.n2, hp.len, by simp [kget], by simp [kget], ?_⟩
  intro k hk c hc
  simp only [kget, Option.getD_none, Value.int.injEq, true_and] at hc
  subst hc
  obtain ⟨c, hc, _⟩ := getM_int hp (k : Int)
  have h1 := hp.holds k hk c hc
  have hcnt : cntOf x.kM (k : Int) = c := by unfold cntOf; rw [hc]
  have h2 : lastV kF [] (k : Int) 0 = lastV x.kF x.kW (k : Int) c := by
    have := hall (k : Int)
    rw [hcnt] at this
    rw [← this]
    unfold lastV valF
    rw [if_neg (by decide)]
  unfold Holds1 at h1 ⊢
  simp only [h2]
  exact h1

theorem devFlush {d n t : Nat} {cur : Nat → Bytes} : Spec Tryz.prog 86 #[.pointer (some ⟨d, 0, none⟩)] [DevR d n cur t] fun F v M => v = .int .i64 0 ∧ M = DevR d n cur 0 :: F := by
  refine Spec.intro Tryz.func86 rfl rfl fun B F => ?_
  simp only [Tryz.ntmps86, List.cons_append, List.nil_append, env0, Nat.reduceAdd]
  refine WC.openR (DevR.opens d n cur t) fun x hp => ?_
  simp only [devL, List.cons_append, List.nil_append]
  have hn1 := hp.n1
  refine WC.seq ?_
  refine WC.region ?_
  refine WL.assign ?_
  refine WL.nil ?_
  refine WQ.next ?_
  refine WC.seq ?_
  refine WC.seq ?_
  refine WC.region ?_
  refine WL.move ?_
  refine WL.call (hc := Tryz.call122) (sp := devOp hn1) (h := ?_)
  rintro _ _ ⟨ops', left', rfl, rfl⟩
  refine WL.not ?_
  refine WL.nil ?_
  refine WQ.next ?_
  refine WC.condF rfl rfl ?_
  refine WC.skip ?_
  refine WQ.next ?_
  refine WC.seq ?_
  refine WC.seq ?_
  refine WC.region ?_
  refine WL.move ?_
  refine WL.nilCheck ?_
  refine WL.fa ?_ fo175_3
  refine WL.ld ?_ sc173
  refine WL.range mp173 fun it => ?_
  refine WL.nil ?_
  refine WQ.next ?_
  refine WC.block ?_
  refine WC.loopA (σ := Array Nat × Array MapEntry × Nat × List (Int × Value)) (fun s => [(0, .pointer (some ⟨d, 0, none⟩)), (11, .pointer (some ⟨it, 0, none⟩))]) (fun s => pt it (.mapIter (some x.mn) x.cM s.1 x.cM) :: pt d (devO n x.fl x.wr x.mn ops' left') :: pt x.fl (.map s.2.1 s.2.2.1) :: pt x.wr (.map x.esW x.cW) :: pt x.mn (.map x.esM x.cM) :: blobs x.bl :: F) (fun s => FlushI x s.1 s.2.1 s.2.2.1 s.2.2.2) (fun s => (left x.esM s.1).length) (#[], x.esF, x.cF, x.kF) (FlushI.start hp) ?_
  rintro ⟨seen, esF', cF', kF⟩ hi
  refine WC.seq ?_
  refine WC.region ?_
  refine WL.next hp.mM.lt (fun h0 => ?_) (fun m hm => ?_)
  · refine WL.extract ?_
    refine WL.nil ?_
    refine WQ.next ?_
    refine WC.seq ?_
    refine WC.condF rfl rfl ?_
    refine WC.exit (WQ.thenExit (WQ.thenExit (WQ.blockExit (?_))))
    refine WQ.next ?_
    refine WC.seq ?_
    refine WC.region ?_
    refine WL.move ?_
    refine WL.nilCheck ?_
    refine WL.fa ?_ fo175_2
    refine WL.ld ?_ sc172
    refine WL.clearM ?_ mp172
    refine WL.nil ?_
    refine WQ.next ?_
    refine WC.seq ?_
    refine WC.region ?_
    refine WL.move ?_
    refine WL.nilCheck ?_
    refine WL.fa ?_ fo175_3
    refine WL.ld ?_ sc173
    refine WL.clearM ?_ mp173
    refine WL.nil ?_
    refine WQ.next ?_
    refine WC.seq ?_
    refine WC.region ?_
    refine WL.assign ?_
    refine WL.nil ?_
    refine WQ.next ?_
    refine WC.ret (?_)
    refine WQ.shutR (DevR.opens d n cur 0) _ (hi.done hp h0 ops' left') ?_
    exact WQ.ret1 (h1 := .tmp (t := 2) rfl) ⟨_, ⟨rfl, rfl⟩, Am.auto⟩
  · obtain ⟨k, hk, hkv⟩ := hp.mM.entry (List.mem_filter.1 hm).1
    obtain ⟨c, hc, hc0, hct⟩ := getM_int hp k
    refine WL.extract ?_
    refine WL.nil ?_
    refine WQ.next ?_
    refine WC.seq ?_
    refine WC.condT rfl rfl ?_
    refine WC.skip ?_
    refine WQ.next ?_
    refine WC.block ?_
    refine WC.seq ?_
    refine WC.region ?_
    refine WL.entry (List.mem_filter.1 hm).1 hp.mM.born ?_
    refine WL.extract ?_
    refine WL.cast (d := 15) rfl hk ?_
    refine WL.assign ?_
    refine WL.nil ?_
    refine WQ.next ?_
    refine WC.draw ([pt d (devO n x.fl x.wr x.mn ops' left')]) [8] 9 #[false, false, false, false, false, false, false, false, false] mixed (by kernel_rfl) NoPanic.autoJ ?_
    refine WD.take (i := 0) #[true, false, false, false, false, false, false, false, false] rfl (by kernel_rfl) (Qt.move ) ?_
    refine WD.take (i := 1) #[true, true, false, false, false, false, false, false, false] rfl (by kernel_rfl) (Qt.nilCheck ) ?_
    refine WD.take (i := 2) #[true, true, true, false, false, false, false, false, false] rfl (by kernel_rfl) (Qt.fa fo175_1) ?_
    refine WD.take (i := 3) #[true, true, true, true, false, false, false, false, false] rfl (by kernel_rfl) (Qt.ld sc171) ?_
    refine WD.take (i := 4) #[true, true, true, true, true, false, false, false, false] rfl (by kernel_rfl) (Qt.move ) ?_
    refine WD.take (i := 5) #[true, true, true, true, true, true, false, false, false] rfl (by kernel_rfl) (Qt.move ) ?_
    refine WD.take (i := 6) #[true, true, true, true, true, true, true, false, false] rfl (by kernel_rfl) (Qt.move ) ?_
    refine WD.one (i := 7) #[true, true, true, true, true, true, true, true, false] rfl (by kernel_rfl) fun hnp => ?_
    refine WL.call (hc := Tryz.call124) (sp := devLast hi.mF hp.mW hp.mM hc) (h := ?_)
    rintro _ _ ⟨rfl, rfl⟩
    refine WL.nil (WQ.wd hnp (.inl Am.auto) ?_)
    refine WD.one (i := 8) #[true, true, true, true, true, true, true, true, true] rfl (by kernel_rfl) fun hnp => ?_
    refine WL.upd (k := k) klF hi.mF mp171 fun es_1 c_1 hm_1 => ?_
    refine WL.nil (WQ.wd hnp (.inr rfl) ?_)
    refine WD.done (by kernel_rfl) ?_
    refine WQ.blockNormal ?_
    exact WQ.back (seen.push m.born, es_1, c_1, kput kF k (lastV kF x.kW k c)) (hi.step hp hm hk hc hm_1) (left_push hm)

end Go.Proofs.YtedmihapieleaaaGreat
