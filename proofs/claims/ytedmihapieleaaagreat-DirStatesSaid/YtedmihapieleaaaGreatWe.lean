/- Walks of package journal: what lies within. -/
import Derived.Test.YtedmihapieleaaaGreatFa
import Derived.Test.YtedmihapieleaaaGreatWd
import Derived.KernelRfl
set_option linter.unusedVariables false
set_option linter.unusedSimpArgs false
namespace Go.Proofs.YtedmihapieleaaaGreat
open Go

theorem klP : KeyLaw Tryz.prog 144 pairE := structKeys (fun k : Int × Int => [k.1, k.2]) (n := 2) (by kernel_rfl) (fun _ => rfl) (fun a b h => by
  obtain ⟨a1, a2⟩ := a
  obtain ⟨b1, b2⟩ := b
  simp only [List.cons.injEq, and_true] at h
  rw [h.1, h.2])
def jO (d gen last : Nat) (ov : Value) (mp : Nat) : Obj := .cells #[.pointer (some ⟨d, 0, none⟩), .int .u64 (gen : Int), .int .u64 (last : Int), .bool false, ov, .map (some mp)] 149 (0, 0)
/-- Changes, one behind the other, are laid. -/
def lay (cur : Nat → Bytes) (l : List (Nat × Bytes)) : Nat → Bytes := l.foldl (fun c p => wr c p.1 p.2) cur
theorem lay_nil (cur : Nat → Bytes) : lay cur [] = cur := rfl
theorem lay_snoc (cur : Nat → Bytes) (l : List (Nat × Bytes)) (p : Nat × Bytes) : lay cur (l ++ [p]) = wr (lay cur l) p.1 p.2 := by simp [lay]
theorem lay_take (cur : Nat → Bytes) (l : List (Nat × Bytes)) (i : Nat) (h : i < l.length) : lay cur (l.take (i + 1)) = wr (lay cur (l.take i)) l[i].1 l[i].2 := by
  rw [List.take_succ_eq_append_getElem h, lay_snoc]
def blocksV (l : List (Nat × Bytes)) : List Value := ints (l.map fun p => (p.1 : Int))
theorem blocksV_length (l : List (Nat × Bytes)) : (blocksV l).length = l.length := by simp [blocksV, ints]
theorem blocksV_get (l : List (Nat × Bytes)) (i : Nat) (h : i < l.length) : (blocksV l)[i]? = some (.int .i64 (l[i].1 : Int)) := by simp [blocksV, ints, h]
/-- The map holds what was changed: number i of slot s. -/
def Kept (kv : List ((Int × Int) × Value)) (bl : List (Value × Bytes)) (s : Nat) (l : List (Nat × Bytes)) : Prop :=
  ∀ i (h : i < l.length), ∃ v, kget kv ((s : Int), (i : Int)) = some v ∧ (v, l[i].2) ∈ bl
/-- What may be changed on a device of n blocks. -/
structure Fit (n : Nat) (l : List (Nat × Bytes)) : Prop where
  home : ∀ p ∈ l, 245 ≤ p.1 ∧ p.1 < n ∧ p.2.length = 512
  few : l.length ≤ 60
  apart : (l.map (·.1)).Nodup

theorem ints_get {xs : List Int} {i : Nat} (h : i < xs.length) : (ints xs)[i]? = some (.int .i64 xs[i]) := by simp [ints, h]
theorem idxOf_of {xs : List Int} {k : Int} {i : Nat} (hi : i < xs.length) (hk : xs[i] = k) (hb : ∀ j : Nat, j < i → xs[j]? ≠ some k) : xs.idxOf k = i := by
  induction xs generalizing i with
  | nil => simp at hi
  | cons x xs ih =>
    cases i with
    | zero => simp at hk; subst hk; simp
    | succ i =>
      have hx : x ≠ k := fun h => hb 0 (by omega) (by simp [h])
      rw [List.idxOf_cons, show (x == k) = false from by simpa using hx, cond_false, ih (by simpa using hi) (by simpa using hk) (fun j hj => by have := hb (j + 1) (by omega); simpa using this)]

theorem intsIndex {R : HP} {A : Option Addr} {m c : Nat} {xs : List Int} {k : Int} (hR : Reads R A (ints xs)) (hm : xs.length = m) (hl : m ≤ 1073741824) : Spec Tryz.prog 134 #[.slice A m c, .int .i64 k] [R] fun F v M => v = .int .i64 (if k ∈ xs then (xs.idxOf k : Int) else -1) ∧ M = R :: F := by
  refine Spec.intro Tryz.func134 rfl rfl fun B F => ?_
  simp only [Tryz.ntmps134, List.cons_append, List.nil_append, env0, Nat.reduceAdd]
  refine WC.seq ?_
  refine WC.region ?_
  refine WL.assign ?_
  refine WL.nil ?_
  refine WQ.next ?_
  refine WC.seq ?_
  refine WC.seq ?_
  refine WC.region ?_
  refine WL.move ?_
  refine WL.lenS ?_ sl22
  refine WL.move ?_
  refine WL.nil ?_
  refine WQ.next ?_
  refine WC.block ?_
  refine WC.loopA (σ := Int) (fun i => [(0, .slice A m c), (1, .int .i64 k), (7, .int .i64 (m : Int)), (8, .int .i64 i)]) (fun _ => R :: F) (fun i => (0 ≤ i ∧ i ≤ m) ∧ ∀ j : Nat, j < i.toNat → xs[j]? ≠ some k) (fun i => ((m : Int) - i).toNat) 0 ⟨by omega, fun j hj => by omega⟩ ?_
  rintro i hp
  refine WC.seq ?_
  refine WC.region ?_
  refine WL.lss ?_
  refine WL.nil ?_
  refine WQ.next ?_
  refine WC.seq ?_
  refine WC.cond rfl (fun hb => ?_) (fun hb => ?_)
  · have hlt : i < (m : Int) := of_decide_eq_true hb
    have hil : i.toNat < xs.length := by omega
    rcases A with _ | ⟨ab, ao, asp⟩
    · exact absurd hR (fun h => by have h2 : ints xs = [] := h; simp [ints] at h2; subst h2; simp at hil)
    have hsp : asp = none := hR.1
    subst hsp
    refine WC.skip ?_
    refine WQ.next ?_
    refine WC.seq ?_
    refine WC.block ?_
    refine WC.seq ?_
    refine WC.region ?_
    refine WL.move ?_
    refine WL.assign ?_
    refine WL.nil ?_
    refine WQ.next ?_
    refine WC.seq ?_
    refine WC.region ?_
    refine WL.move ?_
    refine WL.move ?_
    refine WL.move ?_
    refine WL.idx1 ?_ so22
    refine WL.ldR ?_ sc3 hR (ints_get hil)
    refine WL.eqi ?_
    refine WL.nil ?_
    refine WQ.next ?_
    refine WC.cond rfl (fun hb2 => ?_) (fun hb2 => ?_)
    · have hk : k = xs[i.toNat] := of_decide_eq_true hb2
      refine WC.seq ?_
      refine WC.region ?_
      refine WL.move ?_
      refine WL.assign ?_
      refine WL.nil ?_
      refine WQ.next ?_
      refine WC.ret (WQ.blockRet (WQ.thenRet (WQ.thenRet (WQ.blockRet (WQ.thenRet (?_))))))
      have hmem : k ∈ xs := hk ▸ List.getElem_mem hil
      have hidx : xs.idxOf k = i.toNat := idxOf_of hil hk.symm (fun j hj => hp.2 j hj)
      exact WQ.ret1 (h1 := .tmp (t := 4) rfl) ⟨_, ⟨by rw [if_pos hmem, hidx]; exact congrArg (Value.int .i64) (by omega), rfl⟩, Am.auto⟩
    · have hk : ¬ k = xs[i.toNat] := of_decide_eq_false hb2
      refine WC.skip ?_
      refine WQ.blockNormal ?_
      refine WQ.next ?_
      refine WC.region ?_
      refine WL.add ?_
      refine WL.move ?_
      refine WL.nil ?_
      exact WQ.back (i + 1) ⟨by omega, fun j hj h => if hji : j < i.toNat then hp.2 j hji h else by rw [show xs[j]? = xs[i.toNat]? from by rw [show j = i.toNat from by omega]] at h; rw [List.getElem?_eq_getElem hil] at h; exact hk (Option.some.inj h).symm⟩ (by omega)
  · have hge : ¬ i < (m : Int) := of_decide_eq_false hb
    refine WC.exit (WQ.thenExit (WQ.thenExit (WQ.blockExit (?_))))
    refine WQ.next ?_
    refine WC.seq ?_
    refine WC.region ?_
    refine WL.assign ?_
    refine WL.nil ?_
    refine WQ.next ?_
    refine WC.ret (?_)
    have hno : ¬ k ∈ xs := fun h => by obtain ⟨j, hj, hjk⟩ := List.mem_iff_getElem.1 h; exact hp.2 j (by omega) (by rw [List.getElem?_eq_getElem hj, hjk])
    exact WQ.ret1 (h1 := .tmp (t := 4) rfl) ⟨_, ⟨by rw [if_neg hno], rfl⟩, Am.auto⟩

theorem jHome {j d n t gen last mp : Nat} {ov : Value} {cur : Nat → Bytes} {k : Int} : Spec Tryz.prog 131 #[.pointer (some ⟨j, 0, none⟩), .int .i64 k] [pt j (jO d gen last ov mp), DevR d n cur t] fun F v M => v = .bool (decide (245 ≤ k ∧ k < n)) ∧ M = pt j (jO d gen last ov mp) :: DevR d n cur t :: F := by
  refine Spec.intro Tryz.func131 rfl rfl fun B F => ?_
  simp only [Tryz.ntmps131, List.cons_append, List.nil_append, env0, Nat.reduceAdd]
  by_cases h5 : 245 ≤ k
  · refine WC.seq ?_
    refine WC.region ?_
    refine WL.assign ?_
    refine WL.nil ?_
    refine WQ.next ?_
    refine WC.seq ?_
    refine WC.region ?_
    refine WL.move ?_
    refine WL.neNil ?_ ptr80
    refine WL.move ?_
    refine WL.gT ?_
    refine WL.move ?_
    refine WL.gT ?_
    refine WL.geq ?_
    refine WL.pickT ?_
    refine WL.move ?_
    refine WL.cast (d := 11) (u := .bool true) rfl (congrArg Value.bool (by first | (simp; done) | (simp; omega) | omega)) ?_
    refine WL.gT ?_
    refine WL.move ?_
    refine WL.gT ?_
    refine WL.move ?_
    refine WL.gT ?_
    refine WL.nilCheck ?_
    refine WL.gT ?_
    refine WL.fa ?_ fo149_0
    refine WL.gT ?_
    refine WL.ld ?_ sc76
    refine WL.gT ?_
    refine WL.call (hc := Tryz.call80) (sp := devBlocksR (n := n) (t := t) (cur := cur)) (h := ?_)
    rintro _ _ ⟨rfl, rfl⟩
    refine WL.gT ?_
    refine WL.lss ?_
    refine WL.pickT ?_
    refine WL.assign ?_
    refine WL.nil ?_
    refine WQ.next ?_
    refine WC.ret (?_)
    exact WQ.ret1 (h1 := .tmp (t := 4) rfl) ⟨_, ⟨congrArg Value.bool (by simp [h5]), rfl⟩, Am.auto⟩
  · refine WC.seq ?_
    refine WC.region ?_
    refine WL.assign ?_
    refine WL.nil ?_
    refine WQ.next ?_
    refine WC.seq ?_
    refine WC.region ?_
    refine WL.move ?_
    refine WL.neNil ?_ ptr80
    refine WL.move ?_
    refine WL.gT ?_
    refine WL.move ?_
    refine WL.gT ?_
    refine WL.geq ?_
    refine WL.pickT ?_
    refine WL.move ?_
    refine WL.cast (d := 11) (u := .bool false) rfl (congrArg Value.bool (by first | (simp; done) | (simp; omega) | omega)) ?_
    refine WL.gF ?_
    refine WL.gF ?_
    refine WL.gF ?_
    refine WL.gF ?_
    refine WL.gF ?_
    refine WL.gF ?_
    refine WL.gF ?_
    refine WL.pickF ?_
    refine WL.assign ?_
    refine WL.nil ?_
    refine WQ.next ?_
    refine WC.ret (?_)
    exact WQ.ret1 (h1 := .tmp (t := 4) rfl) ⟨_, ⟨congrArg Value.bool (by simp [h5]), rfl⟩, Am.auto⟩

theorem jSettle {j d n t gen last mp c : Nat} {ov : Value} {es : Array MapEntry} {kv : List ((Int × Int) × Value)} {bl : List (Value × Bytes)} {ch : List (Nat × Bytes)} {cur : Nat → Bytes} (hm : MapIs pairE es c kv) (hk : Kept kv bl (last % 4) ch) (hf : Fit n ch) (ht : t ≤ 1000) :
    Spec Tryz.prog 92 #[.pointer (some ⟨j, 0, none⟩)] [pt j (jO d gen last ov mp), rowR 3 1 ov ch.length (blocksV ch), pt mp (.map es c), blobs bl, DevR d n cur t] fun F v M => v = okV ∧ M = [pt j (jO d gen last ov mp), rowR 3 1 ov ch.length (blocksV ch), pt mp (.map es c), blobs bl, DevR d n (lay cur ch) (t + ch.length)] ++ F := by
  refine Spec.intro Tryz.func92 rfl rfl fun B F => ?_
  simp only [Tryz.ntmps92, List.cons_append, List.nil_append, env0, Nat.reduceAdd]
  refine WC.fact (rowR_shape (el := 3) (size := 1) (v := ov) (k := ch.length) (xs := blocksV ch)) (fun ⟨A, cc, hov, hR, hc1, hc2, hlen⟩ => ?_)
  subst hov
  have hfew := hf.few
  refine WC.seq ?_
  refine WC.region ?_
  refine WL.assign ?_
  refine WL.nil ?_
  refine WQ.next ?_
  refine WC.seq ?_
  refine WC.seq ?_
  refine WC.region ?_
  refine WL.move ?_
  refine WL.nilCheck ?_
  refine WL.fa ?_ fo149_4
  refine WL.ld ?_ sc22
  refine WL.lenS ?_ sl22
  refine WL.move ?_
  refine WL.nil ?_
  refine WQ.next ?_
  refine WC.block ?_
  refine WC.loopA (σ := Int) (fun i => [(0, .pointer (some ⟨j, 0, none⟩)), (9, .slice A ch.length cc), (10, .int .i64 (ch.length : Int)), (11, .int .i64 i)]) (fun i => [pt j (jO d gen last (.slice A ch.length cc) mp), rowR 3 1 (.slice A ch.length cc) ch.length (blocksV ch), pt mp (.map es c), blobs bl, DevR d n (lay cur (ch.take i.toNat)) (t + i.toNat)] ++ F) (fun i => 0 ≤ i ∧ i ≤ ch.length) (fun i => ((ch.length : Int) - i).toNat) 0 (by omega) ?_
  rintro i hi
  refine WC.seq ?_
  refine WC.region ?_
  refine WL.lss ?_
  refine WL.nil ?_
  refine WQ.next ?_
  refine WC.seq ?_
  refine WC.cond rfl (fun hb => ?_) (fun hb => ?_)
  · have hlt : i < (ch.length : Int) := of_decide_eq_true hb
    have hil : i.toNat < ch.length := by omega
    have hbl := blocksV_length ch
    rcases A with _ | ⟨ab, ao, asp⟩
    · exact absurd hR (fun h => by have h2 : blocksV ch = [] := h; rw [h2] at hbl; simp at hbl; omega)
    have hsp : asp = none := hR.1
    subst hsp
    obtain ⟨v, hv, hvb⟩ := hk i.toNat hil
    have hhome := hf.home _ (List.getElem_mem hil)
    rw [show ((i.toNat : Nat) : Int) = i from by omega] at hv
    refine WC.skip ?_
    refine WQ.next ?_
    refine WC.seq ?_
    refine WC.block ?_
    refine WC.seq ?_
    refine WC.region ?_
    refine WL.move ?_
    refine WL.idx1 ?_ so22
    refine WL.ldR ?_ sc3 hR (blocksV_get ch i.toNat hil)
    refine WL.assign ?_
    refine WL.assign ?_
    refine WL.nil ?_
    refine WQ.next ?_
    refine WC.seq ?_
    refine WC.fact (blobs_shape hvb) fun ⟨gb, cb, hvs, hcb⟩ => ?_
    subst hvs
    refine WC.draw ([pt j (jO d gen last (.slice (some ⟨ab, ao, none⟩) ch.length cc) mp), pt mp (.map es c)]) [] 19 #[false, false, false, false, false, false, false, false, false, false, false, false, false, false, false, false, false, false, false] mixed (by kernel_rfl) NoPanic.autoJ ?_
    refine WD.take (i := 0) #[true, false, false, false, false, false, false, false, false, false, false, false, false, false, false, false, false, false, false] rfl (by kernel_rfl) (Qt.move ) ?_
    refine WD.take (i := 1) #[true, true, false, false, false, false, false, false, false, false, false, false, false, false, false, false, false, false, false] rfl (by kernel_rfl) (Qt.nilCheck ) ?_
    refine WD.take (i := 2) #[true, true, true, false, false, false, false, false, false, false, false, false, false, false, false, false, false, false, false] rfl (by kernel_rfl) (Qt.fa fo149_0) ?_
    refine WD.take (i := 3) #[true, true, true, true, false, false, false, false, false, false, false, false, false, false, false, false, false, false, false] rfl (by kernel_rfl) (Qt.ld sc76) ?_
    refine WD.take (i := 4) #[true, true, true, true, true, false, false, false, false, false, false, false, false, false, false, false, false, false, false] rfl (by kernel_rfl) (Qt.move ) ?_
    refine WD.take (i := 5) #[true, true, true, true, true, true, false, false, false, false, false, false, false, false, false, false, false, false, false] rfl (by kernel_rfl) (Qt.move ) ?_
    refine WD.take (i := 6) #[true, true, true, true, true, true, true, false, false, false, false, false, false, false, false, false, false, false, false] rfl (by kernel_rfl) (Qt.nilCheck ) ?_
    refine WD.take (i := 7) #[true, true, true, true, true, true, true, true, false, false, false, false, false, false, false, false, false, false, false] rfl (by kernel_rfl) (Qt.fa fo149_5) ?_
    refine WD.take (i := 8) #[true, true, true, true, true, true, true, true, true, false, false, false, false, false, false, false, false, false, false] rfl (by kernel_rfl) (Qt.ld sc147) ?_
    refine WD.take (i := 9) #[true, true, true, true, true, true, true, true, true, true, false, false, false, false, false, false, false, false, false] rfl (by kernel_rfl) (Qt.move ) ?_
    refine WD.take (i := 10) #[true, true, true, true, true, true, true, true, true, true, true, false, false, false, false, false, false, false, false] rfl (by kernel_rfl) (Qt.nilCheck ) ?_
    refine WD.take (i := 11) #[true, true, true, true, true, true, true, true, true, true, true, true, false, false, false, false, false, false, false] rfl (by kernel_rfl) (Qt.fa fo149_2) ?_
    refine WD.take (i := 12) #[true, true, true, true, true, true, true, true, true, true, true, true, true, false, false, false, false, false, false] rfl (by kernel_rfl) (Qt.ld sc138) ?_
    refine WD.take (i := 14) #[true, true, true, true, true, true, true, true, true, true, true, true, true, false, true, false, false, false, false] rfl (by kernel_rfl) (Qt.move ) ?_
    refine WD.one (i := 13) #[true, true, true, true, true, true, true, true, true, true, true, true, true, true, true, false, false, false, false] rfl (by kernel_rfl) fun hnp => ?_
    refine WL.call (hc := Tryz.call90) (sp := slotN) (h := ?_)
    rintro _ _ ⟨rfl, rfl⟩
    refine WL.nil (WQ.wd hnp (.inl Am.auto) ?_)
    refine WD.take (i := 15) #[true, true, true, true, true, true, true, true, true, true, true, true, true, true, true, true, false, false, false] rfl (by kernel_rfl) (Qt.build (bdPlace _ _)) ?_
    refine WD.take (i := 16) #[true, true, true, true, true, true, true, true, true, true, true, true, true, true, true, true, true, false, false] rfl (by kernel_rfl) ((Qt.look (k := (((last % 4 : Nat) : Int), i)) klP hm mp147 zv33).eq (v' := .slice (some ⟨gb, 0, none⟩) ch[i.toNat].2.length cb) (by rw [hv]; rfl)) ?_
    refine WD.one (i := 17) #[true, true, true, true, true, true, true, true, true, true, true, true, true, true, true, true, true, true, false] rfl (by kernel_rfl) fun hnp => ?_
    refine WL.call (hc := Tryz.call83) (sp := devWrite (n := n) (t := t + i.toNat) (cur := lay cur (ch.take i.toNat)) (k := ch[i.toNat].1) (Reads.blob hvb) rfl hhome.2.2 hhome.2.1 (by omega)) (h := ?_)
    rintro _ _ ⟨rfl, rfl⟩
    refine WL.nil (WQ.wd hnp (.inl Am.auto) ?_)
    refine WD.take (i := 18) #[true, true, true, true, true, true, true, true, true, true, true, true, true, true, true, true, true, true, true] rfl (by kernel_rfl) (Qt.assign ) ?_
    refine WD.done (by kernel_rfl) ?_
    rw [← lay_take cur ch i.toNat hil]
    refine WQ.next ?_
    refine WC.seq ?_
    refine WC.region ?_
    refine WL.move ?_
    refine WL.nei ?_
    refine WL.nil ?_
    refine WQ.next ?_
    refine WC.condF rfl rfl ?_
    refine WC.skip ?_
    refine WQ.blockNormal ?_
    refine WQ.next ?_
    refine WC.region ?_
    refine WL.add ?_
    refine WL.move ?_
    refine WL.nil ?_
    exact WQ.back (i + 1) (by omega) (by omega) (hI := by rw [show (i + 1).toNat = i.toNat + 1 from by omega]; exact Am.auto)
  · have hge : ¬ i < (ch.length : Int) := of_decide_eq_false hb
    have hin : i.toNat = ch.length := by omega
    rw [hin, List.take_length]
    refine WC.exit (WQ.thenExit (WQ.thenExit (WQ.blockExit (?_))))
    refine WQ.next ?_
    refine WC.seq ?_
    refine WC.region ?_
    refine WL.assign ?_
    refine WL.nil ?_
    refine WQ.next ?_
    refine WC.ret (?_)
    exact WQ.ret1 (h1 := .tmp (t := 2) rfl) ⟨_, ⟨rfl, rfl⟩, Am.auto⟩


/-- What a journal says: its generation, its last number, what it changed and did not lay, and the device beneath. -/
structure JS where
  gen : Nat
  last : Nat
  ch : List (Nat × Bytes)
  cur : Nat → Bytes
def JS.view (J : JS) (k : Nat) : Bytes := (kget J.ch k).getD (J.cur k)
structure JX where
  es : Array MapEntry
  c : Nat
  mp : Nat
  kv : List ((Int × Int) × Value)
  bl : List (Value × Bytes)
  ov : Value
structure JP (n : Nat) (J : JS) (x : JX) : Prop where
  hm : MapIs pairE x.es x.c x.kv
  hk : Kept x.kv x.bl (J.last % 4) J.ch
  hf : Fit n J.ch
  n1 : 246 ≤ n
  n2 : n ≤ 65536
  hg : J.gen < 2 ^ 64
  hl : J.last < 2 ^ 64
def jL (j d n : Nat) (J : JS) (x : JX) : List HP := [pt j (jO d J.gen J.last x.ov x.mp), rowR 3 1 x.ov J.ch.length (blocksV J.ch), pt x.mp (.map x.es x.c), blobs x.bl, DevR d n J.cur 0]
/-- A journal over a device that never lost its power. -/
def JR (j d n : Nat) (J : JS) : HP := fun h => ∃ x, JP n J x ∧ star (jL j d n J x) h
theorem JR.opens (j d n : Nat) (J : JS) : Opens (JR j d n J) (JP n J) (jL j d n J) := ⟨fun h hh => hh, fun x hp h hh => ⟨x, hp, hh⟩⟩
attribute [irreducible] JR
theorem idx_cases (l : List (Nat × Bytes)) (k : Nat) : (∃ i, ∃ h : i < l.length, l[i].1 = k ∧ (if (k : Int) ∈ l.map (fun p => (p.1 : Int)) then (((l.map fun p => (p.1 : Int)).idxOf (k : Int) : Nat) : Int) else -1) = (i : Int)) ∨
    ((if (k : Int) ∈ l.map (fun p => (p.1 : Int)) then (((l.map fun p => (p.1 : Int)).idxOf (k : Int) : Nat) : Int) else -1) = -1 ∧ kget l k = none) := by
  by_cases h : (k : Int) ∈ l.map (fun p => (p.1 : Int))
  · left
    have h1 := List.idxOf_lt_length_of_mem h
    have h2 : (l.map fun p => (p.1 : Int))[(l.map fun p => (p.1 : Int)).idxOf (k : Int)] = (k : Int) := List.getElem_idxOf h1
    refine ⟨(l.map fun p => (p.1 : Int)).idxOf (k : Int), by simpa using h1, ?_, by rw [if_pos h]⟩
    rw [List.getElem_map] at h2
    omega
  · right
    refine ⟨by rw [if_neg h], kget_none.2 fun hk => h ?_⟩
    obtain ⟨p, hp, rfl⟩ := List.mem_map.1 hk
    exact List.mem_map.2 ⟨p, hp, rfl⟩
theorem Fit.get {n : Nat} {l : List (Nat × Bytes)} (h : Fit n l) {i : Nat} (hi : i < l.length) {k : Nat} (hk : l[i].1 = k) : kget l k = some l[i].2 := by
  subst hk
  exact (kget_mem h.apart).2 (List.getElem_mem hi)

theorem jRead {j d n k : Nat} {J : JS} (h5 : 245 ≤ k) (hkn : k < n) : Spec Tryz.prog 110 #[.pointer (some ⟨j, 0, none⟩), .int .i64 (k : Int)] [JR j d n J] fun F v M => ∃ g q, v = .tuple #[.slice (some ⟨g, 0, none⟩) 512 q, .int .i64 0] ∧ (512 ≤ q ∧ q ≤ maxLen ∧ (J.view k).length = 512) ∧ M = buf g 5 q (bvs (J.view k)) :: JR j d n J :: F := by
  refine Spec.intro Tryz.func110 rfl rfl fun B F => ?_
  simp only [Tryz.ntmps110, List.cons_append, List.nil_append, env0, Nat.reduceAdd]
  refine WC.openR (JR.opens j d n J) fun x hp => ?_
  simp only [jL, List.cons_append, List.nil_append]
  refine WC.fact (rowR_shape (el := 3) (size := 1) (v := x.ov) (k := J.ch.length) (xs := blocksV J.ch)) (fun ⟨A, cc, hov, hR, hc1, hc2, hlen⟩ => ?_)
  have hfew := hp.hf.few
  refine WC.seq ?_
  refine WC.region ?_
  refine WL.assign ?_
  refine WL.assign ?_
  refine WL.nil ?_
  refine WQ.next ?_
  refine WC.seq ?_
  refine WC.seq ?_
  refine WC.region ?_
  refine WL.move ?_
  refine WL.move ?_
  refine WL.call (hc := Tryz.call131) (sp := jHome (n := n) (t := 0) (cur := J.cur)) (h := ?_)
  rintro _ _ ⟨rfl, rfl⟩
  refine WL.cast (d := 9) (u := .bool true) rfl (congrArg Value.bool (decide_eq_true (by omega))) ?_
  refine WL.not ?_
  refine WL.nil ?_
  refine WQ.next ?_
  refine WC.condF rfl rfl ?_
  refine WC.skip ?_
  refine WQ.next ?_
  refine WC.seq ?_
  refine WC.seq ?_
  refine WC.region ?_
  refine WL.move ?_
  refine WL.nilCheck ?_
  refine WL.fa ?_ fo149_4
  refine WL.ld ?_ sc22
  refine WL.cast (d := 14) rfl hov ?_
  refine WL.move ?_
  refine WL.call (hc := Tryz.call134) (sp := intsIndex (xs := J.ch.map fun p => (p.1 : Int)) hR (List.length_map ..) (by omega)) (h := ?_)
  rintro _ _ ⟨rfl, rfl⟩
  refine WL.assign ?_
  refine WL.nil ?_
  refine WQ.next ?_
  refine WC.seq ?_
  refine WC.region ?_
  refine WL.move ?_
  refine WL.geq ?_
  refine WL.nil ?_
  refine WQ.next ?_
  rcases idx_cases J.ch k with ⟨i, hi, hik, hidx⟩ | ⟨hidx, hno⟩
  · obtain ⟨v, hv, hvb⟩ := hp.hk i hi
    have hhome := hp.hf.home _ (List.getElem_mem hi)
    have hview : J.view k = J.ch[i].2 := by unfold JS.view; rw [hp.hf.get hi hik]; rfl
    have hl5 : (J.view k).length = 512 := by rw [hview]; exact hhome.2.2
    refine WC.fact (blobs_shape hvb) fun ⟨gb, cb, hvs, hcb⟩ => ?_
    rw [← hview] at hvb hvs
    refine WC.cast (d := 6) rfl (congrArg (Value.int .i64) hidx) ?_
    refine WC.condT rfl (congrArg Value.bool (by first | (simp only [hidx]; simp; done) | omega)) ?_
    refine WC.seq ?_
    refine WC.draw ([pt j (jO d J.gen J.last x.ov x.mp), pt x.mp (.map x.es x.c)]) [] 15 #[false, false, false, false, false, false, false, false, false, false, false, false, false, false, false] mixed (by kernel_rfl) NoPanic.autoJ ?_
    refine WD.take (i := 0) #[true, false, false, false, false, false, false, false, false, false, false, false, false, false, false] rfl (by kernel_rfl) (Qt.move ) ?_
    refine WD.take (i := 1) #[true, true, false, false, false, false, false, false, false, false, false, false, false, false, false] rfl (by kernel_rfl) (Qt.nilCheck ) ?_
    refine WD.take (i := 2) #[true, true, true, false, false, false, false, false, false, false, false, false, false, false, false] rfl (by kernel_rfl) (Qt.fa fo149_5) ?_
    refine WD.take (i := 3) #[true, true, true, true, false, false, false, false, false, false, false, false, false, false, false] rfl (by kernel_rfl) (Qt.ld sc147) ?_
    refine WD.take (i := 4) #[true, true, true, true, true, false, false, false, false, false, false, false, false, false, false] rfl (by kernel_rfl) (Qt.move ) ?_
    refine WD.take (i := 5) #[true, true, true, true, true, true, false, false, false, false, false, false, false, false, false] rfl (by kernel_rfl) (Qt.nilCheck ) ?_
    refine WD.take (i := 6) #[true, true, true, true, true, true, true, false, false, false, false, false, false, false, false] rfl (by kernel_rfl) (Qt.fa fo149_2) ?_
    refine WD.take (i := 7) #[true, true, true, true, true, true, true, true, false, false, false, false, false, false, false] rfl (by kernel_rfl) (Qt.ld sc138) ?_
    refine WD.take (i := 9) #[true, true, true, true, true, true, true, true, false, true, false, false, false, false, false] rfl (by kernel_rfl) (Qt.move ) ?_
    refine WD.one (i := 8) #[true, true, true, true, true, true, true, true, true, true, false, false, false, false, false] rfl (by kernel_rfl) fun hnp => ?_
    refine WL.call (hc := Tryz.call90) (sp := slotN) (h := ?_)
    rintro _ _ ⟨rfl, rfl⟩
    refine WL.nil (WQ.wd hnp (.inl Am.auto) ?_)
    refine WD.take (i := 10) #[true, true, true, true, true, true, true, true, true, true, true, false, false, false, false] rfl (by kernel_rfl) (Qt.build (bdPlace _ _)) ?_
    refine WD.take (i := 11) #[true, true, true, true, true, true, true, true, true, true, true, true, false, false, false] rfl (by kernel_rfl) ((Qt.look (k := (((J.last % 4 : Nat) : Int), (i : Int))) klP hp.hm mp147 zv33).eq (v' := .slice (some ⟨gb, 0, none⟩) (J.view k).length cb) (by rw [hv]; exact hvs)) ?_
    refine WD.one (i := 12) #[true, true, true, true, true, true, true, true, true, true, true, true, true, false, false] rfl (by kernel_rfl) fun hnp => ?_
    refine WL.call (hc := Tryz.call123) (sp := bytesClone (Reads.blob (by rw [← hvs]; exact hvb)) rfl (by omega)) (h := ?_)
    rintro _ _ ⟨gc, kc, ⟨rfl, hk1, hk2⟩, rfl⟩
    refine WL.nil (WQ.wd hnp (.inl Am.auto) ?_)
    refine WD.take (i := 13) #[true, true, true, true, true, true, true, true, true, true, true, true, true, true, false] rfl (by kernel_rfl) (Qt.assign ) ?_
    refine WD.take (i := 14) #[true, true, true, true, true, true, true, true, true, true, true, true, true, true, true] rfl (by kernel_rfl) (Qt.assign ) ?_
    refine WD.done (by kernel_rfl) ?_
    refine WQ.next ?_
    refine WC.ret (WQ.thenRet (?_))
    rw [hl5] at hk1
    refine WQ.cast (d := 4) (u := .slice (some ⟨gc, 0, none⟩) 512 kc) rfl (by rw [hl5]) ?_
    refine WQ.shutR (JR.opens j d n J) x hp ?_
    exact WQ.ret2 (h1 := .tmp (t := 4) rfl) (h2 := .tmp (t := 5) rfl) ⟨_, ⟨_, _, rfl, ⟨hk1, hk2, hl5⟩, rfl⟩, Am.auto⟩
  · have hview : J.view k = J.cur k := by unfold JS.view; rw [hno]; rfl
    refine WC.cast (d := 6) rfl (congrArg (Value.int .i64) hidx) ?_
    refine WC.condF rfl (congrArg Value.bool (by first | (simp only [hidx]; simp; done) | omega)) ?_
    refine WC.skip ?_
    refine WQ.next ?_
    refine WC.seq ?_
    refine WC.region ?_
    refine WL.move ?_
    refine WL.nilCheck ?_
    refine WL.fa ?_ fo149_0
    refine WL.ld ?_ sc76
    refine WL.move ?_
    refine WL.call (hc := Tryz.call91) (sp := devRead (n := n) (t := 0) (k := k) (cur := J.cur) hkn) (h := ?_)
    rintro _ _ ⟨gb, q, rfl, ⟨hq1, hq2, hlen5⟩, rfl⟩
    refine WL.extract ?_
    refine WL.extract ?_
    refine WL.assign ?_
    refine WL.assign ?_
    refine WL.nil ?_
    refine WQ.next ?_
    refine WC.ret (?_)
    rw [← hview] at hlen5
    refine WQ.shutR (JR.opens j d n J) x hp ?_
    exact WQ.ret2 (h1 := .tmp (t := 4) rfl) (h2 := .tmp (t := 5) rfl) ⟨_, ⟨_, _, rfl, ⟨hq1, hq2, hlen5⟩, by rw [hview]⟩, Am.auto⟩

end Go.Proofs.YtedmihapieleaaaGreat
