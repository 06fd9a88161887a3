/- Package alloc as maps of digits; awake. -/
import Derived.Test.YtedmihapieleaaaGreatFa
import Derived.Test.YtedmihapieleaaaGreatWo
import Derived.KernelRfl
set_option linter.unusedVariables false
set_option linter.unusedSimpArgs false
namespace Go.Proofs.YtedmihapieleaaaGreat
open Go

def Len5 (V : Nat → Bytes) : Prop := ∀ k, (V k).length = 512
/-- The digits of the maps. -/
structure AS (p : Pl) (V : Nat → Bytes) (bk ik : Nat → Bool) : Prop where
  len : Len5 V
  b : ∀ k, k < p.dc → dig V p.bm k = bk k
  i : ∀ k, k < p.ino → dig V p.im k = ik k
def setF (f : Nat → Bool) (k : Nat) (on : Bool) : Nat → Bool := fun i => if i = k then on else f i
theorem setD_len {V : Nat → Bytes} (h : Len5 V) (first k : Nat) (on : Bool) : Len5 (setD V first k on) := fun j => by
  unfold setD wr
  split
  · rw [setDigit_length]; exact h _
  · exact h _
theorem dig_setD {V : Nat → Bytes} (h : Len5 V) (first k i : Nat) (on : Bool) : dig (setD V first k on) first i = if i = k then on else dig V first i := by
  unfold dig setD wr
  by_cases hb : i / 4096 = k / 4096
  · rw [hb, if_pos rfl, setDigit_test _ _ _ _ (by rw [h]; omega)]
    by_cases hik : i = k
    · subst hik; simp
    · rw [if_neg (by omega), if_neg hik]
  · rw [if_neg (by omega), if_neg (fun h => hb (by rw [h]))]
theorem dig_setD_other {V : Nat → Bytes} (first first' k i : Nat) (on : Bool) (h : first' + i / 4096 ≠ first + k / 4096) : dig (setD V first k on) first' i = dig V first' i := by
  unfold dig setD wr
  rw [if_neg h]
theorem AS.setB {p : Pl} {V : Nat → Bytes} {bk ik : Nat → Bool} (h : AS p V bk ik) (ho : PlOk p) (k : Nat) (on : Bool) : AS p (setD V p.bm k on) (setF bk k on) ik := by
  have := ho.apart; have := ho.i2
  refine ⟨setD_len h.len _ _ _, fun i hi => ?_, fun i hi => ?_⟩
  · rw [dig_setD h.len, h.b i hi]; rfl
  · rw [dig_setD_other _ _ _ _ _ (by omega), h.i i hi]
theorem AS.setI {p : Pl} {V : Nat → Bytes} {bk ik : Nat → Bool} (h : AS p V bk ik) (ho : PlOk p) (k : Nat) (hk : k < p.ino) (on : Bool) : AS p (setD V p.im k on) bk (setF ik k on) := by
  have := ho.apart; have := ho.i2
  refine ⟨setD_len h.len _ _ _, fun i hi => ?_, fun i hi => ?_⟩
  · rw [dig_setD_other _ _ _ _ _ (by omega), h.b i hi]
  · rw [dig_setD h.len, h.i i hi]; rfl
/-- What was written within a transaction. -/
structure Dok (p : Pl) (D : List Nat) : Prop where
  nd : D.Nodup
  lo : ∀ x ∈ D, p.im ≤ x
  hi : ∀ x ∈ D, x < p.tb
theorem nodup_bound (a : Nat) : ∀ (m : Nat) (l : List Nat), l.Nodup → (∀ x ∈ l, a ≤ x ∧ x < a + m) → l.length ≤ m
  | 0, l, _, h => by
    cases l with
    | nil => exact Nat.le_refl _
    | cons x l => have := h x (List.mem_cons_self ..); omega
  | m + 1, l, hn, h => by
    have h1 := nodup_bound a m (l.erase (a + m)) (hn.erase _) (fun x hx => by
      have h2 := (hn.mem_erase_iff).1 hx
      have := h x h2.2
      omega)
    have h3 := List.length_erase (a := a + m) (l := l)
    split at h3 <;> omega
structure PlTb (p : Pl) : Prop where
  h : p.tb ≤ p.im + 50
theorem Dok.room {p : Pl} {D : List Nat} (h : Dok p D) (ht : p.tb ≤ p.im + 50) : Room D := by
  have := nodup_bound p.im 50 D h.nd (fun x hx => ⟨h.lo x hx, by have := h.hi x hx; omega⟩)
  unfold Room
  omega
theorem Dok.ins {p : Pl} {D : List Nat} (h : Dok p D) {k : Nat} (h1 : p.im ≤ k) (h2 : k < p.tb) : Dok p (insD D k) := by
  unfold insD
  split
  · exact h
  · rename_i hk
    refine ⟨?_, fun x hx => ?_, fun x hx => ?_⟩
    · rw [List.nodup_append]
      refine ⟨h.nd, by simp, fun a ha b hb => ?_⟩
      simp only [List.mem_singleton] at hb
      subst hb
      exact fun hh => hk (hh ▸ ha)
    · rcases List.mem_append.1 hx with hx | hx
      · exact h.lo x hx
      · rw [List.mem_singleton] at hx; omega
    · rcases List.mem_append.1 hx with hx | hx
      · exact h.hi x hx
      · rw [List.mem_singleton] at hx; omega
theorem Dok.nil (p : Pl) : Dok p [] := ⟨List.nodup_nil, (fun x hx => by cases hx), (fun x hx => by cases hx)⟩
structure AP (p : Pl) (bk0 ik0 bk ik : Nat → Bool) (y : (Nat → Bytes) × (Nat → Bytes) × List Nat) : Prop where
  s0 : AS p y.1 bk0 ik0
  s : AS p y.2.1 bk ik
  d : Dok p y.2.2
/-- Maps over a cache: what is committed, what is now. -/
def AL (a c : Nat) (p : Pl) (bk0 ik0 bk ik : Nat → Bool) (op : Bool) : HP := fun h => ∃ y, AP p bk0 ik0 bk ik y ∧ star [pt a (alO c p), TR c p.n y.1 y.2.1 y.2.2 op] h
theorem AL.opens (a c : Nat) (p : Pl) (bk0 ik0 bk ik : Nat → Bool) (op : Bool) : Opens (AL a c p bk0 ik0 bk ik op) (AP p bk0 ik0 bk ik) (fun y => [pt a (alO c p), TR c p.n y.1 y.2.1 y.2.2 op]) := ⟨fun h hh => hh, fun x hp h hh => ⟨x, hp, hh⟩⟩
attribute [irreducible] AL
structure PlT (p : Pl) : Prop where
  is : PlIs p
theorem PlIs.tb {p : Pl} (h : PlIs p) : p.tb ≤ p.im + 50 := by
  have h1 := h.im; have h2 := h.bm; have h3 := h.m1; have h4 := h.da; have h5 := h.dc; have h7 := h.least; have h8 := h.n2; have h9 := h.i2
  omega
variable {a c : Nat} {p : Pl} {bk0 ik0 bk ik : Nat → Bool} {op : Bool}
theorem aTakeBlock (h : PlIs p) : Spec Tryz.prog 150 #[.pointer (some ⟨a, 0, none⟩)] [AL a c p bk0 ik0 bk ik true] fun F v M =>
      (∃ k, k < p.dc ∧ bk k = false ∧ (∀ i < k, bk i = true) ∧ v = .tuple #[.int .i64 ((p.da + k : Nat) : Int), .int .i64 0] ∧ M = AL a c p bk0 ik0 (setF bk k true) ik true :: F) ∨
      ((∀ i < p.dc, bk i = true) ∧ v = .tuple #[.int .i64 0, .int .i64 3] ∧ M = AL a c p bk0 ik0 bk ik true :: F) := by
  refine Spec.opens (AL.opens a c p bk0 ik0 bk ik true) fun y hy => (alTakeBlock (a := a) (c := c) (p := p) (V0 := y.1) (V := y.2.1) (D := y.2.2) h.ok (hy.d.room h.tb)).post ?_
  have ho := h.ok
  have htb := ho.tbl
  have hap := ho.apart
  rintro F v M (⟨k, hk, hk0, hkb, rfl, rfl⟩ | ⟨hall, rfl, rfl⟩)
  · rw [hy.s.b k hk] at hk0
    refine ⟨_, .inl ⟨k, hk, hk0, fun i hi => by rw [← hy.s.b i (by omega)]; exact hkb i hi, rfl, rfl⟩, ?_⟩
    exact Wk.shutR (M := F) (AL.opens a c p bk0 ik0 (setF bk k true) ik true) (y.1, setD y.2.1 p.bm k true, insD y.2.2 (p.bm + k / 4096)) ⟨hy.s0, hy.s.setB ho k true, hy.d.ins (by omega) (by omega)⟩
  · exact ⟨_, .inr ⟨fun i hi => by rw [← hy.s.b i hi]; exact hall i hi, rfl, rfl⟩, Wk.shutR (M := F) (AL.opens a c p bk0 ik0 bk ik true) y hy⟩
theorem aTakeInode (h : PlIs p) : Spec Tryz.prog 50 #[.pointer (some ⟨a, 0, none⟩)] [AL a c p bk0 ik0 bk ik true] fun F v M =>
      (∃ k, k < p.ino ∧ ik k = false ∧ (∀ i < k, ik i = true) ∧ v = .tuple #[.int .i64 (k : Int), .int .i64 0] ∧ M = AL a c p bk0 ik0 bk (setF ik k true) true :: F) ∨
      ((∀ i < p.ino, ik i = true) ∧ v = .tuple #[.int .i64 0, .int .i64 3] ∧ M = AL a c p bk0 ik0 bk ik true :: F) := by
  refine Spec.opens (AL.opens a c p bk0 ik0 bk ik true) fun y hy => (alTakeInode (a := a) (c := c) (p := p) (V0 := y.1) (V := y.2.1) (D := y.2.2) h.ok (hy.d.room h.tb)).post ?_
  have ho := h.ok
  have htb := ho.tbl
  have hap := ho.apart
  have hi2 := ho.i2
  rintro F v M (⟨k, hk, hk0, hkb, rfl, rfl⟩ | ⟨hall, rfl, rfl⟩)
  · rw [hy.s.i k hk] at hk0
    refine ⟨_, .inl ⟨k, hk, hk0, fun i hi => by rw [← hy.s.i i (by omega)]; exact hkb i hi, rfl, rfl⟩, ?_⟩
    exact Wk.shutR (M := F) (AL.opens a c p bk0 ik0 bk (setF ik k true) true) (y.1, setD y.2.1 p.im k true, insD y.2.2 (p.im + k / 4096)) ⟨hy.s0, hy.s.setI ho k hk true, hy.d.ins (by omega) (by omega)⟩
  · exact ⟨_, .inr ⟨fun i hi => by rw [← hy.s.i i hi]; exact hall i hi, rfl, rfl⟩, Wk.shutR (M := F) (AL.opens a c p bk0 ik0 bk ik true) y hy⟩
theorem aGiveBlock {k : Nat} (h : PlIs p) (hk : k < p.dc) (hd : bk k = true) : Spec Tryz.prog 113 #[.pointer (some ⟨a, 0, none⟩), .int .i64 ((p.da + k : Nat) : Int)] [AL a c p bk0 ik0 bk ik true] fun F v M => v = .int .i64 0 ∧ M = AL a c p bk0 ik0 (setF bk k false) ik true :: F := by
  refine Spec.opens (AL.opens a c p bk0 ik0 bk ik true) fun y hy => (alGiveBlock (a := a) (c := c) (p := p) (V0 := y.1) (V := y.2.1) (D := y.2.2) h.ok (hy.d.room h.tb) hk (by rw [hy.s.b k hk]; exact hd)).post ?_
  have ho := h.ok
  have htb := ho.tbl
  have hap := ho.apart
  rintro F v M ⟨rfl, rfl⟩
  exact ⟨_, ⟨rfl, rfl⟩, Wk.shutR (M := F) (AL.opens a c p bk0 ik0 (setF bk k false) ik true) (y.1, setD y.2.1 p.bm k false, insD y.2.2 (p.bm + k / 4096)) ⟨hy.s0, hy.s.setB ho k false, hy.d.ins (by omega) (by omega)⟩⟩
theorem aGiveBlockNo {k : Int} (h : PlIs p) (hk : k < p.da ∨ (p.n : Int) ≤ k ∨ (p.da ≤ k ∧ k < p.n ∧ bk (k - p.da).toNat = false)) (hkb : -9223372036854775808 ≤ k ∧ k ≤ 9223372036854775807) : Spec Tryz.prog 113 #[.pointer (some ⟨a, 0, none⟩), .int .i64 k] [AL a c p bk0 ik0 bk ik true] fun F v M => v = .int .i64 1 ∧ M = AL a c p bk0 ik0 bk ik true :: F := by
  have hdat := h.dc
  refine Spec.opens (AL.opens a c p bk0 ik0 bk ik true) fun y hy => (alGiveBlockNo (a := a) (c := c) (p := p) (V0 := y.1) (V := y.2.1) (D := y.2.2) h.ok (by omega) (by
    rcases hk with hk | hk | ⟨h1, h2, h3⟩
    · exact .inl hk
    · exact .inr (.inl hk)
    · exact .inr (.inr ⟨h1, h2, by rw [hy.s.b _ (by omega)]; exact h3⟩)) hkb).post ?_
  rintro F v M ⟨rfl, rfl⟩
  exact ⟨_, ⟨rfl, rfl⟩, Wk.shutR (M := F) (AL.opens a c p bk0 ik0 bk ik true) y hy⟩
theorem aGiveInode {k : Nat} (h : PlIs p) (hk1 : 1 ≤ k) (hk : k < p.ino) (hd : ik k = true) : Spec Tryz.prog 68 #[.pointer (some ⟨a, 0, none⟩), .int .i64 (k : Int)] [AL a c p bk0 ik0 bk ik true] fun F v M => v = .int .i64 0 ∧ M = AL a c p bk0 ik0 bk (setF ik k false) true :: F := by
  refine Spec.opens (AL.opens a c p bk0 ik0 bk ik true) fun y hy => (alGiveInode (a := a) (c := c) (p := p) (V0 := y.1) (V := y.2.1) (D := y.2.2) h.ok (hy.d.room h.tb) hk1 hk (by rw [hy.s.i k hk]; exact hd)).post ?_
  have ho := h.ok
  have htb := ho.tbl
  have hap := ho.apart
  have hi2 := ho.i2
  rintro F v M ⟨rfl, rfl⟩
  exact ⟨_, ⟨rfl, rfl⟩, Wk.shutR (M := F) (AL.opens a c p bk0 ik0 bk (setF ik k false) true) (y.1, setD y.2.1 p.im k false, insD y.2.2 (p.im + k / 4096)) ⟨hy.s0, hy.s.setI ho k hk false, hy.d.ins (by omega) (by omega)⟩⟩
theorem aGiveInodeNo {k : Int} (h : PlIs p) (hk : k ≤ 0 ∨ (p.ino : Int) ≤ k ∨ (0 ≤ k ∧ k < p.ino ∧ ik k.toNat = false)) : Spec Tryz.prog 68 #[.pointer (some ⟨a, 0, none⟩), .int .i64 k] [AL a c p bk0 ik0 bk ik true] fun F v M => v = .int .i64 1 ∧ M = AL a c p bk0 ik0 bk ik true :: F := by
  refine Spec.opens (AL.opens a c p bk0 ik0 bk ik true) fun y hy => (alGiveInodeNo (a := a) (c := c) (p := p) (V0 := y.1) (V := y.2.1) (D := y.2.2) h.ok (by
    rcases hk with hk | hk | ⟨h1, h2, h3⟩
    · exact .inl hk
    · exact .inr (.inl hk)
    · exact .inr (.inr ⟨h1, h2, by rw [hy.s.i _ (by omega)]; exact h3⟩))).post ?_
  rintro F v M ⟨rfl, rfl⟩
  exact ⟨_, ⟨rfl, rfl⟩, Wk.shutR (M := F) (AL.opens a c p bk0 ik0 bk ik true) y hy⟩
/-- How many of the first n are taken. -/
def cntB (f : Nat → Bool) (n : Nat) : Nat := ((List.range n).filter f).length
theorem cnt_cntB {V : Nat → Bytes} {first n : Nat} {f : Nat → Bool} (h : ∀ k, k < n → dig V first k = f k) : cnt V first n = cntB f n := by
  unfold cnt cntB
  rw [List.filter_congr (q := f)]
  intro k hk
  exact h k (List.mem_range.1 hk)
theorem aFree (h : PlIs p) : Spec Tryz.prog 25 #[.pointer (some ⟨a, 0, none⟩)] [AL a c p bk0 ik0 bk ik op] fun F v M => v = .tuple #[.int .i64 ((p.dc : Int) - cntB bk p.dc), .int .i64 ((p.ino : Int) - cntB ik p.ino)] ∧ M = AL a c p bk0 ik0 bk ik op :: F := by
  refine Spec.opens (AL.opens a c p bk0 ik0 bk ik op) fun y hy => (alFree (a := a) (c := c) (p := p) (V0 := y.1) (V := y.2.1) (D := y.2.2) (op := op) h.ok).post ?_
  rintro F v M ⟨rfl, rfl⟩
  rw [cnt_cntB hy.s.b, cnt_cntB hy.s.i]
  exact ⟨_, ⟨rfl, rfl⟩, Wk.shutR (M := F) (AL.opens a c p bk0 ik0 bk ik op) y hy⟩
theorem Spec.second {P : Program} {f : FuncId} {args : Array Value} {X Y : HP} {R : List HP → Value → List HP → Prop} (h : Spec P f args [Y] R) : Spec P f args [X, Y] fun F v M => R (X :: F) v M := fun B F w hs => h B (X :: F) w (Sat.front (.there .here) hs)
theorem aCommit : Spec Tryz.prog 21 #[.pointer (some ⟨c, 0, none⟩)] [AL a c p bk0 ik0 bk ik true] fun F v M => v = okV ∧ M = AL a c p bk ik bk ik false :: F := by
  refine Spec.opens (AL.opens a c p bk0 ik0 bk ik true) fun y hy => (Spec.second (tCommit (c := c) (n := p.n) (V0 := y.1) (V := y.2.1) (D := y.2.2))).post ?_
  rintro F v M ⟨rfl, rfl⟩
  exact ⟨_, ⟨rfl, rfl⟩, fun B w hs => Sat.shuts (M := F) (AL.opens a c p bk ik bk ik false) (x := (y.2.1, y.2.1, [])) ⟨hy.s, hy.s, Dok.nil p⟩ (Sat.front (.there .here) hs)⟩
theorem aAbort : Spec Tryz.prog 28 #[.pointer (some ⟨c, 0, none⟩)] [AL a c p bk0 ik0 bk ik true] fun F v M => v = okV ∧ M = AL a c p bk0 ik0 bk0 ik0 false :: F := by
  refine Spec.opens (AL.opens a c p bk0 ik0 bk ik true) fun y hy => (Spec.second (tAbort (c := c) (n := p.n) (V0 := y.1) (V := y.2.1) (D := y.2.2))).post ?_
  rintro F v M ⟨rfl, rfl⟩
  exact ⟨_, ⟨rfl, rfl⟩, fun B w hs => Sat.shuts (M := F) (AL.opens a c p bk0 ik0 bk0 ik0 false) (x := (y.1, y.1, [])) ⟨hy.s0, hy.s0, Dok.nil p⟩ (Sat.front (.there .here) hs)⟩
theorem aBegin : Spec Tryz.prog 22 #[.pointer (some ⟨c, 0, none⟩)] [AL a c p bk0 ik0 bk ik false] fun F v M => v = okV ∧ M = AL a c p bk0 ik0 bk ik true :: F := by
  refine Spec.opens (AL.opens a c p bk0 ik0 bk ik false) fun y hy => (Spec.second (tBegin (c := c) (n := p.n) (V0 := y.1) (V := y.2.1) (D := y.2.2))).post ?_
  rintro F v M ⟨rfl, rfl⟩
  exact ⟨_, ⟨rfl, rfl⟩, fun B w hs => Sat.shuts (M := F) (AL.opens a c p bk0 ik0 bk ik true) (x := y) hy (Sat.front (.there .here) hs)⟩
def noneB : Nat → Bool := fun _ => false
def rootB : Nat → Bool := fun k => decide (k = 0)
theorem fresh_len {p : Pl} : Len5 (freshV p) := fun k => by
  unfold freshV fmtA
  rw [fmtV_at]
  split
  · exact fmtZ_length _ _ _
  · rw [fmtV_at]
    split
    · exact fmtZ_length _ _ _
    · exact zeros_length

end Go.Proofs.YtedmihapieleaaaGreat
