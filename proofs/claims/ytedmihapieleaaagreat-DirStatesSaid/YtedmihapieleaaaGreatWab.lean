/- Package inode as files by their numbers. -/
import Derived.Test.YtedmihapieleaaaGreatFa
import Derived.Test.YtedmihapieleaaaGreatWaa
import Derived.Test.YtedmihapieleaaaGreatWo
import Derived.KernelRfl
set_option linter.unusedVariables false
set_option linter.unusedSimpArgs false
namespace Go.Proofs.YtedmihapieleaaaGreat
open Go

theorem Spec.later {P : Program} {f : FuncId} {args : Array Value} {X Y Z : HP} {R : List HP → Value → List HP → Prop} (h : Spec P f args [Y, Z] R) : Spec P f args [X, Y, Z] fun F v M => R (X :: F) v M := fun B F w hs => h B (X :: F) w (Am.wk Am.auto B w hs)
theorem Spec.last {P : Program} {f : FuncId} {args : Array Value} {X Y Z : HP} {R : List HP → Value → List HP → Prop} (h : Spec P f args [Z] R) : Spec P f args [X, Y, Z] fun F v M => R (X :: Y :: F) v M := fun B F w hs => h B (X :: Y :: F) w (Am.wk Am.auto B w hs)
theorem Spec.mid {P : Program} {f : FuncId} {args : Array Value} {X Y Z : HP} {R : List HP → Value → List HP → Prop} (h : Spec P f args [X, Z] R) : Spec P f args [X, Y, Z] fun F v M => R (Y :: F) v M := fun B F w hs => h B (Y :: F) w (Am.wk Am.auto B w hs)

structure IP (p : Pl) (F0 F : FM) (W : Nat) (y : (Nat → Bytes) × (Nat → Bytes) × List Nat) : Prop where
  r0 : Rep p y.1 F0
  r : Rep p y.2.1 F
  dk : Dk p y.2.2
  wt : wt p y.2.2 ≤ W
def inLs (s a c : Nat) (p : Pl) (op : Bool) (y : (Nat → Bytes) × (Nat → Bytes) × List Nat) : List HP := [pt s (stO c a p), pt a (alO c p), TR c p.n y.1 y.2.1 y.2.2 op]
/-- Inodes over a cache: the files that are committed, those that there are now; how many blocks were written at most, that are no maps. -/
def IN (s a c : Nat) (p : Pl) (F0 F : FM) (W : Nat) (op : Bool) : HP := fun h => ∃ y, IP p F0 F W y ∧ star (inLs s a c p op y) h
theorem IN.opens (s a c : Nat) (p : Pl) (F0 F : FM) (W : Nat) (op : Bool) : Opens (IN s a c p F0 F W op) (IP p F0 F W) (inLs s a c p op) := ⟨fun h hh => hh, fun x hp h hh => ⟨x, hp, hh⟩⟩
attribute [irreducible] IN
/-- There is room for so many blocks more. -/
def Rw (p : Pl) (W c : Nat) : Prop := p.n ≤ 304 ∨ (p.tb - 245) + W + c ≤ 60
theorem Rw.rm {p : Pl} {W c : Nat} {D : List Nat} (h : Rw p W c) (hw : wt p D ≤ W) : Rm p D c := by
  unfold Rw at h; unfold Rm
  rcases h with h | h
  · exact .inl h
  · exact .inr (by omega)
theorem Spec.re {P : Program} {f : FuncId} {args : Array Value} {L L' : List HP} {R : List HP → Value → List HP → Prop} (h : Spec P f args L R) (hk : ∀ F, Wk (L' ++ F) (L ++ F)) : Spec P f args L' R := fun B F w hs => h B F w (hk F B w hs)
theorem fileAt_lt {F : FM} {i : Int} {f : Nat × Bytes} (h : fileAt F i = some f) : 0 ≤ i := by
  unfold fileAt at h
  split at h
  · assumption
  · cases h
def cntF (F : FM) (n : Nat) : Nat := cntB (fun i => (F i).isSome) n
theorem Rep.cntI {p : Pl} {V : Nat → Bytes} {F : FM} (h : Rep p V F) : cnt V p.im p.ino = cntF F p.ino := by
  unfold cntF
  refine cnt_cntB fun k hk => ?_
  rw [h.inv.imap k hk]
  unfold ndOf
  cases F k <;> rfl
theorem Rep.imapF {p : Pl} {V : Nat → Bytes} {F : FM} (h : Rep p V F) {j : Nat} (hj : j < p.ino) : dig V p.im j = (F j).isSome := by
  rw [h.inv.imap j hj]
  unfold ndOf
  cases F j <;> rfl
variable {s a c : Nat} {p : Pl} {F0 F : FM} {W : Nat} {op : Bool}

theorem nMake {i k : Nat} (ho : PlOk p) (hk : k = 1 ∨ k = 2) (hw : Rw p W 1) (hi : i < p.ino) (h0 : F i = none) (hb : ∀ j < i, F j ≠ none) : Spec Tryz.prog 17 #[.pointer (some ⟨s, 0, none⟩), nI k] [IN s a c p F0 F W true] fun G v M => v = .tuple #[nI i, .int .i64 0] ∧ M = IN s a c p F0 (updM F i (some (k, []))) (W + 1) true :: G := by
  refine Spec.opens (IN.opens s a c p F0 F W true) fun y hy => (inMake (s := s) (c := c) (a := a) (V0 := y.1) (V := y.2.1) (D := y.2.2) (k := k) ho hk hy.dk (hw.rm hy.wt)).post ?_
  rintro G v M (⟨j, hj, hj0, hjb, rfl, rfl⟩ | ⟨hall, _, _⟩)
  · rw [hy.r.imapF hj] at hj0
    have hji : j = i := by
      rcases Nat.lt_trichotomy j i with h1 | h1 | h1
      · have := hb j h1
        cases hF : F j with
        | none => exact absurd hF this
        | some f => rw [hF] at hj0; cases hj0
      · exact h1
      · have := hjb i h1
        rw [hy.r.imapF hi, h0] at this
        cases this
    subst hji
    have hd := mkD_ok ho hy.dk hj
    have hw1 := hy.wt
    exact ⟨_, ⟨rfl, rfl⟩, Wk.shutR (M := G) (IN.opens s a c p F0 (updM F j (some (k, []))) (W + 1) true) (y.1, _, mkD p y.2.2 j) ⟨hy.r0, hy.r.made ho hj (by rw [hy.r.imapF hj]; exact hj0) hk, hd.1, by show wt p (mkD p y.2.2 j) ≤ W + 1; omega⟩⟩
  · have := hall i hi
    rw [hy.r.imapF hi, h0] at this
    cases this

theorem nMakeFull {k : Nat} (ho : PlOk p) (hk : k = 1 ∨ k = 2) (hw : Rw p W 1) (hb : ∀ j < p.ino, F j ≠ none) : Spec Tryz.prog 17 #[.pointer (some ⟨s, 0, none⟩), nI k] [IN s a c p F0 F W true] fun G v M => v = .tuple #[nI 0, .int .i64 3] ∧ M = IN s a c p F0 F W true :: G := by
  refine Spec.opens (IN.opens s a c p F0 F W true) fun y hy => (inMake (s := s) (c := c) (a := a) (V0 := y.1) (V := y.2.1) (D := y.2.2) (k := k) ho hk hy.dk (hw.rm hy.wt)).post ?_
  rintro G v M (⟨j, hj, hj0, hjb, _, _⟩ | ⟨hall, rfl, rfl⟩)
  · rw [hy.r.imapF hj] at hj0
    have := hb j hj
    cases hF : F j with
    | none => exact absurd hF this
    | some f => rw [hF] at hj0; cases hj0
  · exact ⟨_, ⟨rfl, rfl⟩, Wk.shutR (M := G) (IN.opens s a c p F0 F W true) y hy⟩

theorem nStat {i : Nat} {f : Nat × Bytes} (ho : PlOk p) (hi : F i = some f) : Spec Tryz.prog 29 #[.pointer (some ⟨s, 0, none⟩), nI i] [IN s a c p F0 F W op] fun G v M => v = .tuple #[.agg #[nI f.1, nI f.2.length], .int .i64 0] ∧ M = IN s a c p F0 F W op :: G := by
  refine Spec.opens (IN.opens s a c p F0 F W op) fun y hy => (inStat (s := s) (c := c) (a := a) (V0 := y.1) (V := y.2.1) (D := y.2.2) (op := op) (i := i) ho (hy.r.lt hi) (hy.r.digI hi)).post ?_
  rintro G v M ⟨rfl, rfl⟩
  have hf := hy.r.ok i f hi
  rw [hf.kd, hf.sz]
  exact ⟨_, ⟨rfl, rfl⟩, Wk.shutR (M := G) (IN.opens s a c p F0 F W op) y hy⟩

theorem nStatNo {i : Int} (ho : PlOk p) (hi : fileAt F i = none) : Spec Tryz.prog 29 #[.pointer (some ⟨s, 0, none⟩), .int .i64 i] [IN s a c p F0 F W op] fun G v M => v = .tuple #[.agg #[nI 0, nI 0], .int .i64 4] ∧ M = IN s a c p F0 F W op :: G := by
  refine Spec.opens (IN.opens s a c p F0 F W op) fun y hy => (inStatNo (s := s) (c := c) (a := a) (V0 := y.1) (V := y.2.1) (D := y.2.2) (op := op) (i := i) ho (hy.r.nope hi)).post ?_
  rintro G v M ⟨rfl, rfl⟩
  exact ⟨_, ⟨rfl, rfl⟩, Wk.shutR (M := G) (IN.opens s a c p F0 F W op) y hy⟩

theorem nRead {i at' k : Nat} {f : Nat × Bytes} (ho : PlOk p) (hi : F i = some f) (hat : at' ≤ 9223372036854775807) (hk : k ≤ 9223372036854775807) : Spec Tryz.prog 23 #[.pointer (some ⟨s, 0, none⟩), nI i, nI at', nI k] [IN s a c p F0 F W op] fun G v M => ∃ u, v = .tuple #[u, .int .i64 0] ∧ M = rowR 5 1 u ((f.2.drop at').take k).length (bvs ((f.2.drop at').take k)) :: IN s a c p F0 F W op :: G := by
  refine Spec.opens (IN.opens s a c p F0 F W op) fun y hy => (inRead (s := s) (c := c) (a := a) (V0 := y.1) (V := y.2.1) (D := y.2.2) (op := op) hy.r ho hi hat hk).post ?_
  rintro G v M ⟨u, rfl, rfl⟩
  exact ⟨_, ⟨u, rfl, rfl⟩, fun B w hs => Sat.front (.there .here) (Sat.shuts (M := rowR _ _ _ _ _ :: G) (IN.opens s a c p F0 F W op) hy (Am.wk Am.auto B w hs))⟩

theorem nWrite {i at' m cc : Nat} {f : Nat × Bytes} {R : HP} {A : Option Addr} {bs : Bytes} (ho : PlOk p) (hi : F i = some f) (hw : Rw p W (has (max f.2.length (at' + m)) - has f.2.length + (m + 511) / 512 + 10)) (hR : bs = [] ∨ Reads R A (bvs bs)) (hm : bs.length = m) (hcc : m ≤ cc) (hcb : cc ≤ maxLen) (hat : at' ≤ f.2.length) (hbg : at' + m ≤ 70656) (hfit : tot F p.ino + has (max f.2.length (at' + m)) ≤ p.dc + has f.2.length) :
    Spec Tryz.prog 20 #[.pointer (some ⟨s, 0, none⟩), nI i, nI at', .slice A m cc] [IN s a c p F0 F W true, R] fun G v M => v = okV ∧ M = IN s a c p F0 (updM F i (some (f.1, wrB f.2 at' bs))) (W + (has (max f.2.length (at' + m)) - has f.2.length) + (m + 511) / 512 + 5) true :: R :: G := by
  refine Spec.opens (IN.opens s a c p F0 F W true) fun y hy => ((inWrite (s := s) (c := c) (a := a) (V0 := y.1) (V := y.2.1) (D := y.2.2) (cc := cc) hy.r ho hi hy.dk (hw.rm hy.wt) hR hm hcc hcb hat hbg).re (fun G B w hs => Sat.front (.there (.there (.there .here))) hs)).post ?_
  rintro G v M (⟨hfull, rfl, rfl⟩ | ⟨hle, V1, D1, hrep, ⟨hdk, hwt⟩, rfl, rfl⟩)
  · omega
  · have hw1 := hy.wt
    exact ⟨_, ⟨rfl, rfl⟩, Wk.trans (Am.wk Am.auto) (Wk.shutR (M := R :: G) (IN.opens s a c p F0 (updM F i (some (f.1, wrB f.2 at' bs))) (W + (has (max f.2.length (at' + m)) - has f.2.length) + (m + 511) / 512 + 5) true) (y.1, V1, D1) ⟨hy.r0, hrep, hdk, by show wt p D1 ≤ _; omega⟩)⟩

theorem nWriteFull {i at' m cc : Nat} {f : Nat × Bytes} {R : HP} {A : Option Addr} {bs : Bytes} (ho : PlOk p) (hi : F i = some f) (hw : Rw p W (has (max f.2.length (at' + m)) - has f.2.length + (m + 511) / 512 + 10)) (hR : bs = [] ∨ Reads R A (bvs bs)) (hm : bs.length = m) (hcc : m ≤ cc) (hcb : cc ≤ maxLen) (hat : at' ≤ f.2.length) (hbg : at' + m ≤ 70656) (hfit : p.dc + has f.2.length < tot F p.ino + has (max f.2.length (at' + m))) :
    Spec Tryz.prog 20 #[.pointer (some ⟨s, 0, none⟩), nI i, nI at', .slice A m cc] [IN s a c p F0 F W true, R] fun G v M => v = .int .i64 3 ∧ M = IN s a c p F0 F W true :: R :: G := by
  refine Spec.opens (IN.opens s a c p F0 F W true) fun y hy => ((inWrite (s := s) (c := c) (a := a) (V0 := y.1) (V := y.2.1) (D := y.2.2) (cc := cc) hy.r ho hi hy.dk (hw.rm hy.wt) hR hm hcc hcb hat hbg).re (fun G B w hs => Sat.front (.there (.there (.there .here))) hs)).post ?_
  rintro G v M (⟨hfull, rfl, rfl⟩ | ⟨hle, V1, D1, hrep, ⟨hdk, hwt⟩, rfl, rfl⟩)
  · exact ⟨_, ⟨rfl, rfl⟩, Wk.trans (Am.wk Am.auto) (Wk.shutR (M := R :: G) (IN.opens s a c p F0 F W true) y hy)⟩
  · omega

theorem nTrunc {i size : Nat} {f : Nat × Bytes} (ho : PlOk p) (hi : F i = some f) (hw : Rw p W (has size - has f.2.length + 8)) (hbg : size ≤ 70656) (hfit : tot F p.ino + has size ≤ p.dc + has f.2.length) : Spec Tryz.prog 26 #[.pointer (some ⟨s, 0, none⟩), nI i, nI size] [IN s a c p F0 F W true] fun G v M => v = okV ∧ M = IN s a c p F0 (updM F i (some (f.1, trB f.2 size))) (W + (has size - has f.2.length) + 4) true :: G := by
  refine Spec.opens (IN.opens s a c p F0 F W true) fun y hy => (inTrunc (s := s) (c := c) (a := a) (V0 := y.1) (V := y.2.1) (D := y.2.2) hy.r ho hi hy.dk (hw.rm hy.wt) hbg).post ?_
  rintro G v M (⟨hfull, rfl, rfl⟩ | ⟨hle, V1, D1, hrep, ⟨hdk, hwt⟩, rfl, rfl⟩)
  · omega
  · have hw1 := hy.wt
    exact ⟨_, ⟨rfl, rfl⟩, Wk.shutR (M := G) (IN.opens s a c p F0 (updM F i (some (f.1, trB f.2 size))) (W + (has size - has f.2.length) + 4) true) (y.1, V1, D1) ⟨hy.r0, hrep, hdk, by show wt p D1 ≤ _; omega⟩⟩

theorem nTruncFull {i size : Nat} {f : Nat × Bytes} (ho : PlOk p) (hi : F i = some f) (hw : Rw p W (has size - has f.2.length + 8)) (hbg : size ≤ 70656) (hfit : p.dc + has f.2.length < tot F p.ino + has size) : Spec Tryz.prog 26 #[.pointer (some ⟨s, 0, none⟩), nI i, nI size] [IN s a c p F0 F W true] fun G v M => v = .int .i64 3 ∧ M = IN s a c p F0 F W true :: G := by
  refine Spec.opens (IN.opens s a c p F0 F W true) fun y hy => (inTrunc (s := s) (c := c) (a := a) (V0 := y.1) (V := y.2.1) (D := y.2.2) hy.r ho hi hy.dk (hw.rm hy.wt) hbg).post ?_
  rintro G v M (⟨hfull, rfl, rfl⟩ | ⟨hle, V1, D1, hrep, ⟨hdk, hwt⟩, rfl, rfl⟩)
  · exact ⟨_, ⟨rfl, rfl⟩, Wk.shutR (M := G) (IN.opens s a c p F0 F W true) y hy⟩
  · omega

theorem nDrop {i : Nat} {f : Nat × Bytes} (ho : PlOk p) (hi : F i = some f) (hi0 : i ≠ 0) (hw : Rw p W 1) : Spec Tryz.prog 27 #[.pointer (some ⟨s, 0, none⟩), nI i] [IN s a c p F0 F W true] fun G v M => v = okV ∧ M = IN s a c p F0 (updM F i none) W true :: G := by
  refine Spec.opens (IN.opens s a c p F0 F W true) fun y hy => (inDrop (s := s) (c := c) (a := a) (V0 := y.1) (V := y.2.1) (D := y.2.2) hy.r ho hi hi0 hy.dk (hw.rm hy.wt)).post ?_
  rintro G v M ⟨V1, D1, hrep, ⟨hdk, hwt⟩, rfl, rfl⟩
  have hw1 := hy.wt
  exact ⟨_, ⟨rfl, rfl⟩, Wk.shutR (M := G) (IN.opens s a c p F0 (updM F i none) (W) true) (y.1, V1, D1) ⟨hy.r0, hrep, hdk, by show wt p D1 ≤ W; omega⟩⟩

theorem nFree (ho : PlOk p) : Spec Tryz.prog 25 #[.pointer (some ⟨a, 0, none⟩)] [IN s a c p F0 F W op] fun G v M => v = .tuple #[.int .i64 ((p.dc : Int) - tot F p.ino), .int .i64 ((p.ino : Int) - cntF F p.ino)] ∧ M = IN s a c p F0 F W op :: G := by
  refine Spec.opens (IN.opens s a c p F0 F W op) fun y hy => ((alFree (a := a) (c := c) (V0 := y.1) (V := y.2.1) (D := y.2.2) (op := op) ho).later).post ?_
  rintro G v M ⟨rfl, rfl⟩
  rw [hy.r.cn, hy.r.cntI]
  exact ⟨_, ⟨rfl, rfl⟩, Wk.trans (Am.wk Am.auto) (Wk.shutR (M := G) (IN.opens s a c p F0 F W op) y hy)⟩

theorem nCommit  : Spec Tryz.prog 21 #[.pointer (some ⟨c, 0, none⟩)] [IN s a c p F0 F W true] fun G v M => v = okV ∧ M = IN s a c p F F 0 false :: G := by
  refine Spec.opens (IN.opens s a c p F0 F W true) fun y hy => ((tCommit (c := c) (n := p.n) (V0 := y.1) (V := y.2.1) (D := y.2.2)).last).post ?_
  rintro G v M ⟨rfl, rfl⟩
  exact ⟨_, ⟨rfl, rfl⟩, Wk.trans (Am.wk Am.auto) (Wk.shutR (M := G) (IN.opens s a c p F F 0 false) (y.2.1, y.2.1, []) ⟨hy.r, hy.r, Dk.nil p, Nat.zero_le _⟩)⟩

theorem nAbort  : Spec Tryz.prog 28 #[.pointer (some ⟨c, 0, none⟩)] [IN s a c p F0 F W true] fun G v M => v = okV ∧ M = IN s a c p F0 F0 0 false :: G := by
  refine Spec.opens (IN.opens s a c p F0 F W true) fun y hy => ((tAbort (c := c) (n := p.n) (V0 := y.1) (V := y.2.1) (D := y.2.2)).last).post ?_
  rintro G v M ⟨rfl, rfl⟩
  exact ⟨_, ⟨rfl, rfl⟩, Wk.trans (Am.wk Am.auto) (Wk.shutR (M := G) (IN.opens s a c p F0 F0 0 false) (y.1, y.1, []) ⟨hy.r0, hy.r0, Dk.nil p, Nat.zero_le _⟩)⟩

theorem nBegin  : Spec Tryz.prog 22 #[.pointer (some ⟨c, 0, none⟩)] [IN s a c p F0 F W false] fun G v M => v = okV ∧ M = IN s a c p F0 F W true :: G := by
  refine Spec.opens (IN.opens s a c p F0 F W false) fun y hy => ((tBegin (c := c) (n := p.n) (V0 := y.1) (V := y.2.1) (D := y.2.2)).last).post ?_
  rintro G v M ⟨rfl, rfl⟩
  exact ⟨_, ⟨rfl, rfl⟩, Wk.trans (Am.wk Am.auto) (Wk.shutR (M := G) (IN.opens s a c p F0 F W true) y hy)⟩

theorem nMake0 {k : Int} : Spec Tryz.prog 17 #[.pointer (some ⟨s, 0, none⟩), .int .i64 k] [IN s a c p F0 F W false] fun G v M => v = .tuple #[nI 0, .int .i64 8] ∧ M = IN s a c p F0 F W false :: G := by
  refine Spec.opens (IN.opens s a c p F0 F W false) fun y hy => ((inMake0 (s := s) (c := c) (a := a) (V0 := y.1) (V := y.2.1) (D := y.2.2)).mid).post ?_
  rintro G v M ⟨rfl, rfl⟩
  exact ⟨_, ⟨rfl, rfl⟩, Wk.trans (Am.wk Am.auto) (Wk.shutR (M := G) (IN.opens s a c p F0 F W false) y hy)⟩

theorem nWrite0 {i u z : Value} : Spec Tryz.prog 20 #[.pointer (some ⟨s, 0, none⟩), i, u, z] [IN s a c p F0 F W false] fun G v M => v = .int .i64 8 ∧ M = IN s a c p F0 F W false :: G := by
  refine Spec.opens (IN.opens s a c p F0 F W false) fun y hy => ((inWrite0 (s := s) (c := c) (a := a) (V0 := y.1) (V := y.2.1) (D := y.2.2)).mid).post ?_
  rintro G v M ⟨rfl, rfl⟩
  exact ⟨_, ⟨rfl, rfl⟩, Wk.trans (Am.wk Am.auto) (Wk.shutR (M := G) (IN.opens s a c p F0 F W false) y hy)⟩

theorem nTruncate0 {i u : Value} : Spec Tryz.prog 26 #[.pointer (some ⟨s, 0, none⟩), i, u] [IN s a c p F0 F W false] fun G v M => v = .int .i64 8 ∧ M = IN s a c p F0 F W false :: G := by
  refine Spec.opens (IN.opens s a c p F0 F W false) fun y hy => ((inTruncate0 (s := s) (c := c) (a := a) (V0 := y.1) (V := y.2.1) (D := y.2.2)).mid).post ?_
  rintro G v M ⟨rfl, rfl⟩
  exact ⟨_, ⟨rfl, rfl⟩, Wk.trans (Am.wk Am.auto) (Wk.shutR (M := G) (IN.opens s a c p F0 F W false) y hy)⟩

theorem nDrop0 {i : Value} : Spec Tryz.prog 27 #[.pointer (some ⟨s, 0, none⟩), i] [IN s a c p F0 F W false] fun G v M => v = .int .i64 8 ∧ M = IN s a c p F0 F W false :: G := by
  refine Spec.opens (IN.opens s a c p F0 F W false) fun y hy => ((inDrop0 (s := s) (c := c) (a := a) (V0 := y.1) (V := y.2.1) (D := y.2.2)).mid).post ?_
  rintro G v M ⟨rfl, rfl⟩
  exact ⟨_, ⟨rfl, rfl⟩, Wk.trans (Am.wk Am.auto) (Wk.shutR (M := G) (IN.opens s a c p F0 F W false) y hy)⟩

/-! ### an empty store -/
def rootM : FM := fun i => if i = 0 then some (2, []) else none
def freshW (p : Pl) : Nat → Bytes := svV p (freshV p) 0 ⟨2, 0, List.replicate 11 0⟩
theorem fresh_len5 {p : Pl} : Len5 (freshV p) := fun k => by
  unfold freshV fmtA
  rw [fmtV_at]
  split
  · exact fmtZ_length _ _ _
  · rw [fmtV_at]
    split
    · exact fmtZ_length _ _ _
    · exact zeros_length
theorem fresh_rep {p : Pl} (h : PlIs p) : Rep p (freshW p) rootM := by
  have ho := h.ok
  have hlo := ho.lo
  have htd := ho.tbda
  have hi1 := ho.i1
  have hi2 := ho.i2
  have htab := ho.tab
  have hfx : Fits ⟨2, 0, List.replicate 11 0⟩ := kFits (by decide)
  have hld : ldN p (freshW p) 0 = ⟨2, 0, List.replicate 11 0⟩ := ldN_svV fresh_len5 hfx
  have hnd : ∀ i x S, ndOf p (freshW p) rootM i = some (x, S) → i = 0 ∧ x = ⟨2, 0, List.replicate 11 0⟩ ∧ ∀ k, S k = false := by
    intro i x S hi
    unfold ndOf rootM at hi
    by_cases h0 : i = 0
    · subst h0
      rw [if_pos rfl] at hi
      have hi' : some (ldN p (freshW p) 0, stdS (dat ([] : Bytes).length)) = some (x, S) := hi
      injection hi' with hi'
      injection hi' with e1 e2
      exact ⟨rfl, by rw [← e1, hld], fun k => by rw [← e2]; exact stdS_zero k⟩
    · rw [if_neg h0] at hi; cases hi
  have hV : ∀ v, v < p.tb → freshW p v = freshV p v := fun v hv => wr_other _ _ (by omega)
  have hbm : ∀ k, k < p.dc → dig (freshW p) p.bm k = false := fun k hk => by
    have := ho.mapAt hk
    rw [← fresh_bm h hk]
    unfold dig
    rw [hV _ (by omega)]
  refine ⟨⟨svV_len fresh_len5 _ _, ?_, ?_, ?_, ?_, ?_, ?_, ?_⟩, ?_, ?_, rfl⟩
  · intro i x S hi; obtain ⟨_, h2, _⟩ := hnd i x S hi; rw [h2]; exact hfx
  · intro i x S hi; obtain ⟨_, _, h3⟩ := hnd i x S hi; exact ⟨fun k hk => (by rw [h3 k] at hk; cases hk), fun k hk => (by rw [h3 k] at hk; cases hk)⟩
  · intro i x S hi; obtain ⟨h1, _, _⟩ := hnd i x S hi; omega
  · intro i x S k hi hk; obtain ⟨_, _, h3⟩ := hnd i x S hi; rw [h3 k] at hk; cases hk
  · intro i x S k j y T l hi hk; obtain ⟨_, _, h3⟩ := hnd i x S hi; rw [h3 k] at hk; cases hk
  · intro b hb
    rw [hbm b hb]
    refine ⟨fun hh => (by cases hh), ?_⟩
    rintro ⟨i, x, S, k, hi, hk, _⟩
    obtain ⟨_, _, h3⟩ := hnd i x S hi
    rw [h3 k] at hk; cases hk
  · intro i hi
    have h1 : dig (freshW p) p.im i = decide (i = 0) := by
      rw [← fresh_im h hi]
      unfold dig
      rw [hV _ (by omega)]
    rw [h1]
    unfold ndOf rootM
    by_cases h0 : i = 0
    · rw [if_pos h0, decide_eq_true h0]; rfl
    · rw [if_neg h0, decide_eq_false h0]; rfl
  · intro i f hi
    unfold rootM at hi
    by_cases h0 : i = 0
    · subst h0
      rw [if_pos rfl] at hi
      cases hi
      rw [hld]
      exact ⟨rfl, .inr rfl, rfl, Nat.zero_le _, fun q hq => by cases hq⟩
    · rw [if_neg h0] at hi; cases hi
  · have h1 : ∀ n, tot rootM n = 0 := by
      intro n
      induction n with
      | zero => rfl
      | succ n ih =>
        unfold tot
        rw [ih]
        unfold rootM
        by_cases h0 : n = 0
        · rw [if_pos h0]; rfl
        · rw [if_neg h0]; rfl
    rw [h1]
    unfold cnt
    rw [List.filter_eq_nil_iff.2 (fun k hk => by rw [hbm k (List.mem_range.1 hk)]; decide)]
    rfl
theorem tot_root (n : Nat) : tot rootM n = 0 := by
  induction n with
  | zero => rfl
  | succ n ih =>
    unfold tot
    rw [ih]
    unfold rootM
    by_cases h0 : n = 0
    · rw [if_pos h0]; rfl
    · rw [if_neg h0]; rfl
theorem fmtB_few {p : Pl} (h : PlIs p) : (fmtB p []).length + 1 ≤ 60 := by
  have h1 := fmtD_length (fmtD [] p.im ((p.ino + 4095) / 4096)) p.bm ((p.dc + 4095) / 4096)
  have h2 := fmtD_length [] p.im ((p.ino + 4095) / 4096)
  have h3 := h.i2
  have h4 := h.n2
  have h5 := h.dc
  have h6 := h.i1
  have h7 := h.da
  have h8 := h.m1
  have h9 := h.bm
  unfold fmtB
  have : ([] : List Nat).length = 0 := rfl
  omega
theorem newIN {s a c : Nat} {p : Pl} (h : PlIs p) {op : Bool} (G : List HP) : Wk ([pt s (stO c a p), pt a (alO c p), TR c p.n (freshW p) (freshW p) [] op] ++ G) (IN s a c p rootM rootM 0 op :: G) :=
  Wk.shutR (M := G) (IN.opens s a c p rootM rootM 0 op) (freshW p, freshW p, []) ⟨fresh_rep h, fresh_rep h, Dk.nil p, Nat.zero_le _⟩

end Go.Proofs.YtedmihapieleaaaGreat
