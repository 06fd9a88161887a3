/- A cache as two views: what is committed, what is read. -/
import Derived.Test.YtedmihapieleaaaGreatFa
import Derived.Test.YtedmihapieleaaaGreatWj
import Derived.Test.YtedmihapieleaaaGreatSh
import Derived.KernelRfl
set_option linter.unusedVariables false
set_option linter.unusedSimpArgs false
namespace Go.Proofs.YtedmihapieleaaaGreat
open Go

theorem lay_other (cur : Nat → Bytes) (l : List (Nat × Bytes)) (k : Nat) (h : ∀ p ∈ l, p.1 ≠ k) : lay cur l k = cur k := by
  induction l generalizing cur with
  | nil => rfl
  | cons p l ih =>
    show lay (wr cur p.1 p.2) l k = cur k
    rw [ih _ (fun q hq => h q (List.mem_cons_of_mem _ hq))]
    unfold wr
    rw [if_neg (fun hh => h p (List.mem_cons_self ..) hh.symm)]
theorem lay_view (cur : Nat → Bytes) (l : List (Nat × Bytes)) (hn : (l.map (·.1)).Nodup) (k : Nat) : lay cur l k = (kget l k).getD (cur k) := by
  induction l generalizing cur with
  | nil => rfl
  | cons p l ih =>
    obtain ⟨a, xs⟩ := p
    simp only [List.map_cons, List.nodup_cons] at hn
    show lay (wr cur a xs) l k = _
    rw [ih _ hn.2]
    by_cases h : k = a
    · subst h
      rw [kget_none.2 hn.1]
      simp [kget, wr]
    · simp only [kget, if_neg h, wr]
theorem dataL_low (s : Nat) (hs : s < 4) (l : List (Nat × Bytes)) (hl : l.length ≤ 60) : ∀ p ∈ dataL s l, p.1 < 245 := by
  intro p hp
  obtain ⟨i, hi, rfl⟩ := List.mem_iff_getElem.1 hp
  rw [dataL_length] at hi
  rw [dataL_get s l i hi]
  unfold slotAt
  simp only
  omega
theorem JS.view_commits {n : Nat} {J : JS} {l : List (Nat × Bytes)} (hf : Fit n J.ch) (hl : Fit n l) (k : Nat) (hk : 245 ≤ k) : (J.commits l).view k = (kget l k).getD (J.view k) := by
  unfold JS.commits
  split
  · rename_i h; subst h; rfl
  · show (kget l k).getD (J.wrote l k) = _
    congr 1
    unfold JS.wrote
    have h4 : J.next % 4 < 4 := Nat.mod_lt _ (by decide)
    rw [show wr (lay (lay J.cur J.ch) (dataL (J.next % 4) l)) (slotAt (J.next % 4) 0) (headB J.gen J.next l) k = lay (lay J.cur J.ch) (dataL (J.next % 4) l) k from by unfold wr; rw [if_neg (by unfold slotAt; omega)]]
    rw [lay_other _ _ _ (fun p hp => by have := dataL_low _ h4 l hl.few p hp; omega), lay_view _ _ hf.apart]
    rfl
theorem kget_perm {a b : List (Nat × Bytes)} (h : a.Perm b) (hn : (b.map (·.1)).Nodup) (k : Nat) : kget a k = kget b k := by
  have hna : (a.map (·.1)).Nodup := (h.map _).nodup_iff.2 hn
  cases hb : kget b k with
  | some v => exact (kget_mem hna).2 (h.mem_iff.2 ((kget_mem hn).1 hb))
  | none =>
    rw [kget_none] at hb ⊢
    exact fun hh => hb ((h.map _).mem_iff.1 hh)
/-- What a cache is: n blocks; V0: what is committed, V: what is read, D: the blocks that were written since, op: there is a transaction. -/
structure TP (n : Nat) (V0 V : Nat → Bytes) (D : List Nat) (op : Bool) (y : Nat × Nat × CS) : Prop where
  hop : y.2.2.op = op
  h0 : ∀ k, 245 ≤ k → k < n → y.2.2.J.view k = V0 k
  h1 : ∀ k, 245 ≤ k → k < n → y.2.2.view k = V k
  hd : y.2.2.W.map (·.1) = D
def TR (c n : Nat) (V0 V : Nat → Bytes) (D : List Nat) (op : Bool) : HP := fun h => ∃ y : Nat × Nat × CS, TP n V0 V D op y ∧ star [CR c y.1 y.2.1 n y.2.2] h
theorem TR.opens (c n : Nat) (V0 V : Nat → Bytes) (D : List Nat) (op : Bool) : Opens (TR c n V0 V D op) (TP n V0 V D op) (fun y => [CR c y.1 y.2.1 n y.2.2]) := ⟨fun h hh => hh, fun x hp h hh => ⟨x, hp, hh⟩⟩
attribute [irreducible] TR
def insD (D : List Nat) (k : Nat) : List Nat := if k ∈ D then D else D ++ [k]
variable {c n k : Nat} {V0 V : Nat → Bytes} {D : List Nat} {op : Bool}
theorem tOpen : Spec Tryz.prog 55 #[.pointer (some ⟨c, 0, none⟩)] [TR c n V0 V D op] fun F v M => v = .bool op ∧ M = TR c n V0 V D op :: F := by
  refine Spec.opens (TR.opens c n V0 V D op) fun y hy => (cOpenR (c := c) (j := y.1) (d := y.2.1) (n := n) (S := y.2.2)).post ?_
  rintro F v M ⟨rfl, rfl⟩
  exact ⟨_, ⟨congrArg Value.bool hy.hop, rfl⟩, Wk.shutR (TR.opens c n V0 V D op) y hy⟩
theorem tRead (h5 : 245 ≤ k) (hk : k < n) : Spec Tryz.prog 63 #[.pointer (some ⟨c, 0, none⟩), .int .i64 (k : Int)] [TR c n V0 V D op] fun F v M => ∃ g q el, v = .tuple #[.slice (some ⟨g, 0, none⟩) 512 q, .int .i64 0] ∧ (512 ≤ q ∧ q ≤ maxLen ∧ (V k).length = 512) ∧ M = buf g el q (bvs (V k)) :: TR c n V0 V D op :: F := by
  refine Spec.opens (TR.opens c n V0 V D op) fun y hy => (cRead (c := c) (j := y.1) (d := y.2.1) (n := n) (S := y.2.2) h5 hk).post ?_
  rintro F v M ⟨g, q, el, rfl, ⟨h1, h2, h3⟩, rfl⟩
  rw [hy.h1 k h5 hk] at h3
  refine ⟨_, ⟨g, q, el, rfl, ⟨h1, h2, h3⟩, rfl⟩, ?_⟩
  rw [hy.h1 k h5 hk]
  exact Wk.second (TR.opens c n V0 V D op) y hy
theorem tWrite {m cc : Nat} {R : HP} {A : Addr} {xs : Bytes} (h5 : 245 ≤ k) (hk : k < n) (hR : Reads R (some A) (bvs xs)) (hx : xs.length = m) (hm5 : m = 512) (hroom : k ∈ D ∨ D.length < 60) :
    Spec Tryz.prog 96 #[.pointer (some ⟨c, 0, none⟩), .int .i64 (k : Int), .slice (some A) m cc] [TR c n V0 V D true, R] fun F v M => v = okV ∧ M = TR c n V0 (wr V k xs) (insD D k) true :: R :: F := by
  refine Spec.opens (TR.opens c n V0 V D true) fun y hy => ?_
  have hr : (kget y.2.2.W k).isSome = true ∨ y.2.2.W.length < 60 := by
    rcases hroom with h | h
    · left
      cases hg : kget y.2.2.W k with
      | some v => rfl
      | none => rw [kget_none, hy.hd] at hg; exact absurd h hg
    · right
      rw [← hy.hd, List.length_map] at h
      exact h
  refine (cWrite (c := c) (j := y.1) (d := y.2.1) (n := n) (S := y.2.2) hy.hop h5 hk hR hx hm5 hr).post ?_
  rintro F v M ⟨rfl, rfl⟩
  refine ⟨_, ⟨rfl, rfl⟩, Wk.shutR (M := R :: F) (TR.opens c n V0 (wr V k xs) (insD D k) true) (y.1, y.2.1, ⟨y.2.2.J, kput y.2.2.W k xs, true, y.2.2.ov⟩) ⟨rfl, hy.h0, fun j h1 h2 => ?_, ?_⟩⟩
  · have := hy.h1 j h1 h2
    unfold CS.view at this ⊢
    simp only [kget_put, wr]
    split
    · rfl
    · exact this
  · show (kput y.2.2.W k xs).map (·.1) = _
    rw [kput_keys, hy.hd]; rfl
theorem tCommit : Spec Tryz.prog 21 #[.pointer (some ⟨c, 0, none⟩)] [TR c n V0 V D true] fun F v M => v = okV ∧ M = TR c n V V [] false :: F := by
  refine Spec.opens (TR.opens c n V0 V D true) fun y hy => (cCommitF (c := c) (j := y.1) (d := y.2.1) (n := n) (S := y.2.2) hy.hop).post ?_
  rintro F v M ⟨L, hL, hW, hJ, rfl, rfl⟩
  have hv : ∀ k, 245 ≤ k → k < n → (y.2.2.J.commits L).view k = V k := fun k h1 h2 => by
    rw [JS.view_commits hJ (hW.perm hL) k h1, kget_perm hL hW.apart]
    exact hy.h1 k h1 h2
  exact ⟨_, ⟨rfl, rfl⟩, Wk.shutR (M := F) (TR.opens c n V V [] false) (y.1, y.2.1, ⟨y.2.2.J.commits L, [], false, y.2.2.ov⟩) ⟨rfl, hv, hv, rfl⟩⟩
theorem tAbort : Spec Tryz.prog 28 #[.pointer (some ⟨c, 0, none⟩)] [TR c n V0 V D true] fun F v M => v = okV ∧ M = TR c n V0 V0 [] false :: F := by
  refine Spec.opens (TR.opens c n V0 V D true) fun y hy => (cAbort (c := c) (j := y.1) (d := y.2.1) (n := n) (S := y.2.2) hy.hop).post ?_
  rintro F v M ⟨rfl, rfl⟩
  exact ⟨_, ⟨rfl, rfl⟩, Wk.shutR (M := F) (TR.opens c n V0 V0 [] false) (y.1, y.2.1, ⟨y.2.2.J, [], false, y.2.2.ov⟩) ⟨rfl, hy.h0, hy.h0, rfl⟩⟩
theorem tBegin : Spec Tryz.prog 22 #[.pointer (some ⟨c, 0, none⟩)] [TR c n V0 V D false] fun F v M => v = okV ∧ M = TR c n V0 V D true :: F := by
  refine Spec.opens (TR.opens c n V0 V D false) fun y hy => (cBegin (c := c) (j := y.1) (d := y.2.1) (n := n) (S := y.2.2) hy.hop).post ?_
  rintro F v M ⟨rfl, rfl⟩
  exact ⟨_, ⟨rfl, rfl⟩, Wk.shutR (M := F) (TR.opens c n V0 V D true) (y.1, y.2.1, ⟨y.2.2.J, y.2.2.W, true, false⟩) ⟨rfl, hy.h0, hy.h1, hy.hd⟩⟩

end Go.Proofs.YtedmihapieleaaaGreat
