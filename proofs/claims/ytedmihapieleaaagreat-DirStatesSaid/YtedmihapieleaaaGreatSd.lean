/- Regions whose order is drawn: an operation that only computes may be taken first; the others come one by one. -/
import Derived.Test.YtedmihapieleaaaGreatSk
import Derived.OrdersHeld
set_option linter.unusedVariables false
set_option linter.unusedSimpArgs false
set_option linter.unusedSectionVars false
namespace Go.Proofs.YtedmihapieleaaaGreat
open Go

section
variable {P : Program} {ops : Array Oper} {Q : Exit → Act → World → Prop} {S : World → Prop} {ds : List Nat}
/-- Whatever order is picked from here on, and S holds behind every operation that is not of ds. -/
def wpAnyS (P : Program) (ops : Array Oper) (Q : Exit → Act → World → Prop) (S : World → Prop) (ds : List Nat) : Nat → Array Bool → Act → World → Prop
  | 0, listed, a, w => Region.ready .any ops listed = [] ∧ Q .normal a w
  | fuel + 1, listed, a, w =>
    (Region.ready .any ops listed = [] → Q .normal a w) ∧
    ∀ i ∈ Region.ready .any ops listed, wpOp P ops Q i (fun a' w' => (i ∉ ds → S w') ∧ wpAnyS P ops Q S ds fuel (listed.setIfInBounds i true) a' w') a w
theorem wpAny_ofS : ∀ (fuel : Nat) (listed : Array Bool) (a : Act) (w : World), wpAnyS P ops Q S ds fuel listed a w → wpAny P .any ops Q fuel listed a w
  | 0, _, _, _, h => h
  | fuel + 1, _, _, _, h => ⟨h.1, fun i hi => wpOp_mono (fun a' w' h' => wpAny_ofS fuel _ a' w' h'.2) (h.2 i hi)⟩
/-- Each of ds waits for i, by an edge of its own. -/
def waits (ops : Array Oper) (ds : List Nat) (i : Nat) : Bool :=
  ds.all fun d => match ops[d]? with
    | some o => o.after.any fun e => Region.binds .any e && Nat.beq e.on i
    | none => true
/-- An operation that may come up now may be taken first. -/
theorem wpAnyS_first {i : Nat} {oi : Oper} {v : Value} (hi : ops[i]? = some oi) (hsel : ∀ (j : Nat) (o : Oper) cs b, ops[j]? = some o → o.op ≠ .select cs b)
    (hQ : ∀ c a w, Q (.panic c) (a.put oi.dst v) w → Q (.panic c) a w) (hds : waits ops ds i = true) :
    ∀ (fuel : Nat) (listed : Array Bool) (a : Act) (w : World),
      (∀ j oj, ops[j]? = some oj → j ≠ i → listed.getD j true = false → (∀ e ∈ oj.after, Region.binds .any e = true → e.on ≠ i) → oi.apart ops oj = true) →
      i ∈ Region.ready .any ops listed → YieldsIf P ops S oi v a → S w →
      wpAnyS P ops Q S ds fuel (listed.setIfInBounds i true) (a.put oi.dst v) w → wpAnyS P ops Q S ds (fuel + 1) listed a w := by
  intro fuel
  induction fuel with
  | zero =>
    intro listed a w _ hr hy hS H
    refine ⟨fun h => (by rw [h] at hr; cases hr), fun j hj => ?_⟩
    by_cases hji : j = i
    · subst hji; exact hy.wpOp hi hS ⟨fun _ => hS, H⟩
    · have := ready_mono hj hji
      rw [H.1] at this
      cases this
  | succ fuel ih =>
    intro listed a w hfree hr hy hS H
    refine ⟨fun h => (by rw [h] at hr; cases hr), fun j hj => ?_⟩
    by_cases hji : j = i
    · subst hji; exact hy.wpOp hi hS ⟨fun _ => hS, H⟩
    · have h1 := H.2 j (ready_mono hj hji)
      obtain ⟨hjun, oj, hoj, hall⟩ := mem_ready.1 hj
      have hiun := (mem_ready.1 hr).1
      have hnot : ∀ e ∈ oj.after, Region.binds .any e = true → e.on ≠ i := fun e he hb heq => by
        have h1 := hall e he hb
        rw [heq] at h1
        rcases Nat.lt_or_ge i listed.size with h' | h'
        · simp [h'] at hiun h1; rw [hiun] at h1; cases h1
        · simp [Array.getElem?_eq_none h'] at h1
      have hjd : j ∉ ds := by
        intro hd
        have := List.all_eq_true.1 hds j hd
        rw [hoj] at this
        simp only [Array.any_eq_true, Bool.and_eq_true] at this
        obtain ⟨k, hk, hb, hon⟩ := this
        exact hnot _ (Array.getElem_mem hk) hb (Nat.eq_of_beq_eq_true hon)
      have h2 := wpOp_putIf hoj (hfree j oj hoj hji hjun hnot) (fun cs b => hsel i oi cs b hi) (fun cs b => hsel j oj cs b hoj) hQ hy h1
      have hfree' : ∀ k ok, ops[k]? = some ok → k ≠ i → (listed.setIfInBounds j true).getD k true = false →
          (∀ e ∈ ok.after, Region.binds .any e = true → e.on ≠ i) → oi.apart ops ok = true := fun k ok hk hki hun hno => by
        refine hfree k ok hk hki ?_ hno
        by_cases hjk : j = k
        · subst hjk; exact hjun
        · rw [getD_set_ne true hjk] at hun; exact hun
      refine wpOp_mono (fun a' w' h3 => ?_) h2
      obtain ⟨h3a, h3b, h3c⟩ := h3
      exact ⟨h3b, ih (listed.setIfInBounds j true) a' w' hfree' (ready_mono hr (Ne.symm hji)) h3a (h3b hjd) (by rw [Array.setIfInBounds_comm _ _ hji]; exact h3c)⟩
end

section
variable {P : Program} {B : Base} {n : Nat} {Q Q' : Exit → Act → World → Prop} {e : Env} {L L0 : List HP} {ops : Array Oper} {l : List Oper} {ds : List Nat}
/-- What the ways of panic are asked: nothing that hangs on the slots. -/
def NoPanic (Q : Exit → Act → World → Prop) : Prop := ∀ c (a : Act) d v w, Q (.panic c) (a.put d v) w → Q (.panic c) a w
theorem NoPanic.body {fn : Func} {F : List HP} {R : List HP → Value → List HP → Prop} : NoPanic (bodyPost P fn (Post B F R)) := fun c a d v w h => ⟨by have := h.1; cases d <;> exact this, h.2⟩
theorem NoPanic.then {K : Act → World → Prop} (h : NoPanic Q) : NoPanic (Exit.then K Q) := h
theorem NoPanic.block {i : Nat} (h : NoPanic Q) : NoPanic (Exit.inBlock i Q) := h
/-- The judgement within such a region: 'listed' has come up; L0 is what may be read meanwhile. -/
def WD (P : Program) (B : Base) (n : Nat) (ops : Array Oper) (Q : Exit → Act → World → Prop) (L0 : List HP) (ds : List Nat) (fuel : Nat) (listed : Array Bool) (e : Env) (L : List HP) : Prop :=
  NoPanic Q → ∀ a w, Ag n e a → Sat B w L → wpAnyS P ops Q (fun w => Sat B w L0) ds fuel listed a w
def startB (ops : Array Oper) (k : Nat) (l : Array Bool) : Bool := Nat.beq ops.size k && (Array.replicate k false == l) && Region.noSelect ops
theorem WC.draw {id : Nat} {l : List Oper} (L0 : List HP) (ds : List Nat) (k : Nat) (lst : Array Bool) (hm : P.follows .mixedOrders = true) (hst : startB l.toArray k lst = true) (hQ : NoPanic Q) (h : WD P B n l.toArray Q L0 ds k lst e L) : WC P B n (.region id l.toArray true) Q e L := by
  intro a w ha hs
  simp only [startB, Bool.and_eq_true, beq_iff_eq] at hst
  obtain ⟨⟨h1, h2⟩, _⟩ := hst
  have h1 := Nat.eq_of_beq_eq_true h1
  refine wp_region_any hm (wpAny_ofS (S := fun w => Sat B w L0) (ds := ds) _ _ _ _ ?_)
  rw [h1, h2]
  exact h hQ a w.drew ha hs.drew
def takeC (ops : Array Oper) (ds : List Nat) (l l' : Array Bool) (i : Nat) : Bool :=
  Region.noSelect ops && Region.free .any ops l i && (Region.ready .any ops l).contains i && waits ops ds i && (l.setIfInBounds i true == l')
/-- Number i is taken first: it only computes, out of what may be read. -/
theorem WD.take {i d fuel : Nat} {o : Op} {ty : TypeId} {pos : String} {af : Array Edge} {v : Value} {lst : Array Bool} (lst' : Array Bool) (hi : ops[i]? = some ⟨some d, o, ty, pos, af, none⟩) (hc : takeC ops ds lst lst' i = true)
    (hq : Qt P B n e L0 ⟨some d, o, ty, pos, af, none⟩ v) (h : WD P B n ops Q L0 ds fuel lst' ((d, v) :: e) L) (h0 : Am L L0 := by repeat (first | exact .refl | exact .nil | (apply Am.take; focus ((repeat (first | exact .here | apply Rem.there)); done)) | refine .skip ?_)) (hd : Nat.ble (d + 1) n = true := by rfl) : WD P B n ops Q L0 ds (fuel + 1) lst e L := by
  intro hQ a w ha hs
  simp only [takeC, Bool.and_eq_true, beq_iff_eq] at hc
  obtain ⟨⟨⟨⟨h1, h2⟩, h3⟩, h4⟩, h5⟩ := hc
  subst h5
  exact wpAnyS_first hi (Region.noSelect_spec h1) (fun c a w => hQ c a _ v w) h4 fuel lst a w (Region.free_spec hi h2) (by simpa using h3)
    (.inl ⟨rfl, fun w' hs' => hq a w' ha hs'⟩) (h0.wk B w hs) (h hQ _ w (ha.put hd v) hs)
/-- A guarded one whose guard is off. -/
theorem WD.takeOff {i d t j fuel : Nat} {b : Bool} {o : Op} {ty : TypeId} {pos : String} {af : Array Edge} {u : Value} {lst : Array Bool} (lst' : Array Bool) (hi : ops[i]? = some ⟨some d, o, ty, pos, af, some (j, b)⟩) (hc : takeC ops ds lst lst' i = true)
    (h : WD P B n ops Q L0 ds fuel lst' ((d, undef) :: e) L) (h0 : Am L L0 := by repeat (first | exact .refl | exact .nil | (apply Am.take; focus ((repeat (first | exact .here | apply Rem.there)); done)) | refine .skip ?_))
    (hs : (ops[j]?).bind (·.dst) = some t := by rfl) (hl : look e t = some u := by rfl) (hv : u = .bool (!b) := by rfl) (ht : Nat.ble (t + 1) n = true := by rfl) (hd : Nat.ble (d + 1) n = true := by rfl) : WD P B n ops Q L0 ds (fuel + 1) lst e L := by
  intro hQ a w ha hsat
  simp only [takeC, Bool.and_eq_true, beq_iff_eq] at hc
  obtain ⟨⟨⟨⟨h1, h2⟩, h3⟩, h4⟩, h5⟩ := hc
  subst h5
  have hy : yielded ops a.tmps j = some (!b) := by
    have hg := ha.get t u hl
    subst hv
    have htn : t < a.tmps.size := by rw [ha.size]; exact Nat.le_of_ble_eq_true ht
    have : a.tmps[t]? = some (.bool (!b)) := by
      rw [Array.getD_eq_getD_getElem?] at hg
      cases hq : a.tmps[t]? with
      | none => rw [Array.getElem?_eq_none_iff] at hq; omega
      | some u => rw [hq] at hg; simpa using hg
    simp [yielded, hs, this]
  exact wpAnyS_first (v := undef) hi (Region.noSelect_spec h1) (fun c a w => hQ c a _ undef w) h4 fuel lst a w (Region.free_spec hi h2) (by simpa using h3)
    (.inr ⟨by simp [Region.wanted, hy], rfl⟩) (h0.wk B w hsat) (h hQ _ w (ha.put hd undef) hsat)
/-- A guarded one whose guard is on. -/
theorem WD.takeOn {i d t j fuel : Nat} {b : Bool} {o : Op} {ty : TypeId} {pos : String} {af : Array Edge} {u v : Value} {lst : Array Bool} (lst' : Array Bool) (hi : ops[i]? = some ⟨some d, o, ty, pos, af, some (j, b)⟩) (hc : takeC ops ds lst lst' i = true)
    (hq : Qt P B n e L0 ⟨some d, o, ty, pos, af, some (j, b)⟩ v) (h : WD P B n ops Q L0 ds fuel lst' ((d, v) :: e) L) (h0 : Am L L0 := by repeat (first | exact .refl | exact .nil | (apply Am.take; focus ((repeat (first | exact .here | apply Rem.there)); done)) | refine .skip ?_))
    (hs : (ops[j]?).bind (·.dst) = some t := by rfl) (hl : look e t = some u := by rfl) (hv : u = .bool b := by rfl) (ht : Nat.ble (t + 1) n = true := by rfl) (hd : Nat.ble (d + 1) n = true := by rfl) : WD P B n ops Q L0 ds (fuel + 1) lst e L := by
  intro hQ a w ha hsat
  simp only [takeC, Bool.and_eq_true, beq_iff_eq] at hc
  obtain ⟨⟨⟨⟨h1, h2⟩, h3⟩, h4⟩, h5⟩ := hc
  subst h5
  have hy : yielded ops a.tmps j = some b := by
    have hg := ha.get t u hl
    subst hv
    have htn : t < a.tmps.size := by rw [ha.size]; exact Nat.le_of_ble_eq_true ht
    have : a.tmps[t]? = some (.bool b) := by
      rw [Array.getD_eq_getD_getElem?] at hg
      cases hq : a.tmps[t]? with
      | none => rw [Array.getElem?_eq_none_iff] at hq; omega
      | some u => rw [hq] at hg; simpa using hg
    simp [yielded, hs, this]
  exact wpAnyS_first hi (Region.noSelect_spec h1) (fun c a w => hQ c a _ v w) h4 fuel lst a w (Region.free_spec hi h2) (by simpa using h3)
    (.inl ⟨by simp [Region.wanted, hy], fun w' hs' => hq a w' ha hs'⟩) (h0.wk B w hsat) (h hQ _ w (ha.put hd v) hsat)
/-- What is asked behind one operation. -/
def Qone (P : Program) (B : Base) (ops : Array Oper) (Q : Exit → Act → World → Prop) (L0 : List HP) (ds : List Nat) (i fuel : Nat) (lst : Array Bool) : Exit → Act → World → Prop
  | .normal, a, w => (i ∉ ds → Sat B w L0) ∧ wpAnyS P ops Q (fun w => Sat B w L0) ds fuel lst a w
  | x, a, w => Q x a w
def oneC (ops : Array Oper) (l l' : Array Bool) (i : Nat) : Bool := (Region.ready .any ops l == [i]) && (l.setIfInBounds i true == l')
/-- Only number i can come up: it is walked as ever. -/
theorem WD.one {i fuel : Nat} {o : Oper} {lst : Array Bool} (lst' : Array Bool) (hi : ops[i]? = some o) (hc : oneC ops lst lst' i = true) (h : NoPanic Q → WL P B n ops [o] (Qone P B ops Q L0 ds i fuel lst') e L) : WD P B n ops Q L0 ds (fuel + 1) lst e L := by
  intro hQ a w ha hs
  simp only [oneC, Bool.and_eq_true, beq_iff_eq] at hc
  obtain ⟨h1, h2⟩ := hc
  subst h2
  refine ⟨(fun h0 => by rw [h1] at h0; cases h0), fun j hj => ?_⟩
  rw [h1] at hj
  have hj : j = i := by simpa using hj
  subst hj
  have h3 := h hQ a w ha hs
  unfold wpOp
  simp only [hi]
  unfold wpList at h3
  split
  · rename_i hw
    rw [if_pos hw] at h3
    rcases h3 with h3 | ⟨h4, b, wb, h5⟩
    · refine .inl ?_
      unfold Oper.wp at h3 ⊢
      generalize (execOp a.eval o).run P w = r at h3 ⊢
      cases r with
      | ok x w' =>
        cases x <;> simp only [Oper.upon] at h3 ⊢ <;> exact h3
      | halt x w' => cases x <;> simp only [Oper.upon] at h3 ⊢ <;> exact h3
    · exact .inr ⟨h4, b, wb, h5⟩
  · rename_i hw
    rw [if_neg hw] at h3
    exact h3
theorem WQ.wd {i fuel : Nat} {lst : Array Bool} (hQ : NoPanic Q) (h0 : Am L L0 ∨ ds.contains i = true) (h : WD P B n ops Q L0 ds fuel lst e L) : WQ B n (Qone P B ops Q L0 ds i fuel lst) .normal e L :=
  fun a w ha hs => ⟨fun hd => by rcases h0 with h0 | h0; exact h0.wk B w hs; exact absurd (by simpa using h0) hd, h hQ a w ha hs⟩
theorem WD.done {fuel : Nat} {lst : Array Bool} (hr : (Region.ready .any ops lst == []) = true) (h : WQ B n Q .normal e L) : WD P B n ops Q L0 ds fuel lst e L := by
  intro hQ a w ha hs
  have hr : Region.ready .any ops lst = [] := by simpa using hr
  cases fuel with
  | zero => exact ⟨hr, h a w ha hs⟩
  | succ k => exact ⟨fun _ => h a w ha hs, fun i hi => by rw [hr] at hi; cases hi⟩
theorem NoPanic.auto (h : NoPanic Q := by repeat (first | exact NoPanic.body | refine NoPanic.then ?_ | refine NoPanic.block ?_)) : NoPanic Q := h

/-! ### loops -/
theorem WC.loopA {c : Code} {σ : Type} (E : σ → Env) (I : σ → List HP) (p : σ → Prop) (μ : σ → Nat) (s0 : σ) (hp : p s0)
    (round : ∀ s, p s → WC P B n c (Exit.then (Back B n E I p μ s) Q) (E s) (I s)) (he : Env.le (E s0) e := by repeat (first | exact Env.le_nil _ | refine Env.le_cons rfl ?_)) (hI : Am L (I s0) := by repeat (first | exact .refl | exact .nil | (apply Am.take; focus ((repeat (first | exact .here | apply Rem.there)); done)) | refine .skip ?_)) : WC P B n (.loop c) Q e L :=
  WC.loop E I p μ s0 hp he (fun w => hI.wk B w) round
theorem WQ.back {σ : Type} {E : σ → Env} {I : σ → List HP} {p : σ → Prop} {μ : σ → Nat} {s : σ} (s' : σ) (hp : p s') (hlt : μ s' < μ s) (he : Env.le (E s') e := by repeat (first | exact Env.le_nil _ | refine Env.le_cons rfl ?_)) (hI : Am L (I s') := by repeat (first | exact .refl | exact .nil | (apply Am.take; focus ((repeat (first | exact .here | apply Rem.there)); done)) | refine .skip ?_)) :
    WQ B n (Exit.then (Back B n E I p μ s) Q) .normal e L := fun a w ha hs => ⟨s', hp, hlt, ha.weak he, hI.wk B w hs⟩
end
end Go.Proofs.YtedmihapieleaaaGreat
