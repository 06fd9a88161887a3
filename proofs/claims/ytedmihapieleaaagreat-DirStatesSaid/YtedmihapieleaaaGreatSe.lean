/- Regions with two that may come up; loops of few rounds; lists of assertions put together. Over any program. -/
import Derived.Test.YtedmihapieleaaaGreatSs
import Derived.Test.YtedmihapieleaaaGreatSd
import Derived.LoopN
set_option linter.unusedVariables false
set_option linter.unusedSimpArgs false
set_option linter.unusedSectionVars false
namespace Go.Proofs.YtedmihapieleaaaGreat
open Go

section
variable {P : Program} {B : Base} {n : Nat} {Q Q' : Exit → Act → World → Prop} {e : Env} {L L0 : List HP} {ops : Array Oper} {l : List Oper} {ds : List Nat}
theorem wpOp_of {i fuel : Nat} {o : Oper} {lst' : Array Bool} (hi : ops[i]? = some o) {a : Act} {w : World} (h3 : wpList P ops (Qone P B ops Q L0 ds i fuel lst') [o] a w) :
    wpOp P ops Q i (fun a' w' => (i ∉ ds → Sat B w' L0) ∧ wpAnyS P ops Q (fun w => Sat B w L0) ds fuel lst' a' w') a w := by
  unfold wpOp
  simp only [hi]
  unfold wpList at h3
  split
  · rename_i hw
    rw [if_pos hw] at h3
    rcases h3 with h3 | ⟨h4, b, wb, h5⟩
    · refine .inl ?_
      unfold Oper.wp at h3 ⊢
      generalize (execOp a.eval o).run P w = r at h3 ⊢
      cases r with
      | ok x w' =>
        cases x <;> simp only [Oper.upon] at h3 ⊢ <;> exact h3
      | halt x w' => cases x <;> simp only [Oper.upon] at h3 ⊢ <;> exact h3
    · exact .inr ⟨h4, b, wb, h5⟩
  · rename_i hw
    rw [if_neg hw] at h3
    exact h3
def twoC (ops : Array Oper) (l l1 l2 : Array Bool) (i j : Nat) : Bool := (Region.ready .any ops l == [i, j]) && (l.setIfInBounds i true == l1) && (l.setIfInBounds j true == l2)
/-- Numbers i and j can come up: each is walked. -/
theorem WD.two {i j fuel : Nat} {o o' : Oper} {lst : Array Bool} (l1 l2 : Array Bool) (hi : ops[i]? = some o) (hj : ops[j]? = some o') (hc : twoC ops lst l1 l2 i j = true)
    (h1 : NoPanic Q → WL P B n ops [o] (Qone P B ops Q L0 ds i fuel l1) e L) (h2 : NoPanic Q → WL P B n ops [o'] (Qone P B ops Q L0 ds j fuel l2) e L) : WD P B n ops Q L0 ds (fuel + 1) lst e L := by
  intro hQ a w ha hs
  simp only [twoC, Bool.and_eq_true, beq_iff_eq] at hc
  obtain ⟨⟨h3, h4⟩, h5⟩ := hc
  subst h4
  subst h5
  refine ⟨(fun h0 => by rw [h3] at h0; cases h0), fun k hk => ?_⟩
  rw [h3] at hk
  have hk : k = i ∨ k = j := by simpa using hk
  rcases hk with rfl | rfl
  · exact wpOp_of hi (h1 hQ a w ha hs)
  · exact wpOp_of hj (h2 hQ a w ha hs)
/-! ### loops of few rounds -/
def RC (P : Program) (B : Base) (n : Nat) (c : Code) (Q : Exit → Act → World → Prop) (k : Nat) (e : Env) (L : List HP) : Prop := ∀ a w, Ag n e a → Sat B w L → Code.rounds P c Q k a w
theorem WC.loopN {c : Code} (k : Nat) (h : RC P B n c Q k e L) : WC P B n (.loop c) Q e L := fun a w ha hs => wp_loop_rounds k (h a w ha hs)
theorem RC.succ {c : Code} {k : Nat} (h : WC P B n c (Exit.then (Code.rounds P c Q k) Q) e L) : RC P B n c Q (k + 1) e L := fun a w ha hs => h a w ha hs
theorem WQ.again {c : Code} {k : Nat} (h : RC P B n c Q k e L) : WQ B n (Exit.then (Code.rounds P c Q k) Q) .normal e L := fun a w ha hs => h a w ha hs
end
/-! ### lists of assertions -/
theorem Rem.mid {I : List HP} {A : HP} {F : List HP} : Rem (I ++ A :: F) A (I ++ F) := by
  induction I with
  | nil => exact .here
  | cons x I ih => exact .there ih
theorem Mem.mid {I : List HP} {A : HP} {F : List HP} : Mem (I ++ A :: F) A := by
  induction I with
  | nil => exact .here
  | cons x I ih => exact .there ih
theorem Tk.app {I F : List HP} : Tk (I ++ F) I F := by
  induction I with
  | nil => exact .nil
  | cons x I ih => exact .cons .here ih
theorem Tk.behind {I F : List HP} {A : HP} : Tk (A :: (I ++ F)) I (A :: F) := by
  induction I with
  | nil => exact .nil
  | cons x I ih => exact .cons (.there .here) ih
theorem Am.mid {I F : List HP} {A : HP} : Am (I ++ A :: F) (A :: (I ++ F)) := .take Rem.mid .refl
theorem Am.app {I F : List HP} : Am (I ++ F) F := by
  induction I with
  | nil => exact .refl
  | cons x I ih => exact .skip ih
theorem Rem.right {X Y F : List HP} {A : HP} (h : Rem X A Y) : Rem (X ++ F) A (Y ++ F) := by
  induction h with
  | here => exact .here
  | there _ ih => exact .there ih
theorem Am.right {X Y F : List HP} (h : Am X Y) : Am (X ++ F) (Y ++ F) := by
  induction h with
  | refl => exact .refl
  | nil => exact Am.app
  | skip _ ih => exact .skip ih
  | take r _ ih =>
    exact .take r.right ih
theorem Tk.right {L I K F : List HP} (h : Tk L I K) : Tk (L ++ F) I (K ++ F) := by
  induction h with
  | nil => exact .nil
  | cons r _ ih =>
    exact .cons r.right ih
theorem Sat.pure {B : Base} {w : World} {L : List HP} {A : HP} (hA : A fun _ => none) (h : Sat B w L) : Sat B w (A :: L) := by
  obtain ⟨a, b, c, hs, h⟩ := h
  exact ⟨a, b, c, (fun _ => none) :: hs, hA, (fun _ _ h => by cases h), (fun _ _ _ _ _ h => by cases h), h⟩
section
variable {P : Program} {B : Base} {n : Nat} {Q Q' : Exit → Act → World → Prop} {e : Env} {L : List HP} {ops : Array Oper} {l : List Oper}
theorem WL.emp {A : HP} (hA : A fun _ => none) (h : WL P B n ops l Q e (A :: L)) : WL P B n ops l Q e L := fun a w ha hs => h a w ha (hs.pure hA)
theorem WC.emp {c : Code} {A : HP} (hA : A fun _ => none) (h : WC P B n c Q e (A :: L)) : WC P B n c Q e L := fun a w ha hs => h a w ha (hs.pure hA)
theorem WQ.emp {x : Exit} {A : HP} (hA : A fun _ => none) (h : WQ B n Q x e (A :: L)) : WQ B n Q x e L := fun a w ha hs => h a w ha (hs.pure hA)
/-- A row of the call's own, as the slice that it is. -/
theorem WL.rowOpen {el size k : Nat} {v : Value} {xs : List Value} (h : ∀ A c, v = .slice (some A) k c → Reads (rowR el size v k xs) (some A) xs → k ≤ c → c ≤ maxLen → WL P B n ops l Q e L) (hm : Mem L (rowR el size v k xs) := by repeat (first | exact .here | refine .there ?_)) (hx : xs ≠ [] := by simp) : WL P B n ops l Q e L :=
  WL.fact rowR_shape (fun ⟨A, c, h1, h2, h3, h4, h5⟩ => by
    match A, h2 with
    | none, h2 => exact absurd h2 hx
    | some A, h2 => exact h A c h1 h2 h3 h4) hm
theorem Spec.weak {f : FuncId} {args : Array Value} {pre : List HP} {R R' : List HP → Value → List HP → Prop} (h : Spec P f args pre R) (hr : ∀ F v M, R F v M → ∃ M', R' F v M' ∧ Am M M') : Spec P f args pre R' :=
  fun B F w hs => (h B F w hs).mono fun e w' ⟨v, M, he, hR, hM⟩ => by
    obtain ⟨M', h1, h2⟩ := hr F v M hR
    exact ⟨v, M', he, h1, h2.wk B w' hM⟩
end
/-- Some assertions as one, kept till later. -/
theorem Wk.shut {I F : List HP} : Wk (I ++ F) (star I :: F) := fun _ _ h => h.star
theorem Wk.opn {I F : List HP} : Wk (star I :: F) (I ++ F) := fun _ _ h => h.unstar
/-! ### blocks that no one writes any more -/
def frz (os : List (Nat × Obj)) : HP := fun h => ∀ p ∈ os, h p.1 = some (false, p.2)
theorem frz_nil : frz [] (fun _ => none) := fun p hp => by cases hp
theorem Sat.frzAdd {B : Base} {w : World} {M : List HP} {os : List (Nat × Obj)} {b : Nat} {o : Obj} (hs1 : Sat B w (pt b o :: frz os :: M)) : Sat B w (frz ((b, o) :: os) :: M) := by
  have hb := hs1.get .here
  have hs2 := hs1.freeze (.here (y := ro b o))
  obtain ⟨p, q, s, hs, h⟩ := hs2
  match hs, h with
  | h0 :: h1' :: hs, ⟨hr, hle, hd, hbl, hle1, hd1, hrest⟩ =>
    have hr' : h0 b = some (false, o) := by unfold ro at hr; exact hr
    refine ⟨p, q, s, (fun c => if c = b then some (false, o) else h1' c) :: hs, ?_, ?_, ?_, hrest⟩
    · intro p hp
      rcases List.mem_cons.1 hp with rfl | hp
      · simp
      · have e3 := hbl p hp
        by_cases hg : p.1 = b
        · have := hle1 p.1 _ e3
          rw [hg, hb] at this
          simp only [Option.some.injEq] at this
          simp [hg, this]
        · simp [hg, e3]
    · intro c x hx
      by_cases hg : c = b
      · subst hg
        simp only [if_true, Option.some.injEq] at hx
        subst hx
        exact hb
      · simp only [hg, if_false] at hx
        exact hle1 c x hx
    · intro j hj c x y hx hy
      by_cases hg : c = b
      · subst hg
        simp only [if_true, Option.some.injEq] at hx
        subst hx
        exact ⟨rfl, (hd j (List.mem_cons_of_mem _ hj) c _ y hr' hy).2⟩
      · simp only [hg, if_false] at hx
        exact hd1 j hj c x y hx hy
theorem Reads.frz {os : List (Nat × Obj)} {b e : Nat} {cs : Array Value} {fr : Nat × Nat} (h : (b, Obj.cells cs e fr) ∈ os) : Reads (frz os) (some ⟨b, 0, none⟩) cs.toList :=
  ⟨rfl, fun k hk => ⟨false, cs, e, fr, hk _ h, fun i hi => by simp⟩⟩
attribute [irreducible] frz
section
variable {P : Program} {B : Base} {n : Nat} {Q Q' : Exit → Act → World → Prop} {e : Env} {L : List HP} {ops : Array Oper} {l : List Oper}
theorem WL.frzAdd {os : List (Nat × Obj)} {b : Nat} {o : Obj} {M N : List HP} (h : WL P B n ops l Q e (frz ((b, o) :: os) :: N)) (r : Rem L (pt b o) M := by repeat (first | exact .here | apply Rem.there)) (r2 : Rem M (frz os) N := by repeat (first | exact .here | apply Rem.there)) : WL P B n ops l Q e L :=
  fun a w ha hs => h a w ha (Sat.frzAdd (Sat.take (.cons r (.cons r2 .nil)) hs))
theorem WQ.frzAdd {x : Exit} {os : List (Nat × Obj)} {b : Nat} {o : Obj} {M N : List HP} (h : WQ B n Q x e (frz ((b, o) :: os) :: N)) (r : Rem L (pt b o) M := by repeat (first | exact .here | apply Rem.there)) (r2 : Rem M (frz os) N := by repeat (first | exact .here | apply Rem.there)) : WQ B n Q x e L :=
  fun a w ha hs => h a w ha (Sat.frzAdd (Sat.take (.cons r (.cons r2 .nil)) hs))
end
section
variable {P : Program} {B : Base} {n : Nat} {Q Q' : Exit → Act → World → Prop} {e : Env} {L : List HP} {ops : Array Oper} {l : List Oper}
variable {d : Nat} {ty : TypeId} {pos : String} {af : Array Edge} {x y z : Operand} {gd : Option (Nat × Bool)}
/-- A struct or an array, out of a row. -/
theorem Qt.ldAR {t k b off i : Nat} {R : HP} {xs us : List Value} (hag : aggOk P t k = true) (hR : Reads R (some ⟨b, off, none⟩) xs) (hus : (xs.drop i).take k = us) (hk : i + k ≤ xs.length)
    (hx : evo e x = some (.pointer (some ⟨b, off + i, none⟩)) := by rfl) (hm : Mem L R := by repeat (first | exact .here | refine .there ?_)) : Qt P B n e L ⟨some d, .load t x, ty, pos, af, gd⟩ (.agg us.toArray) :=
  fun a w ha hs => by
    have hcell : ∀ j, j < (xs.drop i).length → w.cell? ⟨b, off + i + j, none⟩ = (xs.drop i)[j]? := fun j hj => by
      have := hR.cell hs hm (i := i + j) (by simp at hj; omega)
      rw [show off + (i + j) = off + i + j from by omega] at this
      rw [this, List.getElem?_drop]
    have hl2 := loadCellsFrom_read (P := P) hcell k 0 #[] (by simp; omega)
    have : (loadVar t ⟨b, off + i, none⟩).run P w = .ok (.agg us.toArray) w := by
      have h3 : (loadCells ⟨b, off + i, none⟩ k).run P w = .ok us.toArray w := by
        rw [List.drop_zero, hus] at hl2
        simpa [loadCells] using hl2
      simp [loadVar, run_isAgg_agg hag, size_agg hag, h3]
    simp [execOp, ha.eval hx, Instr.loadAt, Instr.sureAddr, this]
theorem WL.ldAR {t k b off i : Nat} {R : HP} {xs us : List Value} (h : WL P B n ops l Q ((d, .agg us.toArray) :: e) L) (hag : aggOk P t k = true) (hR : Reads R (some ⟨b, off, none⟩) xs) (hus : (xs.drop i).take k = us) (hk : i + k ≤ xs.length)
    (hx : evo e x = some (.pointer (some ⟨b, off + i, none⟩)) := by rfl) (hm : Mem L R := by repeat (first | exact .here | refine .there ?_)) (hd : Nat.ble (d + 1) n = true := by rfl) : WL P B n ops (⟨some d, .load t x, ty, pos, af, none⟩ :: l) Q e L :=
  WL.pure h hd (Qt.ldAR (hag := hag) (hR := hR) (hus := hus) (hk := hk) (hx := hx) (hm := hm))
/-- append(s, xs...): xs may be nil. -/
theorem WL.appendAny {t el size bytes m c : Nat} {A : Option Addr} {v : Value} {k : Nat} {xs news : List Value} {R : HP} {M : List HP} (ht : sliceOk P t el size bytes = true) (hsz : 0 < size)
    (r : Rem L (rowR el size v k xs) M) (hR : Reads R A news) (hm : Mem M R) (hl : news.length = m * size) (hone : ∀ u ∈ news, Value.single u = true) (h63 : k + m ≤ maxLen) (hbytes : (k + m) * bytes ≤ 140737488355328)
    (hzc : ∃ zz, zeroOf P el = some zz ∧ zz.size = size)
    (h : ∀ v', (v' = .slice none 0 0 ↔ v = .slice none 0 0 ∧ m = 0) → WL P B n ops l Q ((d, v') :: e) (rowR el size v' (k + m) (xs ++ news) :: M)) (hx : evo e x = some v := by rfl) (hy : evo e y = some (.slice A m c) := by rfl) (hd : Nat.ble (d + 1) n = true := by rfl) :
    WL P B n ops (⟨some d, .call ⟨.builtin .append, #[x, y], #[t, t]⟩, ty, pos, af, none⟩ :: l) Q e L := by
  match A, hR with
  | some ⟨b, off, sp⟩, hR =>
    have hsp : sp = none := hR.1
    subst hsp
    exact WL.append ht hsz r hR hm hl hone h63 hbytes hzc h hx hy hd
  | none, hR =>
    have hn : news = [] := hR
    subst hn
    have hm0 : m = 0 := by
      rcases Nat.eq_zero_or_pos m with h0 | h0
      · exact h0
      · have := Nat.mul_pos h0 hsz
        simp at hl
        omega
    subst hm0
    have h := h v (by simp)
    rw [List.append_nil, Nat.add_zero] at h
    refine WL.step rfl fun a w ha hs => ⟨v, w, _, _, ?_, ha.put hd _, hs.front r, h⟩
    obtain ⟨hu, i, zz, hi, hsz', hby, hz⟩ := slice_of ht
    have hv : ∃ A k' c', v = .slice A k' c' ∧ k' ≤ c' := by
      obtain ⟨_, _, _, ks, hk⟩ := hs.front r
      match ks, hk with
      | k0 :: ks, ⟨hA0, _⟩ =>
        obtain ⟨A, c', h1, h2, h3, _⟩ := rowR_shape _ hA0
        exact ⟨A, k, c', h1, h3⟩
    obtain ⟨A, k', c', rfl, hkc⟩ := hv
    have hni : ∀ q, P.underlying t ≠ some (.int q) := fun q hq => by rw [hu] at hq; cases hq
    cases A <;> simp [execOp, resolve, invoke, builtin, ha.eval hx, ha.eval hy, Builtin.append_, run_underlying hu, sizeOf, typeInfo, hi, Builtin.lenOf, hkc, Builtin.firstCells, storeCells]
end
/-! ### ways that come together -/
def Join (B : Base) (n : Nat) {σ : Type} (E : σ → Env) (I : σ → List HP) (p : σ → Prop) (Q : Exit → Act → World → Prop) : Exit → Act → World → Prop
  | .normal, a, w => ∃ s, p s ∧ Ag n (E s) a ∧ Sat B w (I s)
  | x, a, w => Q x a w
section
variable {P : Program} {B : Base} {n : Nat} {Q : Exit → Act → World → Prop} {e : Env} {L : List HP}
theorem WC.join {c : Code} {σ : Type} (E : σ → Env) (I : σ → List HP) (p : σ → Prop) (h : WC P B n c (Join B n E I p Q) e L) (rest : ∀ s, p s → WQ B n Q .normal (E s) (I s)) : WC P B n c Q e L := by
  intro a w ha hs
  refine wp_mono (h a w ha hs) ?_
  intro x a' w' hq
  cases x with
  | normal =>
    obtain ⟨s, hp, ha', hs'⟩ := hq
    exact rest s hp a' w' ha' hs'
  | _ => exact hq
theorem WQ.joined {σ : Type} {E : σ → Env} {I : σ → List HP} {p : σ → Prop} (s : σ) (hp : p s) (he : Env.le (E s) e := by repeat (first | exact Env.le_nil _ | refine Env.le_cons rfl ?_)) (hI : Am L (I s) := by repeat (first | exact .refl | exact .nil | (apply Am.take; focus ((repeat (first | exact .here | apply Rem.there)); done)) | refine .skip ?_)) :
    WQ B n (Join B n E I p Q) .normal e L := fun a w ha hs => ⟨s, hp, ha.weak he, hI.wk B w hs⟩
theorem WQ.joinRet {σ : Type} {E : σ → Env} {I : σ → List HP} {p : σ → Prop} (h : WQ B n Q .ret e L) : WQ B n (Join B n E I p Q) .ret e L := h
theorem WQ.joinExit {σ : Type} {E : σ → Env} {I : σ → List HP} {p : σ → Prop} {i : Nat} (h : WQ B n Q (.exit i) e L) : WQ B n (Join B n E I p Q) (.exit i) e L := h
theorem NoPanic.join {σ : Type} {E : σ → Env} {I : σ → List HP} {p : σ → Prop} (h : NoPanic Q) : NoPanic (Join B n E I p Q) := h
theorem NoPanic.autoJ (h : NoPanic Q := by repeat (first | exact NoPanic.body | refine NoPanic.then ?_ | refine NoPanic.block ?_ | refine NoPanic.join ?_)) : NoPanic Q := h
end
section
variable {P : Program} {B : Base} {n : Nat} {Q : Exit → Act → World → Prop} {e : Env} {L : List HP} {ops : Array Oper} {l : List Oper}
variable {ty : TypeId} {pos : String} {af : Array Edge} {x y : Operand}
/-- A struct or an array is stored whole. -/
theorem WL.stV {t b k : Nat} {cs us : Array Value} {t0 : TypeId} {L' : List HP} (h : WL P B n ops l Q e L') (hag : aggOk P t k = true)
    (hx : evo e x = some (.pointer (some ⟨b, 0, none⟩)) := by rfl) (hy : evo e y = some (.agg us) := by rfl)
    (hr : Repl L (pt b (.cells cs t0 (0, 0))) (pt b (.cells us t0 (0, 0))) L' := by repeat (first | exact .here | apply Repl.there)) (hk0 : Nat.ble 1 k = true := by rfl) (hk : us.size = k := by rfl) (hc : cs.size = k := by rfl) (hsing : us.toList.all Value.single = true := by rfl) :
    WL P B n ops (⟨none, .store t x y, ty, pos, af, none⟩ :: l) Q e L := WL.stW h hag hk0 hk hc hsing hx hy hr
end
end Go.Proofs.YtedmihapieleaaaGreat
