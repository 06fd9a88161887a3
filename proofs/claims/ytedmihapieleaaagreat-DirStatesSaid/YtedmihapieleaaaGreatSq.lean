/- Structs of whole numbers: their equality; maps keyed by them. Over any program. -/
import Derived.Test.YtedmihapieleaaaGreatSd
set_option linter.unusedVariables false
set_option linter.unusedSimpArgs false
set_option linter.unusedSectionVars false
namespace Go.Proofs.YtedmihapieleaaaGreat
open Go

def ints (xs : List Int) : List Value := xs.map (Value.int .i64)
def intAny (P : Program) (t : Nat) : Bool :=
  match P.underlying t with
  | some (.int _) => true
  | _ => false
theorem int_any {P : Program} {t : Nat} (h : intAny P t = true) : ∃ k, P.underlying t = some (.int k) := by
  unfold intAny at h
  split at h
  · rename_i k hu; exact ⟨k, hu⟩
  · cases h
def fieldsInt (P : Program) : List Field → Nat → Bool
  | [], _ => true
  | f :: fs, i => (f.name != "_") && Nat.beq f.offset i && intAny P f.type && fieldsInt P fs (i + 1)
def intsOk (P : Program) (t n : Nat) : Bool :=
  match P.underlying t with
  | some (.struct fs) => Nat.beq fs.toList.length n && fieldsInt P fs.toList 0 && !P.stoodInHeld t && !P.eqGuardType P.depth t
  | _ => false
theorem ints_of {P : Program} {t n : Nat} (h : intsOk P t n = true) : P.underlying t = some (.struct (P.fieldsOf t)) ∧ (P.fieldsOf t).toList.length = n ∧ fieldsInt P (P.fieldsOf t).toList 0 = true ∧ P.stoodInHeld t = false ∧ P.eqGuardType P.depth t = false := by
  unfold intsOk at h
  split at h
  · rename_i fs hu
    simp only [Bool.and_eq_true] at h
    obtain ⟨⟨⟨h1, h2⟩, h3⟩, h4⟩ := h
    have : P.fieldsOf t = fs := by simp [Program.fieldsOf, hu]
    rw [this]
    exact ⟨hu, Nat.eq_of_beq_eq_true h1, h2, by simpa using h3, by simpa using h4⟩
  · cases h
section
variable {P : Program}
theorem run_part_int {t : Nat} (h : intAny P t = true) {cs : Array Value} {i : Nat} {v : Value} (hv : cs[i]? = some v) (w : World) : (part t cs i).run P w = .ok v w := by
  obtain ⟨k, hk⟩ := int_any h
  simp [part, isAgg, run_underlying hk, hv]
theorem run_eqFields (d : Nat) (xs ys : List Int) (hl : xs.length = ys.length) : ∀ (fs : List Field) (i : Nat), fieldsInt P fs i = true → i + fs.length = xs.length → ∀ w,
    (Op.eqFields (d + 1) (ints xs).toArray (ints ys).toArray fs).run P w = .ok (decide (xs.drop i = ys.drop i)) w
  | [], i, _, he, w => by
    simp only [List.length_nil, Nat.add_zero] at he
    simp [Op.eqFields, List.drop_of_length_le (show xs.length ≤ i by omega), List.drop_of_length_le (show ys.length ≤ i by omega)]
  | f :: fs, i, hf, he, w => by
    simp only [List.length_cons] at he
    simp only [fieldsInt, Bool.and_eq_true] at hf
    obtain ⟨⟨⟨h1, h2⟩, h3⟩, h4⟩ := hf
    have h2 := Nat.eq_of_beq_eq_true h2
    have hn : f.name ≠ "_" := by simpa using h1
    have hx : i < xs.length := by omega
    have hy : i < ys.length := by omega
    have px := run_part_int (P := P) h3 (cs := (ints xs).toArray) (i := i) (v := .int .i64 xs[i]) (by simp [ints, hx]) w
    have py := run_part_int (P := P) h3 (cs := (ints ys).toArray) (i := i) (v := .int .i64 ys[i]) (by simp [ints, hy]) w
    obtain ⟨k, hk⟩ := int_any h3
    have pe := run_equalIn_int (P := P) w d f.type .i64 k xs[i] ys[i] hk
    have ih := run_eqFields d xs ys hl fs (i + 1) h4 (by omega) w
    have hdec : decide (xs.drop i = ys.drop i) = (decide (xs[i] = ys[i]) && decide (xs.drop (i + 1) = ys.drop (i + 1))) := by
      rw [Bool.eq_iff_iff]
      rw [List.drop_eq_getElem_cons hx, List.drop_eq_getElem_cons hy, decide_eq_true_iff, Bool.and_eq_true, decide_eq_true_iff, decide_eq_true_iff, List.cons.injEq]
    rw [hdec]
    simp only [Op.eqFields, hn, ne_eq, not_false_eq_true, if_true, h2, Sem.run_bind, px, py, pe, Result.andThen_ok]
    by_cases hxy : xs[i] = ys[i]
    · simp [hxy, ih]
    · simp [hxy]
theorem run_equal_ints {t n : Nat} (h : intsOk P t n = true) (d : Nat) {xs ys : List Int} (hx : xs.length = n) (hy : ys.length = n) (w : World) :
    (Op.equalIn (d + 2) t (.agg (ints xs).toArray) (.agg (ints ys).toArray)).run P w = .ok (decide (xs = ys)) w := by
  obtain ⟨h1, h2, h3, h4, h5⟩ := ints_of h
  rw [run_equalIn_struct w (d + 1) t _ _ h1 h4, run_eqFields d xs ys (by omega) _ 0 h3 (by omega)]
  simp
theorem run_check_fields (emp : Bool) (m : Nat) (xs : List Int) (w : World) : ∀ (fs : List Field) (i : Nat), fieldsInt P fs i = true → i + fs.length = xs.length →
    (forIn (m := Sem) fs PUnit.unit (fun f _ => do
      if f.name ≠ "_" then Instr.checkKey emp (m + 1) f.type (← part f.type (ints xs).toArray f.offset)
      pure (ForInStep.yield PUnit.unit))).run P w = .ok PUnit.unit w
  | [], i, _, _ => by simp
  | f :: fs, i, hf, he => by
    simp only [List.length_cons] at he
    simp only [fieldsInt, Bool.and_eq_true] at hf
    obtain ⟨⟨⟨h1, h2⟩, h3⟩, h4⟩ := hf
    have h2 := Nat.eq_of_beq_eq_true h2
    have hn : f.name ≠ "_" := by simpa using h1
    have hx : i < xs.length := by omega
    have px := run_part_int (P := P) h3 (cs := (ints xs).toArray) (i := i) (v := .int .i64 xs[i]) (by simp [ints, hx]) w
    obtain ⟨k, hk⟩ := int_any h3
    have pc := checkKey_int hk emp m .i64 xs[i] w
    have ih := run_check_fields emp m xs w fs (i + 1) h4 (by omega)
    simp only [List.forIn_cons, hn, ne_eq, not_false_eq_true, if_true, h2, Sem.run_bind, px, Result.andThen_ok, pc, Sem.run_pure]
    exact ih
theorem run_check_ints {t n : Nat} (h : intsOk P t n = true) (emp : Bool) (m : Nat) {xs : List Int} (hx : xs.length = n) (w : World) : (Instr.checkKey emp (m + 2) t (.agg (ints xs).toArray)).run P w = .ok () w := by
  obtain ⟨h1, h2, h3, h4, h5⟩ := ints_of h
  have := run_check_fields (P := P) emp m xs w (P.fieldsOf t).toList 0 h3 (by omega)
  rw [Instr.checkKey]
  simp only [Sem.run_bind, run_underlying h1, Result.andThen_ok]
  rw [← Array.forIn_toList]
  rw [show (forIn (P.fieldsOf t).toList PUnit.unit (fun f (_ : PUnit) => (if f.name ≠ "_" then do
      Instr.checkKey emp (m + 1) f.type (← part f.type (ints xs).toArray f.offset)
      Pure.pure (ForInStep.yield PUnit.unit) else Pure.pure (ForInStep.yield PUnit.unit) : Sem (ForInStep PUnit)))).run P w = .ok PUnit.unit w from this]
  rfl
theorem sameBits_ints (n : Nat) (xs : List Int) : Instr.sameBits (n + 1) (.agg (ints xs).toArray) (.agg (ints xs).toArray) = true := by
  simp only [Instr.sameBits, beq_self_eq_true, Bool.true_and, List.all_eq_true]
  intro p hp
  have : ∀ (l : List Value), p ∈ l.zip l → p.1 = p.2 ∧ p.1 ∈ l := by
    intro l
    induction l with
    | nil => intro h; cases h
    | cons a l ih =>
      intro h
      simp only [List.zip_cons_cons, List.mem_cons] at h
      rcases h with rfl | h
      · simp
      · have := ih h
        exact ⟨this.1, List.mem_cons_of_mem _ this.2⟩
  obtain ⟨h1, h2⟩ := this _ hp
  simp only [List.toList_toArray, ints, List.mem_map] at h2
  obtain ⟨a, _, ha⟩ := h2
  obtain ⟨x, y⟩ := p
  simp only at h1 ha ⊢
  subst h1
  rw [← ha]
  exact sameBits_int _ _ _
/-- Keys that are structs of whole numbers. -/
theorem structKeys {κ : Type} [DecidableEq κ] (f : κ → List Int) {kt n : Nat} (h : intsOk P kt n = true) (hf : ∀ k, (f k).length = n) (inj : ∀ a b, f a = f b → a = b) : KeyLaw P kt (fun k => Value.agg (ints (f k)).toArray) where
  check emp k w := run_check_ints h emp 9998 (hf k) w
  find k ks es w hk := by
    obtain ⟨h1, h2, h3, h4, h5⟩ := ints_of h
    have hask : ∀ (ks : List κ) (es : List MapEntry) (i : Nat) (w : World), es.map (·.key) = ks.map (fun k => Value.agg (ints (f k)).toArray) →
        (Instr.findAsking kt (Value.agg (ints (f k)).toArray) es i).run P w = .ok (findPure k ks es i) w := by
      intro ks
      induction ks with
      | nil =>
        intro es i w h
        have : es = [] := by simpa using h
        subst this
        simp [Instr.findAsking, findPure]
      | cons k' ks ih =>
        intro es i w h'
        cases es with
        | nil => simp at h'
        | cons e es =>
          simp only [List.map_cons, List.cons.injEq] at h'
          have he : (Op.equal kt (Value.agg (ints (f k)).toArray) e.key).run P w = .ok (decide (f k = f k')) w := by
            rw [h'.1]
            exact run_equal_ints h 9998 (hf k) (hf k') w
          simp only [Instr.findAsking, Sem.run_bind, he, Result.andThen_ok, findPure]
          by_cases hkk : k = k'
          · subst hkk; simp
          · have : ¬ f k = f k' := fun e => hkk (inj _ _ e)
            simp only [this, decide_false, Bool.false_eq_true, if_false, hkk]
            exact ih es (i + 1) w h'.2
    cases es with
    | nil =>
      cases ks with
      | nil => simp [Instr.findKey, run_underlying h1, Instr.findNow, findPure]
      | cons k' ks => simp at hk
    | cons e es =>
      have hnow : Instr.findNow (.struct (P.fieldsOf kt)) (Value.agg (ints (f k)).toArray) (e :: es) 0 = none := by
        simp [Instr.findNow, Instr.sameNow]
      simp only [Instr.findKey, Sem.run_bind, run_underlying h1, Result.andThen_ok, hnow]
      exact hask ks (e :: es) 0 w hk
  stays k := sameBits_ints _ _
end
section
variable {P : Program} {B : Base} {n : Nat} {Q Q' : Exit → Act → World → Prop} {e : Env} {L : List HP} {ops : Array Oper} {l : List Oper}
variable {d : Nat} {ty : TypeId} {pos : String} {af : Array Edge} {x y z : Operand} {gd : Option (Nat × Bool)}
theorem Qt.eqStr {t u m : Nat} {xs ys : List Int} (ht : intsOk P t m = true) (hx : evo e x = some (.agg (ints xs).toArray) := by rfl) (hy : evo e y = some (.agg (ints ys).toArray) := by rfl) (h1 : xs.length = m := by rfl) (h2 : ys.length = m := by rfl) :
    Qt P B n e L ⟨some d, .binOp .eql t x y u, ty, pos, af, gd⟩ (.bool (decide (xs = ys))) :=
  Qt.bin (fun w => by
    obtain ⟨_, _, _, _, h5⟩ := ints_of ht
    have := run_equal_ints ht 9998 h1 h2 w
    rw [Sem.run_bind, run_eqGuard_agg w .eql t x y _ _ h5, Result.andThen_ok, run_eql_struct, this]
    rfl) hx hy
theorem WL.eqStr {t u m : Nat} {xs ys : List Int} (h : WL P B n ops l Q ((d, .bool (decide (xs = ys))) :: e) L) (ht : intsOk P t m = true) (hx : evo e x = some (.agg (ints xs).toArray) := by rfl) (hy : evo e y = some (.agg (ints ys).toArray) := by rfl) (h1 : xs.length = m := by rfl) (h2 : ys.length = m := by rfl) (hd : Nat.ble (d + 1) n = true := by rfl) :
    WL P B n ops (⟨some d, .binOp .eql t x y u, ty, pos, af, none⟩ :: l) Q e L := WL.pure h hd (Qt.eqStr ht hx hy h1 h2)
theorem WL.neStr {t u m : Nat} {xs ys : List Int} (h : WL P B n ops l Q ((d, .bool (!decide (xs = ys))) :: e) L) (ht : intsOk P t m = true) (hx : evo e x = some (.agg (ints xs).toArray) := by rfl) (hy : evo e y = some (.agg (ints ys).toArray) := by rfl) (h1 : xs.length = m := by rfl) (h2 : ys.length = m := by rfl) (hd : Nat.ble (d + 1) n = true := by rfl) :
    WL P B n ops (⟨some d, .binOp .neq t x y u, ty, pos, af, none⟩ :: l) Q e L :=
  WL.bin h (fun w => by
    obtain ⟨_, _, _, _, h5⟩ := ints_of ht
    have := run_equal_ints ht 9998 h1 h2 w
    rw [Sem.run_bind, run_eqGuard_agg w .neq t x y _ _ h5, Result.andThen_ok, run_neq_struct, this]
    rfl) hx hy hd
end
end Go.Proofs.YtedmihapieleaaaGreat
