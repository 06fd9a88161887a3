/- Maps whose keys are arrays of bytes. Over any program. -/
import Derived.Test.YtedmihapieleaaaGreatSo
import Derived.WideKeyRuns
set_option linter.unusedVariables false
set_option linter.unusedSimpArgs false
namespace Go.Proofs.YtedmihapieleaaaGreat
open Go
section
variable {P : Program}
/-- An array type of whole numbers of one cell. -/
def arrIntOk (P : Program) (t el k : Nat) : Bool := arrOk P t el k 1 && intAny P el
theorem arrInt_of {t el k : Nat} (h : arrIntOk P t el k = true) : P.underlying t = some (.array k el) ∧ (∃ i, P.info? el = some i ∧ i.size = 1) ∧ intAny P el = true := by
  unfold arrIntOk at h
  rw [Bool.and_eq_true] at h
  obtain ⟨h1, h2⟩ := arr_of h.1
  exact ⟨h1, h2, h.2⟩
theorem cellsOf_of {el : Nat} {i : TypeInfo} (hi : P.info? el = some i) : P.cellsOf el = i.size := by
  unfold Program.cellsOf
  simp [hi]
theorem bvs_at {xs : Bytes} {i : Nat} (h : i < xs.length) : (bvs xs).toArray[i]? = some (bv xs[i]) := by
  simp [bvs, h]
theorem run_eqItems_bytes {el : Nat} (hk : intAny P el = true) (d : Nat) (xs ys : Bytes) (w : World) : ∀ (is : List Nat), (∀ i ∈ is, i < xs.length ∧ i < ys.length) →
    (Op.eqItems (d + 1) el 1 (bvs xs).toArray (bvs ys).toArray is).run P w = .ok (decide (∀ i ∈ is, xs[i]? = ys[i]?)) w
  | [], _ => by simp [Op.eqItems]
  | i :: is, h => by
    obtain ⟨hx, hy⟩ := h i (List.mem_cons_self ..)
    have px := run_part_int (P := P) hk (cs := (bvs xs).toArray) (i := i) (bvs_at hx) w
    have py := run_part_int (P := P) hk (cs := (bvs ys).toArray) (i := i) (bvs_at hy) w
    obtain ⟨k, hu⟩ := int_any hk
    have pe := run_equalIn_int (P := P) w d el .u8 k (xs[i].toNat : Int) (ys[i].toNat : Int) hu
    have ih := run_eqItems_bytes hk d xs ys w is (fun j hj => h j (List.mem_cons_of_mem _ hj))
    rw [Op.eqItems, Nat.mul_one]
    simp only [Sem.run_bind, px, py, Result.andThen_ok]
    rw [show bv xs[i] = .int .u8 (xs[i].toNat : Int) from rfl, show bv ys[i] = .int .u8 (ys[i].toNat : Int) from rfl, pe]
    simp only [Result.andThen_ok]
    by_cases hxy : xs[i] = ys[i]
    · rw [hxy]
      simp only [beq_self_eq_true, decide_true, Bool.not_true, Bool.false_eq_true, if_false]
      rw [ih]
      congr 1
      rw [decide_eq_decide]
      simp [hx, hy, hxy]
    · have hne : ¬ ((xs[i].toNat : Int) = (ys[i].toNat : Int)) := fun hh => hxy (UInt8.toNat_inj.1 (by omega))
      have : ¬ (∀ j ∈ i :: is, xs[j]? = ys[j]?) := fun hh => hxy (by
        have := hh i (List.mem_cons_self ..)
        rwa [List.getElem?_eq_getElem hx, List.getElem?_eq_getElem hy, Option.some.injEq] at this)
      rw [decide_eq_false this]
      simp [hne]
theorem run_equal_bytes {t el n : Nat} (h : arrIntOk P t el n = true) (d : Nat) {xs ys : Bytes} (hx : xs.length = n) (hy : ys.length = n) (w : World) :
    (Op.equalIn (d + 2) t (.agg (bvs xs).toArray) (.agg (bvs ys).toArray)).run P w = .ok (decide (xs = ys)) w := by
  obtain ⟨hu, ⟨i, hi, hs⟩, hk⟩ := arrInt_of h
  rw [run_equalIn_array w (d + 1) _ _ hu hi, cellsOf_of hi, hs, run_eqItems_bytes hk d xs ys w _ (fun j hj => by have := List.mem_range.1 hj; omega)]
  congr 1
  rw [decide_eq_decide]
  constructor
  · intro hh
    apply List.ext_getElem?
    intro j
    by_cases hj : j < n
    · exact hh j (List.mem_range.2 hj)
    · rw [List.getElem?_eq_none (by omega), List.getElem?_eq_none (by omega)]
  · intro hh j _
    rw [hh]
theorem run_check_items (emp : Bool) (m : Nat) {el : Nat} {i : TypeInfo} (hi : P.info? el = some i) (hs : i.size = 1) (hk : intAny P el = true) (xs : Bytes) (w : World) : ∀ (is : List Nat), (∀ j ∈ is, j < xs.length) →
    (forIn (m := Sem) is PUnit.unit (fun i _ => do
      Instr.checkKey emp (m + 1) el (← part el (bvs xs).toArray (i * (← sizeOf el)))
      pure (ForInStep.yield PUnit.unit))).run P w = .ok PUnit.unit w
  | [], _ => by simp
  | j :: is, h => by
    have px := run_part_int (P := P) hk (cs := (bvs xs).toArray) (i := j) (bvs_at (h j (List.mem_cons_self ..))) w
    obtain ⟨k, hu⟩ := int_any hk
    have pc := checkKey_int hu emp m .u8 (xs[j]'(h j (List.mem_cons_self ..))).toNat w
    have ih := run_check_items emp m hi hs hk xs w is (fun q hq => h q (List.mem_cons_of_mem _ hq))
    simp only [List.forIn_cons, Sem.run_bind, run_sizeOf w hi, Result.andThen_ok, cellsOf_of hi, hs, Nat.mul_one, px]
    rw [show bv (xs[j]'(h j (List.mem_cons_self ..))) = .int .u8 ((xs[j]'(h j (List.mem_cons_self ..))).toNat : Int) from rfl, pc]
    simp only [Result.andThen_ok, Sem.run_pure]
    exact ih
theorem run_check_bytes {t el n : Nat} (h : arrIntOk P t el n = true) (emp : Bool) (m : Nat) {xs : Bytes} (hx : xs.length = n) (w : World) : (Instr.checkKey emp (m + 2) t (.agg (bvs xs).toArray)).run P w = .ok () w := by
  obtain ⟨hu, ⟨i, hi, hs⟩, hk⟩ := arrInt_of h
  have := run_check_items (P := P) emp m hi hs hk xs w (List.range' 0 n) (fun j hj => by have := List.mem_range'.1 hj; omega)
  rw [Instr.checkKey]
  simp only [Sem.run_bind, run_underlying hu, Result.andThen_ok]
  simp only [Std.Legacy.Range.forIn_eq_forIn_range', Std.Legacy.Range.size, Nat.sub_zero, Nat.add_one_sub_one, Nat.div_one]
  rw [this]
  rfl
theorem sameBits_bytes (n : Nat) (xs : Bytes) : Instr.sameBits (n + 1) (.agg (bvs xs).toArray) (.agg (bvs xs).toArray) = true := by
  simp only [Instr.sameBits, beq_self_eq_true, Bool.true_and, List.all_eq_true]
  intro p hp
  have : ∀ (l : List Value), p ∈ l.zip l → p.1 = p.2 ∧ p.1 ∈ l := by
    intro l
    induction l with
    | nil => intro h; cases h
    | cons a l ih =>
      intro h
      simp only [List.zip_cons_cons, List.mem_cons] at h
      rcases h with rfl | h
      · simp
      · have := ih h
        exact ⟨this.1, List.mem_cons_of_mem _ this.2⟩
  obtain ⟨h1, h2⟩ := this _ hp
  simp only [List.toList_toArray, bvs, List.mem_map] at h2
  obtain ⟨a, _, ha⟩ := h2
  obtain ⟨x, y⟩ := p
  simp only at h1 ha ⊢
  subst h1
  rw [← ha]
  exact sameBits_int _ _ _
/-- Keys that are arrays of bytes. -/
theorem arrKeys {κ : Type} [DecidableEq κ] (f : κ → Bytes) {kt el n : Nat} (h : arrIntOk P kt el n = true) (hf : ∀ k, (f k).length = n) (inj : ∀ a b, f a = f b → a = b) : KeyLaw P kt (fun k => Value.agg (bvs (f k)).toArray) where
  check emp k w := run_check_bytes h emp 9998 (hf k) w
  find k ks es w hk := by
    obtain ⟨h1, _⟩ := arrInt_of h
    have hask : ∀ (ks : List κ) (es : List MapEntry) (i : Nat) (w : World), es.map (·.key) = ks.map (fun k => Value.agg (bvs (f k)).toArray) →
        (Instr.findAsking kt (Value.agg (bvs (f k)).toArray) es i).run P w = .ok (findPure k ks es i) w := by
      intro ks
      induction ks with
      | nil =>
        intro es i w h
        have : es = [] := by simpa using h
        subst this
        simp [Instr.findAsking, findPure]
      | cons k' ks ih =>
        intro es i w h'
        cases es with
        | nil => simp at h'
        | cons e es =>
          simp only [List.map_cons, List.cons.injEq] at h'
          have he : (Op.equal kt (Value.agg (bvs (f k)).toArray) e.key).run P w = .ok (decide (f k = f k')) w := by
            rw [h'.1]
            exact run_equal_bytes h 9998 (hf k) (hf k') w
          simp only [Instr.findAsking, Sem.run_bind, he, Result.andThen_ok, findPure]
          by_cases hkk : k = k'
          · subst hkk; simp
          · have : ¬ f k = f k' := fun e => hkk (inj _ _ e)
            simp only [this, decide_false, Bool.false_eq_true, if_false, hkk]
            exact ih es (i + 1) w h'.2
    rw [run_findKey_eq w (by rw [h1])]
    exact hask ks es 0 w hk
  stays k := sameBits_bytes _ _
end
end Go.Proofs.YtedmihapieleaaaGreat
