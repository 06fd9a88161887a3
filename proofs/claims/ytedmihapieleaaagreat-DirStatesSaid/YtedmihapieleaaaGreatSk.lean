/- More steps: maps. Over any program. -/
import Derived.Test.YtedmihapieleaaaGreatSb
import Derived.WideLaws
import Derived.Laws.StructEq
set_option linter.unusedVariables false
set_option linter.unusedSimpArgs false
set_option linter.unusedSectionVars false
namespace Go.Proofs.YtedmihapieleaaaGreat
open Go

/-! ### association lists -/
section
variable {κ α : Type} [DecidableEq κ]
def kget : List (κ × α) → κ → Option α
  | [], _ => none
  | (k', v) :: l, k => if k = k' then some v else kget l k
def kput : List (κ × α) → κ → α → List (κ × α)
  | [], k, v => [(k, v)]
  | (k', v') :: l, k, v => if k = k' then (k', v) :: l else (k', v') :: kput l k v
theorem kget_put (l : List (κ × α)) (k k' : κ) (v : α) : kget (kput l k v) k' = if k' = k then some v else kget l k' := by
  induction l with
  | nil => simp [kput, kget]
  | cons p l ih =>
    obtain ⟨a, b⟩ := p
    simp only [kput]
    by_cases h : k = a
    · subst h
      simp only [if_true, kget]
      by_cases h2 : k' = k <;> simp [h2]
    · simp only [if_neg h, kget, ih]
      by_cases h2 : k' = a
      · subst h2
        rw [if_pos rfl, if_pos rfl, if_neg (fun h' => h h'.symm)]
      · simp [h2]
theorem kput_keys (l : List (κ × α)) (k : κ) (v : α) : (kput l k v).map (·.1) = if k ∈ l.map (·.1) then l.map (·.1) else l.map (·.1) ++ [k] := by
  induction l with
  | nil => simp [kput]
  | cons p l ih =>
    obtain ⟨a, b⟩ := p
    simp only [kput]
    by_cases h : k = a
    · simp [h]
    · simp only [if_neg h, List.map_cons, List.mem_cons, false_or, ih]
      by_cases hk : k ∈ l.map (·.1)
      · rw [if_pos hk, if_pos (.inr hk)]
      · rw [if_neg hk, if_neg (fun h' => h'.elim h hk)]
        rfl
theorem kput_nodup {l : List (κ × α)} (h : (l.map (·.1)).Nodup) (k : κ) (v : α) : ((kput l k v).map (·.1)).Nodup := by
  rw [kput_keys]
  split
  · exact h
  · rename_i hk
    rw [List.nodup_append]
    exact ⟨h, by simp, fun a ha b hb => by simp at hb; subst hb; intro e; subst e; exact hk ha⟩
theorem kget_none {l : List (κ × α)} {k : κ} : kget l k = none ↔ k ∉ l.map (·.1) := by
  induction l with
  | nil => simp [kget]
  | cons p l ih =>
    obtain ⟨a, b⟩ := p
    simp only [kget, List.map_cons, List.mem_cons, not_or]
    by_cases h : k = a
    · simp [h]
    · simp [h, ih]
theorem kget_mem {l : List (κ × α)} (h : (l.map (·.1)).Nodup) {k : κ} {v : α} : kget l k = some v ↔ (k, v) ∈ l := by
  induction l with
  | nil => simp [kget]
  | cons p l ih =>
    obtain ⟨a, b⟩ := p
    simp only [List.map_cons, List.nodup_cons] at h
    simp only [kget, List.mem_cons, Prod.mk.injEq]
    by_cases hk : k = a
    · subst hk
      simp only [if_true, Option.some.injEq, true_and]
      constructor
      · intro e; exact .inl e.symm
      · rintro (e | e)
        · exact e.symm
        · exact absurd (List.mem_map_of_mem (f := Prod.fst) e) h.1
    · simp only [hk, if_false, false_and, false_or]
      exact ih h.2
theorem kput_length (l : List (κ × α)) (k : κ) (v : α) : (kput l k v).length = if (kget l k).isSome then l.length else l.length + 1 := by
  induction l with
  | nil => simp [kput, kget]
  | cons p l ih =>
    obtain ⟨a, b⟩ := p
    simp only [kput, kget]
    by_cases h : k = a
    · simp [h]
    · simp only [h, if_false, List.length_cons, ih]
      split <;> simp
end

/-! ### keys -/
section
variable {κ : Type} [DecidableEq κ]
def findPure (k : κ) : List κ → List MapEntry → Nat → Option (Nat × Value)
  | k' :: ks, e :: es, i => if k = k' then some (i, e.val) else findPure k ks es (i + 1)
  | _, _, _ => none
structure KeyLaw (P : Program) (kt : TypeId) (enc : κ → Value) : Prop where
  check : ∀ emp k w, (Instr.checkKey emp 10000 kt (enc k)).run P w = .ok () w
  find : ∀ k (ks : List κ) (es : List MapEntry) w, es.map (·.key) = ks.map enc → (Instr.findKey kt (enc k) es).run P w = .ok (findPure k ks es 0) w
  stays : ∀ k, Instr.sameBits 10000 (enc k) (enc k) = true
structure MapIs (enc : κ → Value) (es : Array MapEntry) (clock : Nat) (kvs : List (κ × Value)) : Prop where
  keys : es.toList.map (·.key) = kvs.map fun p => enc p.1
  vals : es.toList.map (·.val) = kvs.map (·.2)
  born : (es.toList.map (·.born)).Pairwise (· < ·)
  lt : ∀ x ∈ es.toList, x.born < clock
  nodup : (kvs.map (·.1)).Nodup
theorem MapIs.empty (enc : κ → Value) (c : Nat) : MapIs enc #[] c [] := ⟨rfl, rfl, by simp, by simp, by simp⟩
theorem MapIs.length {enc : κ → Value} {es : Array MapEntry} {c : Nat} {kvs : List (κ × Value)} (h : MapIs enc es c kvs) : es.size = kvs.length := by
  have := congrArg List.length h.keys
  simpa using this
theorem findPure_spec (k : κ) : ∀ (ks : List κ) (es : List MapEntry) (kvs : List (κ × Value)) (i : Nat), ks = kvs.map (·.1) → es.map (·.val) = kvs.map (·.2) →
    (findPure k ks es i = none ∧ kget kvs k = none) ∨ ∃ j v, findPure k ks es i = some (i + j, v) ∧ kget kvs k = some v ∧ j < es.length ∧ ks[j]? = some k ∧ ∀ v', kput kvs k v' = kvs.set j (k, v')
  | _, es, [], i, h1, h2 => by
    subst h1
    exact .inl ⟨by simp [findPure], rfl⟩
  | _, [], (a, b) :: kvs, i, h1, h2 => by simp at h2
  | ks, e :: es, (a, b) :: kvs, i, h1, h2 => by
    simp only [List.map_cons, List.cons.injEq] at h1 h2
    subst h1
    simp only [findPure, kget, kput, List.map_cons]
    by_cases h : k = a
    · subst h
      simp only [if_true]
      exact .inr ⟨0, e.val, rfl, by rw [h2.1], by simp, by simp, fun v' => rfl⟩
    · simp only [h, if_false]
      rcases findPure_spec k _ es kvs (i + 1) rfl h2.2 with ⟨q1, q2⟩ | ⟨j, v, q1, q2, q3, q4, q5⟩
      · exact .inl ⟨q1, q2⟩
      · exact .inr ⟨j + 1, v, by rw [q1]; congr 2; omega, q2, by simp; omega, by simpa using q4, fun v' => by rw [q5]; rfl⟩
end

/-- Keys that are whole numbers. -/
theorem findNow_int (t : TypeDesc) (ik : IntKind) (ht : ∃ j, t = .int j) (k : Int) : ∀ (ks : List Int) (es : List MapEntry) (i : Nat), es.map (·.key) = ks.map (Value.int ik) →
    Instr.findNow t (.int ik k) es i = some (findPure k ks es i)
  | [], es, i, h => by
    have : es = [] := by simpa using h
    subst this
    simp [Instr.findNow, findPure]
  | k' :: ks, [], i, h => by simp at h
  | k' :: ks, e :: es, i, h => by
    simp only [List.map_cons, List.cons.injEq] at h
    obtain ⟨j, rfl⟩ := ht
    simp only [Instr.findNow, h.1, Instr.sameNow, if_true, findPure]
    by_cases hk : k = k'
    · subst hk; simp
    · have : (k == k') = false := by simp [hk]
      simp only [this, hk, if_false]
      exact findNow_int (.int j) ik ⟨j, rfl⟩ k ks es (i + 1) h.2
theorem sameBits_int (n : Nat) (j : IntKind) (a : Int) : Instr.sameBits n (.int j a) (.int j a) = true := by
  cases n <;> simp [Instr.sameBits]
theorem checkKey_int {P : Program} {kt : TypeId} {j : IntKind} (h : P.underlying kt = some (.int j)) (emp : Bool) (n : Nat) (ik : IntKind) (k : Int) (w : World) : (Instr.checkKey emp (n + 1) kt (.int ik k)).run P w = .ok () w := by
  simp [Instr.checkKey, run_underlying h]
theorem intKeys {P : Program} {kt : TypeId} {ik : IntKind} {j : IntKind} (h : P.underlying kt = some (.int j)) : KeyLaw P kt (Value.int ik) where
  check emp k w := checkKey_int h _ _ _ _ _
  find k ks es w hk := by
    simp [Instr.findKey, run_underlying h, findNow_int (.int j) ik ⟨j, rfl⟩ k ks es 0 hk]
  stays k := sameBits_int _ _ _

section
variable {P : Program} {B : Base} {n : Nat} {Q Q' : Exit → Act → World → Prop} {e : Env} {L : List HP} {ops : Array Oper} {l : List Oper}
variable {d : Nat} {ty : TypeId} {pos : String} {af : Array Edge} {x y z : Operand} {gd : Option (Nat × Bool)}
variable {κ : Type} [DecidableEq κ] {enc : κ → Value}
theorem run_getMap {w : World} {b : Nat} {es : Array MapEntry} {c : Nat} (h : w.heap[b]? = some (.map es c)) : (getObj b).run P w = .ok (.map es c) w := run_getObj_map w b es c h
theorem run_setMap {w : World} {b : Nat} {es : Array MapEntry} {c : Nat} (h : w.heap[b]? = some (.map es c)) (o : Obj) : (setObj b o).run P w = .ok () (setB w b o) := by
  simp [setObj, Sem.run, h, setB]
theorem run_lookup {w : World} {b t kt et : Nat} {es : Array MapEntry} {c : Nat} {kvs : List (κ × Value)} {zv : Value} (kl : KeyLaw P kt enc) (ht : P.underlying t = some (.map kt et)) (hz : (zeroValue et).run P w = .ok zv w)
    (h : w.heap[b]? = some (.map es c)) (hm : MapIs enc es c kvs) (k : κ) (ok : Bool) :
    (Instr.lookup t (.map (some b)) (enc k) ok).run P w = .ok (if ok then .tuple #[(kget kvs k).getD zv, .bool (kget kvs k).isSome] else (kget kvs k).getD zv) w := by
  have hf := kl.find k (kvs.map (·.1)) es.toList w (by rw [hm.keys, List.map_map]; rfl)
  simp only [Instr.lookup, Sem.run_bind, run_underlying ht, Result.andThen_ok, run_getMap h, Sem.run_pure, kl.check, hf]
  rcases findPure_spec k _ es.toList kvs 0 rfl hm.vals with ⟨q1, q2⟩ | ⟨j, v, q1, q2, _⟩
  · rw [q1, q2]
    cases ok <;> simp [hz]
  · rw [q1, q2]
    cases ok <;> simp
def mapOk (P : Program) (t kt et : Nat) : Bool :=
  match P.underlying t with
  | some (.map k e) => Nat.beq k kt && Nat.beq e et
  | _ => false
theorem map_of {t kt et : Nat} (h : mapOk P t kt et = true) : P.underlying t = some (.map kt et) := by
  unfold mapOk at h
  split at h
  · rename_i k e hu
    simp only [Bool.and_eq_true] at h
    rw [hu, Nat.eq_of_beq_eq_true h.1, Nat.eq_of_beq_eq_true h.2]
  · cases h
/-- The zero value of a type, as a value. -/
def zvOf (P : Program) (t : Nat) : Option Value := (P.info? t).bind (·.zero)
theorem run_zv {t : Nat} {z : Value} (h : zvOf P t = some z) (w : World) : (zeroValue t).run P w = .ok z w := by
  unfold zvOf at h
  simp only [Option.bind_eq_some_iff] at h
  obtain ⟨i, hi, hz⟩ := h
  simp [zeroValue, typeInfo, hi, hz]
theorem Qt.look {b t kt et : Nat} {es : Array MapEntry} {c : Nat} {kvs : List (κ × Value)} {zv : Value} {k : κ} (kl : KeyLaw P kt enc) (hm : MapIs enc es c kvs) (ht : mapOk P t kt et = true) (hz : zvOf P et = some zv)
   
    (hx : evo e x = some (.map (some b)) := by rfl) (hy : evo e y = some (enc k) := by rfl) (hmem : Mem L (pt b (.map es c)) := by repeat (first | exact .here | refine .there ?_)) :
    Qt P B n e L ⟨some d, .lookup t x y false, ty, pos, af, gd⟩ ((kget kvs k).getD zv) :=
  fun a w ha hs => by
    have := run_lookup kl (map_of ht) (run_zv hz w) (hs.get hmem) hm k false
    simp [execOp, ha.eval hx, ha.eval hy, this]
theorem WL.look {b t kt et : Nat} {es : Array MapEntry} {c : Nat} {kvs : List (κ × Value)} {zv : Value} {k : κ} (kl : KeyLaw P kt enc) (hm : MapIs enc es c kvs) (ht : mapOk P t kt et = true) (hz : zvOf P et = some zv)
    (h : WL P B n ops l Q ((d, (kget kvs k).getD zv) :: e) L)
    (hx : evo e x = some (.map (some b)) := by rfl) (hy : evo e y = some (enc k) := by rfl) (hmem : Mem L (pt b (.map es c)) := by repeat (first | exact .here | refine .there ?_)) (hd : Nat.ble (d + 1) n = true := by rfl) :
    WL P B n ops (⟨some d, .lookup t x y false, ty, pos, af, none⟩ :: l) Q e L :=
  WL.pure h hd (Qt.look (kl := kl) (hm := hm) (ht := ht) (hz := hz) (hx := hx) (hy := hy) (hmem := hmem))
theorem Qt.lookOk {b t kt et : Nat} {es : Array MapEntry} {c : Nat} {kvs : List (κ × Value)} {zv : Value} {k : κ} (kl : KeyLaw P kt enc) (hm : MapIs enc es c kvs) (ht : mapOk P t kt et = true) (hz : zvOf P et = some zv)
   
    (hx : evo e x = some (.map (some b)) := by rfl) (hy : evo e y = some (enc k) := by rfl) (hmem : Mem L (pt b (.map es c)) := by repeat (first | exact .here | refine .there ?_)) :
    Qt P B n e L ⟨some d, .lookup t x y true, ty, pos, af, gd⟩ (.tuple #[(kget kvs k).getD zv, .bool (kget kvs k).isSome]) :=
  fun a w ha hs => by
    have := run_lookup kl (map_of ht) (run_zv hz w) (hs.get hmem) hm k true
    simp [execOp, ha.eval hx, ha.eval hy, this]
theorem WL.lookOk {b t kt et : Nat} {es : Array MapEntry} {c : Nat} {kvs : List (κ × Value)} {zv : Value} {k : κ} (kl : KeyLaw P kt enc) (hm : MapIs enc es c kvs) (ht : mapOk P t kt et = true) (hz : zvOf P et = some zv)
    (h : WL P B n ops l Q ((d, .tuple #[(kget kvs k).getD zv, .bool (kget kvs k).isSome]) :: e) L)
    (hx : evo e x = some (.map (some b)) := by rfl) (hy : evo e y = some (enc k) := by rfl) (hmem : Mem L (pt b (.map es c)) := by repeat (first | exact .here | refine .there ?_)) (hd : Nat.ble (d + 1) n = true := by rfl) :
    WL P B n ops (⟨some d, .lookup t x y true, ty, pos, af, none⟩ :: l) Q e L :=
  WL.pure h hd (Qt.lookOk (kl := kl) (hm := hm) (ht := ht) (hz := hz) (hx := hx) (hy := hy) (hmem := hmem))
theorem run_update {w : World} {b t kt et : Nat} {es : Array MapEntry} {c : Nat} {kvs : List (κ × Value)} (kl : KeyLaw P kt enc) (ht : P.underlying t = some (.map kt et))
    (h : w.heap[b]? = some (.map es c)) (hm : MapIs enc es c kvs) (k : κ) (v : Value) :
    ∃ es' c', (Instr.mapUpdate t (.map (some b)) (enc k) v).run P w = .ok () (setB w b (.map es' c')) ∧ MapIs enc es' c' (kput kvs k v) := by
  have hf := kl.find k (kvs.map (·.1)) es.toList w (by rw [hm.keys, List.map_map]; rfl)
  rcases findPure_spec k _ es.toList kvs 0 rfl hm.vals with ⟨q1, q2⟩ | ⟨j, u, q1, q2, q3, q4, q5⟩
  · refine ⟨es.push { key := enc k, val := v, born := c }, c + 1, ?_, ?_⟩
    · simp only [Instr.mapUpdate, Sem.run_bind, run_underlying ht, Result.andThen_ok, run_getMap h, Sem.run_pure, kl.check, hf, q1, run_setMap h]
    · have hk := kget_none.1 q2
      have hp : kput kvs k v = kvs ++ [(k, v)] := by
        clear hf q1 hm
        induction kvs with
        | nil => rfl
        | cons p kvs ih =>
          obtain ⟨a, b⟩ := p
          simp only [List.map_cons, List.mem_cons, not_or] at hk
          simp only [kget, hk.1, if_false] at q2
          simp [kput, hk.1, ih q2 hk.2]
      have hnd := kput_nodup hm.nodup k v
      rw [hp] at hnd ⊢
      refine ⟨by simp [hm.keys], by simp [hm.vals], ?_, ?_, hnd⟩
      · simp only [Array.toList_push, List.map_append, List.map_cons, List.map_nil]
        rw [List.pairwise_append]
        refine ⟨hm.born, by simp, ?_⟩
        intro a ha b hb
        obtain ⟨x, hx, rfl⟩ := List.mem_map.1 ha
        simp at hb
        subst hb
        exact hm.lt x hx
      · intro x hx
        simp only [Array.toList_push, List.mem_append, List.mem_singleton] at hx
        rcases hx with hx | rfl
        · have := hm.lt x hx; omega
        · exact Nat.lt_succ_self _
  · have hj : j < es.size := by simpa using q3
    have hkey : (es[j]).key = enc k := by
      have h1 : (es.toList.map (·.key))[j]? = some (enc k) := by
        rw [hm.keys]
        have : (kvs.map fun p => enc p.1) = (kvs.map (·.1)).map enc := by simp
        rw [this, List.getElem?_map, q4]
        rfl
      simpa [hj] using h1
    refine ⟨es.modify j fun x => { x with key := enc k, val := v }, c, ?_, ?_⟩
    · have hkk : ((es[j]?).map (·.key)).getD (enc k) = enc k := by simp [hj, hkey]
      simp only [Instr.mapUpdate, Sem.run_bind, run_underlying ht, Result.andThen_ok, run_getMap h, Sem.run_pure, kl.check, hf, q1, Nat.zero_add, hkk, Instr.keyThatStays, kl.stays, if_true, Sem.run_pure, run_setMap h]
    · have hl := hm.length
      have hmod : ∀ {β : Type} (f : MapEntry → β), (es.modify j fun x => { x with key := enc k, val := v }).toList.map f = (es.toList.map f).set j (f { es[j] with key := enc k, val := v }) := by
        intro β f
        apply List.ext_getElem?
        intro i
        simp only [List.getElem?_map, List.getElem?_set, Array.getElem?_toList, Array.getElem?_modify, List.length_map, Array.length_toList]
        by_cases hij : j = i
        · subst hij
          simp [hj]
        · simp [hij]
      refine ⟨?_, ?_, ?_, ?_, kput_nodup hm.nodup k v⟩
      · rw [hmod, hm.keys, q5, List.map_set]
      · rw [hmod, hm.vals, q5, List.map_set]
      · have : (es.modify j fun x => { x with key := enc k, val := v }).toList.map (·.born) = es.toList.map (·.born) := by
          rw [hmod]
          apply List.ext_getElem?
          intro i
          rw [List.getElem?_set]
          by_cases hij : j = i
          · subst hij; simp [hj]
          · simp [hij]
        rw [this]
        exact hm.born
      · intro x hx
        have : x.born ∈ (es.modify j fun x => { x with key := enc k, val := v }).toList.map (·.born) := List.mem_map_of_mem hx
        have h2 : (es.modify j fun x => { x with key := enc k, val := v }).toList.map (·.born) = es.toList.map (·.born) := by
          rw [hmod]
          apply List.ext_getElem?
          intro i
          rw [List.getElem?_set]
          by_cases hij : j = i
          · subst hij; simp [hj]
          · simp [hij]
        rw [h2] at this
        obtain ⟨y, hy, hxy⟩ := List.mem_map.1 this
        rw [← hxy]
        exact hm.lt y hy
theorem WL.upd {b t kt et : Nat} {es : Array MapEntry} {c : Nat} {kvs : List (κ × Value)} {k : κ} {v : Value} {M : List HP} (kl : KeyLaw P kt enc) (hm : MapIs enc es c kvs) (ht : mapOk P t kt et = true)
    (h : ∀ es' c', MapIs enc es' c' (kput kvs k v) → WL P B n ops l Q e (pt b (.map es' c') :: M))
    (hx : evo e x = some (.map (some b)) := by rfl) (hy : evo e y = some (enc k) := by rfl) (hz : evo e z = some v := by rfl) (r : Rem L (pt b (.map es c)) M := by repeat (first | exact .here | apply Rem.there)) :
    WL P B n ops (⟨none, .mapUpdate t x y z, ty, pos, af, none⟩ :: l) Q e L :=
  WL.skipStep rfl fun a w ha hs => by
    have hs1 := hs.front r
    obtain ⟨es', c', hr, hm'⟩ := run_update kl (map_of ht) (hs1.get .here) hm k v
    refine ⟨_, e, _, ?_, ha.put_none _, hs1.set (.here (y := pt b (.map es' c'))), h es' c' hm'⟩
    simp [execOp, ha.eval hx, ha.eval hy, ha.eval hz, hr]
theorem WL.mkMap {t : Nat} (h : ∀ b, WL P B n ops l Q ((d, .map (some b)) :: e) (pt b (.map #[] 0) :: L)) (hd : Nat.ble (d + 1) n = true := by rfl) :
    WL P B n ops (⟨some d, .makeMap t none, ty, pos, af, none⟩ :: l) Q e L :=
  WL.step rfl fun a w ha hs => by
    refine ⟨_, w.alloc (.map #[] 0), _, _, ?_, ha.put hd _, hs.new _, h w.heap.size⟩
    simp [execOp, Instr.makeMap, newObj, Sem.run]
theorem Qt.lenM {t kt et b : Nat} {es : Array MapEntry} {c : Nat} (ht : mapOk P t kt et = true) (hx : evo e x = some (.map (some b)) := by rfl) (hmem : Mem L (pt b (.map es c)) := by repeat (first | exact .here | refine .there ?_)) :
    Qt P B n e L ⟨some d, .call ⟨.builtin .len, #[x], #[t]⟩, ty, pos, af, gd⟩ (.int .i64 (es.size : Int)) :=
  fun a w ha hs => by
    simp [execOp, resolve, invoke, builtin, ha.eval hx, Builtin.len_, run_underlying (map_of ht), run_getMap (hs.get hmem), goInt]
theorem WL.lenM {t kt et b : Nat} {es : Array MapEntry} {c : Nat} (h : WL P B n ops l Q ((d, .int .i64 (es.size : Int)) :: e) L) (ht : mapOk P t kt et = true) (hx : evo e x = some (.map (some b)) := by rfl) (hmem : Mem L (pt b (.map es c)) := by repeat (first | exact .here | refine .there ?_)) (hd : Nat.ble (d + 1) n = true := by rfl) :
    WL P B n ops (⟨some d, .call ⟨.builtin .len, #[x], #[t]⟩, ty, pos, af, none⟩ :: l) Q e L :=
  WL.pure h hd (Qt.lenM (ht := ht) (hx := hx) (hmem := hmem))
theorem WL.clearM {t kt et b : Nat} {es : Array MapEntry} {c : Nat} {L' : List HP} (h : WL P B n ops l Q e L') (ht : mapOk P t kt et = true) (hx : evo e x = some (.map (some b)) := by rfl)
    (hr : Repl L (pt b (.map es c)) (pt b (.map #[] c)) L' := by repeat (first | exact .here | apply Repl.there)) :
    WL P B n ops (⟨none, .call ⟨.builtin .clear, #[x], #[t]⟩, ty, pos, af, none⟩ :: l) Q e L := by
  refine WL.step rfl fun a w ha hs => ?_
  obtain ⟨M, r1, r2⟩ := hr.rem
  have hb := (hs.front r1).get .here
  refine ⟨.tuple #[], _, e, L', ?_, ha.put_none _, hs.set hr, h⟩
  simp [execOp, resolve, invoke, builtin, ha.eval hx, Builtin.clear_, run_underlying (map_of ht), run_getMap hb, run_setMap hb]
/-! ### going over a map -/
theorem WL.range {t kt et b : Nat} {es : Array MapEntry} {c : Nat} (ht : mapOk P t kt et = true) (h : ∀ it, WL P B n ops l Q ((d, .pointer (some ⟨it, 0, none⟩)) :: e) (pt it (.mapIter (some b) c #[] c) :: L)) (hx : evo e x = some (.map (some b)) := by rfl) (hmem : Mem L (pt b (.map es c)) := by repeat (first | exact .here | refine .there ?_)) (hd : Nat.ble (d + 1) n = true := by rfl) :
    WL P B n ops (⟨some d, .range t x, ty, pos, af, none⟩ :: l) Q e L :=
  WL.step rfl fun a w ha hs => by
    refine ⟨_, w.alloc (.mapIter (some b) c #[] c), _, _, ?_, ha.put hd _, hs.new _, h w.heap.size⟩
    simp [execOp, ha.eval hx, Instr.range, run_underlying (map_of ht), run_getMap (hs.get hmem), newObj, Sem.run]
/-- What is still to come. -/
def left (es : Array MapEntry) (seen : Array Nat) : List MapEntry := es.toList.filter fun x => !seen.contains x.born
theorem left_push {es : Array MapEntry} {seen : Array Nat} {m : MapEntry} (hm : m ∈ left es seen) : (left es (seen.push m.born)).length < (left es seen).length := by
  unfold left at hm ⊢
  have : es.toList.filter (fun x => !(seen.push m.born).contains x.born) = (es.toList.filter fun x => !seen.contains x.born).filter fun x => !(x.born == m.born) := by
    rw [List.filter_filter]
    apply List.filter_congr
    intro x _
    rw [Bool.eq_iff_iff]
    simp [Array.mem_push, and_comm]
  rw [this]
  generalize es.toList.filter (fun x => !seen.contains x.born) = l at hm
  rw [List.length_filter_lt_length_iff_exists]
  exact ⟨m, hm, by simp⟩
theorem WL.next {b it : Nat} {es : Array MapEntry} {c : Nat} {seen : Array Nat} {M : List HP} (hlt : ∀ x ∈ es.toList, x.born < c)
    (h0 : left es seen = [] → WL P B n ops l Q ((d, .tuple #[.bool false]) :: e) (pt it (.mapIter (some b) c seen c) :: M))
    (h1 : ∀ m ∈ left es seen, WL P B n ops l Q ((d, .tuple #[.bool true, m.key, m.val]) :: e) (pt it (.mapIter (some b) c (seen.push m.born) c) :: M))
    (r : Rem L (pt it (.mapIter (some b) c seen c)) M := by repeat (first | exact .here | apply Rem.there)) (hmem : Mem M (pt b (.map es c)) := by repeat (first | exact .here | refine .there ?_))
    (hx : evo e x = some (.pointer (some ⟨it, 0, none⟩)) := by rfl) (hd : Nat.ble (d + 1) n = true := by rfl) :
    WL P B n ops (⟨some d, .next x false, ty, pos, af, none⟩ :: l) Q e L :=
  WL.step rfl fun a w ha hs => by
    have hs1 := hs.front r
    have hit := hs1.get .here
    have hb := hs1.get (.there hmem)
    have hgi : (getObj it).run P w = .ok (.mapIter (some b) c seen c) w := by simp [getObj, Sem.run, hit]
    have hguard : (!seen.isEmpty && !es.isEmpty && es.all (·.born ≥ c)) = false := by
      cases hes : es.isEmpty
      · have : es.all (fun x => decide (x.born ≥ c)) = false := by
          rw [← Bool.not_eq_true]
          intro hall
          rw [Array.all_eq_true] at hall
          have hpos : 0 < es.size := by
            rcases Nat.eq_zero_or_pos es.size with h | h
            · simp [Array.isEmpty, h] at hes
            · exact h
          have h2 := hall 0 hpos
          have h3 := hlt es[0] (by simp)
          simp at h2
          omega
        simp [this]
      · simp
    have hfil : es.filter (fun e => !seen.contains e.born) = (left es seen).toArray := by
      apply Array.toList_inj.1
      simp [left]
    have hold : (left es seen).toArray.filter (fun x => decide (x.born < c)) = (left es seen).toArray := by
      apply Array.toList_inj.1
      simp only [Array.toList_filter, List.toList_toArray]
      rw [List.filter_eq_self]
      intro x hx
      have := hlt x ((List.mem_filter.1 hx).1)
      simpa using this
    have hnew : (left es seen).toArray.filter (fun x => decide (x.born ≥ c)) = #[] := by
      apply Array.toList_inj.1
      simp only [Array.toList_filter, List.toList_toArray]
      rw [List.filter_eq_nil_iff]
      intro x hx
      have := hlt x ((List.mem_filter.1 hx).1)
      simp; omega
    have hrun : (Instr.next (.pointer (some ⟨it, 0, none⟩)) false ty).run P w =
        ((choose (.mapNext ((if (left es seen).toArray.isEmpty then #[none] else #[]) ++ (left es seen).toArray.map some).size)).run P w).andThen fun i w' =>
          (match ((if (left es seen).toArray.isEmpty then #[none] else #[]) ++ (left es seen).toArray.map some)[i]? with
            | some (some m) => (do setObj it (.mapIter (some b) c (seen.push m.born) c); Pure.pure (Value.tuple #[.bool true, m.key, m.val]) : Sem Value)
            | some none => Pure.pure (Value.tuple #[.bool false])
            | none => stuck "Next: no such candidate").run P w' := by
      simp only [Instr.next, Sem.run_bind, hgi, Result.andThen_ok, run_getMap hb, hguard, Bool.false_eq_true, if_false, hfil, hold, hnew, Array.append_empty]
      rfl
    by_cases hl : left es seen = []
    · refine ⟨.tuple #[.bool false], w, _, _, ?_, ha.put hd _, hs1, h0 hl⟩
      simp only [execOp, ha.eval hx]
      rw [Sem.run_bind, hrun, hl]
      simp [choose, Sem.run, Question.forced]
    · have hpos : 0 < (left es seen).length := List.length_pos_iff.2 hl
      have hne : (left es seen).toArray.isEmpty = false := by simp [hl]
      -- the index that is drawn lies within
      have hch : ∃ i w', (choose (.mapNext (left es seen).length)).run P w = .ok i w' ∧ i < (left es seen).length ∧ w'.heap = w.heap ∧ w'.os = w.os ∧ w'.tape = w.tape ∧ w'.output = w.output := by
        by_cases hf : (left es seen).length ≤ 1
        · exact ⟨0, w, by simp [choose, Sem.run, Question.forced, hf], hpos, rfl, rfl, rfl, rfl⟩
        · refine ⟨_, { w with drawn := w.drawn + 1 }, by simp only [choose, Sem.run, Question.forced, decide_eq_true_eq, hf, if_false]; rfl, ?_, rfl, rfl, rfl, rfl⟩
          simp only [Question.cut]
          exact Nat.mod_lt _ hpos
      obtain ⟨i, w', hc, hi, e1, e2, e3, e4⟩ := hch
      have hs2 : Sat B w' (pt it (.mapIter (some b) c seen c) :: M) := hs1.heap e2 e3 e4 e1
      have hm : (left es seen)[i] ∈ left es seen := List.getElem_mem hi
      have hit' : w'.heap[it]? = some (.mapIter (some b) c seen c) := by rw [e1]; exact hit
      refine ⟨_, setB w' it (.mapIter (some b) c (seen.push (left es seen)[i].born) c), _, _, ?_, ha.put hd _, hs2.set (.here (y := pt it (.mapIter (some b) c (seen.push (left es seen)[i].born) c))), h1 _ hm⟩
      simp only [execOp, ha.eval hx]
      rw [Sem.run_bind, hrun, hne]
      simp only [Bool.false_eq_true, if_false, Array.empty_append, Array.size_map, List.size_toArray, hc, Result.andThen_ok]
      simp [hi, setObj, Sem.run, hit', setB]
theorem Qt.entry {b it : Nat} {es : Array MapEntry} {c : Nat} {seen : Array Nat} {m : MapEntry} (hm : m ∈ es.toList) (hp : (es.toList.map (·.born)).Pairwise (· < ·))
   
    (hit : Mem L (pt it (.mapIter (some b) c (seen.push m.born) c)) := by repeat (first | exact .here | refine .there ?_)) (hmem : Mem L (pt b (.map es c)) := by repeat (first | exact .here | refine .there ?_))
    (hx : evo e x = some (.pointer (some ⟨it, 0, none⟩)) := by rfl) :
    Qt P B n e L ⟨some d, .entry x, ty, pos, af, gd⟩ (.tuple #[m.key, m.val]) :=
  fun a w ha hs => by
    have h1 := hs.get hit
    have h2 := hs.get hmem
    have hgi : (getObj it).run P w = .ok (.mapIter (some b) c (seen.push m.born) c) w := by simp [getObj, Sem.run, h1]
    have hf : es.find? (fun x => x.born == m.born) = some m := by
      rw [← Array.find?_toList]
      generalize es.toList = l at hm hp
      clear h1 h2 hgi
      induction l with
      | nil => cases hm
      | cons x l ih =>
        simp only [List.map_cons, List.pairwise_cons] at hp
        rcases List.mem_cons.1 hm with rfl | hm
        · simp
        · have := hp.1 m.born (List.mem_map_of_mem hm)
          rw [List.find?_cons_of_neg (by simp; omega)]
          exact ih hm hp.2
    simp [execOp, ha.eval hx, Instr.entry, hgi, run_getMap h2, hf]
theorem WL.entry {b it : Nat} {es : Array MapEntry} {c : Nat} {seen : Array Nat} {m : MapEntry} (hm : m ∈ es.toList) (hp : (es.toList.map (·.born)).Pairwise (· < ·))
    (h : WL P B n ops l Q ((d, .tuple #[m.key, m.val]) :: e) L)
    (hit : Mem L (pt it (.mapIter (some b) c (seen.push m.born) c)) := by repeat (first | exact .here | refine .there ?_)) (hmem : Mem L (pt b (.map es c)) := by repeat (first | exact .here | refine .there ?_))
    (hx : evo e x = some (.pointer (some ⟨it, 0, none⟩)) := by rfl) (hd : Nat.ble (d + 1) n = true := by rfl) :
    WL P B n ops (⟨some d, .entry x, ty, pos, af, none⟩ :: l) Q e L :=
  WL.pure h hd (Qt.entry (hm := hm) (hp := hp) (hit := hit) (hmem := hmem) (hx := hx))
end
end Go.Proofs.YtedmihapieleaaaGreat
