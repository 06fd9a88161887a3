/- A directory as a list of slots, and its bytes. Plain. -/
import Derived.Test.YtedmihapieleaaaGreatSu
import Derived.Test.YtedmihapieleaaaGreatPk
set_option linter.unusedVariables false
set_option linter.unusedSimpArgs false
namespace Go.Proofs.YtedmihapieleaaaGreat
open Go
/-- What stands in a slot: nothing, or a name and what it leads to. -/
abbrev Slot := Option (Bytes × Nat)
/-- A name's key. -/
def keyB (nm : Bytes) : Bytes := (UInt8.ofNat nm.length :: (nm ++ List.replicate 50 0)).take 51
theorem keyB_length (nm : Bytes) : (keyB nm).length = 51 := by
  unfold keyB
  rw [List.length_take, List.length_cons, List.length_append, List.length_replicate]
  omega
abbrev K51 := {xs : Bytes // xs.length = 51}
def keyK (nm : Bytes) : K51 := ⟨keyB nm, keyB_length nm⟩
theorem keyB_head (nm : Bytes) : (keyB nm)[0]? = some (UInt8.ofNat nm.length) := by
  unfold keyB; rfl
theorem keyB_inj {a b : Bytes} (ha : a.length ≤ 50) (hb : b.length ≤ 50) (h : keyB a = keyB b) : a = b := by
  have h0 : UInt8.ofNat a.length = UInt8.ofNat b.length := by
    have := congrArg (fun l : Bytes => l[0]?) h
    simp only [keyB_head, Option.some.injEq] at this
    exact this
  have hl : a.length = b.length := by
    have := congrArg UInt8.toNat h0
    rw [UInt8.toNat_ofNat', UInt8.toNat_ofNat'] at this
    omega
  have h1 : (a ++ List.replicate 50 0).take 50 = (b ++ List.replicate 50 0).take 50 := by
    unfold keyB at h
    rw [List.take_succ_cons, List.take_succ_cons] at h
    exact (List.cons.inj h).2
  have h2 := congrArg (List.take a.length) h1
  rw [List.take_take, List.take_take, Nat.min_eq_left ha, List.take_append_of_le_length (Nat.le_refl _), List.take_length, hl, List.take_append_of_le_length (Nat.le_refl _), List.take_length] at h2
  exact h2
theorem put4_append {a b : Bytes} (h : 4 ≤ a.length) (v : Nat) : put4 (a ++ b) 0 v = put4 a 0 v ++ b := by
  simp only [put4, put, putN, Bool.false_eq_true, if_false]
  rw [List.set_append_left _ _ (by omega), List.set_append_left _ _ (by rw [List.length_set]; omega), List.set_append_left _ _ (by rw [List.length_set, List.length_set]; omega), List.set_append_left _ _ (by rw [List.length_set, List.length_set, List.length_set]; omega)]
/-- A slot's 64 bytes. -/
def slotB : Slot → Bytes
  | none => List.replicate 64 0
  | some (nm, i) => put4 (List.replicate 4 0) 0 i ++ (keyB nm ++ List.replicate 9 0)
theorem slotB_made {nm : Bytes} (i : Nat) : (put4 (List.replicate 64 0) 0 i).take 4 ++ keyB nm ++ (put4 (List.replicate 64 0) 0 i).drop 55 = slotB (some (nm, i)) := by
  have h1 : (List.replicate 64 (0 : UInt8)) = List.replicate 4 0 ++ List.replicate 60 0 := rfl
  have h4 : (put4 (List.replicate 4 0) 0 i).length = 4 := by rw [put4_length]; rfl
  rw [h1, put4_append (by rw [List.length_replicate]; decide), List.take_left' h4, show 55 = 4 + 51 from rfl, ← List.drop_drop, List.drop_left' h4, List.append_assoc]
  rfl
theorem keyB_made {nm : Bytes} (h : nm.length ≤ 50) : (UInt8.ofNat nm.length :: List.replicate 50 0).take 1 ++ nm.take (min nm.length 50) ++ (UInt8.ofNat nm.length :: List.replicate 50 0).drop (1 + min nm.length 50) = keyB nm := by
  rw [Nat.min_eq_left h, List.take_length, show 1 + nm.length = nm.length + 1 from by omega, List.drop_succ_cons, List.drop_replicate]
  have h1 : (nm ++ List.replicate 50 (0 : UInt8)).take 50 = nm ++ List.replicate (50 - nm.length) 0 := by
    rw [List.take_append, List.take_of_length_le h, List.take_replicate, Nat.min_eq_left (by omega)]
  show _ = UInt8.ofNat nm.length :: ((nm ++ List.replicate 50 0).take 50)
  rw [h1]
  rfl
theorem slotB_length (s : Slot) : (slotB s).length = 64 := by
  cases s with
  | none => exact List.length_replicate
  | some x => rw [slotB, List.length_append, put4_length, List.length_append, keyB_length, List.length_replicate, List.length_replicate]
def dirB (sl : List Slot) : Bytes := sl.flatMap slotB
theorem dirB_nil : dirB [] = [] := rfl
theorem dirB_append (a b : List Slot) : dirB (a ++ b) = dirB a ++ dirB b := List.flatMap_append
theorem dirB_length : ∀ sl : List Slot, (dirB sl).length = 64 * sl.length
  | [] => rfl
  | s :: sl => by
    have := dirB_length sl
    unfold dirB at this ⊢
    rw [List.flatMap_cons, List.length_append, slotB_length, this, List.length_cons]; omega
/-- A directory's bytes about a slot. -/
theorem dirB_split {sl : List Slot} {q : Nat} (h : q < sl.length) : dirB sl = dirB (sl.take q) ++ (slotB sl[q] ++ dirB (sl.drop (q + 1))) := by
  have h1 : dirB [sl[q]] = slotB sl[q] := by unfold dirB; rw [List.flatMap_cons, List.flatMap_nil, List.append_nil]
  rw [← h1, ← dirB_append, ← dirB_append]
  congr 1
  rw [List.singleton_append, List.getElem_cons_drop, List.take_append_drop]
theorem dirB_at {sl : List Slot} {q r k : Nat} (h : q < sl.length) (hk : r + k ≤ 64) : ((dirB sl).drop (64 * q + r)).take k = ((slotB sl[q]).drop r).take k := by
  have hl : (dirB (sl.take q)).length = 64 * q := by rw [dirB_length, List.length_take]; omega
  rw [dirB_split h, ← hl, ← List.drop_drop, List.drop_left, List.drop_append_of_le_length (by rw [slotB_length]; omega), List.take_append_of_le_length (by rw [List.length_drop, slotB_length]; omega)]
/-- The key that stands in a slot. -/
def keyOf : Slot → Bytes
  | none => List.replicate 51 0
  | some (nm, _) => keyB nm
theorem slotB_key (s : Slot) : ((slotB s).drop 4).take 51 = keyOf s := by
  cases s with
  | none => rfl
  | some x =>
    obtain ⟨nm, i⟩ := x
    have h4 : (put4 (List.replicate 4 0) 0 i).length = 4 := by rw [put4_length]; rfl
    show ((put4 (List.replicate 4 0) 0 i ++ (keyB nm ++ List.replicate 9 0)).drop 4).take 51 = keyB nm
    rw [List.drop_left' h4, List.take_left' (keyB_length nm)]
theorem dirB_key {sl : List Slot} {q : Nat} (h : q < sl.length) : ((dirB sl).drop (64 * q + 4)).take 51 = keyOf sl[q] := by
  rw [dirB_at h (by decide), slotB_key]
theorem keyOf_length (s : Slot) : (keyOf s).length = 51 := by
  cases s with
  | none => exact List.length_replicate
  | some x => exact keyB_length x.1
theorem num_take {xs : Bytes} {q : Nat} : num xs q = num ((xs.drop q).take 4) 0 := by
  unfold num
  simp only [List.getD_eq_getElem?_getD, List.getElem?_take, List.getElem?_drop, Nat.add_zero, Nat.zero_add]
  rfl
theorem dirB_num {sl : List Slot} {q : Nat} {nm : Bytes} {i : Nat} (h : q < sl.length) (hs : sl[q] = some (nm, i)) (hi : i < 4294967296) : num (dirB sl) (64 * q) = i := by
  have h1 := dirB_at (r := 0) (k := 4) h (by decide)
  have h4 : (put4 (List.replicate 4 0) 0 i).length = 4 := by rw [put4_length]; rfl
  rw [num_take, show 64 * q = 64 * q + 0 from rfl, h1, hs, List.drop_zero]
  show num ((put4 (List.replicate 4 0) 0 i ++ (keyB nm ++ List.replicate 9 0)).take 4) 0 = i
  rw [List.take_left' h4]
  exact num_put4 (by rw [List.length_replicate]; decide) hi
/-- A slot is laid anew, or one more. -/
def setS (sl : List Slot) (q : Nat) (s : Slot) : List Slot := sl.take q ++ s :: sl.drop (q + 1)
theorem setS_length {sl : List Slot} {q : Nat} (h : q ≤ sl.length) (s : Slot) : (setS sl q s).length = max sl.length (q + 1) := by
  unfold setS
  rw [List.length_append, List.length_take, List.length_cons, List.length_drop]; omega
theorem setS_same {sl : List Slot} {q : Nat} (h : q ≤ sl.length) (s : Slot) : (setS sl q s)[q]? = some s := by
  unfold setS
  rw [List.getElem?_append_right (by rw [List.length_take]; omega), List.length_take, Nat.min_eq_left h, Nat.sub_self]
  rfl
theorem setS_other {sl : List Slot} {q j : Nat} (h : q ≤ sl.length) (hj : j ≠ q) (s : Slot) : (setS sl q s)[j]? = sl[j]? := by
  unfold setS
  rcases Nat.lt_or_gt_of_ne hj with hlt | hgt
  · rw [List.getElem?_append_left (by rw [List.length_take]; omega), List.getElem?_take, if_pos hlt]
  · rw [List.getElem?_append_right (by rw [List.length_take]; omega), List.length_take, Nat.min_eq_left h, show j - q = (j - q - 1) + 1 from by omega, List.getElem?_cons_succ, List.getElem?_drop]
    congr 1; omega
theorem setS_wr {sl : List Slot} {q : Nat} (h : q ≤ sl.length) (s : Slot) : wrB (dirB sl) (64 * q) (slotB s) = dirB (setS sl q s) := by
  have hl := dirB_length sl
  have ht : (dirB (sl.take q)).length = 64 * q := by rw [dirB_length, List.length_take]; omega
  have h1 : dirB (s :: sl.drop (q + 1)) = slotB s ++ dirB (sl.drop (q + 1)) := by unfold dirB; rw [List.flatMap_cons]
  unfold setS
  rw [dirB_append, h1]
  unfold wrB splice
  by_cases hq : q < sl.length
  · have hx : ext (dirB sl) (64 * q + (slotB s).length) = dirB sl := by
      unfold ext
      rw [slotB_length, show 64 * q + 64 - (dirB sl).length = 0 from by omega, List.replicate_zero, List.append_nil]
    have e1 : (dirB sl).take (64 * q) = dirB (sl.take q) := by
      rw [dirB_split hq, List.take_left' ht]
    have e2 : (dirB sl).drop (64 * q + (slotB s).length) = dirB (sl.drop (q + 1)) := by
      rw [dirB_split hq, ← List.append_assoc, List.drop_left' (by rw [List.length_append, ht, slotB_length, slotB_length])]
    simp only [hx, e1, e2, List.append_assoc]
  · have hqe : q = sl.length := by omega
    have e0 : sl.take q = sl := by rw [hqe, List.take_length]
    have e3 : sl.drop (q + 1) = [] := List.drop_eq_nil_of_le (by omega)
    rw [e0, e3, dirB_nil, List.append_nil]
    have e1 : (ext (dirB sl) (64 * q + (slotB s).length)).take (64 * q) = dirB sl := by
      unfold ext
      rw [List.take_left' (by omega)]
    have e2 : (ext (dirB sl) (64 * q + (slotB s).length)).drop (64 * q + (slotB s).length) = [] := by
      refine List.drop_eq_nil_of_le ?_
      unfold ext
      rw [List.length_append, List.length_replicate, slotB_length]; omega
    simp only [e1, e2, List.append_nil]
/-! ### what is told of it -/
def foundV (at' i : Nat) : Value := .agg #[nI at', nI i]
def stepK (kv : List (K51 × Value)) (q : Nat) : Slot → List (K51 × Value)
  | none => kv
  | some (nm, i) => kput kv (keyK nm) (foundV (64 * q) i)
/-- The names of the first slots. -/
def kvF (sl : List Slot) : Nat → List (K51 × Value)
  | 0 => []
  | q + 1 => match sl[q]? with
    | some s => stepK (kvF sl q) q s
    | none => kvF sl q
/-- The first empty one among the first slots. -/
def freeF (sl : List Slot) : Nat → Option Nat
  | 0 => none
  | q + 1 => match freeF sl q with
    | some r => some r
    | none => if sl[q]? = some none then some q else none
def freeS (sl : List Slot) : Nat := (freeF sl sl.length).getD sl.length
theorem freeF_some {sl : List Slot} : ∀ {n r : Nat}, freeF sl n = some r → r < n ∧ sl[r]? = some none ∧ ∀ j, j < r → sl[j]? ≠ some none
  | n + 1, r, h => by
    rw [freeF] at h
    cases hf : freeF sl n with
    | some r' =>
      rw [hf] at h
      obtain rfl : r' = r := by simpa using h
      obtain ⟨h1, h2⟩ := freeF_some hf
      exact ⟨by omega, h2⟩
    | none =>
      rw [hf] at h
      simp only at h
      split at h
      · rename_i hs
        obtain rfl : n = r := by simpa using h
        refine ⟨by omega, hs, fun j hj hh => ?_⟩
        have := freeF_none (sl := sl) hf j hj
        exact this hh
      · cases h
where
  freeF_none {sl : List Slot} : ∀ {n : Nat}, freeF sl n = none → ∀ j, j < n → sl[j]? ≠ some none
  | n + 1, h, j, hj => by
    rw [freeF] at h
    cases hf : freeF sl n with
    | some r' => rw [hf] at h; cases h
    | none =>
      rw [hf] at h
      simp only at h
      split at h
      · cases h
      · rename_i hs
        by_cases hjn : j = n
        · subst hjn; exact hs
        · exact freeF_none hf j (by omega)
theorem freeS_le (sl : List Slot) : freeS sl ≤ sl.length := by
  unfold freeS
  cases h : freeF sl sl.length with
  | none => exact Nat.le_refl _
  | some r => exact Nat.le_of_lt (freeF_some h).1
/-- A directory that may be. -/
structure DirOk (sl : List Slot) : Prop where
  nm : ∀ (q : Nat) (n : Bytes) (i : Nat), sl[q]? = some (some (n, i)) → (1 ≤ n.length ∧ n.length ≤ 50) ∧ i < 4294967296
  one : ∀ (q r : Nat) (n : Bytes) (i j : Nat), sl[q]? = some (some (n, i)) → sl[r]? = some (some (n, j)) → q = r
theorem DirOk.nil : DirOk [] := ⟨fun q n i h => (by cases h), fun q r n i j h => (by cases h)⟩
theorem keyK_inj {a b : Bytes} (ha : a.length ≤ 50) (hb : b.length ≤ 50) (h : keyK a = keyK b) : a = b := keyB_inj ha hb (congrArg Subtype.val h)
theorem kvF_has {sl : List Slot} (hd : DirOk sl) {q i : Nat} {n : Bytes} (h : sl[q]? = some (some (n, i))) : ∀ m, q < m → kget (kvF sl m) (keyK n) = some (foundV (64 * q) i)
  | m + 1, hm => by
    rw [kvF]
    by_cases hq : q = m
    · subst hq
      rw [h]
      show kget (kput (kvF sl q) (keyK n) (foundV (64 * q) i)) (keyK n) = _
      rw [kget_put, if_pos rfl]
    · have ih := kvF_has hd h m (by omega)
      cases hs : sl[m]? with
      | none => exact ih
      | some s =>
        cases s with
        | none => exact ih
        | some x =>
          obtain ⟨n', i'⟩ := x
          show kget (kput (kvF sl m) (keyK n') (foundV (64 * m) i')) (keyK n) = _
          rw [kget_put, if_neg, ih]
          intro hk
          have := keyK_inj (hd.nm _ _ _ h).1.2 (hd.nm _ _ _ hs).1.2 hk
          subst this
          exact hq (hd.one _ _ _ _ _ h hs)
theorem kvF_no {sl : List Slot} (hd : DirOk sl) {n : Bytes} (hn : n.length ≤ 50) (h : ∀ (q i : Nat), sl[q]? ≠ some (some (n, i))) : ∀ m, kget (kvF sl m) (keyK n) = none
  | 0 => rfl
  | m + 1 => by
    rw [kvF]
    have ih := kvF_no hd hn h m
    cases hs : sl[m]? with
    | none => exact ih
    | some s =>
      cases s with
      | none => exact ih
      | some x =>
        obtain ⟨n', i'⟩ := x
        show kget (kput (kvF sl m) (keyK n') (foundV (64 * m) i')) (keyK n) = _
        rw [kget_put, if_neg, ih]
        intro hk
        have := keyK_inj hn (hd.nm _ _ _ hs).1.2 hk
        subst this
        exact h _ _ hs
theorem DirOk.set {sl : List Slot} (hd : DirOk sl) {q : Nat} (hq : q ≤ sl.length) {n : Bytes} {i : Nat} (hn : 1 ≤ n.length ∧ n.length ≤ 50) (hi : i < 4294967296)
    (h : ∀ (r j : Nat), r ≠ q → sl[r]? ≠ some (some (n, j))) : DirOk (setS sl q (some (n, i))) := by
  have get : ∀ (r : Nat) (n' : Bytes) (i' : Nat), (setS sl q (some (n, i)))[r]? = some (some (n', i')) → (r = q ∧ n' = n ∧ i' = i) ∨ (r ≠ q ∧ sl[r]? = some (some (n', i'))) := by
    intro r n' i' hr
    by_cases hrq : r = q
    · subst hrq
      rw [setS_same hq] at hr
      injection hr with hr
      injection hr with hr
      injection hr with h1 h2
      exact .inl ⟨rfl, h1.symm, h2.symm⟩
    · rw [setS_other hq hrq] at hr
      exact .inr ⟨hrq, hr⟩
  refine ⟨fun r n' i' hr => ?_, fun r t n' i' j' hr ht => ?_⟩
  · rcases get _ _ _ hr with ⟨_, rfl, rfl⟩ | ⟨_, hr⟩
    · exact ⟨hn, hi⟩
    · exact hd.nm _ _ _ hr
  · rcases get _ _ _ hr with ⟨h1, h2, h3⟩ | ⟨hrq, hr2⟩
    · rcases get _ _ _ ht with ⟨h4, _, _⟩ | ⟨htq, ht2⟩
      · rw [h1, h4]
      · rw [h2] at ht2
        exact absurd ht2 (h _ _ htq)
    · rcases get _ _ _ ht with ⟨h4, h5, h6⟩ | ⟨htq, ht2⟩
      · rw [h5] at hr2
        exact absurd hr2 (h _ _ hrq)
      · exact hd.one _ _ _ _ _ hr2 ht2
theorem DirOk.gone {sl : List Slot} (hd : DirOk sl) {q : Nat} (hq : q ≤ sl.length) : DirOk (setS sl q none) := by
  have get : ∀ (r : Nat) (n' : Bytes) (i' : Nat), (setS sl q none)[r]? = some (some (n', i')) → sl[r]? = some (some (n', i')) := by
    intro r n' i' hr
    by_cases hrq : r = q
    · subst hrq; rw [setS_same hq] at hr; injection hr with hr; cases hr
    · rwa [setS_other hq hrq] at hr
  exact ⟨fun r n i hr => hd.nm _ _ _ (get _ _ _ hr), fun r t n i j hr ht => hd.one _ _ _ _ _ (get _ _ _ hr) (get _ _ _ ht)⟩
theorem keyOf_some {sl : List Slot} (hd : DirOk sl) {q : Nat} {n : Bytes} {i : Nat} (h : sl[q]? = some (some (n, i))) : ∃ x : UInt8, (keyB n)[0]? = some x ∧ x ≠ 0 := by
  refine ⟨_, keyB_head n, fun h0 => ?_⟩
  have h1 := (hd.nm _ _ _ h).1
  have := congrArg UInt8.toNat h0
  rw [UInt8.toNat_ofNat'] at this
  have h2 : (0 : UInt8).toNat = 0 := rfl
  omega
end Go.Proofs.YtedmihapieleaaaGreat
