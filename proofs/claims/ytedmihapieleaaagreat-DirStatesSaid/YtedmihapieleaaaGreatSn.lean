/- Steps: arrays within structs, cells as a list. Over any program. -/
import Derived.Test.YtedmihapieleaaaGreatSh
set_option linter.unusedVariables false
set_option linter.unusedSimpArgs false
namespace Go.Proofs.YtedmihapieleaaaGreat
open Go
section
variable {P : Program} {B : Base} {n : Nat} {Q Q' : Exit → Act → World → Prop} {e : Env} {L : List HP} {ops : Array Oper} {l : List Oper}
variable {d : Nat} {ty : TypeId} {pos : String} {af : Array Edge} {x y z : Operand} {gd : Option (Nat × Bool)}
/-- Memory of its own, by a list of cells. -/
def row (b el : Nat) (xs : List Value) : HP := pt b (.cells xs.toArray el (0, 0))
def arrOk (P : Program) (t el k size : Nat) : Bool :=
  match P.underlying t with
  | some (.array m e) => Nat.beq m k && Nat.beq e el && (match P.info? el with
    | some i => Nat.beq i.size size
    | none => false)
  | _ => false
theorem arr_of {t el k size : Nat} (h : arrOk P t el k size = true) : P.underlying t = some (.array k el) ∧ ∃ i, P.info? el = some i ∧ i.size = size := by
  unfold arrOk at h
  split at h
  · rename_i m e hu
    simp only [Bool.and_eq_true] at h
    obtain ⟨⟨h1, h2⟩, h3⟩ := h
    have h1 := Nat.eq_of_beq_eq_true h1
    have h2 := Nat.eq_of_beq_eq_true h2
    subst h1; subst h2
    split at h3
    · rename_i i hi
      exact ⟨hu, i, hi, Nat.eq_of_beq_eq_true h3⟩
    · cases h3
  · cases h
theorem Qt.idxA {t el size b off k : Nat} {p : Int} {kk : IntKind} (ht : arrOk P t el k size = true)
    (hx : evo e x = some (.pointer (some ⟨b, off, none⟩)) := by rfl) (hy : evo e y = some (.int kk p) := by rfl) (hp : 0 ≤ p ∧ p < k := by omega) :
    Qt P B n e L ⟨some d, .indexAddr t x y, ty, pos, af, gd⟩ (.pointer (some ⟨b, off + p.toNat * size, none⟩)) :=
  fun a w ha hs => by
    obtain ⟨hu, i, hi, hsz⟩ := arr_of ht
    simp [execOp, ha.eval hx, ha.eval hy, Instr.indexAt, asIntOf, run_underlying hu, hp, sizeOf, typeInfo, hi, hsz, add_plain', Instr.sureAddr]
theorem WL.idxA {t el size b off k : Nat} {p : Int} {kk : IntKind} (h : WL P B n ops l Q ((d, .pointer (some ⟨b, off + p.toNat * size, none⟩)) :: e) L) (ht : arrOk P t el k size = true)
    (hx : evo e x = some (.pointer (some ⟨b, off, none⟩)) := by rfl) (hy : evo e y = some (.int kk p) := by rfl) (hp : 0 ≤ p ∧ p < k := by omega) (hd : Nat.ble (d + 1) n = true := by rfl) :
    WL P B n ops (⟨some d, .indexAddr t x y, ty, pos, af, none⟩ :: l) Q e L :=
  WL.pure h hd (Qt.idxA (ht := ht) (hp := hp) (hx := hx) (hy := hy))
/-- An element of an array that is a value. -/
theorem Qt.ixV {t el k : Nat} {p : Int} {kk : IntKind} {cs : Array Value} {v : Value} (ht : arrOk P t el k 1 = true) (hsc : scalarOk P el = true) (hv : cs[p.toNat]? = some v)
    (hx : evo e x = some (.agg cs) := by rfl) (hy : evo e y = some (.int kk p) := by rfl) (hp : 0 ≤ p ∧ p < k := by omega) :
    Qt P B n e L ⟨some d, .index t x y, ty, pos, af, gd⟩ v :=
  fun a w ha hs => by
    obtain ⟨hu, i, hi, hsz⟩ := arr_of ht
    have hpart : (part el cs p.toNat).run P w = .ok v w := by simp [part, run_isAgg_scalar hsc, hv]
    simp [execOp, ha.eval hx, ha.eval hy, Instr.index, asIntOf, run_underlying hu, hp, sizeOf, typeInfo, hi, hsz, hpart]
theorem WL.ixV {t el k : Nat} {p : Int} {kk : IntKind} {cs : Array Value} {v : Value} (h : WL P B n ops l Q ((d, v) :: e) L) (ht : arrOk P t el k 1 = true) (hsc : scalarOk P el = true) (hv : cs[p.toNat]? = some v)
    (hx : evo e x = some (.agg cs) := by rfl) (hy : evo e y = some (.int kk p) := by rfl) (hp : 0 ≤ p ∧ p < k := by omega) (hd : Nat.ble (d + 1) n = true := by rfl) :
    WL P B n ops (⟨some d, .index t x y, ty, pos, af, none⟩ :: l) Q e L := WL.pure h hd (Qt.ixV ht hsc hv hx hy hp)
/-- A cell of a row is read. -/
theorem Qt.ldL {t b el i : Nat} {xs : List Value} {v : Value} (hsc : scalarOk P t = true) (hv : xs[i]? = some v)
    (hx : evo e x = some (.pointer (some ⟨b, i, none⟩)) := by rfl) (hm : Mem L (row b el xs) := by repeat (first | exact .here | refine .there ?_)) :
    Qt P B n e L ⟨some d, .load t x, ty, pos, af, gd⟩ v :=
  Qt.ld hsc hx hm (by rw [nthv_eq]; exact hv)
theorem WL.ldL {t b el i : Nat} {xs : List Value} {v : Value} (h : WL P B n ops l Q ((d, v) :: e) L) (hsc : scalarOk P t = true) (hv : xs[i]? = some v)
    (hx : evo e x = some (.pointer (some ⟨b, i, none⟩)) := by rfl) (hm : Mem L (row b el xs) := by repeat (first | exact .here | refine .there ?_)) (hd : Nat.ble (d + 1) n = true := by rfl) :
    WL P B n ops (⟨some d, .load t x, ty, pos, af, none⟩ :: l) Q e L := WL.pure h hd (Qt.ldL hsc hv hx hm)
/-- A part of a row is read. -/
theorem Qt.ldLA {t b el off k : Nat} {xs us : List Value} (hag : aggOk P t k = true) (hus : (xs.drop off).take k = us) (hk : off + k ≤ xs.length)
    (hx : evo e x = some (.pointer (some ⟨b, off, none⟩)) := by rfl) (hm : Mem L (row b el xs) := by repeat (first | exact .here | refine .there ?_)) :
    Qt P B n e L ⟨some d, .load t x, ty, pos, af, gd⟩ (.agg us.toArray) :=
  Qt.ldP (cs := xs.toArray) (us := us.toArray) hag (by simpa using hus) (Nat.ble_eq_true_of_le (by simpa using hk)) hx hm
theorem WL.ldLA {t b el off k : Nat} {xs us : List Value} (h : WL P B n ops l Q ((d, .agg us.toArray) :: e) L) (hag : aggOk P t k = true) (hus : (xs.drop off).take k = us) (hk : off + k ≤ xs.length)
    (hx : evo e x = some (.pointer (some ⟨b, off, none⟩)) := by rfl) (hm : Mem L (row b el xs) := by repeat (first | exact .here | refine .there ?_)) (hd : Nat.ble (d + 1) n = true := by rfl) :
    WL P B n ops (⟨some d, .load t x, ty, pos, af, none⟩ :: l) Q e L := WL.pure h hd (Qt.ldLA hag hus hk hx hm)
/-- A row is read whole. -/
theorem Qt.ldW {t b el k : Nat} {xs : List Value} (hag : aggOk P t k = true) (hk : xs.length = k)
    (hx : evo e x = some (.pointer (some ⟨b, 0, none⟩)) := by rfl) (hm : Mem L (row b el xs) := by repeat (first | exact .here | refine .there ?_)) :
    Qt P B n e L ⟨some d, .load t x, ty, pos, af, gd⟩ (.agg xs.toArray) :=
  Qt.ldLA hag (by rw [List.drop_zero, List.take_of_length_le (by omega)]) (by omega) hx hm
theorem WL.ldW {t b el k : Nat} {xs : List Value} (h : WL P B n ops l Q ((d, .agg xs.toArray) :: e) L) (hag : aggOk P t k = true) (hk : xs.length = k)
    (hx : evo e x = some (.pointer (some ⟨b, 0, none⟩)) := by rfl) (hm : Mem L (row b el xs) := by repeat (first | exact .here | refine .there ?_)) (hd : Nat.ble (d + 1) n = true := by rfl) :
    WL P B n ops (⟨some d, .load t x, ty, pos, af, none⟩ :: l) Q e L := WL.pure h hd (Qt.ldW hag hk hx hm)
theorem row_set {b el i : Nat} {xs : List Value} {v : Value} : pt b (.cells (xs.toArray.setIfInBounds i v) el (0, 0)) = row b el (xs.set i v) := by
  unfold row
  congr 2
  simp
/-- A cell of a row is stored. -/
theorem WL.stL {t b el i : Nat} {xs : List Value} {v : Value} {L' : List HP} (h : WL P B n ops l Q e L') (hsc : scalarOk P t = true) (hi : i < xs.length)
    (hx : evo e x = some (.pointer (some ⟨b, i, none⟩)) := by rfl) (hy : evo e y = some v := by rfl)
    (hr : Repl L (row b el xs) (row b el (xs.set i v)) L' := by repeat (first | exact .here | apply Repl.there)) (hv : Value.single v = true := by rfl) :
    WL P B n ops (⟨none, .store t x y, ty, pos, af, none⟩ :: l) Q e L :=
  WL.st (cs := xs.toArray) h hsc hx hy (by rw [row_set]; exact hr) (Nat.ble_eq_true_of_le (by simp only [List.size_toArray]; omega)) hv
/-- A row is stored whole. -/
theorem WL.stLA {t b k el : Nat} {xs us : List Value} {L' : List HP} (h : WL P B n ops l Q e L') (hag : aggOk P t k = true) (hk : us.length = k) (hc : xs.length = k) (hsing : ∀ v ∈ us, Value.single v = true) (hk0 : Nat.ble 1 k = true := by rfl)
    (hx : evo e x = some (.pointer (some ⟨b, 0, none⟩)) := by rfl) (hy : evo e y = some (.agg us.toArray) := by rfl)
    (hr : Repl L (row b el xs) (row b el us) L' := by repeat (first | exact .here | apply Repl.there)) :
    WL P B n ops (⟨none, .store t x y, ty, pos, af, none⟩ :: l) Q e L :=
  WL.stV h hag hx hy hr hk0 (by simpa using hk) (by simpa using hc) (by simpa [List.all_eq_true] using hsing)
theorem WL.boxL {t : Nat} {us : List Value} (h : ∀ b, WL P B n ops l Q ((d, .pointer (some ⟨b, 0, none⟩)) :: e) (row b t us :: L)) (hx : evo e x = some (.agg us.toArray) := by rfl) (hd : Nat.ble (d + 1) n = true := by rfl) :
    WL P B n ops (⟨some d, .box t x, ty, pos, af, none⟩ :: l) Q e L := WL.box (v := .agg us.toArray) h hx hd
theorem WL.allocL {t : Nat} {us : List Value} {cs : Array Value} (hz : zeroOf P t = some cs) (hc : cs = us.toArray) (h : ∀ b, WL P B n ops l Q ((d, .pointer (some ⟨b, 0, none⟩)) :: e) (row b t us :: L)) (hd : Nat.ble (d + 1) n = true := by rfl) :
    WL P B n ops (⟨some d, .alloc t, ty, pos, af, none⟩ :: l) Q e L := by
  subst hc
  exact WL.alloc hz h hd
/-- What a result variable that is a struct in memory comes to. -/
theorem RV.aggL {a t b el k : Nat} {xs : List Value} (h : look e a = some (.pointer (some ⟨b, 0, none⟩))) (hag : aggOk P t k = true) (hm : Mem L (row b el xs)) (hk : xs.length = k) : RV P e L (.cell a t) (.agg xs.toArray) :=
  RV.agg h hag hm (by simpa using hk)
attribute [irreducible] row
end
end Go.Proofs.YtedmihapieleaaaGreat
