/- The steps of this seat's walks: what each operation does to slots and assertions. Over any program. -/
import Derived.Test.YtedmihapieleaaaGreatSl
import Derived.WalkKit
import Derived.RowKit
set_option linter.unusedVariables false
set_option linter.unusedSimpArgs false
namespace Go.Proofs.YtedmihapieleaaaGreat
open Go


section
variable {P : Program} {B : Base} {n : Nat} {Q Q' : Exit → Act → World → Prop} {e : Env} {L : List HP} {ops : Array Oper} {l : List Oper}

/-- An operation that yields a value. -/
theorem WL.step {o : Oper} (hg : o.guard = none)
    (h : ∀ a w, Ag n e a → Sat B w L → ∃ v w' e' L', (execOp a.eval o).run P w = .ok (.value v) w' ∧ Ag n e' (a.put o.dst v) ∧ Sat B w' L' ∧ WL P B n ops l Q e' L') :
    WL P B n ops (o :: l) Q e L := by
  intro a w ha hs
  obtain ⟨v, w', e', L', hr, ha', hs', hk⟩ := h a w ha hs
  refine wpList_plain hg fun K hK => ?_
  unfold Oper.wp
  rw [hr]
  exact hK _ _ (hk _ _ ha' hs')
theorem WL.skipStep {o : Oper} (hg : o.guard = none)
    (h : ∀ a w, Ag n e a → Sat B w L → ∃ w' e' L', (execOp a.eval o).run P w = .ok .skip w' ∧ Ag n e' (a.put o.dst undef) ∧ Sat B w' L' ∧ WL P B n ops l Q e' L') :
    WL P B n ops (o :: l) Q e L := by
  intro a w ha hs
  obtain ⟨w', e', L', hr, ha', hs', hk⟩ := h a w ha hs
  refine wpList_plain hg fun K hK => ?_
  unfold Oper.wp
  rw [hr]
  exact hK _ _ (hk _ _ ha' hs')

/-- What an operation that only computes comes to. -/
def Qt (P : Program) (B : Base) (n : Nat) (e : Env) (L : List HP) (o : Oper) (v : Value) : Prop := ∀ a w, Ag n e a → Sat B w L → (execOp a.eval o).run P w = .ok (.value v) w
theorem Qt.eq {o : Oper} {v v' : Value} (h : Qt P B n e L o v) (hv : v = v') : Qt P B n e L o v' := hv ▸ h
/-- An operation that only computes. -/
theorem WL.pure {d : Nat} {op : Op} {ty : TypeId} {pos : String} {af : Array Edge} {v : Value}
    (h : WL P B n ops l Q ((d, v) :: e) L) (hd : Nat.ble (d + 1) n = true)
    (hr : Qt P B n e L ⟨some d, op, ty, pos, af, none⟩ v) :
    WL P B n ops (⟨some d, op, ty, pos, af, none⟩ :: l) Q e L :=
  WL.step rfl fun a w ha hs => ⟨v, w, _, L, hr a w ha hs, ha.put hd v, hs, h⟩

variable {d : Nat} {ty : TypeId} {pos : String} {af : Array Edge} {x y z : Operand} {gd : Option (Nat × Bool)}

theorem Qt.move {v : Value} (hx : evo e x = some v := by rfl) :
    Qt P B n e L ⟨some d, .move x, ty, pos, af, gd⟩ (v) :=
  fun a w ha hs => by simp [execOp, ha.eval hx]
theorem WL.move {v : Value} (h : WL P B n ops l Q ((d, v) :: e) L) (hx : evo e x = some v := by rfl) (hd : Nat.ble (d + 1) n = true := by rfl) :
    WL P B n ops (⟨some d, .move x, ty, pos, af, none⟩ :: l) Q e L :=
  WL.pure h hd (Qt.move (hx := hx))
theorem Qt.assign {v : Value} (hx : evo e x = some v := by rfl) :
    Qt P B n e L ⟨some d, .assign x, ty, pos, af, gd⟩ (v) :=
  fun a w ha hs => by simp [execOp, ha.eval hx]
theorem WL.assign {v : Value} (h : WL P B n ops l Q ((d, v) :: e) L) (hx : evo e x = some v := by rfl) (hd : Nat.ble (d + 1) n = true := by rfl) :
    WL P B n ops (⟨some d, .assign x, ty, pos, af, none⟩ :: l) Q e L :=
  WL.pure h hd (Qt.assign (hx := hx))
theorem Qt.pickT {v c : Value} (hc : evo e x = some c := by rfl) (hb : c = .bool true := by rfl) (hx : evo e y = some v := by rfl) :
    Qt P B n e L ⟨some d, .pick x y z, ty, pos, af, gd⟩ (v) :=
  fun a w ha hs => by subst hb; simp [execOp, ha.eval hx, ha.eval hc, asBool]
theorem WL.pickT {v c : Value} (h : WL P B n ops l Q ((d, v) :: e) L) (hc : evo e x = some c := by rfl) (hb : c = .bool true := by rfl) (hx : evo e y = some v := by rfl) (hd : Nat.ble (d + 1) n = true := by rfl) :
    WL P B n ops (⟨some d, .pick x y z, ty, pos, af, none⟩ :: l) Q e L :=
  WL.pure h hd (Qt.pickT (hc := hc) (hb := hb) (hx := hx))
theorem Qt.pickF {v c : Value} (hc : evo e x = some c := by rfl) (hb : c = .bool false := by rfl) (hx : evo e z = some v := by rfl) :
    Qt P B n e L ⟨some d, .pick x y z, ty, pos, af, gd⟩ (v) :=
  fun a w ha hs => by subst hb; simp [execOp, ha.eval hx, ha.eval hc, asBool]
theorem WL.pickF {v c : Value} (h : WL P B n ops l Q ((d, v) :: e) L) (hc : evo e x = some c := by rfl) (hb : c = .bool false := by rfl) (hx : evo e z = some v := by rfl) (hd : Nat.ble (d + 1) n = true := by rfl) :
    WL P B n ops (⟨some d, .pick x y z, ty, pos, af, none⟩ :: l) Q e L :=
  WL.pure h hd (Qt.pickF (hc := hc) (hb := hb) (hx := hx))
theorem Qt.extract {vs : Array Value} {i : Nat} {v : Value} (hx : evo e x = some (.tuple vs) := by rfl) (hi : vs[i]? = some v := by rfl) :
    Qt P B n e L ⟨some d, .extract x i, ty, pos, af, gd⟩ (v) :=
  fun a w ha hs => by simp [execOp, ha.eval hx, Instr.extract, hi]
theorem WL.extract {vs : Array Value} {i : Nat} {v : Value} (h : WL P B n ops l Q ((d, v) :: e) L) (hx : evo e x = some (.tuple vs) := by rfl) (hi : vs[i]? = some v := by rfl) (hd : Nat.ble (d + 1) n = true := by rfl) :
    WL P B n ops (⟨some d, .extract x i, ty, pos, af, none⟩ :: l) Q e L :=
  WL.pure h hd (Qt.extract (hx := hx) (hi := hi))
theorem Qt.nilCheck {p : Addr} (hx : evo e x = some (.pointer (some p)) := by rfl) :
    Qt P B n e L ⟨some d, .nilCheck x, ty, pos, af, gd⟩ (.pointer (some p)) :=
  fun a w ha hs => by simp [execOp, ha.eval hx]
theorem WL.nilCheck {p : Addr} (h : WL P B n ops l Q ((d, .pointer (some p)) :: e) L) (hx : evo e x = some (.pointer (some p)) := by rfl) (hd : Nat.ble (d + 1) n = true := by rfl) :
    WL P B n ops (⟨some d, .nilCheck x, ty, pos, af, none⟩ :: l) Q e L :=
  WL.pure h hd (Qt.nilCheck (hx := hx))
theorem Qt.not {b : Bool} (hx : evo e x = some (.bool b) := by rfl) {t : TypeId} :
    Qt P B n e L ⟨some d, .unOp .not t x, ty, pos, af, gd⟩ (.bool (!b)) :=
  fun a w ha hs => by simp [execOp, ha.eval hx, Op.unary]
theorem WL.not {b : Bool} (h : WL P B n ops l Q ((d, .bool (!b)) :: e) L) (hx : evo e x = some (.bool b) := by rfl) (hd : Nat.ble (d + 1) n = true := by rfl) {t : TypeId} :
    WL P B n ops (⟨some d, .unOp .not t x, ty, pos, af, none⟩ :: l) Q e L :=
  WL.pure h hd (Qt.not (hx := hx))
theorem Qt.makeFunc {fn : Fn} {cs : Array Operand} {vs : Array Value}
    (hx : cs.toList.mapM (evo e) = some vs.toList := by rfl) :
    Qt P B n e L ⟨some d, .makeFunc fn #[] cs, ty, pos, af, gd⟩ (.func fn #[] vs) :=
  fun a w ha hs => by
    have key : ∀ (cs : List Operand) (vs : List Value), cs.mapM (evo e) = some vs → cs.map a.eval = vs := by
      intro cs
      induction cs with
      | nil => intro vs h; simp at h; subst h; rfl
      | cons c cs ih =>
        intro vs h
        simp only [List.mapM_cons, Option.bind_eq_bind, Option.bind_eq_some_iff] at h
        obtain ⟨v, hv, vs', hvs, h⟩ := h
        cases h
        simp [ha.eval hv, ih _ hvs]
    have hk := key _ _ hx
    have : cs.map a.eval = vs := by
      apply Array.toList_inj.1
      rw [Array.toList_map]
      exact hk
    simp [execOp, Instr.makeFunc, this]

theorem WL.makeFunc {fn : Fn} {cs : Array Operand} {vs : Array Value} (h : WL P B n ops l Q ((d, .func fn #[] vs) :: e) L)
    (hx : cs.toList.mapM (evo e) = some vs.toList := by rfl) (hd : Nat.ble (d + 1) n = true := by rfl) :
    WL P B n ops (⟨some d, .makeFunc fn #[] cs, ty, pos, af, none⟩ :: l) Q e L :=
  WL.pure h hd (Qt.makeFunc (hx := hx))
/-! ### guards -/
theorem WL.gT {o : Op} {dd : Option Nat} {j t : Nat} {b : Bool} {v : Value} (h : WL P B n ops (⟨dd, o, ty, pos, af, none⟩ :: l) Q e L)
    (hs : (ops[j]?).bind (·.dst) = some t := by rfl) (hl : look e t = some v := by rfl) (hv : v = .bool b := by rfl) (ht : Nat.ble (t + 1) n = true := by rfl) :
    WL P B n ops (⟨dd, o, ty, pos, af, some (j, b)⟩ :: l) Q e L := by
  intro a w ha hsat
  have h1 := h a w ha hsat
  have hy : yielded ops a.tmps j = some b := by
    have hg := ha.get t v hl
    subst hv
    have htn : t < a.tmps.size := by rw [ha.size]; exact Nat.le_of_ble_eq_true ht
    have : a.tmps[t]? = some (.bool b) := by
      rw [Array.getD_eq_getD_getElem?] at hg
      cases hq : a.tmps[t]? with
      | none => rw [Array.getElem?_eq_none_iff] at hq; omega
      | some u => rw [hq] at hg; simpa using hg
    simp [yielded, hs, this]
  unfold wpList at h1 ⊢
  simp only [Region.wanted, hy, beq_self_eq_true, if_true] at h1 ⊢
  exact h1
theorem WL.gF {o : Op} {d j t : Nat} {b : Bool} {v : Value} (h : WL P B n ops l Q ((d, undef) :: e) L)
    (hs : (ops[j]?).bind (·.dst) = some t := by rfl) (hl : look e t = some v := by rfl) (hv : v = .bool (!b) := by rfl) (ht : Nat.ble (t + 1) n = true := by rfl) (hd : Nat.ble (d + 1) n = true := by rfl) :
    WL P B n ops (⟨some d, o, ty, pos, af, some (j, b)⟩ :: l) Q e L := by
  intro a w ha hsat
  have h1 := h _ w (ha.put hd undef) hsat
  have hy : yielded ops a.tmps j = some (!b) := by
    have hg := ha.get t v hl
    subst hv
    have htn : t < a.tmps.size := by rw [ha.size]; exact Nat.le_of_ble_eq_true ht
    have : a.tmps[t]? = some (.bool (!b)) := by
      rw [Array.getD_eq_getD_getElem?] at hg
      cases hq : a.tmps[t]? with
      | none => rw [Array.getElem?_eq_none_iff] at hq; omega
      | some u => rw [hq] at hg; simpa using hg
    simp [yielded, hs, this]
  unfold wpList
  have : Region.wanted (⟨some d, o, ty, pos, af, some (j, b)⟩ : Oper) (yielded ops a.tmps) = false := by
    simp [Region.wanted, hy]
  rw [this]
  exact h1
theorem WL.split {t : Nat} {b : Bool} (hl : look e t = some (.bool b)) (h1 : b = true → WL P B n ops l Q ((t, .bool true) :: e) L) (h2 : b = false → WL P B n ops l Q ((t, .bool false) :: e) L) : WL P B n ops l Q e L := by
  cases b
  · intro a w ha hs
    refine h2 rfl a w (ha.weak ?_) hs
    exact Env.le_cons hl fun _ _ h => h
  · intro a w ha hs
    refine h1 rfl a w (ha.weak ?_) hs
    exact Env.le_cons hl fun _ _ h => h

/-! ### numbers -/
theorem Qt.lss {k : IntKind} {p q : Int} {t u : TypeId} (hx : evo e x = some (.int k p) := by rfl) (hy : evo e y = some (.int k q) := by rfl) :
    Qt P B n e L ⟨some d, .binOp .lss t x y u, ty, pos, af, gd⟩ (.bool (decide (p < q))) :=
  fun a w ha hs => by simp [execOp, ha.eval hx, ha.eval hy, eqGuard, binOp, Op.intCmp]
theorem WL.lss {k : IntKind} {p q : Int} {t u : TypeId} (h : WL P B n ops l Q ((d, .bool (decide (p < q))) :: e) L) (hx : evo e x = some (.int k p) := by rfl) (hy : evo e y = some (.int k q) := by rfl) (hd : Nat.ble (d + 1) n = true := by rfl) :
    WL P B n ops (⟨some d, .binOp .lss t x y u, ty, pos, af, none⟩ :: l) Q e L :=
  WL.pure h hd (Qt.lss (hx := hx) (hy := hy))
theorem Qt.leq {k : IntKind} {p q : Int} {t u : TypeId} (hx : evo e x = some (.int k p) := by rfl) (hy : evo e y = some (.int k q) := by rfl) :
    Qt P B n e L ⟨some d, .binOp .leq t x y u, ty, pos, af, gd⟩ (.bool (decide (p ≤ q))) :=
  fun a w ha hs => by simp [execOp, ha.eval hx, ha.eval hy, eqGuard, binOp, Op.intCmp]
theorem WL.leq {k : IntKind} {p q : Int} {t u : TypeId} (h : WL P B n ops l Q ((d, .bool (decide (p ≤ q))) :: e) L) (hx : evo e x = some (.int k p) := by rfl) (hy : evo e y = some (.int k q) := by rfl) (hd : Nat.ble (d + 1) n = true := by rfl) :
    WL P B n ops (⟨some d, .binOp .leq t x y u, ty, pos, af, none⟩ :: l) Q e L :=
  WL.pure h hd (Qt.leq (hx := hx) (hy := hy))
theorem Qt.gtr {k : IntKind} {p q : Int} {t u : TypeId} (hx : evo e x = some (.int k p) := by rfl) (hy : evo e y = some (.int k q) := by rfl) :
    Qt P B n e L ⟨some d, .binOp .gtr t x y u, ty, pos, af, gd⟩ (.bool (decide (q < p))) :=
  fun a w ha hs => by simp [execOp, ha.eval hx, ha.eval hy, eqGuard, binOp, Op.intCmp]
theorem WL.gtr {k : IntKind} {p q : Int} {t u : TypeId} (h : WL P B n ops l Q ((d, .bool (decide (q < p))) :: e) L) (hx : evo e x = some (.int k p) := by rfl) (hy : evo e y = some (.int k q) := by rfl) (hd : Nat.ble (d + 1) n = true := by rfl) :
    WL P B n ops (⟨some d, .binOp .gtr t x y u, ty, pos, af, none⟩ :: l) Q e L :=
  WL.pure h hd (Qt.gtr (hx := hx) (hy := hy))
theorem Qt.geq {k : IntKind} {p q : Int} {t u : TypeId} (hx : evo e x = some (.int k p) := by rfl) (hy : evo e y = some (.int k q) := by rfl) :
    Qt P B n e L ⟨some d, .binOp .geq t x y u, ty, pos, af, gd⟩ (.bool (decide (q ≤ p))) :=
  fun a w ha hs => by simp [execOp, ha.eval hx, ha.eval hy, eqGuard, binOp, Op.intCmp]
theorem WL.geq {k : IntKind} {p q : Int} {t u : TypeId} (h : WL P B n ops l Q ((d, .bool (decide (q ≤ p))) :: e) L) (hx : evo e x = some (.int k p) := by rfl) (hy : evo e y = some (.int k q) := by rfl) (hd : Nat.ble (d + 1) n = true := by rfl) :
    WL P B n ops (⟨some d, .binOp .geq t x y u, ty, pos, af, none⟩ :: l) Q e L :=
  WL.pure h hd (Qt.geq (hx := hx) (hy := hy))
theorem Qt.eqi {k : IntKind} {p q : Int} {t u : TypeId} (hx : evo e x = some (.int k p) := by rfl) (hy : evo e y = some (.int k q) := by rfl) :
    Qt P B n e L ⟨some d, .binOp .eql t x y u, ty, pos, af, gd⟩ (.bool (decide (p = q))) :=
  fun a w ha hs => by
    have : (p == q) = decide (p = q) := by by_cases h : p = q <;> simp [h]
    simp [execOp, ha.eval hx, ha.eval hy, eqGuard, binOp, Op.intCmp, this]
theorem WL.eqi {k : IntKind} {p q : Int} {t u : TypeId} (h : WL P B n ops l Q ((d, .bool (decide (p = q))) :: e) L) (hx : evo e x = some (.int k p) := by rfl) (hy : evo e y = some (.int k q) := by rfl) (hd : Nat.ble (d + 1) n = true := by rfl) :
    WL P B n ops (⟨some d, .binOp .eql t x y u, ty, pos, af, none⟩ :: l) Q e L :=
  WL.pure h hd (Qt.eqi (hx := hx) (hy := hy))
theorem Qt.nei {k : IntKind} {p q : Int} {t u : TypeId} (hx : evo e x = some (.int k p) := by rfl) (hy : evo e y = some (.int k q) := by rfl) :
    Qt P B n e L ⟨some d, .binOp .neq t x y u, ty, pos, af, gd⟩ (.bool (!decide (p = q))) :=
  fun a w ha hs => by
    have : (p != q) = !decide (p = q) := by by_cases h : p = q <;> simp [h]
    simp [execOp, ha.eval hx, ha.eval hy, eqGuard, binOp, Op.intCmp, this]

theorem WL.nei {k : IntKind} {p q : Int} {t u : TypeId} (h : WL P B n ops l Q ((d, .bool (!decide (p = q))) :: e) L) (hx : evo e x = some (.int k p) := by rfl) (hy : evo e y = some (.int k q) := by rfl) (hd : Nat.ble (d + 1) n = true := by rfl) :
    WL P B n ops (⟨some d, .binOp .neq t x y u, ty, pos, af, none⟩ :: l) Q e L :=
  WL.pure h hd (Qt.nei (hx := hx) (hy := hy))
/-! ### the tables -/
def fieldOk (P : Program) (s f fo : Nat) : Bool :=
  match P.underlying s with
  | some (.struct fs) => (match fs[f]? with
    | some fld => Nat.beq fld.offset fo && (match P.info? fld.type with
      | some i => !Nat.beq i.size 0
      | none => false)
    | none => false)
  | _ => false
def scalarOk (P : Program) (t : Nat) : Bool :=
  match P.underlying t with
  | some (.struct _) => false
  | some (.array _ _) => false
  | some _ => (match P.info? t with
    | some i => Nat.beq i.size 1
    | none => false)
  | none => false
def aggOk (P : Program) (t k : Nat) : Bool :=
  match P.underlying t with
  | some (.struct _) => (match P.info? t with
    | some i => Nat.beq i.size k
    | none => false)
  | some (.array _ _) => (match P.info? t with
    | some i => Nat.beq i.size k
    | none => false)
  | _ => false
def zeroOf (P : Program) (t : Nat) : Option (Array Value) := ((P.info? t).bind (·.zero)).map (·.cells)

theorem add_plain' (b o k : Nat) : (⟨b, o, none⟩ : Addr).add k = ⟨b, o + k, none⟩ := by
  unfold Addr.add
  split
  · rename_i h
    subst h
    rfl
  · rfl
theorem run_fieldAt {s f fo : Nat} (h : fieldOk P s f fo = true) (b off : Nat) (w : World) :
    (Instr.fieldAt s (.pointer (some ⟨b, off, none⟩)) f).run P w = .ok (.pointer (some ⟨b, off + fo, none⟩)) w := by
  unfold fieldOk at h
  split at h
  · rename_i fs hu
    split at h
    · rename_i fld hf
      simp only [Bool.and_eq_true] at h
      obtain ⟨h1, h2⟩ := h
      have h1 := Nat.eq_of_beq_eq_true h1
      split at h2
      · rename_i i hi
        have hz : i.size ≠ 0 := by
          intro hz
          rw [hz] at h2
          simp at h2
        simp [Instr.fieldAt, run_underlying hu, hf, Instr.sureAddr, fieldPlace, sizeOf, typeInfo, hi, hz, add_plain', h1]
      · cases h2
    · cases h
  · cases h
theorem run_isAgg_scalar {t : Nat} (h : scalarOk P t = true) (w : World) : (isAgg t).run P w = .ok false w := by
  unfold scalarOk at h
  split at h
  · cases h
  · cases h
  · rename_i d h1 h2 h3
    simp only [isAgg, Sem.run_bind, run_underlying h3, Result.andThen_ok]
    cases d <;> first | rfl | exact absurd rfl (h1 _) | exact absurd rfl (h2 _ _)
  · cases h
theorem size_scalar {t : Nat} (h : scalarOk P t = true) (w : World) : (sizeOf t).run P w = .ok 1 w := by
  unfold scalarOk at h
  split at h
  · cases h
  · cases h
  · split at h
    · rename_i i hi
      have := Nat.eq_of_beq_eq_true h
      simp [sizeOf, typeInfo, hi, this]
    · cases h
  · cases h
theorem run_isAgg_agg {t k : Nat} (h : aggOk P t k = true) (w : World) : (isAgg t).run P w = .ok true w := by
  unfold aggOk at h
  split at h
  · rename_i hu; simp [isAgg, run_underlying hu]
  · rename_i hu; simp [isAgg, run_underlying hu]
  · cases h
theorem size_agg {t k : Nat} (h : aggOk P t k = true) (w : World) : (sizeOf t).run P w = .ok k w := by
  unfold aggOk at h
  split at h
  · split at h
    · rename_i i hi
      have := Nat.eq_of_beq_eq_true h
      simp [sizeOf, typeInfo, hi, this]
    · cases h
  · split at h
    · rename_i i hi
      have := Nat.eq_of_beq_eq_true h
      simp [sizeOf, typeInfo, hi, this]
    · cases h
  · cases h
theorem run_zero {t : Nat} {cs : Array Value} (h : zeroOf P t = some cs) (w : World) : ∃ z, (zeroValue t).run P w = .ok z w ∧ z.cells = cs := by
  unfold zeroOf at h
  simp only [Option.map_eq_some_iff, Option.bind_eq_some_iff] at h
  obtain ⟨z, ⟨i, hi, hz⟩, hc⟩ := h
  exact ⟨z, by simp [zeroValue, typeInfo, hi, hz], hc⟩

/-! ### memory -/
def nthv : List Value → Nat → Option Value
  | [], _ => none
  | v :: _, 0 => some v
  | _ :: l, n + 1 => nthv l n
theorem nthv_eq : ∀ (l : List Value) (n : Nat), nthv l n = l[n]?
  | [], n => by simp [nthv]
  | v :: l, 0 => rfl
  | v :: l, n + 1 => by rw [nthv, nthv_eq l n]; rfl
theorem nthv_arr {cs : Array Value} {n : Nat} {v : Value} (h : nthv cs.toList n = some v) : cs[n]? = some v := by
  rw [nthv_eq] at h; simpa using h
theorem cell_of {w : World} {b off : Nat} {cs : Array Value} {t : TypeId} {fr : Nat × Nat} (h : w.heap[b]? = some (.cells cs t fr)) : w.cell? ⟨b, off, none⟩ = cs[off]? := by
  simp [World.cell?, h]
theorem run_load {t b off : Nat} {w : World} {v : Value} (hs : scalarOk P t = true) (h : w.cell? ⟨b, off, none⟩ = some v) : (Instr.loadAt t (.pointer (some ⟨b, off, none⟩))).run P w = .ok v w := by
  simp [Instr.loadAt, Instr.sureAddr, loadVar, run_isAgg_scalar hs, load, Sem.run, h]
theorem Qt.fa {s f fo b off : Nat} (hf : fieldOk P s f fo = true) (hx : evo e x = some (.pointer (some ⟨b, off, none⟩)) := by rfl) :
    Qt P B n e L ⟨some d, .fieldAddr s x f, ty, pos, af, gd⟩ (.pointer (some ⟨b, off + fo, none⟩)) :=
  fun a w ha hs => by simp [execOp, ha.eval hx, run_fieldAt hf]
theorem WL.fa {s f fo b off : Nat} (h : WL P B n ops l Q ((d, .pointer (some ⟨b, off + fo, none⟩)) :: e) L) (hf : fieldOk P s f fo = true) (hx : evo e x = some (.pointer (some ⟨b, off, none⟩)) := by rfl) (hd : Nat.ble (d + 1) n = true := by rfl) :
    WL P B n ops (⟨some d, .fieldAddr s x f, ty, pos, af, none⟩ :: l) Q e L :=
  WL.pure h hd (Qt.fa (hf := hf) (hx := hx))
theorem Qt.ld {t b off : Nat} {cs : Array Value} {t0 : TypeId} {fr : Nat × Nat} {v : Value} (hsc : scalarOk P t = true)
    (hx : evo e x = some (.pointer (some ⟨b, off, none⟩)) := by rfl) (hm : Mem L (pt b (.cells cs t0 fr)) := by repeat (first | exact .here | refine .there ?_)) (hc : nthv cs.toList off = some v := by rfl) :
    Qt P B n e L ⟨some d, .load t x, ty, pos, af, gd⟩ (v) :=
  fun a w ha hs => by
    have := hs.get hm
    simp [execOp, ha.eval hx, run_load hsc ((cell_of this).trans (nthv_arr hc))]
theorem WL.ld {t b off : Nat} {cs : Array Value} {t0 : TypeId} {fr : Nat × Nat} {v : Value} (h : WL P B n ops l Q ((d, v) :: e) L) (hsc : scalarOk P t = true)
    (hx : evo e x = some (.pointer (some ⟨b, off, none⟩)) := by rfl) (hm : Mem L (pt b (.cells cs t0 fr)) := by repeat (first | exact .here | refine .there ?_)) (hc : nthv cs.toList off = some v := by rfl) (hd : Nat.ble (d + 1) n = true := by rfl) :
    WL P B n ops (⟨some d, .load t x, ty, pos, af, none⟩ :: l) Q e L :=
  WL.pure h hd (Qt.ld (hsc := hsc) (hx := hx) (hm := hm) (hc := hc))
def ptrOk (P : Program) (t : Nat) : Bool :=
  match P.underlying t with
  | some (.pointer _) => true
  | _ => false
theorem ptr_of {t : Nat} (h : ptrOk P t = true) : P.underlying t = some (.pointer (P.pointee t)) := by
  unfold ptrOk at h
  split at h
  · rename_i el hu; simp [Program.pointee, hu]
  · cases h
theorem run_eqGuard_ptr {op : BinOp} {t : TypeId} {x y : Operand} {p q : Option Addr} (w : World) : (eqGuard op t x y (.pointer p) (.pointer q)).run P w = .ok () w := by
  cases op <;> simp [eqGuard]
theorem Qt.eqNil {p : Option Addr} {t u : TypeId} (ht : ptrOk P t = true) (hx : evo e x = some (.pointer p) := by rfl) (hy : evo e y = some (.pointer none) := by rfl) :
    Qt P B n e L ⟨some d, .binOp .eql t x y u, ty, pos, af, gd⟩ (.bool p.isNone) :=
  fun a w ha hs => by simp [execOp, ha.eval hx, ha.eval hy, run_eqGuard_ptr, run_eql_pointer_nil w t p (ptr_of ht)]
theorem WL.eqNil {p : Option Addr} {t u : TypeId} (h : WL P B n ops l Q ((d, .bool p.isNone) :: e) L) (ht : ptrOk P t = true) (hx : evo e x = some (.pointer p) := by rfl) (hy : evo e y = some (.pointer none) := by rfl) (hd : Nat.ble (d + 1) n = true := by rfl) :
    WL P B n ops (⟨some d, .binOp .eql t x y u, ty, pos, af, none⟩ :: l) Q e L :=
  WL.pure h hd (Qt.eqNil (ht := ht) (hx := hx) (hy := hy))
theorem Qt.neNil {p : Option Addr} {t u : TypeId} (ht : ptrOk P t = true) (hx : evo e x = some (.pointer p) := by rfl) (hy : evo e y = some (.pointer none) := by rfl) :
    Qt P B n e L ⟨some d, .binOp .neq t x y u, ty, pos, af, gd⟩ (.bool p.isSome) :=
  fun a w ha hs => by simp [execOp, ha.eval hx, ha.eval hy, run_eqGuard_ptr, run_neq_pointer_nil w t p (ptr_of ht)]

theorem WL.neNil {p : Option Addr} {t u : TypeId} (h : WL P B n ops l Q ((d, .bool p.isSome) :: e) L) (ht : ptrOk P t = true) (hx : evo e x = some (.pointer p) := by rfl) (hy : evo e y = some (.pointer none) := by rfl) (hd : Nat.ble (d + 1) n = true := by rfl) :
    WL P B n ops (⟨some d, .binOp .neq t x y u, ty, pos, af, none⟩ :: l) Q e L :=
  WL.pure h hd (Qt.neNil (ht := ht) (hx := hx) (hy := hy))
/-! ### calls -/
def evos (e : Env) : List Operand → Option (List Value)
  | [] => some []
  | x :: xs => match evo e x, evos e xs with
    | some v, some vs => some (v :: vs)
    | _, _ => none
theorem evos_eval {a : Act} (ha : Ag n e a) : ∀ {xs : List Operand} {vs : List Value}, evos e xs = some vs → xs.map a.eval = vs
  | [], vs, h => by simp [evos] at h; subst h; rfl
  | x :: xs, vs, h => by
    unfold evos at h
    split at h
    · rename_i v vs' hv hvs
      cases h
      simp [ha.eval hv, evos_eval ha hvs]
    · cases h
theorem WL.callAt {f : FuncId} {fv : Operand} {cap : Array Value} {xs : List Operand} {tys : Array TypeId} {vs : List Value} {pre Lr : List HP} {R : List HP → Value → List HP → Prop} {dd : Option Nat}
    (hf : evo e fv = some (.func (.func f) #[] cap)) (hx : evos e xs = some vs)
    (hc : ∀ args w, (callFunc f args).run P w = .ok (.enter f args) w) (sp : Spec P f (vs.toArray ++ cap) pre R) (tk : Tk L pre Lr)
    (h : ∀ v M, R Lr v M → ∀ a w, Ag n e a → Sat B w M → wpList P ops Q l (a.put dd v) w) :
    WL P B n ops (⟨dd, .call ⟨.value fv, xs.toArray, tys⟩, ty, pos, af, none⟩ :: l) Q e L := by
  intro a w ha hs
  refine wpList_plain rfl fun K hK => ?_
  have hargs : xs.map a.eval = vs := evos_eval ha hx
  have hrun : (execOp a.eval ⟨dd, .call ⟨.value fv, xs.toArray, tys⟩, ty, pos, af, none⟩).run P w = .ok (.enter f (vs.toArray ++ cap)) w := by
    simp [execOp, resolve, Deferred.ofValue, ha.eval hf, invoke, hargs, hc]
  unfold Oper.wp
  rw [hrun]
  simp only [Oper.upon_enter]
  refine (sp B Lr w (hs.take tk)).mono ?_
  rintro _ w' ⟨v, M, rfl, hR, hsat⟩
  exact hK _ _ (h v M hR a w' ha hsat)
theorem WL.call {f : FuncId} {xs : List Operand} {tys : Array TypeId} {vs : List Value} {pre Lr : List HP} {R : List HP → Value → List HP → Prop}
    (hx : evos e xs = some vs := by rfl)
    (hc : ∀ args w, (callFunc f args).run P w = .ok (.enter f args) w) (sp : Spec P f vs.toArray pre R)
    (h : ∀ v M, R Lr v M → WL P B n ops l Q ((d, v) :: e) M)
    (tk : Tk L pre Lr := by repeat (first | exact .nil | (apply Tk.cons; focus ((repeat (first | exact .here | apply Rem.there)); done)))) (hd : Nat.ble (d + 1) n = true := by rfl) :
    WL P B n ops (⟨some d, .call ⟨.value (.func f), xs.toArray, tys⟩, ty, pos, af, none⟩ :: l) Q e L :=
  WL.callAt (cap := #[]) rfl hx hc (by simpa using sp) tk fun v M hR a w ha hs => h v M hR _ w (ha.put hd v) hs
theorem WL.callV {f : FuncId} {t : Nat} {cap : Array Value} {xs : List Operand} {tys : Array TypeId} {vs : List Value} {pre Lr : List HP} {R : List HP → Value → List HP → Prop}
    (hf : evo e (.tmp t) = some (.func (.func f) #[] cap) := by rfl) (hx : evos e xs = some vs := by rfl)
    (hc : ∀ args w, (callFunc f args).run P w = .ok (.enter f args) w) (sp : Spec P f (vs.toArray ++ cap) pre R)
    (h : ∀ v M, R Lr v M → WL P B n ops l Q ((d, v) :: e) M)
    (tk : Tk L pre Lr := by repeat (first | exact .nil | (apply Tk.cons; focus ((repeat (first | exact .here | apply Rem.there)); done)))) (hd : Nat.ble (d + 1) n = true := by rfl) :
    WL P B n ops (⟨some d, .call ⟨.value (.tmp t), xs.toArray, tys⟩, ty, pos, af, none⟩ :: l) Q e L :=
  WL.callAt hf hx hc sp tk fun v M hR a w ha hs => h v M hR _ w (ha.put hd v) hs

/-! ### a function's begin and end -/
def env0 (k : Nat) : List Value → Env
  | [] => []
  | v :: vs => (k, v) :: env0 (k + 1) vs
theorem env0_look (as : List Value) (k t : Nat) (v : Value) (h : look (env0 k as) t = some v) : k ≤ t ∧ as[t - k]? = some v := by
  induction as generalizing k with
  | nil => cases h
  | cons a as ih =>
    rw [env0, look_cons] at h
    split at h
    · rename_i hk
      subst hk
      simpa using h
    · rename_i hk
      have := ih (k + 1) h
      refine ⟨by omega, ?_⟩
      rw [show t - k = t - (k + 1) + 1 from by omega]
      simpa using this.2
theorem Spec.intro {f : FuncId} {fn : Func} {c : Code} {as : List Value} {pre : List HP} {R : List HP → Value → List HP → Prop}
    (hf : P.funcs[f]? = some fn) (hb : fn.body = some c) (hn : Nat.ble as.length fn.ntmps = true)
    (h : ∀ B F, WC P B fn.ntmps c (bodyPost P fn (Post B F R)) (env0 0 as) (pre ++ F)) : Spec P f as.toArray pre R := by
  intro B F w hs
  refine calls_of_wp hf hb ?_
  refine h B F _ w ⟨rfl, ?_, ?_⟩ hs
  · have := Nat.le_of_ble_eq_true hn
    simp; omega
  · intro t v hv
    have := env0_look as 0 t v hv
    simp only [Nat.sub_zero] at this
    have ht : t < as.length := (List.getElem?_eq_some_iff.1 this.2).1
    rw [Array.getD_eq_getD_getElem?, Array.getElem?_append_left (by simpa using ht)]
    simp [this.2]
inductive RV (P : Program) (e : Env) (L : List HP) : ResultVar → Value → Prop
  | tmp {t v} : look e t = some v → RV P e L (.tmp t) v
  | cell {a t b off cs t0 fr v} : look e a = some (.pointer (some ⟨b, off, none⟩)) → scalarOk P t = true → Mem L (pt b (.cells cs t0 fr)) → nthv cs.toList off = some v → RV P e L (.cell a t) v
  | agg {a t b cs t0 fr k} : look e a = some (.pointer (some ⟨b, 0, none⟩)) → aggOk P t k = true → Mem L (pt b (.cells cs t0 fr)) → cs.size = k → RV P e L (.cell a t) (.agg cs)
theorem loadCellsFrom_whole {w : World} {b : Nat} {cs : Array Value} {t : TypeId} {fr : Nat × Nat} (h : w.heap[b]? = some (.cells cs t fr)) (off : Nat) :
    ∀ (k i : Nat) (acc : Array Value), off + i + k ≤ cs.size → (loadCellsFrom ⟨b, off, none⟩ i k acc).run P w = .ok (acc ++ cs.extract (off + i) (off + i + k)) w := by
  intro k
  induction k with
  | zero => intro i acc _; simp [loadCellsFrom]; omega
  | succ k ih =>
    intro i acc hle
    have hlt : off + i < cs.size := by omega
    have hc : w.cell? ⟨b, off + i, none⟩ = some cs[off + i] := by rw [cell_of h]; simp [hlt]
    unfold loadCellsFrom
    simp only [add_plain', load, Sem.run_bind, Sem.run, hc, Result.andThen_ok]
    rw [ih (i + 1) _ (by omega)]
    congr 1
    have : cs.extract (off + i) (off + i + (k + 1)) = #[cs[off + i]] ++ cs.extract (off + (i + 1)) (off + (i + 1) + k) := by
      apply Array.ext
      · simp; omega
      · intro j h1 h2
        simp only [Array.size_extract] at h1
        rcases Nat.eq_zero_or_pos j with rfl | hj
        · simp
        · rw [Array.getElem_append_right (by simp; omega)]
          simp
          congr 1
          omega
    rw [this, ← Array.append_assoc]
    simp
theorem run_loadAgg {t k b off : Nat} {w : World} {cs : Array Value} {t0 : TypeId} {fr : Nat × Nat} (ha : aggOk P t k = true) (h : w.heap[b]? = some (.cells cs t0 fr)) (hk : off + k ≤ cs.size) :
    (loadVar t ⟨b, off, none⟩).run P w = .ok (.agg (cs.extract off (off + k))) w := by
  have := loadCellsFrom_whole (P := P) h off k 0 #[] (by omega)
  simp only [Nat.add_zero] at this
  simp [loadVar, run_isAgg_agg ha, size_agg ha, loadCells, this]
def resM (tmps : Array Value) : ResultVar → Sem Value
  | .tmp t => pure (tmps.getD t undef)
  | .cell a t => do loadVar t (← asAddr (tmps.getD a undef))
theorem results_eq (fn : Func) (tmps : Array Value) : results fn tmps = (do
    let vs ← fn.results.mapM (resM tmps)
    pure (if h : vs.size = 1 then vs[0] else .tuple vs)) := rfl
theorem RV.run {r : ResultVar} {v : Value} (h : RV P e L r v) {a : Act} {w : World} (ha : Ag n e a) (hs : Sat B w L) : (resM a.tmps r).run P w = .ok v w := by
  cases h with
  | tmp h => simp only [resM, ha.get _ _ h]; rfl
  | cell h1 h2 h3 h4 => simp only [resM, ha.get _ _ h1]; simp [asAddr, loadVar, run_isAgg_scalar h2, load, Sem.run, (cell_of (hs.get h3)).trans (nthv_arr h4)]
  | @agg a' t b cs t0 fr k h1 h2 h3 h4 =>
    have := run_loadAgg (P := P) h2 (hs.get h3) (off := 0) (by omega)
    simp only [resM, ha.get _ _ h1]
    simp [asAddr, this, ← h4]
theorem results0 {fn : Func} {a : Act} {w : World} (h : fn.results = #[]) : (results fn a.tmps).run P w = .ok (.tuple #[]) w := by
  simp [results, h]
theorem results1 {fn : Func} {a : Act} {w : World} {r : ResultVar} {v : Value} (h : fn.results = #[r]) (ha : Ag n e a) (hs : Sat B w L) (h1 : RV P e L r v) : (results fn a.tmps).run P w = .ok v w := by
  have k1 := h1.run ha hs
  simp [results_eq, h, k1]
theorem results2 {fn : Func} {a : Act} {w : World} {r s : ResultVar} {v u : Value} (h : fn.results = #[r, s]) (ha : Ag n e a) (hs : Sat B w L) (h1 : RV P e L r v) (h2 : RV P e L s u) :
    (results fn a.tmps).run P w = .ok (.tuple #[v, u]) w := by
  have k1 := h1.run ha hs
  have k2 := h2.run ha hs
  simp [results_eq, h, k1, k2]
theorem results3 {fn : Func} {a : Act} {w : World} {r s t : ResultVar} {v u y : Value} (h : fn.results = #[r, s, t]) (ha : Ag n e a) (hs : Sat B w L) (h1 : RV P e L r v) (h2 : RV P e L s u) (h3 : RV P e L t y) :
    (results fn a.tmps).run P w = .ok (.tuple #[v, u, y]) w := by
  have k1 := h1.run ha hs
  have k2 := h2.run ha hs
  have k3 := h3.run ha hs
  simp [results_eq, h, k1, k2, k3]
theorem Am.auto {L M : List HP} (h : Am L M := by repeat (first | exact .refl | exact .nil | (apply Am.take; focus ((repeat (first | exact .here | apply Rem.there)); done)) | refine .skip ?_)) : Am L M := h
theorem bodyPost_ret' {fn : Func} {F : List HP} {R : List HP → Value → List HP → Prop} {a : Act} {w : World} {v : Value} (hr : (results fn a.tmps).run P w = .ok v w) (hd : a.defers = []) {M : List HP} (hR : R F v M) (hs : Sat B w M) :
    bodyPost P fn (Post B F R) .ret a w := ⟨hd, v, hr, v, M, rfl, hR, hs⟩
variable {fn : Func} {F : List HP} {R : List HP → Value → List HP → Prop}
/-- The end of a body, at 'return' (x = .ret) or behind the last statement (x = .normal). -/
theorem WQ.ret0 {xt : Exit} (h : ∃ M, R F (.tuple #[]) M ∧ Am L M) (hx : (xt = .ret ∨ xt = .normal) := by first | exact .inl rfl | exact .inr rfl) (hres : fn.results = #[] := by rfl) : WQ B n (bodyPost P fn (Post B F R)) xt e L := by
  obtain ⟨M, hR, hk⟩ := h
  intro a w ha hs
  rcases hx with rfl | rfl <;> exact bodyPost_ret' (results0 hres) ha.defers hR (hk.wk B w hs)
theorem WQ.ret1 {xt : Exit} {r : ResultVar} {v : Value} (h : ∃ M, R F v M ∧ Am L M) (hres : fn.results = #[r] := by rfl) (h1 : RV P e L r v := by first | exact .tmp rfl | exact .cell rfl (by kernel_rfl) (by repeat (first | exact .here | refine .there ?_)) rfl | exact .agg rfl (by kernel_rfl) (by repeat (first | exact .here | refine .there ?_)) rfl)
    (hx : (xt = .ret ∨ xt = .normal) := by first | exact .inl rfl | exact .inr rfl) : WQ B n (bodyPost P fn (Post B F R)) xt e L := by
  obtain ⟨M, hR, hk⟩ := h
  intro a w ha hs
  rcases hx with rfl | rfl <;> exact bodyPost_ret' (results1 hres ha hs h1) ha.defers hR (hk.wk B w hs)
theorem WQ.ret2 {xt : Exit} {r s : ResultVar} {v u : Value} (h : ∃ M, R F (.tuple #[v, u]) M ∧ Am L M) (hres : fn.results = #[r, s] := by rfl) (h1 : RV P e L r v := by first | exact .tmp rfl | exact .cell rfl (by kernel_rfl) (by repeat (first | exact .here | refine .there ?_)) rfl | exact .agg rfl (by kernel_rfl) (by repeat (first | exact .here | refine .there ?_)) rfl)
    (h2 : RV P e L s u := by first | exact .tmp rfl | exact .cell rfl (by kernel_rfl) (by repeat (first | exact .here | refine .there ?_)) rfl | exact .agg rfl (by kernel_rfl) (by repeat (first | exact .here | refine .there ?_)) rfl)
    (hx : (xt = .ret ∨ xt = .normal) := by first | exact .inl rfl | exact .inr rfl) : WQ B n (bodyPost P fn (Post B F R)) xt e L := by
  obtain ⟨M, hR, hk⟩ := h
  intro a w ha hs
  rcases hx with rfl | rfl <;> exact bodyPost_ret' (results2 hres ha hs h1 h2) ha.defers hR (hk.wk B w hs)
theorem WQ.ret3 {xt : Exit} {r s t : ResultVar} {v u y : Value} (h : ∃ M, R F (.tuple #[v, u, y]) M ∧ Am L M) (hres : fn.results = #[r, s, t] := by rfl) (h1 : RV P e L r v := by first | exact .tmp rfl | exact .cell rfl (by kernel_rfl) (by repeat (first | exact .here | refine .there ?_)) rfl | exact .agg rfl (by kernel_rfl) (by repeat (first | exact .here | refine .there ?_)) rfl)
    (h2 : RV P e L s u := by first | exact .tmp rfl | exact .cell rfl (by kernel_rfl) (by repeat (first | exact .here | refine .there ?_)) rfl | exact .agg rfl (by kernel_rfl) (by repeat (first | exact .here | refine .there ?_)) rfl)
    (h3 : RV P e L t y := by first | exact .tmp rfl | exact .cell rfl (by kernel_rfl) (by repeat (first | exact .here | refine .there ?_)) rfl | exact .agg rfl (by kernel_rfl) (by repeat (first | exact .here | refine .there ?_)) rfl)
    (hx : (xt = .ret ∨ xt = .normal) := by first | exact .inl rfl | exact .inr rfl) : WQ B n (bodyPost P fn (Post B F R)) xt e L := by
  obtain ⟨M, hR, hk⟩ := h
  intro a w ha hs
  rcases hx with rfl | rfl <;> exact bodyPost_ret' (results3 hres ha hs h1 h2 h3) ha.defers hR (hk.wk B w hs)
/-- What is asked of a way out is what is asked of another: by sight. -/
theorem WQ.same {x' : Exit} {x : Exit} (h : WQ B n Q' x' e L) (hq : ∀ a w, Q' x' a w → Q x a w) : WQ B n Q x e L := fun a w ha hs => hq a w (h a w ha hs)
theorem WL.ren (h : WL P B n ops l Q e L) {M : List HP} (hk : Wk M L) : WL P B n ops l Q e M := fun a w ha hs => h a w ha (hk B w hs)
theorem WC.ren {c : Code} (h : WC P B n c Q e L) {M : List HP} (hk : Wk M L) : WC P B n c Q e M := fun a w ha hs => h a w ha (hk B w hs)
end
end Go.Proofs.YtedmihapieleaaaGreat
