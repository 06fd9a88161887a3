/- Contracts turned without a walk. Over any program. -/
import Derived.Test.YtedmihapieleaaaGreatSg
set_option linter.unusedVariables false
set_option linter.unusedSimpArgs false
set_option linter.unusedSectionVars false
namespace Go.Proofs.YtedmihapieleaaaGreat
open Go
theorem Am.trans_mid {I F : List HP} {A : HP} : Am (I ++ A :: F) (I ++ F) := by
  induction I with
  | nil => exact .skip .refl
  | cons x I ih => exact .take .here ih
theorem Am.toMid {I F : List HP} {A : HP} : Am (A :: (I ++ F)) (I ++ A :: F) := by
  induction I with
  | nil => exact .refl
  | cons x I ih => exact .take (.there .here) ih
section
variable {P : Program} {f : FuncId} {args : Array Value} {pre : List HP} {R R' : List HP → Value → List HP → Prop}
theorem Spec.opens {A : HP} {α : Type} {p : α → Prop} {Ls : α → List HP} (o : Opens A p Ls) (h : ∀ y, p y → Spec P f args (Ls y ++ pre) R) : Spec P f args (A :: pre) R := by
  intro B F w hs
  obtain ⟨y, hy, h1⟩ := Sat.opens (M := pre ++ F) hs o
  exact h y hy B F w (by rw [List.append_assoc]; exact h1)
theorem Spec.post (h : Spec P f args pre R) (hr : ∀ F v M, R F v M → ∃ M', R' F v M' ∧ Wk M M') : Spec P f args pre R' :=
  fun B F w hs => (h B F w hs).mono fun e w' ⟨v, M, he, hR, hM⟩ => by
    obtain ⟨M', h1, h2⟩ := hr F v M hR
    exact ⟨v, M', he, h1, h2 B w' hM⟩
theorem Wk.shutR {A : HP} {α : Type} {p : α → Prop} {Ls : α → List HP} {M : List HP} (o : Opens A p Ls) (x : α) (hp : p x) : Wk (Ls x ++ M) (A :: M) := fun _ _ h => Sat.shuts o hp h
/-- Behind the first assertion. -/
theorem Wk.second {A C : HP} {α : Type} {p : α → Prop} {Ls : α → HP} {M : List HP} (o : Opens A p fun x => [Ls x]) (x : α) (hp : p x) : Wk (C :: Ls x :: M) (C :: A :: M) := fun B w h =>
  Sat.front (.there .here) (Sat.shuts (M := C :: M) o hp (Sat.front (.there .here) h))
end
section
variable {P : Program} {B : Base} {n : Nat} {Q : Exit → Act → World → Prop} {e : Env} {L : List HP} {ops : Array Oper} {l : List Oper}
variable {d : Nat} {ty : TypeId} {pos : String} {af : Array Edge} {x y z : Operand} {gd : Option (Nat × Bool)}
theorem Qt.minI {p q : Int} {tys : Array TypeId} (hx : evo e x = some (.int .i64 p) := by rfl) (hy : evo e y = some (.int .i64 q) := by rfl) :
    Qt P B n e L ⟨some d, .call ⟨.builtin .min, #[x, y], tys⟩, ty, pos, af, gd⟩ (.int .i64 (if q < p then q else p)) :=
  fun a w ha hs => by
    simp [execOp, resolve, invoke, builtin, ha.eval hx, ha.eval hy, Builtin.min_, Builtin.min2]
theorem WL.minI {p q : Int} {tys : Array TypeId} (h : WL P B n ops l Q ((d, .int .i64 (if q < p then q else p)) :: e) L) (hx : evo e x = some (.int .i64 p) := by rfl) (hy : evo e y = some (.int .i64 q) := by rfl) (hd : Nat.ble (d + 1) n = true := by rfl) :
    WL P B n ops (⟨some d, .call ⟨.builtin .min, #[x, y], tys⟩, ty, pos, af, none⟩ :: l) Q e L := WL.pure h hd (Qt.minI (hx := hx) (hy := hy))
end
section
variable {P : Program} {B : Base} {n : Nat} {e : Env} {L : List HP} {fn : Func} {F : List HP} {R : List HP → Value → List HP → Prop}
theorem results4 {a : Act} {w : World} {r s t q : ResultVar} {v u y x : Value} (h : fn.results = #[r, s, t, q]) (ha : Ag n e a) (hs : Sat B w L) (h1 : RV P e L r v) (h2 : RV P e L s u) (h3 : RV P e L t y) (h4 : RV P e L q x) :
    (results fn a.tmps).run P w = .ok (.tuple #[v, u, y, x]) w := by
  have k1 := h1.run ha hs
  have k2 := h2.run ha hs
  have k3 := h3.run ha hs
  have k4 := h4.run ha hs
  simp [results_eq, h, k1, k2, k3, k4]
theorem WQ.ret4 {xt : Exit} {r s t q : ResultVar} {v u y x : Value} (h : ∃ M, R F (.tuple #[v, u, y, x]) M ∧ Am L M) (hres : fn.results = #[r, s, t, q] := by rfl) (h1 : RV P e L r v := by first | exact .tmp rfl | exact .cell rfl (by kernel_rfl) (by repeat (first | exact .here | refine .there ?_)) rfl | exact .agg rfl (by kernel_rfl) (by repeat (first | exact .here | refine .there ?_)) rfl) (h2 : RV P e L s u := by first | exact .tmp rfl | exact .cell rfl (by kernel_rfl) (by repeat (first | exact .here | refine .there ?_)) rfl | exact .agg rfl (by kernel_rfl) (by repeat (first | exact .here | refine .there ?_)) rfl) (h3 : RV P e L t y := by first | exact .tmp rfl | exact .cell rfl (by kernel_rfl) (by repeat (first | exact .here | refine .there ?_)) rfl | exact .agg rfl (by kernel_rfl) (by repeat (first | exact .here | refine .there ?_)) rfl) (h4 : RV P e L q x := by first | exact .tmp rfl | exact .cell rfl (by kernel_rfl) (by repeat (first | exact .here | refine .there ?_)) rfl | exact .agg rfl (by kernel_rfl) (by repeat (first | exact .here | refine .there ?_)) rfl)
    (hx : (xt = .ret ∨ xt = .normal) := by first | exact .inl rfl | exact .inr rfl) : WQ B n (bodyPost P fn (Post B F R)) xt e L := by
  obtain ⟨M, hR, hk⟩ := h
  intro a w ha hs
  rcases hx with rfl | rfl <;> exact bodyPost_ret' (results4 hres ha hs h1 h2 h3 h4) ha.defers hR (hk.wk B w hs)
end
section
variable {P : Program} {B : Base} {n : Nat} {Q : Exit → Act → World → Prop} {e : Env} {L : List HP} {ops : Array Oper} {l : List Oper}
variable {d : Nat} {ty : TypeId} {pos : String} {af : Array Edge} {x y z : Operand} {gd : Option (Nat × Bool)}
theorem Qt.neg {p : Int} {t : TypeId} (hx : evo e x = some (.int .i64 p) := by rfl) (hb : -9223372036854775808 ≤ -p ∧ -p ≤ 9223372036854775807 := by omega) :
    Qt P B n e L ⟨some d, .unOp .neg t x, ty, pos, af, gd⟩ (.int .i64 (-p)) :=
  fun a w ha hs => by simp [execOp, ha.eval hx, Op.unary, Op.intArith, IntWalk.i64_in _ hb]
theorem WL.neg {p : Int} {t : TypeId} (h : WL P B n ops l Q ((d, .int .i64 (-p)) :: e) L) (hx : evo e x = some (.int .i64 p) := by rfl) (hb : -9223372036854775808 ≤ -p ∧ -p ≤ 9223372036854775807 := by omega) (hd : Nat.ble (d + 1) n = true := by rfl) :
    WL P B n ops (⟨some d, .unOp .neg t x, ty, pos, af, none⟩ :: l) Q e L := WL.pure h hd (Qt.neg (hx := hx) (hb := hb))
def boolOk (P : Program) (t : Nat) : Bool :=
  match P.underlying t with
  | some .bool => true
  | _ => false
theorem bool_of {t : Nat} (h : boolOk P t = true) : P.underlying t = some .bool := by
  unfold boolOk at h
  split at h
  · assumption
  · cases h
theorem run_eqBool {t : Nat} (ht : boolOk P t = true) (a b : Bool) (w : World) : (Op.equal t (.bool a) (.bool b)).run P w = .ok (a == b) w := by
  have key : ∀ d, (Op.equalIn (d + 1) t (.bool a) (.bool b)).run P w = .ok (a == b) w := by
    intro d
    simp [Op.equalIn, run_underlying (bool_of ht)]
  exact key 9999
theorem Qt.neB {a b : Bool} {t u : TypeId} (ht : boolOk P t = true) (hx : evo e x = some (.bool a) := by rfl) (hy : evo e y = some (.bool b) := by rfl) :
    Qt P B n e L ⟨some d, .binOp .neq t x y u, ty, pos, af, gd⟩ (.bool (!(a == b))) :=
  fun aa w ha hs => by simp [execOp, ha.eval hx, ha.eval hy, eqGuard, binOp, run_eqBool ht]
theorem WL.neB {a b : Bool} {t u : TypeId} (h : WL P B n ops l Q ((d, .bool (!(a == b))) :: e) L) (ht : boolOk P t = true) (hx : evo e x = some (.bool a) := by rfl) (hy : evo e y = some (.bool b) := by rfl) (hd : Nat.ble (d + 1) n = true := by rfl) :
    WL P B n ops (⟨some d, .binOp .neq t x y u, ty, pos, af, none⟩ :: l) Q e L := WL.pure h hd (Qt.neB (ht := ht) (hx := hx) (hy := hy))
theorem Qt.eqB {a b : Bool} {t u : TypeId} (ht : boolOk P t = true) (hx : evo e x = some (.bool a) := by rfl) (hy : evo e y = some (.bool b) := by rfl) :
    Qt P B n e L ⟨some d, .binOp .eql t x y u, ty, pos, af, gd⟩ (.bool (a == b)) :=
  fun aa w ha hs => by simp [execOp, ha.eval hx, ha.eval hy, eqGuard, binOp, run_eqBool ht]
theorem WL.eqB {a b : Bool} {t u : TypeId} (h : WL P B n ops l Q ((d, .bool (a == b)) :: e) L) (ht : boolOk P t = true) (hx : evo e x = some (.bool a) := by rfl) (hy : evo e y = some (.bool b) := by rfl) (hd : Nat.ble (d + 1) n = true := by rfl) :
    WL P B n ops (⟨some d, .binOp .eql t x y u, ty, pos, af, none⟩ :: l) Q e L := WL.pure h hd (Qt.eqB (ht := ht) (hx := hx) (hy := hy))
end
/-! ### the old memory -/
/-- All of a world's memory, as what no one writes. -/
def whole (w : World) : HP := fun h => ∀ b o, w.heap[b]? = some o → h b = some (false, o)
theorem Sat.wholeOf (w : World) : Sat (Base.of w) w [whole w] :=
  ⟨rfl, rfl, rfl, [fun b => (w.heap[b]?).map fun o => (false, o)], fun b o h => by simp [h], (fun b x h => by
    simp only [Option.map_eq_some_iff] at h
    obtain ⟨o, h1, rfl⟩ := h
    exact h1), (fun k hk => by cases hk), trivial⟩
theorem Sat.old {B : Base} {w w' : World} {L : List HP} (h : Sat B w' L) (m : Mem L (whole w)) {b : Nat} (hb : b < w.heap.size) : w'.heap[b]? = w.heap[b]? := by
  obtain ⟨M, r⟩ := m.rem
  obtain ⟨_, _, _, hs, h⟩ := h.front r
  match hs, h with
  | h0 :: hs, ⟨hp, hle, _⟩ =>
    have h1 : w.heap[b]? = some w.heap[b] := Array.getElem?_eq_getElem hb
    rw [h1]
    exact hle b _ (hp b _ h1)
theorem Sat.belowOld {w w' : World} {L : List HP} (h : Sat (Base.of w) w' L) (m : Mem L (whole w)) : RowKit.Below w.heap.size w w' := by
  refine ⟨h.1, h.2.1, h.2.2.1, ?_, fun k hk => h.old m hk⟩
  rcases Nat.lt_or_ge w'.heap.size w.heap.size with hlt | hge
  · have := h.old m hlt
    rw [Array.getElem?_eq_none (Nat.le_refl _), Array.getElem?_eq_getElem hlt] at this
    cases this
  · exact hge
theorem Reads.whole {w : World} {b off e : Nat} {cs : Array Value} {fr : Nat × Nat} {xs : List Value} (h : w.heap[b]? = some (.cells cs e fr)) (hx : ∀ i, i < xs.length → cs[off + i]? = xs[i]?) : Reads (whole w) (some ⟨b, off, none⟩) xs :=
  ⟨rfl, fun k hk => ⟨false, cs, e, fr, hk b _ h, hx⟩⟩
end Go.Proofs.YtedmihapieleaaaGreat
