/- Steps: quotients of any sign, max, structs held against each other. Over any program. -/
import Derived.Test.YtedmihapieleaaaGreatSn
set_option linter.unusedVariables false
set_option linter.unusedSimpArgs false
namespace Go.Proofs.YtedmihapieleaaaGreat
open Go
section
variable {P : Program} {B : Base} {n : Nat} {Q Q' : Exit → Act → World → Prop} {e : Env} {L : List HP} {ops : Array Oper} {l : List Oper}
variable {d : Nat} {ty : TypeId} {pos : String} {af : Array Edge} {x y z : Operand} {gd : Option (Nat × Bool)}
theorem Qt.remT {p q : Int} {t u : TypeId} (hx : evo e x = some (.int .i64 p) := by rfl) (hy : evo e y = some (.int .i64 q) := by rfl) (hq : 1 ≤ q := by omega) :
    Qt P B n e L ⟨some d, .binOp .rem t x y u, ty, pos, af, gd⟩ (.int .i64 (p.tmod q)) :=
  Qt.bin (run_ints fun w => by
    have : q ≠ 0 := by omega
    simp [binOp_ints, Op.intDiv, this]) hx hy
theorem WL.remT {p q : Int} {t u : TypeId} (h : WL P B n ops l Q ((d, .int .i64 (p.tmod q)) :: e) L) (hx : evo e x = some (.int .i64 p) := by rfl) (hy : evo e y = some (.int .i64 q) := by rfl) (hq : 1 ≤ q := by omega) (hd : Nat.ble (d + 1) n = true := by rfl) :
    WL P B n ops (⟨some d, .binOp .rem t x y u, ty, pos, af, none⟩ :: l) Q e L :=
  WL.pure h hd (Qt.remT (hq := hq) (hx := hx) (hy := hy))
theorem tdiv_in {p q : Int} (hb : -9223372036854775808 ≤ p ∧ p ≤ 9223372036854775807) (hq : 1 ≤ q) : -9223372036854775808 ≤ p.tdiv q ∧ p.tdiv q ≤ 9223372036854775807 := by
  rcases Int.le_total 0 p with h | h
  · rw [Int.tdiv_eq_ediv_of_nonneg h]
    have h1 := Int.ediv_nonneg h (show 0 ≤ q by omega)
    have h2 := Int.ediv_le_self q h
    omega
  · have h0 : p.tdiv q = -((-p) / q) := by
      rw [← Int.tdiv_eq_ediv_of_nonneg (show 0 ≤ -p by omega), Int.neg_tdiv, Int.neg_neg]
    rw [h0]
    have h1 := Int.ediv_nonneg (show 0 ≤ -p by omega) (show 0 ≤ q by omega)
    have h2 := Int.ediv_le_self q (show 0 ≤ -p by omega)
    omega
theorem Qt.quoT {p q : Int} {t u : TypeId} (hx : evo e x = some (.int .i64 p) := by rfl) (hy : evo e y = some (.int .i64 q) := by rfl) (hb : -9223372036854775808 ≤ p ∧ p ≤ 9223372036854775807 := by omega) (hq : 1 ≤ q := by omega) :
    Qt P B n e L ⟨some d, .binOp .quo t x y u, ty, pos, af, gd⟩ (.int .i64 (p.tdiv q)) :=
  Qt.bin (run_ints fun w => by
    have : q ≠ 0 := by omega
    simp [binOp_ints, Op.intDiv, this, IntWalk.i64_in _ (tdiv_in hb hq)]) hx hy
theorem WL.quoT {p q : Int} {t u : TypeId} (h : WL P B n ops l Q ((d, .int .i64 (p.tdiv q)) :: e) L) (hx : evo e x = some (.int .i64 p) := by rfl) (hy : evo e y = some (.int .i64 q) := by rfl) (hb : -9223372036854775808 ≤ p ∧ p ≤ 9223372036854775807 := by omega) (hq : 1 ≤ q := by omega) (hd : Nat.ble (d + 1) n = true := by rfl) :
    WL P B n ops (⟨some d, .binOp .quo t x y u, ty, pos, af, none⟩ :: l) Q e L :=
  WL.pure h hd (Qt.quoT (hb := hb) (hq := hq) (hx := hx) (hy := hy))
theorem Qt.maxI {p q : Int} {tys : Array TypeId} (hx : evo e x = some (.int .i64 p) := by rfl) (hy : evo e y = some (.int .i64 q) := by rfl) :
    Qt P B n e L ⟨some d, .call ⟨.builtin .max, #[x, y], tys⟩, ty, pos, af, gd⟩ (.int .i64 (if p < q then q else p)) :=
  fun a w ha hs => by
    simp [execOp, resolve, invoke, builtin, ha.eval hx, ha.eval hy, Builtin.max_, Builtin.max2]
theorem WL.maxI {p q : Int} {tys : Array TypeId} (h : WL P B n ops l Q ((d, .int .i64 (if p < q then q else p)) :: e) L) (hx : evo e x = some (.int .i64 p) := by rfl) (hy : evo e y = some (.int .i64 q) := by rfl) (hd : Nat.ble (d + 1) n = true := by rfl) :
    WL P B n ops (⟨some d, .call ⟨.builtin .max, #[x, y], tys⟩, ty, pos, af, none⟩ :: l) Q e L := WL.pure h hd (Qt.maxI (hx := hx) (hy := hy))
end
end Go.Proofs.YtedmihapieleaaaGreat
