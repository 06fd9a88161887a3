/- More steps: numbers, memory, slices. Over any program. -/
import Derived.Test.YtedmihapieleaaaGreatSt
import Derived.IntWalk
import Derived.Laws.OwnMore
import Derived.Laws.MakeOwn
import Derived.Laws.IdiomCopy
set_option linter.unusedVariables false
set_option linter.unusedSimpArgs false
namespace Go.Proofs.YtedmihapieleaaaGreat
open Go

section
variable {P : Program} {B : Base} {n : Nat} {Q Q' : Exit → Act → World → Prop} {e : Env} {L : List HP} {ops : Array Oper} {l : List Oper}
variable {d : Nat} {ty : TypeId} {pos : String} {af : Array Edge} {x y z : Operand} {gd : Option (Nat × Bool)}

theorem binOp_ints (op : BinOp) (t : TypeId) (k : IntKind) (p q : Int) : binOp op t (.int k p) (.int k q) =
    (match op with
    | .shl | .shr => Op.shift op k p k q
    | .add | .sub | .mul => Op.intArith op k p q
    | .quo | .rem => Op.intDiv op k p q
    | .and | .or | .xor | .andNot => Op.intBits op k p q
    | _ => Op.intCmp op p q) := by
  cases op <;> simp [binOp]
/-- Any operation on two values that only computes. -/
theorem Qt.bin {op : BinOp} {t u : TypeId} {vx vy r : Value} (hr : ∀ w, (do eqGuard op t x y vx vy; binOp op t vx vy : Sem Value).run P w = .ok r w)
    (hx : evo e x = some vx := by rfl) (hy : evo e y = some vy := by rfl) :
    Qt P B n e L ⟨some d, .binOp op t x y u, ty, pos, af, gd⟩ r :=
  fun a w ha hs => by
    have h1 := hr w
    simp only [execOp, ha.eval hx, ha.eval hy]
    rw [Sem.run_bind, h1]
    rfl
theorem WL.bin {op : BinOp} {t u : TypeId} {vx vy r : Value} (h : WL P B n ops l Q ((d, r) :: e) L) (hr : ∀ w, (do eqGuard op t x y vx vy; binOp op t vx vy : Sem Value).run P w = .ok r w)
    (hx : evo e x = some vx := by rfl) (hy : evo e y = some vy := by rfl) (hd : Nat.ble (d + 1) n = true := by rfl) :
    WL P B n ops (⟨some d, .binOp op t x y u, ty, pos, af, none⟩ :: l) Q e L :=
  WL.pure h hd fun a w ha hs => by
    have h1 := hr w
    simp only [execOp, ha.eval hx, ha.eval hy]
    rw [Sem.run_bind, h1]
    rfl
theorem eqGuard_ints (op : BinOp) (t : TypeId) (x y : Operand) (k k' : IntKind) (p q : Int) (w : World) : (eqGuard op t x y (.int k p) (.int k' q)).run P w = .ok () w := by
  cases op <;> simp [eqGuard]
theorem run_ints {op : BinOp} {t : TypeId} {k k' : IntKind} {p q : Int} {r : Value} (h : ∀ w, (binOp op t (.int k p) (.int k' q)).run P w = .ok r w) (w : World) :
    (do eqGuard op t x y (.int k p) (.int k' q); binOp op t (.int k p) (.int k' q) : Sem Value).run P w = .ok r w := by
  simp only [Sem.run_bind, eqGuard_ints, Result.andThen_ok, h]

theorem Qt.addw {k : IntKind} {p q : Int} {t u : TypeId} (hx : evo e x = some (.int k p) := by rfl) (hy : evo e y = some (.int k q) := by rfl) :
    Qt P B n e L ⟨some d, .binOp .add t x y u, ty, pos, af, gd⟩ (.int k (k.wrap (p + q))) :=
  Qt.bin (run_ints fun w => by simp [binOp_ints, Op.intArith]) hx hy
theorem WL.addw {k : IntKind} {p q : Int} {t u : TypeId} (h : WL P B n ops l Q ((d, .int k (k.wrap (p + q))) :: e) L) (hx : evo e x = some (.int k p) := by rfl) (hy : evo e y = some (.int k q) := by rfl) (hd : Nat.ble (d + 1) n = true := by rfl) :
    WL P B n ops (⟨some d, .binOp .add t x y u, ty, pos, af, none⟩ :: l) Q e L :=
  WL.pure h hd (Qt.addw (hx := hx) (hy := hy))
theorem Qt.subw {k : IntKind} {p q : Int} {t u : TypeId} (hx : evo e x = some (.int k p) := by rfl) (hy : evo e y = some (.int k q) := by rfl) :
    Qt P B n e L ⟨some d, .binOp .sub t x y u, ty, pos, af, gd⟩ (.int k (k.wrap (p - q))) :=
  Qt.bin (run_ints fun w => by simp [binOp_ints, Op.intArith]) hx hy
theorem WL.subw {k : IntKind} {p q : Int} {t u : TypeId} (h : WL P B n ops l Q ((d, .int k (k.wrap (p - q))) :: e) L) (hx : evo e x = some (.int k p) := by rfl) (hy : evo e y = some (.int k q) := by rfl) (hd : Nat.ble (d + 1) n = true := by rfl) :
    WL P B n ops (⟨some d, .binOp .sub t x y u, ty, pos, af, none⟩ :: l) Q e L :=
  WL.pure h hd (Qt.subw (hx := hx) (hy := hy))
theorem Qt.mulw {k : IntKind} {p q : Int} {t u : TypeId} (hx : evo e x = some (.int k p) := by rfl) (hy : evo e y = some (.int k q) := by rfl) :
    Qt P B n e L ⟨some d, .binOp .mul t x y u, ty, pos, af, gd⟩ (.int k (k.wrap (p * q))) :=
  Qt.bin (run_ints fun w => by simp [binOp_ints, Op.intArith]) hx hy
theorem WL.mulw {k : IntKind} {p q : Int} {t u : TypeId} (h : WL P B n ops l Q ((d, .int k (k.wrap (p * q))) :: e) L) (hx : evo e x = some (.int k p) := by rfl) (hy : evo e y = some (.int k q) := by rfl) (hd : Nat.ble (d + 1) n = true := by rfl) :
    WL P B n ops (⟨some d, .binOp .mul t x y u, ty, pos, af, none⟩ :: l) Q e L :=
  WL.pure h hd (Qt.mulw (hx := hx) (hy := hy))
/-- The bounds of int. -/
def I64 (p : Int) : Prop := -9223372036854775808 ≤ p ∧ p ≤ 9223372036854775807
theorem Qt.add {p q : Int} {t u : TypeId} (hx : evo e x = some (.int .i64 p) := by rfl) (hy : evo e y = some (.int .i64 q) := by rfl) (hb : -9223372036854775808 ≤ p + q ∧ p + q ≤ 9223372036854775807 := by omega) :
    Qt P B n e L ⟨some d, .binOp .add t x y u, ty, pos, af, gd⟩ (.int .i64 (p + q)) :=
  Qt.bin (run_ints fun w => by simp [binOp_ints, Op.intArith, IntWalk.i64_in _ hb]) hx hy
theorem WL.add {p q : Int} {t u : TypeId} (h : WL P B n ops l Q ((d, .int .i64 (p + q)) :: e) L) (hx : evo e x = some (.int .i64 p) := by rfl) (hy : evo e y = some (.int .i64 q) := by rfl) (hb : -9223372036854775808 ≤ p + q ∧ p + q ≤ 9223372036854775807 := by omega) (hd : Nat.ble (d + 1) n = true := by rfl) :
    WL P B n ops (⟨some d, .binOp .add t x y u, ty, pos, af, none⟩ :: l) Q e L :=
  WL.pure h hd (Qt.add (hb := hb) (hx := hx) (hy := hy))
theorem Qt.sub {p q : Int} {t u : TypeId} (hx : evo e x = some (.int .i64 p) := by rfl) (hy : evo e y = some (.int .i64 q) := by rfl) (hb : -9223372036854775808 ≤ p - q ∧ p - q ≤ 9223372036854775807 := by omega) :
    Qt P B n e L ⟨some d, .binOp .sub t x y u, ty, pos, af, gd⟩ (.int .i64 (p - q)) :=
  Qt.bin (run_ints fun w => by simp [binOp_ints, Op.intArith, IntWalk.i64_in _ hb]) hx hy
theorem WL.sub {p q : Int} {t u : TypeId} (h : WL P B n ops l Q ((d, .int .i64 (p - q)) :: e) L) (hx : evo e x = some (.int .i64 p) := by rfl) (hy : evo e y = some (.int .i64 q) := by rfl) (hb : -9223372036854775808 ≤ p - q ∧ p - q ≤ 9223372036854775807 := by omega) (hd : Nat.ble (d + 1) n = true := by rfl) :
    WL P B n ops (⟨some d, .binOp .sub t x y u, ty, pos, af, none⟩ :: l) Q e L :=
  WL.pure h hd (Qt.sub (hb := hb) (hx := hx) (hy := hy))
theorem Qt.mul {p q : Int} {t u : TypeId} (hx : evo e x = some (.int .i64 p) := by rfl) (hy : evo e y = some (.int .i64 q) := by rfl) (hb : -9223372036854775808 ≤ p * q ∧ p * q ≤ 9223372036854775807 := by omega) :
    Qt P B n e L ⟨some d, .binOp .mul t x y u, ty, pos, af, gd⟩ (.int .i64 (p * q)) :=
  Qt.bin (run_ints fun w => by simp [binOp_ints, Op.intArith, IntWalk.i64_in _ hb]) hx hy
theorem WL.mul {p q : Int} {t u : TypeId} (h : WL P B n ops l Q ((d, .int .i64 (p * q)) :: e) L) (hx : evo e x = some (.int .i64 p) := by rfl) (hy : evo e y = some (.int .i64 q) := by rfl) (hb : -9223372036854775808 ≤ p * q ∧ p * q ≤ 9223372036854775807 := by omega) (hd : Nat.ble (d + 1) n = true := by rfl) :
    WL P B n ops (⟨some d, .binOp .mul t x y u, ty, pos, af, none⟩ :: l) Q e L :=
  WL.pure h hd (Qt.mul (hb := hb) (hx := hx) (hy := hy))
theorem Qt.quo {p q : Int} {t u : TypeId} (hx : evo e x = some (.int .i64 p) := by rfl) (hy : evo e y = some (.int .i64 q) := by rfl) (hb : 0 ≤ p ∧ p ≤ 9223372036854775807 := by omega) (hq : 1 ≤ q := by omega) :
    Qt P B n e L ⟨some d, .binOp .quo t x y u, ty, pos, af, gd⟩ (.int .i64 (p / q)) :=
  Qt.bin (run_ints fun w => by
    have : q ≠ 0 := by omega
    simp [binOp_ints, Op.intDiv, this, IntWalk.i64_quo p q ⟨hb.1, hb.2, hq⟩]) hx hy
theorem WL.quo {p q : Int} {t u : TypeId} (h : WL P B n ops l Q ((d, .int .i64 (p / q)) :: e) L) (hx : evo e x = some (.int .i64 p) := by rfl) (hy : evo e y = some (.int .i64 q) := by rfl) (hb : 0 ≤ p ∧ p ≤ 9223372036854775807 := by omega) (hq : 1 ≤ q := by omega) (hd : Nat.ble (d + 1) n = true := by rfl) :
    WL P B n ops (⟨some d, .binOp .quo t x y u, ty, pos, af, none⟩ :: l) Q e L :=
  WL.pure h hd (Qt.quo (hb := hb) (hq := hq) (hx := hx) (hy := hy))
theorem Qt.rem {p q : Int} {t u : TypeId} (hx : evo e x = some (.int .i64 p) := by rfl) (hy : evo e y = some (.int .i64 q) := by rfl) (hb : 0 ≤ p := by omega) (hq : 1 ≤ q := by omega) :
    Qt P B n e L ⟨some d, .binOp .rem t x y u, ty, pos, af, gd⟩ (.int .i64 (p % q)) :=
  Qt.bin (run_ints fun w => by
    have : q ≠ 0 := by omega
    simp [binOp_ints, Op.intDiv, this, Int.tmod_eq_emod_of_nonneg hb]) hx hy
theorem WL.rem {p q : Int} {t u : TypeId} (h : WL P B n ops l Q ((d, .int .i64 (p % q)) :: e) L) (hx : evo e x = some (.int .i64 p) := by rfl) (hy : evo e y = some (.int .i64 q) := by rfl) (hb : 0 ≤ p := by omega) (hq : 1 ≤ q := by omega) (hd : Nat.ble (d + 1) n = true := by rfl) :
    WL P B n ops (⟨some d, .binOp .rem t x y u, ty, pos, af, none⟩ :: l) Q e L :=
  WL.pure h hd (Qt.rem (hb := hb) (hq := hq) (hx := hx) (hy := hy))
theorem Qt.shr {k k' : IntKind} {p q : Int} {t u : TypeId} (hx : evo e x = some (.int k p) := by rfl) (hy : evo e y = some (.int k' q) := by rfl) (hq : 0 ≤ q := by omega) :
    Qt P B n e L ⟨some d, .binOp .shr t x y u, ty, pos, af, gd⟩ (.int k (p.fdiv (2 ^ (min q.toNat k.bits)))) :=
  Qt.bin (run_ints fun w => by
    have : ¬ q < 0 := by omega
    simp [binOp, Op.shift, this]) hx hy
theorem WL.shr {k k' : IntKind} {p q : Int} {t u : TypeId} (h : WL P B n ops l Q ((d, .int k (p.fdiv (2 ^ (min q.toNat k.bits)))) :: e) L) (hx : evo e x = some (.int k p) := by rfl) (hy : evo e y = some (.int k' q) := by rfl) (hq : 0 ≤ q := by omega) (hd : Nat.ble (d + 1) n = true := by rfl) :
    WL P B n ops (⟨some d, .binOp .shr t x y u, ty, pos, af, none⟩ :: l) Q e L :=
  WL.pure h hd (Qt.shr (hq := hq) (hx := hx) (hy := hy))
theorem Qt.shl {k k' : IntKind} {p q : Int} {t u : TypeId} (hx : evo e x = some (.int k p) := by rfl) (hy : evo e y = some (.int k' q) := by rfl) (hq : 0 ≤ q := by omega) :
    Qt P B n e L ⟨some d, .binOp .shl t x y u, ty, pos, af, gd⟩ (.int k (k.wrap (p * 2 ^ (min q.toNat k.bits)))) :=
  Qt.bin (run_ints fun w => by
    have : ¬ q < 0 := by omega
    simp [binOp, Op.shift, this]) hx hy
theorem WL.shl {k k' : IntKind} {p q : Int} {t u : TypeId} (h : WL P B n ops l Q ((d, .int k (k.wrap (p * 2 ^ (min q.toNat k.bits)))) :: e) L) (hx : evo e x = some (.int k p) := by rfl) (hy : evo e y = some (.int k' q) := by rfl) (hq : 0 ≤ q := by omega) (hd : Nat.ble (d + 1) n = true := by rfl) :
    WL P B n ops (⟨some d, .binOp .shl t x y u, ty, pos, af, none⟩ :: l) Q e L :=
  WL.pure h hd (Qt.shl (hq := hq) (hx := hx) (hy := hy))
def band (k : IntKind) (p q : Int) : Int := k.wrap ((BitVec.ofInt k.bits p &&& BitVec.ofInt k.bits q).toNat : Int)
def bor (k : IntKind) (p q : Int) : Int := k.wrap ((BitVec.ofInt k.bits p ||| BitVec.ofInt k.bits q).toNat : Int)
def bxor (k : IntKind) (p q : Int) : Int := k.wrap ((BitVec.ofInt k.bits p ^^^ BitVec.ofInt k.bits q).toNat : Int)
def bandn (k : IntKind) (p q : Int) : Int := k.wrap ((BitVec.ofInt k.bits p &&& ~~~BitVec.ofInt k.bits q).toNat : Int)
theorem Qt.and {k : IntKind} {p q : Int} {t u : TypeId} (hx : evo e x = some (.int k p) := by rfl) (hy : evo e y = some (.int k q) := by rfl) :
    Qt P B n e L ⟨some d, .binOp .and t x y u, ty, pos, af, gd⟩ (.int k (band k p q)) :=
  Qt.bin (run_ints fun w => by simp [binOp_ints, Op.intBits, band]) hx hy
theorem WL.and {k : IntKind} {p q : Int} {t u : TypeId} (h : WL P B n ops l Q ((d, .int k (band k p q)) :: e) L) (hx : evo e x = some (.int k p) := by rfl) (hy : evo e y = some (.int k q) := by rfl) (hd : Nat.ble (d + 1) n = true := by rfl) :
    WL P B n ops (⟨some d, .binOp .and t x y u, ty, pos, af, none⟩ :: l) Q e L :=
  WL.pure h hd (Qt.and (hx := hx) (hy := hy))
theorem Qt.or {k : IntKind} {p q : Int} {t u : TypeId} (hx : evo e x = some (.int k p) := by rfl) (hy : evo e y = some (.int k q) := by rfl) :
    Qt P B n e L ⟨some d, .binOp .or t x y u, ty, pos, af, gd⟩ (.int k (bor k p q)) :=
  Qt.bin (run_ints fun w => by simp [binOp_ints, Op.intBits, bor]) hx hy
theorem WL.or {k : IntKind} {p q : Int} {t u : TypeId} (h : WL P B n ops l Q ((d, .int k (bor k p q)) :: e) L) (hx : evo e x = some (.int k p) := by rfl) (hy : evo e y = some (.int k q) := by rfl) (hd : Nat.ble (d + 1) n = true := by rfl) :
    WL P B n ops (⟨some d, .binOp .or t x y u, ty, pos, af, none⟩ :: l) Q e L :=
  WL.pure h hd (Qt.or (hx := hx) (hy := hy))
theorem Qt.xor {k : IntKind} {p q : Int} {t u : TypeId} (hx : evo e x = some (.int k p) := by rfl) (hy : evo e y = some (.int k q) := by rfl) :
    Qt P B n e L ⟨some d, .binOp .xor t x y u, ty, pos, af, gd⟩ (.int k (bxor k p q)) :=
  Qt.bin (run_ints fun w => by simp [binOp_ints, Op.intBits, bxor]) hx hy
theorem WL.xor {k : IntKind} {p q : Int} {t u : TypeId} (h : WL P B n ops l Q ((d, .int k (bxor k p q)) :: e) L) (hx : evo e x = some (.int k p) := by rfl) (hy : evo e y = some (.int k q) := by rfl) (hd : Nat.ble (d + 1) n = true := by rfl) :
    WL P B n ops (⟨some d, .binOp .xor t x y u, ty, pos, af, none⟩ :: l) Q e L :=
  WL.pure h hd (Qt.xor (hx := hx) (hy := hy))
theorem Qt.andNot {k : IntKind} {p q : Int} {t u : TypeId} (hx : evo e x = some (.int k p) := by rfl) (hy : evo e y = some (.int k q) := by rfl) :
    Qt P B n e L ⟨some d, .binOp .andNot t x y u, ty, pos, af, gd⟩ (.int k (bandn k p q)) :=
  Qt.bin (run_ints fun w => by simp [binOp_ints, Op.intBits, bandn]) hx hy
theorem WL.andNot {k : IntKind} {p q : Int} {t u : TypeId} (h : WL P B n ops l Q ((d, .int k (bandn k p q)) :: e) L) (hx : evo e x = some (.int k p) := by rfl) (hy : evo e y = some (.int k q) := by rfl) (hd : Nat.ble (d + 1) n = true := by rfl) :
    WL P B n ops (⟨some d, .binOp .andNot t x y u, ty, pos, af, none⟩ :: l) Q e L :=
  WL.pure h hd (Qt.andNot (hx := hx) (hy := hy))
def intOk (P : Program) (t : Nat) (k : IntKind) : Bool :=
  match P.underlying t with
  | some (.int k') => k' == k
  | _ => false
theorem int_of {t : Nat} {k : IntKind} (h : intOk P t k = true) : P.underlying t = some (.int k) := by
  unfold intOk at h
  split at h
  · rename_i k' hu; rw [hu]; simp at h; rw [h]
  · cases h
theorem Qt.cvt {k k' : IntKind} {p : Int} {s t : TypeId} {sd : TypeDesc} (hs : P.underlying s = some sd) (ht : P.underlying t = some (.int k)) (hx : evo e x = some (.int k' p) := by rfl) :
    Qt P B n e L ⟨some d, .convert s t x, ty, pos, af, gd⟩ (.int k (k.wrap p)) :=
  fun a w ha hs' => by simp [execOp, ha.eval hx, convert, run_underlying hs, run_underlying ht, Conv.intToInt]
theorem WL.cvt {k k' : IntKind} {p : Int} {s t : TypeId} {sd : TypeDesc} (h : WL P B n ops l Q ((d, .int k (k.wrap p)) :: e) L) (hs : P.underlying s = some sd) (ht : P.underlying t = some (.int k)) (hx : evo e x = some (.int k' p) := by rfl) (hd : Nat.ble (d + 1) n = true := by rfl) :
    WL P B n ops (⟨some d, .convert s t x, ty, pos, af, none⟩ :: l) Q e L :=
  WL.pure h hd (Qt.cvt (hs := hs) (ht := ht) (hx := hx))
/-- Another value that is the same. -/
theorem WL.cast {v u : Value} (hl : look e d = some v) (he : v = u) (h : WL P B n ops l Q ((d, u) :: e) L) : WL P B n ops l Q e L := by
  subst he
  exact fun a w ha hs => h a w (ha.weak (Env.le_cons hl fun _ _ h => h)) hs

theorem WQ.cast {v u : Value} {xt : Exit} (hl : look e d = some v) (he : v = u) (h : WQ B n Q xt ((d, u) :: e) L) : WQ B n Q xt e L := by
  subst he
  exact fun a w ha hs => h a w (ha.weak (Env.le_cons hl fun _ _ h => h)) hs
theorem WC.cast {c : Code} {v u : Value} (hl : look e d = some v) (he : v = u) (h : WC P B n c Q ((d, u) :: e) L) : WC P B n c Q e L := by
  subst he
  exact fun a w ha hs => h a w (ha.weak (Env.le_cons hl fun _ _ h => h)) hs

/-! ### memory that is written or made -/
theorem setCell_eq {w : World} {b off : Nat} {cs : Array Value} {t : TypeId} {fr : Nat × Nat} (h : w.heap[b]? = some (.cells cs t fr)) (v : Value) :
    w.setCell ⟨b, off, none⟩ v = setB w b (.cells (cs.setIfInBounds off v) t fr) := by
  have hb := (Array.getElem?_eq_some_iff.1 h).1
  have hv := (Array.getElem?_eq_some_iff.1 h).2
  unfold World.setCell setB
  congr 1
  apply Array.ext
  · simp
  · intro i h1 h2
    simp only [Array.getElem_modify]
    rw [Array.getElem_setIfInBounds (by simpa using h2)]
    by_cases hi : b = i
    · subst hi
      simp only [if_true, hv]
      rfl
    · simp [hi]
def Value.single : Value → Bool
  | .agg _ => false
  | .tuple _ => false
  | _ => true
theorem run_store1 {w : World} {b off : Nat} {cs : Array Value} {t : TypeId} {v : Value} (h : w.heap[b]? = some (.cells cs t (0, 0))) (ho : off < cs.size) (hv : Value.single v = true) :
    (store ⟨b, off, none⟩ v).run P w = .ok () (setB w b (.cells (cs.setIfInBounds off v) t (0, 0))) := by
  have hc : w.cell? ⟨b, off, none⟩ = some cs[off] := by rw [cell_of h]; simp [ho]
  have hf : w.frozen? ⟨b, off, none⟩ = false := by simp [World.frozen?, h]
  cases v <;> first | (simp [Value.single] at hv; done) | (simp only [store, Sem.run, hc, hf, setCell_eq h]; rfl)
theorem cells_single {v : Value} (hv : Value.single v = true) : v.cells = #[v] := by
  cases v <;> first | rfl | (simp [Value.single] at hv; done)
theorem WL.st {t b off : Nat} {cs : Array Value} {t0 : TypeId} {v : Value} {L' : List HP} (h : WL P B n ops l Q e L') (hsc : scalarOk P t = true)
    (hx : evo e x = some (.pointer (some ⟨b, off, none⟩)) := by rfl) (hy : evo e y = some v := by rfl)
    (hr : Repl L (pt b (.cells cs t0 (0, 0))) (pt b (.cells (cs.setIfInBounds off v) t0 (0, 0))) L' := by repeat (first | exact .here | apply Repl.there)) (ho : Nat.ble (off + 1) cs.size = true := by rfl) (hv : Value.single v = true := by rfl) :
    WL P B n ops (⟨none, .store t x y, ty, pos, af, none⟩ :: l) Q e L :=
  WL.skipStep rfl fun a w ha hs => by
    obtain ⟨M, r1, r2⟩ := hr.rem
    have hm : Mem (pt b (.cells cs t0 (0, 0)) :: M) (pt b (.cells cs t0 (0, 0))) := .here
    have hb := (hs.front r1).get hm
    refine ⟨setB w b (.cells (cs.setIfInBounds off v) t0 (0, 0)), e, L', ?_, ha.put_none _, hs.set hr, h⟩
    simp [execOp, ha.eval hx, ha.eval hy, Instr.storeAt, Instr.sureAddr, storeVar, cells_single hv, size_scalar hsc, storeCells, add_plain', run_store1 hb (Nat.le_of_ble_eq_true ho) hv]
theorem WL.alloc {t : Nat} {cs : Array Value} (hz : zeroOf P t = some cs) (h : ∀ b, WL P B n ops l Q ((d, .pointer (some ⟨b, 0, none⟩)) :: e) (pt b (.cells cs t (0, 0)) :: L)) (hd : Nat.ble (d + 1) n = true := by rfl) :
    WL P B n ops (⟨some d, .alloc t, ty, pos, af, none⟩ :: l) Q e L :=
  WL.step rfl fun a w ha hs => by
    obtain ⟨zv, hzr, hzc⟩ := run_zero hz w
    refine ⟨.pointer (some ⟨w.heap.size, 0, none⟩), w.alloc (.cells cs t), _, _, ?_, ha.put hd _, hs.new _, h w.heap.size⟩
    simp [execOp, Instr.alloc, hzr, newVar, newRow, newObj, Sem.run, hzc]
theorem WL.box {t : Nat} {v : Value} (h : ∀ b, WL P B n ops l Q ((d, .pointer (some ⟨b, 0, none⟩)) :: e) (pt b (.cells v.cells t (0, 0)) :: L)) (hx : evo e x = some v := by rfl) (hd : Nat.ble (d + 1) n = true := by rfl) :
    WL P B n ops (⟨some d, .box t x, ty, pos, af, none⟩ :: l) Q e L :=
  WL.step rfl fun a w ha hs => by
    refine ⟨.pointer (some ⟨w.heap.size, 0, none⟩), w.alloc (.cells v.cells t), _, _, ?_, ha.put hd _, hs.new _, h w.heap.size⟩
    simp [execOp, ha.eval hx, Instr.box, newVar, newRow, newObj, Sem.run]
/-- A whole struct or array is read out of its variable. -/
theorem Qt.ldA {t b k : Nat} {cs : Array Value} {t0 : TypeId} {fr : Nat × Nat} (ha' : aggOk P t k = true)
    (hx : evo e x = some (.pointer (some ⟨b, 0, none⟩)) := by rfl) (hm : Mem L (pt b (.cells cs t0 fr)) := by repeat (first | exact .here | refine .there ?_)) (hk : cs.size = k := by rfl) :
    Qt P B n e L ⟨some d, .load t x, ty, pos, af, gd⟩ (.agg cs) :=
  fun a w ha hs => by
    have := run_loadAgg (P := P) ha' (hs.get hm) (off := 0) (by omega)
    simp [execOp, ha.eval hx, Instr.loadAt, Instr.sureAddr, this, ← hk]
theorem WL.ldA {t b k : Nat} {cs : Array Value} {t0 : TypeId} {fr : Nat × Nat} (h : WL P B n ops l Q ((d, .agg cs) :: e) L) (ha' : aggOk P t k = true)
    (hx : evo e x = some (.pointer (some ⟨b, 0, none⟩)) := by rfl) (hm : Mem L (pt b (.cells cs t0 fr)) := by repeat (first | exact .here | refine .there ?_)) (hk : cs.size = k := by rfl) (hd : Nat.ble (d + 1) n = true := by rfl) :
    WL P B n ops (⟨some d, .load t x, ty, pos, af, none⟩ :: l) Q e L :=
  WL.pure h hd (Qt.ldA (ha' := ha') (hx := hx) (hm := hm) (hk := hk))
/-- A part of a variable is read. -/
theorem Qt.ldP {t b k off : Nat} {cs : Array Value} {t0 : TypeId} {fr : Nat × Nat} {us : Array Value} (ha' : aggOk P t k = true) (hus : (cs.toList.drop off).take k = us.toList) (hk : Nat.ble (off + k) cs.size = true)
    (hx : evo e x = some (.pointer (some ⟨b, off, none⟩)) := by rfl) (hm : Mem L (pt b (.cells cs t0 fr)) := by repeat (first | exact .here | refine .there ?_)) :
    Qt P B n e L ⟨some d, .load t x, ty, pos, af, gd⟩ (.agg us) :=
  fun a w ha hs => by
    have h1 := run_loadAgg (P := P) ha' (hs.get hm) (off := off) (Nat.le_of_ble_eq_true hk)
    have h2 : cs.extract off (off + k) = us := by
      apply Array.toList_inj.1
      rw [← hus]
      simp
    simp [execOp, ha.eval hx, Instr.loadAt, Instr.sureAddr, h1, h2]
theorem WL.ldP {t b k off : Nat} {cs : Array Value} {t0 : TypeId} {fr : Nat × Nat} {us : Array Value} (h : WL P B n ops l Q ((d, .agg us) :: e) L) (ha' : aggOk P t k = true) (hus : (cs.toList.drop off).take k = us.toList) (hk : Nat.ble (off + k) cs.size = true)
    (hx : evo e x = some (.pointer (some ⟨b, off, none⟩)) := by rfl) (hm : Mem L (pt b (.cells cs t0 fr)) := by repeat (first | exact .here | refine .there ?_)) (hd : Nat.ble (d + 1) n = true := by rfl) :
    WL P B n ops (⟨some d, .load t x, ty, pos, af, none⟩ :: l) Q e L :=
  WL.pure h hd (Qt.ldP (ha' := ha') (hus := hus) (hk := hk) (hx := hx) (hm := hm))
theorem run_storeCells {w : World} {b : Nat} {t : TypeId} : ∀ (vs : List Value) (i : Nat) (off : Nat) (cs : Array Value) (w : World), w.heap[b]? = some (.cells cs t (0, 0)) → off + i + vs.length ≤ cs.size → (∀ v ∈ vs, Value.single v = true) →
    (storeCells ⟨b, off, none⟩ vs i).run P w = .ok () (if vs = [] then w else setB w b (.cells (cs.toList.take (off + i) ++ vs ++ cs.toList.drop (off + i + vs.length)).toArray t (0, 0)))
  | [], i, off, cs, w, _, _, _ => by simp [storeCells]
  | v :: vs, i, off, cs, w, h, hle, hv => by
    simp only [List.length_cons] at hle
    have ho : off + i < cs.size := by omega
    have h1 := run_store1 (P := P) h ho (hv v (List.mem_cons_self ..))
    simp only [storeCells, add_plain', Sem.run_bind, h1, Result.andThen_ok]
    have hb := (Array.getElem?_eq_some_iff.1 h).1
    have h2 : (setB w b (.cells (cs.setIfInBounds (off + i) v) t (0, 0))).heap[b]? = some (.cells (cs.setIfInBounds (off + i) v) t (0, 0)) := by rw [setB_at]; simp [hb]
    rw [run_storeCells (w := w) vs (i + 1) off _ _ h2 (by simp; omega) fun u hu => hv u (List.mem_cons_of_mem _ hu)]
    congr 1
    have key : ∀ (cs : List Value) (k : Nat), k < cs.length → ∀ (vs : List Value), (cs.set k v).take (k + 1) ++ vs ++ (cs.set k v).drop (k + 1 + vs.length) = cs.take k ++ v :: vs ++ cs.drop (k + (vs.length + 1)) := by
      intro cs k hk vs
      apply List.ext_getElem?
      intro j
      simp only [List.getElem?_append, List.length_append, List.length_take, List.length_set, List.length_cons, List.getElem?_take, List.getElem?_set, List.getElem?_drop, List.getElem?_cons]
      grind
    by_cases hvs : vs = []
    · subst hvs
      simp only [if_true, List.cons_ne_nil, if_false]
      congr 2
      apply Array.toList_inj.1
      have := key cs.toList (off + i) (by simpa using ho) []
      simp only [List.append_nil, List.length_nil, Nat.add_zero, List.take_append_drop] at this
      simp only [Array.toList_setIfInBounds]
      simpa using this
    · rw [if_neg hvs, if_neg (List.cons_ne_nil _ _)]
      simp only [setB]
      congr 1
      rw [Array.setIfInBounds_setIfInBounds]
      congr 2
      apply Array.toList_inj.1
      have := key cs.toList (off + i) (by simpa using ho) vs
      simp only [Array.toList_setIfInBounds, List.length_cons]
      rw [show off + (i + 1) = off + i + 1 from by omega]
      exact this
theorem WL.stA {t b k off : Nat} {cs us : Array Value} {t0 : TypeId} {L' : List HP} {ws : List Value} (h : WL P B n ops l Q e L') (hag : aggOk P t k = true) (hk : us.size = k) (hk0 : us.toList ≠ []) (hsing : ∀ v ∈ us.toList, Value.single v = true) (hle : off + k ≤ cs.size)
    (hws : cs.toList.take off ++ us.toList ++ cs.toList.drop (off + us.toList.length) = ws)
    (hx : evo e x = some (.pointer (some ⟨b, off, none⟩)) := by rfl) (hy : evo e y = some (.agg us) := by rfl)
    (hr : Repl L (pt b (.cells cs t0 (0, 0))) (pt b (.cells ws.toArray t0 (0, 0))) L' := by repeat (first | exact .here | apply Repl.there)) :
    WL P B n ops (⟨none, .store t x y, ty, pos, af, none⟩ :: l) Q e L :=
  WL.skipStep rfl fun a w ha hs => by
    obtain ⟨M, r1, r2⟩ := hr.rem
    have hm : Mem (pt b (.cells cs t0 (0, 0)) :: M) (pt b (.cells cs t0 (0, 0))) := .here
    have hb := (hs.front r1).get hm
    refine ⟨setB w b (.cells ws.toArray t0 (0, 0)), e, L', ?_, ha.put_none _, hs.set hr, h⟩
    have h1 := run_storeCells (P := P) (w := w) us.toList 0 off cs w hb (by simp; omega) hsing
    rw [if_neg hk0] at h1
    simp only [Nat.add_zero, hws] at h1
    simp [execOp, ha.eval hx, ha.eval hy, Instr.storeAt, Instr.sureAddr, storeVar, Value.cells, size_agg hag, hk, h1]
/-- A fresh variable is written whole. -/
theorem WL.stW {t b k : Nat} {cs us : Array Value} {t0 : TypeId} {L' : List HP} (h : WL P B n ops l Q e L') (hag : aggOk P t k = true) (hk0 : Nat.ble 1 k = true := by rfl) (hk : us.size = k := by rfl) (hc : cs.size = k := by rfl) (hsing : us.toList.all Value.single = true := by rfl)
    (hx : evo e x = some (.pointer (some ⟨b, 0, none⟩)) := by rfl) (hy : evo e y = some (.agg us) := by rfl)
    (hr : Repl L (pt b (.cells cs t0 (0, 0))) (pt b (.cells us t0 (0, 0))) L' := by repeat (first | exact .here | apply Repl.there)) :
    WL P B n ops (⟨none, .store t x y, ty, pos, af, none⟩ :: l) Q e L :=
  by
    have hk1 := Nat.le_of_ble_eq_true hk0
    have h0 : us.toList ≠ [] := by intro h0; have := congrArg List.length h0; simp at this; subst this; simp at hk; omega
    have h2 : cs.toList.take 0 ++ us.toList ++ cs.toList.drop (0 + us.toList.length) = us.toList := by
      rw [List.drop_of_length_le (by simp; omega)]; simp
    exact WL.stA (ws := us.toList) h hag hk h0 (fun v hv => List.all_eq_true.1 hsing v hv) (by omega) h2 hx hy (by simpa using hr)

/-! ### structs by value -/
/-- What a struct's parts come to; a closed reckoning over the tables. -/
def BuildOk (P : Program) (t : Nat) (parts : List (Nat × Value)) (cs : Array Value) : Prop := ∀ w, (Instr.build t parts.toArray).run P w = .ok (.agg cs) w
def evps (e : Env) : List (Nat × Operand) → Option (List (Nat × Value))
  | [] => some []
  | (i, x) :: xs => match evo e x, evps e xs with
    | some v, some vs => some ((i, v) :: vs)
    | _, _ => none
theorem evps_eval {a : Act} (ha : Ag n e a) : ∀ {xs : List (Nat × Operand)} {vs : List (Nat × Value)}, evps e xs = some vs → xs.map (fun p => (p.1, a.eval p.2)) = vs
  | [], vs, h => by simp [evps] at h; subst h; rfl
  | (i, x) :: xs, vs, h => by
    unfold evps at h
    split at h
    · rename_i v vs' hv hvs
      cases h
      simp [ha.eval hv, evps_eval ha hvs]
    · cases h
theorem Qt.build {t : Nat} {ps : List (Nat × Operand)} {vs : List (Nat × Value)} {cs : Array Value} (hb : BuildOk P t vs cs) (hx : evps e ps = some vs := by rfl) :
    Qt P B n e L ⟨some d, .build t ps.toArray, ty, pos, af, gd⟩ (.agg cs) :=
  fun a w ha hs => by
    have h1 := evps_eval ha hx
    have h2 : ps.toArray.map (fun p => (p.1, a.eval p.2)) = vs.toArray := by
      apply Array.toList_inj.1
      simpa using h1
    have := hb w
    simp only [execOp]
    rw [show (ps.toArray.map fun (i, x) => (i, a.eval x)) = vs.toArray from h2, Sem.run_bind, this]
    rfl
theorem WL.build {t : Nat} {ps : List (Nat × Operand)} {vs : List (Nat × Value)} {cs : Array Value} (h : WL P B n ops l Q ((d, .agg cs) :: e) L) (hb : BuildOk P t vs cs) (hx : evps e ps = some vs := by rfl) (hd : Nat.ble (d + 1) n = true := by rfl) :
    WL P B n ops (⟨some d, .build t ps.toArray, ty, pos, af, none⟩ :: l) Q e L :=
  WL.pure h hd (Qt.build (hb := hb) (hx := hx))
def BuildSOk (P : Program) (t k : Nat) (parts : List (Nat × Value)) (el : Nat) (cs : Array Value) : Prop := ∀ w, (Instr.buildSlice t k parts.toArray).run P w = .ok (.slice (some ⟨w.heap.size, 0, none⟩) k k) (w.alloc (.cells cs el))
theorem WL.buildS {t k el : Nat} {ps : List (Nat × Operand)} {vs : List (Nat × Value)} {cs : Array Value} (h : ∀ b, WL P B n ops l Q ((d, .slice (some ⟨b, 0, none⟩) k k) :: e) (pt b (.cells cs el (0, 0)) :: L)) (hb : BuildSOk P t k vs el cs) (hx : evps e ps = some vs := by rfl) (hd : Nat.ble (d + 1) n = true := by rfl) :
    WL P B n ops (⟨some d, .buildSlice t k ps.toArray, ty, pos, af, none⟩ :: l) Q e L :=
  WL.step rfl fun a w ha hs => by
    have h1 := evps_eval ha hx
    have h2 : ps.toArray.map (fun p => (p.1, a.eval p.2)) = vs.toArray := by
      apply Array.toList_inj.1
      simpa using h1
    refine ⟨_, w.alloc (.cells cs el), _, _, ?_, ha.put hd _, hs.new _, h w.heap.size⟩
    have := hb w
    simp only [execOp]
    rw [show (ps.toArray.map fun (i, x) => (i, a.eval x)) = vs.toArray from h2, Sem.run_bind, this]
    rfl
end
end Go.Proofs.YtedmihapieleaaaGreat
