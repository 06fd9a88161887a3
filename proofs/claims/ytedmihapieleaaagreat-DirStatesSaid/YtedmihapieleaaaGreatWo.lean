/- Walks of the laws' helpers: fresh, awake. -/
import Derived.Test.YtedmihapieleaaaGreatFa
import Derived.Test.YtedmihapieleaaaGreatWn
import Derived.KernelRfl
set_option linter.unusedVariables false
set_option linter.unusedSimpArgs false
namespace Go.Proofs.YtedmihapieleaaaGreat
open Go

theorem putN_take (xs : Bytes) (p size : Nat) (big : Bool) (v : Nat) {k : Nat} (hk : k ≤ p) : ∀ i, (putN xs p size big v i).take k = xs.take k
  | 0 => rfl
  | i + 1 => by
    rw [putN, List.take_set_of_le (by omega)]
    exact putN_take xs p size big v hk i
theorem laidN_take {ys : Bytes} (hy : ys.length = 8) (nums : List Nat) : ∀ i, (laidN ys nums i).take 8 = ys
  | 0 => by rw [laidN, List.take_append_of_le_length (by omega), List.take_of_length_le (by omega)]
  | i + 1 => by
    rw [laidN, put, putN_take _ _ _ _ _ (by omega)]
    exact laidN_take hy nums i
def zeroD : Nat → Bytes := fun _ => zeros
theorem clear_at (k : Nat) (i : Nat) : clearH zeroD i k = zeros := by
  induction i with
  | zero => rfl
  | succ i ih => show wr (clearH zeroD i) (slotAt i 0) zeros k = zeros; unfold wr; split; rfl; exact ih
theorem zeros_take : zeros.take 8 = [0, 0, 0, 0, 0, 0, 0, 0] := by
  unfold zeros
  rw [List.take_replicate]
  rfl
theorem formatted0 : (formatted zeroD 0).take 8 = magicJ := by
  unfold formatted
  show (laidB magicJ _).take 8 = magicJ
  exact laidN_take (ys := magicJ) rfl _ _
theorem formattedK {k : Nat} (hk : k ≠ 0) : formatted zeroD k = zeros := by
  unfold formatted
  have hno : ¬ (zeroD 0).take 8 = magicJ := by
    rw [show (zeroD 0).take 8 = zeros.take 8 from rfl, zeros_take]
    decide
  rw [if_neg hno]
  show wr (clearH zeroD 4) 0 _ k = zeros
  unfold wr
  rw [if_neg hk]
  exact clear_at k 4
theorem formattedH (g i : Nat) : NoHead g (formatted zeroD (slotAt i 0)) := by
  left
  rw [formattedK (by unfold slotAt; omega), zeros_take]
  decide
/-- The blocks behind 'fresh'. -/
def freshV (p : Pl) : Nat → Bytes := fmtA p zeroD
theorem tb_zeros (k : Nat) : tb zeros k = false := by
  unfold tb zeros
  have : (List.replicate 512 (0 : UInt8)).getD (k / 8) 0 = 0 := by
    rw [List.getD_eq_getElem?_getD, List.getElem?_replicate]
    split <;> rfl
  rw [this]
  exact Nat.zero_testBit _
theorem tb_one0 (k : Nat) : tb one0 k = decide (k = 0) := by
  unfold tb one0
  by_cases h : k / 8 = 0
  · rw [h]
    have : (zeros.set 0 (1 : UInt8)).getD 0 0 = 1 := by
      rw [List.getD_eq_getElem?_getD, List.getElem?_set_self (by rw [zeros_length]; decide)]
      rfl
    rw [this]
    have hk : k < 8 := by omega
    rcases Nat.eq_zero_or_pos k with rfl | hp
    · rfl
    · rw [Nat.mod_eq_of_lt hk]
      have : (1 : UInt8).toNat = 2 ^ 0 := rfl
      rw [this, Nat.testBit_two_pow]
      congr 1
      rw [eq_iff_iff]
      constructor <;> intro h <;> omega
  · have h2 : (zeros.set 0 (1 : UInt8)).getD (k / 8) 0 = zeros.getD (k / 8) 0 := by
      rw [List.getD_eq_getElem?_getD, List.getElem?_set_ne (by omega), List.getD_eq_getElem?_getD]
    rw [h2, show (zeros.getD (k / 8) 0).toNat.testBit (k % 8) = tb zeros k from rfl, tb_zeros]
    symm
    exact decide_eq_false (by omega)
theorem fresh_bm {p : Pl} (h : PlIs p) {k : Nat} (hk : k < p.dc) : dig (freshV p) p.bm k = false := by
  have h2 := h.bm; have h3 := h.i1; have h4 := h.im
  unfold dig freshV fmtA
  rw [fmtV_at, if_pos (by omega)]
  unfold fmtZ
  rw [if_neg (by omega)]
  exact tb_zeros _
theorem fresh_im {p : Pl} (h : PlIs p) {k : Nat} (hk : k < p.ino) : dig (freshV p) p.im k = decide (k = 0) := by
  have h2 := h.bm; have h3 := h.i2; have h4 := h.im
  unfold dig freshV fmtA
  rw [fmtV_at, if_neg (by omega), fmtV_at, if_pos (by omega)]
  unfold fmtZ
  rw [if_pos ⟨rfl, rfl⟩, tb_one0]
  congr 1
  rw [eq_iff_iff]
  constructor <;> intro h <;> omega

end Go.Proofs.YtedmihapieleaaaGreat
