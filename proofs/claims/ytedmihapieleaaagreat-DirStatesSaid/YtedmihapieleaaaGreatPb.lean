/- Plain facts on bytes and digits; no program in sight. -/
import Derived.Test.YtedmihapieleaaaGreatSd
set_option linter.unusedVariables false
set_option linter.unusedSimpArgs false
namespace Go.Proofs.YtedmihapieleaaaGreat
open Go

/-- A byte as a value. -/
def bv (x : UInt8) : Value := .int .u8 (x.toNat : Int)
abbrev Bytes := List UInt8
def bvs (xs : Bytes) : List Value := xs.map bv
theorem bvs_length (xs : Bytes) : (bvs xs).length = xs.length := by simp [bvs]
theorem bvs_get {xs : Bytes} {i : Nat} (h : i < xs.length) : (bvs xs)[i]? = some (bv (xs.getD i 0)) := by
  simp [bvs, List.getElem?_eq_getElem h, List.getD_eq_getElem?_getD]
theorem bvs_append (xs ys : Bytes) : bvs (xs ++ ys) = bvs xs ++ bvs ys := by simp [bvs]
theorem bvs_take (xs : Bytes) (k : Nat) : bvs (xs.take k) = (bvs xs).take k := by simp [bvs, List.map_take]
theorem bvs_drop (xs : Bytes) (k : Nat) : bvs (xs.drop k) = (bvs xs).drop k := by simp [bvs, List.map_drop]
theorem bvs_set (xs : Bytes) (k : Nat) (x : UInt8) : bvs (xs.set k x) = (bvs xs).set k (bv x) := by simp [bvs, List.map_set]
theorem bvs_replicate (k : Nat) : bvs (List.replicate k 0) = List.replicate k (.int .u8 0) := by simp [bvs, bv]
theorem bvs_single (xs : Bytes) : ∀ u ∈ bvs xs, Value.single u = true := by
  intro u hu
  simp only [bvs, List.mem_map] at hu
  obtain ⟨x, _, rfl⟩ := hu
  rfl
theorem bv_inj {x y : UInt8} (h : bv x = bv y) : x = y := by
  unfold bv at h
  injection h with _ h
  apply UInt8.toNat_inj.1
  omega
theorem bvs_inj {xs ys : Bytes} (h : bvs xs = bvs ys) : xs = ys := by
  induction xs generalizing ys with
  | nil => cases ys with
    | nil => rfl
    | cons y ys => simp [bvs] at h
  | cons x xs ih => cases ys with
    | nil => simp [bvs] at h
    | cons y ys =>
      simp only [bvs, List.map_cons, List.cons.injEq] at h
      rw [bv_inj h.1, ih h.2]

/-! ### shifts and digits -/
theorem shr3 {k : Int} (h : 0 ≤ k) : k.fdiv (2 ^ (min (3 : Int).toNat IntKind.i64.bits)) = k / 8 := by
  have : (2 : Int) ^ (min (3 : Int).toNat IntKind.i64.bits) = 8 := by decide
  rw [this, Int.fdiv_eq_ediv_of_nonneg _ (by omega)]
theorem ofInt_nat64 (a : Nat) (h : a < 2 ^ 64) : (BitVec.ofInt 64 (a : Int)).toNat = a := by
  rw [BitVec.ofInt_natCast, BitVec.toNat_ofNat, Nat.mod_eq_of_lt h]
theorem ofInt_nat8 (a : Nat) (h : a < 2 ^ 8) : (BitVec.ofInt 8 (a : Int)).toNat = a := by
  rw [BitVec.ofInt_natCast, BitVec.toNat_ofNat, Nat.mod_eq_of_lt h]
theorem band_64 {k : IntKind} (hk : k.bits = 64) (a b : Nat) (ha : a < 2 ^ 64) (hb : b < 2 ^ 64) : band k (a : Int) (b : Int) = k.wrap ((a &&& b : Nat) : Int) := by
  unfold band
  congr 2
  rw [BitVec.toNat_and]
  rw [hk, ofInt_nat64 a ha, ofInt_nat64 b hb]
theorem band_8 (a b : Nat) (ha : a < 2 ^ 8) (hb : b < 2 ^ 8) : band .u8 (a : Int) (b : Int) = ((a &&& b : Nat) : Int) := by
  have h : band .u8 (a : Int) (b : Int) = IntKind.u8.wrap ((a &&& b : Nat) : Int) := by
    unfold band
    congr 2
    rw [BitVec.toNat_and]
    rw [show IntKind.u8.bits = 8 from rfl, ofInt_nat8 a ha, ofInt_nat8 b hb]
  have : a &&& b ≤ a := Nat.and_le_left
  rw [h, IntWalk.u8_in _ (by omega)]
theorem bor_8 (a b : Nat) (ha : a < 2 ^ 8) (hb : b < 2 ^ 8) : bor .u8 (a : Int) (b : Int) = ((a ||| b : Nat) : Int) := by
  have h : bor .u8 (a : Int) (b : Int) = IntKind.u8.wrap ((a ||| b : Nat) : Int) := by
    unfold bor
    congr 2
    rw [BitVec.toNat_or]
    rw [show IntKind.u8.bits = 8 from rfl, ofInt_nat8 a ha, ofInt_nat8 b hb]
  have : a ||| b < 2 ^ 8 := Nat.or_lt_two_pow ha hb
  rw [h, IntWalk.u8_in _ (by omega)]
theorem bandn_8 (a b : Nat) (ha : a < 2 ^ 8) (hb : b < 2 ^ 8) : bandn .u8 (a : Int) (b : Int) = ((a ^^^ (a &&& b) : Nat) : Int) := by
  have h : bandn .u8 (a : Int) (b : Int) = IntKind.u8.wrap ((a ^^^ (a &&& b) : Nat) : Int) := by
    unfold bandn
    congr 2
    rw [show IntKind.u8.bits = 8 from rfl]
    have h3 : (BitVec.ofInt 8 (a : Int) &&& ~~~BitVec.ofInt 8 (b : Int)) = (BitVec.ofInt 8 (a : Int) ^^^ (BitVec.ofInt 8 (a : Int) &&& BitVec.ofInt 8 (b : Int))) := by
      apply BitVec.eq_of_getLsbD_eq
      intro i hi
      simp only [BitVec.getLsbD_and, BitVec.getLsbD_not, BitVec.getLsbD_xor]
      cases (BitVec.ofInt 8 (a : Int)).getLsbD i <;> cases (BitVec.ofInt 8 (b : Int)).getLsbD i <;> simp [hi]
    rw [h3, BitVec.toNat_xor, BitVec.toNat_and, ofInt_nat8 a ha, ofInt_nat8 b hb]
  have : a ^^^ (a &&& b) < 2 ^ 8 := Nat.xor_lt_two_pow ha (Nat.lt_of_le_of_lt Nat.and_le_left ha)
  rw [h, IntWalk.u8_in _ (by omega)]
theorem and7 {k : Int} (h : 0 ≤ k) (h2 : k ≤ 9223372036854775807) : band .i64 k 7 = k % 8 := by
  obtain ⟨m, rfl⟩ := Int.eq_ofNat_of_zero_le h
  rw [show (7 : Int) = ((7 : Nat) : Int) from rfl, band_64 rfl m 7 (by omega) (by decide), show (7 : Nat) = 2 ^ 3 - 1 from rfl, Nat.and_two_pow_sub_one_eq_mod, IntWalk.i64_in _ (by omega)]
  omega
theorem u8bound (x : UInt8) : 0 ≤ (x.toNat : Int) ∧ (x.toNat : Int) ≤ 255 := by
  have := x.toNat_lt
  omega
theorem shrU8 (x : UInt8) {j : Int} (h0 : 0 ≤ j) (h7 : j ≤ 7) : (x.toNat : Int).fdiv (2 ^ (min j.toNat IntKind.u8.bits)) = ((x.toNat >>> j.toNat : Nat) : Int) := by
  have : min j.toNat IntKind.u8.bits = j.toNat := by simp only [IntKind.bits]; omega
  rw [this, Int.fdiv_eq_ediv_of_nonneg _ (by exact Int.le_of_lt (Int.pow_pos (by decide))), Nat.shiftRight_eq_div_pow]
  simp
theorem and1 (m : Nat) (h : m ≤ 255) : band .u8 (m : Int) 1 = ((m % 2 : Nat) : Int) := by
  rw [show (1 : Int) = ((1 : Nat) : Int) from rfl, band_8 m 1 (by omega) (by decide), Nat.and_one_is_mod]
/-- The digit k of a map of digits. -/
def tb (xs : Bytes) (k : Nat) : Bool := (xs.getD (k / 8) 0).toNat.testBit (k % 8)
theorem testBit_shift (x j : Nat) : decide (((x >>> j) % 2 : Nat) = (1 : Nat)) = x.testBit j := by
  rw [Nat.testBit, Nat.and_comm, Nat.and_one_is_mod]
  cases h : (x >>> j) % 2 with
  | zero => simp
  | succ m =>
    have : m = 0 := by omega
    subst this
    simp
theorem shl1 {j : Int} (h0 : 0 ≤ j) (h7 : j ≤ 7) : IntKind.u8.wrap (1 * 2 ^ (min j.toNat IntKind.u8.bits)) = ((2 ^ j.toNat : Nat) : Int) := by
  have : min j.toNat IntKind.u8.bits = j.toNat := by simp only [IntKind.bits]; omega
  rw [this, Int.one_mul]
  have h8 : 2 ^ j.toNat ≤ 2 ^ 7 := Nat.pow_le_pow_right (by decide) (by omega)
  have e : (2 : Int) ^ j.toNat = ((2 ^ j.toNat : Nat) : Int) := by simp
  rw [e]
  generalize 2 ^ j.toNat = q at *
  rw [IntWalk.u8_in _ (by omega)]
def setBit (x : UInt8) (j : Nat) (on : Bool) : UInt8 := if on then UInt8.ofNat (x.toNat ||| 2 ^ j) else UInt8.ofNat (x.toNat ^^^ (x.toNat &&& 2 ^ j))
theorem setBit_test (x : UInt8) (j i : Nat) (on : Bool) (hj : j < 8) (hi : i < 8) : (setBit x j on).toNat.testBit i = if i = j then on else x.toNat.testBit i := by
  have hx := x.toNat_lt
  have hp : 2 ^ j < 256 := by
    have : 2 ^ j ≤ 2 ^ 7 := Nat.pow_le_pow_right (by decide) (by omega)
    omega
  unfold setBit
  cases on
  · simp only [Bool.false_eq_true, if_false]
    have : x.toNat ^^^ (x.toNat &&& 2 ^ j) < 2 ^ 8 := Nat.xor_lt_two_pow (by omega) (Nat.lt_of_le_of_lt Nat.and_le_left (by omega))
    rw [UInt8.toNat_ofNat', Nat.mod_eq_of_lt this, Nat.testBit_xor, Nat.testBit_and, Nat.testBit_two_pow]
    by_cases h : i = j
    · subst h; simp
    · have h' : ¬ j = i := fun e => h e.symm
      simp [h, h']
  · simp only [if_true]
    have : x.toNat ||| 2 ^ j < 2 ^ 8 := Nat.or_lt_two_pow (by omega) (by omega)
    rw [UInt8.toNat_ofNat', Nat.mod_eq_of_lt this, Nat.testBit_or, Nat.testBit_two_pow]
    by_cases h : i = j
    · subst h; simp
    · have h' : ¬ j = i := fun e => h e.symm
      simp [h, h']
theorem bor_bit (x : UInt8) (j : Nat) (h : j ≤ 7) : (Value.int .u8 (bor .u8 (x.toNat : Int) ((2 ^ j : Nat) : Int))) = bv (setBit x j true) := by
  have hx := x.toNat_lt
  have hp : 2 ^ j < 256 := by
    have : 2 ^ j ≤ 2 ^ 7 := Nat.pow_le_pow_right (by decide) h
    omega
  have hl : x.toNat ||| 2 ^ j < 2 ^ 8 := Nat.or_lt_two_pow (by omega) (by omega)
  rw [bor_8 _ _ hx hp]
  unfold bv setBit
  simp only [if_true]
  rw [UInt8.toNat_ofNat', Nat.mod_eq_of_lt hl]
theorem bandn_bit (x : UInt8) (j : Nat) (h : j ≤ 7) : (Value.int .u8 (bandn .u8 (x.toNat : Int) ((2 ^ j : Nat) : Int))) = bv (setBit x j false) := by
  have hx := x.toNat_lt
  have hp : 2 ^ j < 256 := by
    have : 2 ^ j ≤ 2 ^ 7 := Nat.pow_le_pow_right (by decide) h
    omega
  have hl : x.toNat ^^^ (x.toNat &&& 2 ^ j) < 2 ^ 8 := Nat.xor_lt_two_pow (by omega) (Nat.lt_of_le_of_lt Nat.and_le_left (by omega))
  rw [bandn_8 _ _ hx hp]
  unfold bv setBit
  simp only [Bool.false_eq_true, if_false]
  rw [UInt8.toNat_ofNat', Nat.mod_eq_of_lt hl]
def setDigit (xs : Bytes) (k : Nat) (on : Bool) : Bytes := xs.set (k / 8) (setBit (xs.getD (k / 8) 0) (k % 8) on)
theorem setDigit_length (xs : Bytes) (k : Nat) (on : Bool) : (setDigit xs k on).length = xs.length := by simp [setDigit]
theorem setDigit_test (xs : Bytes) (k i : Nat) (on : Bool) (hk : k / 8 < xs.length) : tb (setDigit xs k on) i = if i = k then on else tb xs i := by
  unfold tb setDigit
  rw [List.getD_eq_getElem?_getD, List.getElem?_set]
  by_cases h : k / 8 = i / 8
  · rw [if_pos h]
    simp only [hk, if_true, Option.getD_some, ← h]
    rw [setBit_test _ _ _ _ (Nat.mod_lt _ (by decide)) (Nat.mod_lt _ (by decide))]
    have : (i % 8 = k % 8) ↔ i = k := by omega
    simp only [this]
  · rw [if_neg h]
    have : i ≠ k := by rintro rfl; exact h rfl
    simp [this, List.getD_eq_getElem?_getD]
theorem bvs_setDigit (xs : Bytes) (k : Nat) (on : Bool) (x : UInt8) (hx : x = setBit (xs.getD (k / 8) 0) (k % 8) on) (i : Nat) (hi : i = k / 8) : (bvs xs).set i (bv x) = bvs (setDigit xs k on) := by
  subst hx hi
  unfold setDigit
  rw [bvs_set]
/-- The least digit that is 0, below n. -/
def first0 (xs : Bytes) (n : Nat) : Option Nat := (List.range n).find? fun k => !tb xs k
/-- How many of the first n digits are 1. -/
def count1 (xs : Bytes) (n : Nat) : Nat := ((List.range n).filter fun k => tb xs k).length
theorem tb_255 {xs : Bytes} {k : Nat} (h : xs.getD (k / 8) 0 = 255) : tb xs k = true := by
  unfold tb
  rw [h]
  have : k % 8 < 8 := Nat.mod_lt _ (by decide)
  generalize k % 8 = j at this
  have h8 : j = 0 ∨ j = 1 ∨ j = 2 ∨ j = 3 ∨ j = 4 ∨ j = 5 ∨ j = 6 ∨ j = 7 := by omega
  rcases h8 with rfl | rfl | rfl | rfl | rfl | rfl | rfl | rfl <;> decide
theorem first0_some {xs : Bytes} {n k : Nat} (hk : k < n) (h0 : tb xs k = false) (hb : ∀ j < k, tb xs j = true) : first0 xs n = some k := by
  unfold first0
  rw [List.find?_range_eq_some]
  refine ⟨by simp [h0], by simpa using hk, fun j hj => by simp [hb j hj]⟩
theorem first0_none {xs : Bytes} {n : Nat} (hb : ∀ j < n, tb xs j = true) : first0 xs n = none := by
  unfold first0
  rw [List.find?_eq_none]
  intro j hj
  simp [hb j (by simpa using hj)]
theorem count1_zero (xs : Bytes) : count1 xs 0 = 0 := rfl
theorem count1_succ (xs : Bytes) (n : Nat) : count1 xs (n + 1) = count1 xs n + (if tb xs n then 1 else 0) := by
  unfold count1
  rw [List.range_succ, List.filter_append, List.length_append]
  by_cases h : tb xs n <;> simp [h]
theorem count1_le (xs : Bytes) (n : Nat) : count1 xs n ≤ n := by
  unfold count1
  exact Nat.le_trans (List.length_filter_le _ _) (by simp)
/-! ### numbers as bytes -/
def beNat (l : Bytes) : Nat := l.foldl (fun a x => a * 256 + x.toNat) 0
theorem beNat_snoc (l : Bytes) (x : UInt8) : beNat (l ++ [x]) = beNat l * 256 + x.toNat := by simp [beNat]
theorem beNat_lt (l : Bytes) : beNat l < 256 ^ l.length := by
  have key : ∀ (l : Bytes) (a k : Nat), a < 256 ^ k → l.foldl (fun a x => a * 256 + x.toNat) a < 256 ^ (k + l.length) := by
    intro l
    induction l with
    | nil => intro a k h; simpa using h
    | cons x l ih =>
      intro a k h
      have := x.toNat_lt
      have h2 : a * 256 + x.toNat < 256 ^ (k + 1) := by rw [Nat.pow_succ]; omega
      have h3 := ih _ _ h2
      rw [List.foldl_cons, List.length_cons, show k + (l.length + 1) = k + 1 + l.length from by omega]
      exact h3
  have := key l 0 0 (by decide)
  simpa [beNat] using this
/-- The bytes of a number of some bytes, as they are gone through: the greatest first. -/
def seg (xs : Bytes) (p size : Nat) (big : Bool) : Bytes := let l := (xs.drop p).take size; if big then l else l.reverse
theorem seg_length {xs : Bytes} {p size : Nat} {big : Bool} (h : p + size ≤ xs.length) : (seg xs p size big).length = size := by
  unfold seg
  cases big <;> simp <;> omega
theorem seg_get {xs : Bytes} {p size : Nat} {big : Bool} (h : p + size ≤ xs.length) {i : Nat} (hi : i < size) : (seg xs p size big)[i]? = some (xs.getD (p + (if big then i else size - 1 - i)) 0) := by
  have hg : ∀ j, j < size → ((xs.drop p).take size)[j]? = some (xs.getD (p + j) 0) := by
    intro j hj
    rw [List.getElem?_take, if_pos hj, List.getElem?_drop, List.getD_eq_getElem?_getD, List.getElem?_eq_getElem (show p + j < xs.length by omega)]
    rfl
  unfold seg
  cases big
  · simp only [Bool.false_eq_true, if_false]
    rw [List.getElem?_reverse (by simp; omega)]
    rw [show ((xs.drop p).take size).length - 1 - i = size - 1 - i from by simp; omega]
    exact hg _ (by omega)
  · simp only [if_true]
    exact hg _ hi
theorem seg_take_succ {xs : Bytes} {p size : Nat} {big : Bool} (h : p + size ≤ xs.length) {i : Nat} (hi : i < size) : beNat ((seg xs p size big).take (i + 1)) = beNat ((seg xs p size big).take i) * 256 + (xs.getD (p + (if big then i else size - 1 - i)) 0).toNat := by
  rw [List.take_add_one, seg_get h hi]
  exact beNat_snoc _ _
theorem band64or (a x : Nat) (ha : a < 2 ^ 56) (hx : x < 256) : bor .u64 (IntKind.u64.wrap ((a : Int) * 2 ^ (min (8 : Int).toNat IntKind.u64.bits))) (x : Int) = ((a * 256 + x : Nat) : Int) := by
  have h8 : (2 : Int) ^ (min (8 : Int).toNat IntKind.u64.bits) = 256 := by decide
  rw [h8, IntWalk.u64_in _ (by omega)]
  have e : (a : Int) * 256 = ((a * 256 : Nat) : Int) := by omega
  rw [e]
  have h : bor .u64 ((a * 256 : Nat) : Int) (x : Int) = IntKind.u64.wrap (((a * 256) ||| x : Nat) : Int) := by
    unfold bor
    congr 2
    rw [BitVec.toNat_or]
    rw [show IntKind.u64.bits = 64 from rfl, ofInt_nat64 _ (by omega), ofInt_nat64 x (by omega)]
  rw [h]
  have hor : (a * 256) ||| x = a * 256 + x := by
    have := Nat.two_pow_add_eq_or_of_lt (i := 8) (b := x) (by omega) a
    rw [show (2 : Nat) ^ 8 * a = a * 256 from by omega] at this
    exact this.symm
  rw [hor, IntWalk.u64_in _ (by omega)]
/-- What Put has laid after i rounds. -/
def putN (xs : Bytes) (p size : Nat) (big : Bool) (v : Nat) : Nat → Bytes
  | 0 => xs
  | i + 1 => (putN xs p size big v i).set (p + (if big then size - 1 - i else i)) (UInt8.ofNat (v >>> (8 * i)))
theorem putN_length (xs : Bytes) (p size : Nat) (big : Bool) (v : Nat) : ∀ i, (putN xs p size big v i).length = xs.length
  | 0 => rfl
  | i + 1 => by rw [putN, List.length_set, putN_length]
def put (xs : Bytes) (p size : Nat) (big : Bool) (v : Nat) : Bytes := putN xs p size big v size
theorem put_length (xs : Bytes) (p size : Nat) (big : Bool) (v : Nat) : (put xs p size big v).length = xs.length := putN_length ..
theorem byte_of (v : Nat) (hv : v < 2 ^ 64) {i : Int} (h0 : 0 ≤ i) (h8 : i < 8) : IntKind.u8.wrap ((v : Int).fdiv (2 ^ (min (8 * i).toNat IntKind.u64.bits))) = ((UInt8.ofNat (v >>> (8 * i.toNat))).toNat : Int) := by
  have h1 : min (8 * i).toNat IntKind.u64.bits = 8 * i.toNat := by simp only [IntKind.bits]; omega
  rw [h1, Int.fdiv_eq_ediv_of_nonneg _ (by exact Int.le_of_lt (Int.pow_pos (by decide))), UInt8.toNat_ofNat', Nat.shiftRight_eq_div_pow, IntKind.wrap_u8]
  simp
theorem tb_shift (xs : Bytes) (i k : Nat) (hk : k < 8) : (((xs.getD i 0).toNat >>> k % 2 : Nat) : Int) = if tb xs (8 * i + k) then 1 else 0 := by
  have h1 : (8 * i + k) / 8 = i := by omega
  have h2 : (8 * i + k) % 8 = k := by omega
  unfold tb
  rw [h1, h2, ← testBit_shift]
  have : ((xs.getD i 0).toNat >>> k) % 2 = 0 ∨ ((xs.getD i 0).toNat >>> k) % 2 = 1 := by omega
  rcases this with h | h <;> rw [h] <;> simp
end Go.Proofs.YtedmihapieleaaaGreat
