/- Files as numbers of blocks: the plain part of package inode, over the maps of package alloc. -/
import Derived.Test.YtedmihapieleaaaGreatWp
set_option linter.unusedVariables false
set_option linter.unusedSimpArgs false
namespace Go.Proofs.YtedmihapieleaaaGreat
open Go

/-! ### numbers in bytes -/
def num (xs : Bytes) (q : Nat) : Nat := (xs.getD q 0).toNat + 256 * (xs.getD (q + 1) 0).toNat + 65536 * (xs.getD (q + 2) 0).toNat + 16777216 * (xs.getD (q + 3) 0).toNat
theorem num_lt (xs : Bytes) (q : Nat) : num xs q < 4294967296 := by
  unfold num
  have h0 := (xs.getD q 0).toNat_lt
  have h1 := (xs.getD (q + 1) 0).toNat_lt
  have h2 := (xs.getD (q + 2) 0).toNat_lt
  have h3 := (xs.getD (q + 3) 0).toNat_lt
  omega
theorem num_seg {xs : Bytes} {q : Nat} (h : q + 4 ≤ xs.length) : beNat (seg xs q 4 false) = num xs q := by
  have e : (xs.drop q).take 4 = [xs.getD q 0, xs.getD (q + 1) 0, xs.getD (q + 2) 0, xs.getD (q + 3) 0] := by
    rw [List.drop_eq_getElem_cons (show q < xs.length by omega), List.drop_eq_getElem_cons (show q + 1 < xs.length by omega), List.drop_eq_getElem_cons (show q + 1 + 1 < xs.length by omega), List.drop_eq_getElem_cons (show q + 1 + 1 + 1 < xs.length by omega)]
    simp only [List.take_succ_cons, List.take_zero, List.getD_eq_getElem?_getD]
    rw [List.getElem?_eq_getElem (show q < xs.length by omega), List.getElem?_eq_getElem (show q + 1 < xs.length by omega), List.getElem?_eq_getElem (show q + 2 < xs.length by omega), List.getElem?_eq_getElem (show q + 3 < xs.length by omega)]
    rfl
  unfold seg
  simp only [e]
  simp [beNat, num]
  omega
def put4 (xs : Bytes) (q v : Nat) : Bytes := put xs q 4 false v
theorem put4_length (xs : Bytes) (q v : Nat) : (put4 xs q v).length = xs.length := put_length ..
theorem put4_getD {xs : Bytes} {q v : Nat} (h : q + 4 ≤ xs.length) (i : Nat) : (put4 xs q v).getD i 0 = if i = q then UInt8.ofNat v else if i = q + 1 then UInt8.ofNat (v >>> 8) else if i = q + 2 then UInt8.ofNat (v >>> 16) else if i = q + 3 then UInt8.ofNat (v >>> 24) else xs.getD i 0 := by
  simp only [put4, put, putN, Bool.false_eq_true, if_false, List.getD_eq_getElem?_getD, List.getElem?_set, List.length_set, Nat.mul_zero, Nat.shiftRight_zero, Nat.add_zero]
  repeat' split
  all_goals first | omega | (simp; done) | rfl
theorem num_put4 {xs : Bytes} {q v : Nat} (h : q + 4 ≤ xs.length) (hv : v < 4294967296) : num (put4 xs q v) q = v := by
  unfold num
  simp only [put4_getD h]
  simp only [if_true, show q + 1 ≠ q from by omega, show q + 2 ≠ q from by omega, show q + 3 ≠ q from by omega, show q + 2 ≠ q + 1 from by omega, show q + 3 ≠ q + 1 from by omega, show q + 3 ≠ q + 2 from by omega, if_false, UInt8.toNat_ofNat', Nat.shiftRight_eq_div_pow]
  omega
theorem num_put4_other {xs : Bytes} {q v r : Nat} (h : q + 4 ≤ xs.length) (hr : r + 4 ≤ q ∨ q + 4 ≤ r) : num (put4 xs q v) r = num xs r := by
  unfold num
  simp only [put4_getD h]
  repeat rw [if_neg (by omega), if_neg (by omega), if_neg (by omega), if_neg (by omega)]
theorem num_zeros (q : Nat) : num (List.replicate 512 0) q = 0 := by
  have h : ∀ i, (List.replicate 512 (0 : UInt8)).getD i 0 = 0 := fun i => by
    rw [List.getD_eq_getElem?_getD, List.getElem?_replicate]
    split <;> rfl
  unfold num
  simp only [h]
  rfl
/-- Numbers, one behind the other. -/
def putL (b : Bytes) (a : Nat) : List Nat → Bytes
  | [] => b
  | v :: l => putL (put4 b a v) (a + 4) l
theorem putL_length (b : Bytes) (a : Nat) (l : List Nat) : (putL b a l).length = b.length := by
  induction l generalizing b a with
  | nil => rfl
  | cons v l ih => rw [putL, ih, put4_length]
theorem putL_snoc (b : Bytes) (a : Nat) (l : List Nat) (v : Nat) : putL b a (l ++ [v]) = put4 (putL b a l) (a + 4 * l.length) v := by
  induction l generalizing b a with
  | nil => rfl
  | cons u l ih => rw [List.cons_append, putL, ih, putL, List.length_cons, show a + 4 + 4 * l.length = a + 4 * (l.length + 1) from by omega]
theorem num_putL_other {b : Bytes} {a r : Nat} {l : List Nat} (h : a + 4 * l.length ≤ b.length) (hr : r + 4 ≤ a ∨ a + 4 * l.length ≤ r) : num (putL b a l) r = num b r := by
  induction l generalizing b a with
  | nil => rfl
  | cons v l ih =>
    rw [List.length_cons] at h hr
    rw [putL, ih (by rw [put4_length]; omega) (by omega), num_put4_other (by omega) (by omega)]
theorem num_putL {b : Bytes} {a : Nat} {l : List Nat} (h : a + 4 * l.length ≤ b.length) (hl : ∀ v ∈ l, v < 4294967296) {j : Nat} (hj : j < l.length) : num (putL b a l) (a + 4 * j) = l[j] := by
  induction l generalizing b a j with
  | nil => simp at hj
  | cons v l ih =>
    rw [List.length_cons] at h hj
    rw [putL]
    cases j with
    | zero =>
      rw [num_putL_other (by rw [put4_length]; omega) (by omega)]
      exact num_put4 (by omega) (hl v (List.mem_cons_self ..))
    | succ j =>
      rw [show a + 4 * (j + 1) = a + 4 + 4 * j from by omega, ih (by rw [put4_length]; omega) (fun u hu => hl u (List.mem_cons_of_mem _ hu)) (by omega)]
      rfl

/-! ### an inode -/
structure Nd where
  kd : Nat
  sz : Nat
  bl : List Nat
def Nd.nums (x : Nd) : List Nat := x.kd :: x.sz :: x.bl
def ldB (b : Bytes) (a : Nat) : Nd := ⟨num b a, num b (a + 4), (List.range 11).map fun k => num b (a + 8 + 4 * k)⟩
def ldN (p : Pl) (V : Nat → Bytes) (i : Nat) : Nd := ldB (V (p.tb + i / 8)) (i % 8 * 64)
def svB (b : Bytes) (a : Nat) (x : Nd) : Bytes := putL b a x.nums
def svV (p : Pl) (V : Nat → Bytes) (i : Nat) (x : Nd) : Nat → Bytes := wr V (p.tb + i / 8) (svB (V (p.tb + i / 8)) (i % 8 * 64) x)
theorem svB_length (b : Bytes) (a : Nat) (x : Nd) : (svB b a x).length = b.length := putL_length ..
structure Fits (x : Nd) : Prop where
  bl : x.bl.length = 11
  lt : ∀ v ∈ x.nums, v < 4294967296
theorem ldB_fits (b : Bytes) (a : Nat) : Fits (ldB b a) := by
  refine ⟨by simp [ldB], fun v hv => ?_⟩
  unfold Nd.nums ldB at hv
  simp only [List.mem_cons, List.mem_map] at hv
  rcases hv with rfl | rfl | ⟨k, _, rfl⟩ <;> exact num_lt _ _
theorem ldB_svB {b : Bytes} {a : Nat} {x : Nd} (hf : Fits x) (h : a + 64 ≤ b.length) : ldB (svB b a x) a = x := by
  obtain ⟨kd, sz, bl⟩ := x
  have hbl : bl.length = 11 := hf.bl
  have hn : (Nd.nums ⟨kd, sz, bl⟩).length = 13 := by simp [Nd.nums, hbl]
  have key : ∀ j (hj : j < (Nd.nums ⟨kd, sz, bl⟩).length), num (svB b a ⟨kd, sz, bl⟩) (a + 4 * j) = (Nd.nums ⟨kd, sz, bl⟩)[j] := fun j hj => num_putL (by rw [hn]; omega) hf.lt hj
  unfold ldB
  have k0 := key 0 (by omega)
  have k1 := key 1 (by omega)
  simp only [Nd.nums, Nat.mul_zero, Nat.add_zero, List.getElem_cons_zero, Nat.mul_one, List.getElem_cons_succ] at k0 k1
  rw [k0, k1]
  congr 1
  apply List.ext_getElem
  · simp [hbl]
  · intro k h1 h2
    have := key (k + 2) (by rw [hn]; omega)
    simp only [Nd.nums, List.getElem_cons_succ] at this
    rw [List.getElem_map, List.getElem_range, show a + 8 + 4 * k = a + 4 * (k + 2) from by omega, this]
theorem ldB_svB_other {b : Bytes} {a c : Nat} {x : Nd} (hf : Fits x) (h : a + 64 ≤ b.length) (hc : c + 64 ≤ a ∨ a + 64 ≤ c) : ldB (svB b a x) c = ldB b c := by
  have hn : x.nums.length = 13 := by simp [Nd.nums, hf.bl]
  have key : ∀ r, c ≤ r → r + 4 ≤ c + 64 → num (svB b a x) r = num b r := fun r h1 h2 => num_putL_other (by rw [hn]; omega) (by rw [hn]; omega)
  unfold ldB
  rw [key c (by omega) (by omega), key (c + 4) (by omega) (by omega)]
  congr 1
  apply List.map_congr_left
  intro k hk
  have := List.mem_range.1 hk
  exact key _ (by omega) (by omega)
theorem ldN_svV {p : Pl} {V : Nat → Bytes} (h5 : Len5 V) {i : Nat} {x : Nd} (hf : Fits x) : ldN p (svV p V i x) i = x := by
  unfold ldN svV
  rw [show wr V (p.tb + i / 8) (svB (V (p.tb + i / 8)) (i % 8 * 64) x) (p.tb + i / 8) = svB (V (p.tb + i / 8)) (i % 8 * 64) x from if_pos rfl]
  exact ldB_svB hf (by rw [h5]; omega)
theorem ldN_svV_other {p : Pl} {V : Nat → Bytes} (h5 : Len5 V) {i j : Nat} (hij : j ≠ i) {x : Nd} (hf : Fits x) : ldN p (svV p V i x) j = ldN p V j := by
  unfold ldN svV wr
  split
  · rename_i h
    rw [ldB_svB_other hf (by rw [h5]; omega) (by omega)]
    rw [h]
  · rfl
theorem wr_len {V : Nat → Bytes} (h : Len5 V) (k : Nat) {xs : Bytes} (hx : xs.length = 512) : Len5 (wr V k xs) := fun j => by
  unfold wr
  split
  · exact hx
  · exact h j
theorem svV_len {p : Pl} {V : Nat → Bytes} (h5 : Len5 V) (i : Nat) (x : Nd) : Len5 (svV p V i x) := wr_len h5 _ (by rw [svB_length, h5])
theorem wr_same (V : Nat → Bytes) (k : Nat) (xs : Bytes) : wr V k xs k = xs := if_pos rfl
theorem wr_other (V : Nat → Bytes) {k j : Nat} (xs : Bytes) (h : j ≠ k) : wr V k xs j = V j := if_neg h

/-! ### an inode's blocks: 200 is the one of numbers -/
def ptr (V : Nat → Bytes) (x : Nd) (k : Nat) : Nat := if k = 200 then x.bl.getD 10 0 else if k < 10 then x.bl.getD k 0 else num (V (x.bl.getD 10 0)) (4 * (k - 10))
def fb (V : Nat → Bytes) (x : Nd) (q : Nat) : UInt8 := (V (ptr V x (q / 512))).getD (q % 512) 0
/-- A file of m blocks has these. -/
def stdS (m : Nat) : Nat → Bool := fun k => decide (k < m) || (decide (k = 200) && decide (10 < m))
theorem stdS_iff {m k : Nat} : stdS m k = true ↔ k < m ∨ (k = 200 ∧ 10 < m) := by simp [stdS]
abbrev NF := Nat → Option (Nd × (Nat → Bool))
def updF (nd : NF) (i : Nat) (y : Option (Nd × (Nat → Bool))) : NF := fun j => if j = i then y else nd j
theorem updF_same (nd : NF) (i : Nat) (y : Option (Nd × (Nat → Bool))) : updF nd i y i = y := if_pos rfl
theorem updF_other (nd : NF) {i j : Nat} (y : Option (Nd × (Nat → Bool))) (h : j ≠ i) : updF nd i y j = nd j := if_neg h
structure SOk (S : Nat → Bool) : Prop where
  code : ∀ k, S k = true → k < 138 ∨ k = 200
  ind : ∀ k, S k = true → 10 ≤ k → S 200 = true
/-- The maps and the inodes agree: which blocks are whose. -/
structure Inv (p : Pl) (V : Nat → Bytes) (nd : NF) : Prop where
  len : Len5 V
  fits : ∀ i x S, nd i = some (x, S) → Fits x
  sok : ∀ i x S, nd i = some (x, S) → SOk S
  lt : ∀ i x S, nd i = some (x, S) → i < p.ino
  rng : ∀ i x S k, nd i = some (x, S) → S k = true → p.da ≤ ptr V x k ∧ ptr V x k < p.n
  inj : ∀ i x S k j y T l, nd i = some (x, S) → S k = true → nd j = some (y, T) → T l = true → ptr V x k = ptr V y l → i = j ∧ k = l
  map : ∀ b, b < p.dc → (dig V p.bm b = true ↔ ∃ i x S k, nd i = some (x, S) ∧ S k = true ∧ ptr V x k = p.da + b)
  imap : ∀ i, i < p.ino → dig V p.im i = (nd i).isSome
theorem ptr_congr {V V' : Nat → Bytes} {x : Nd} {k : Nat} (h : k = 200 ∨ k < 10 ∨ V' (x.bl.getD 10 0) = V (x.bl.getD 10 0)) : ptr V' x k = ptr V x k := by
  unfold ptr
  rcases h with h | h | h
  · rw [if_pos h, if_pos h]
  · simp only [show k ≠ 200 from by omega, h, if_true, if_false]
  · rw [h]
theorem ptr_200 (V : Nat → Bytes) (x : Nd) : ptr V x 200 = x.bl.getD 10 0 := if_pos rfl
/-- What holds of all pointers of an inode if its block of numbers is as it was. -/
theorem ptrs_congr {V V' : Nat → Bytes} {x : Nd} {S : Nat → Bool} (hs : SOk S) (h : S 200 = true → V' (x.bl.getD 10 0) = V (x.bl.getD 10 0)) {k : Nat} (hk : S k = true) : ptr V' x k = ptr V x k := by
  refine ptr_congr ?_
  by_cases h1 : k < 10
  · exact .inr (.inl h1)
  · exact .inr (.inr (h (hs.ind k hk (by omega))))
/-- A block more. -/
theorem Inv.add {p : Pl} {V V' : Nat → Bytes} {nd : NF} (h : Inv p V nd) {i b c : Nat} {x x' : Nd} {S S' : Nat → Bool} (hi : nd i = some (x, S)) (hb : b < p.dc) (hd : dig V p.bm b = false) (hdc : p.da + p.dc = p.n)
    (hf : Fits x') (hS : ∀ k, S' k = true ↔ S k = true ∨ k = c) (hc : c < 138 ∨ c = 200) (hc2 : 10 ≤ c → c < 138 → S 200 = true) (hSc : S c = false)
    (h5 : Len5 V') (hm : ∀ k, k < p.dc → dig V' p.bm k = if k = b then true else dig V p.bm k) (hi2 : ∀ k, k < p.ino → dig V' p.im k = dig V p.im k)
    (hp : ∀ k, S k = true → ptr V' x' k = ptr V x k) (hpc : ptr V' x' c = p.da + b) (ho : ∀ j y T k, j ≠ i → nd j = some (y, T) → T k = true → ptr V' y k = ptr V y k) : Inv p V' (updF nd i (some (x', S'))) := by
  have free : ∀ j y T k, nd j = some (y, T) → T k = true → ptr V y k ≠ p.da + b := fun j y T k hj hk he => by
    have := (h.map b hb).2 ⟨j, y, T, k, hj, hk, he⟩
    rw [hd] at this; cases this
  have get : ∀ j y T k, updF nd i (some (x', S')) j = some (y, T) → T k = true → (∃ y0 T0, nd j = some (y0, T0) ∧ T0 k = true ∧ ptr V' y k = ptr V y0 k) ∨ (j = i ∧ k = c ∧ ptr V' y k = p.da + b) := by
    intro j y T k hj hk
    by_cases hji : j = i
    · subst hji
      rw [updF_same] at hj
      cases hj
      rcases (hS k).1 hk with hk | rfl
      · exact .inl ⟨x, S, hi, hk, hp k hk⟩
      · exact .inr ⟨rfl, rfl, hpc⟩
    · rw [updF_other _ _ hji] at hj
      exact .inl ⟨y, T, hj, hk, ho j y T k hji hj hk⟩
  refine ⟨h5, ?_, ?_, ?_, ?_, ?_, ?_, ?_⟩
  · intro j y T hj
    by_cases hji : j = i
    · subst hji; rw [updF_same] at hj; cases hj; exact hf
    · rw [updF_other _ _ hji] at hj; exact h.fits j y T hj
  · intro j y T hj
    by_cases hji : j = i
    · subst hji; rw [updF_same] at hj; cases hj
      have hs := h.sok j x S hi
      refine ⟨fun k hk => ?_, fun k hk h10 => ?_⟩
      · rcases (hS k).1 hk with hk | rfl
        · exact hs.code k hk
        · exact hc
      · rcases (hS k).1 hk with hk | rfl
        · exact (hS 200).2 (.inl (hs.ind k hk h10))
        · rcases hc with hc | hc
          · exact (hS 200).2 (.inl (hc2 h10 hc))
          · exact (hS 200).2 (.inr hc.symm)
    · rw [updF_other _ _ hji] at hj; exact h.sok j y T hj
  · intro j y T hj
    by_cases hji : j = i
    · subst hji; exact h.lt j x S hi
    · rw [updF_other _ _ hji] at hj; exact h.lt j y T hj
  · intro j y T k hj hk
    rcases get j y T k hj hk with ⟨y0, T0, h1, h2, h3⟩ | ⟨_, _, h3⟩
    · rw [h3]; exact h.rng j y0 T0 k h1 h2
    · rw [h3]; omega
  · intro j y T k j' y' T' k' hj hk hj' hk' he
    rcases get j y T k hj hk with ⟨y0, T0, h1, h2, h3⟩ | ⟨h1, h2, h3⟩ <;> rcases get j' y' T' k' hj' hk' with ⟨y0', T0', h1', h2', h3'⟩ | ⟨h1', h2', h3'⟩
    · rw [h3, h3'] at he; exact h.inj _ _ _ _ _ _ _ _ h1 h2 h1' h2' he
    · rw [h3, h3'] at he; exact absurd he (free _ _ _ _ h1 h2)
    · rw [h3, h3'] at he; exact absurd he.symm (free _ _ _ _ h1' h2')
    · exact ⟨h1.trans h1'.symm, h2.trans h2'.symm⟩
  · intro k hk
    rw [hm k hk]
    by_cases hkb : k = b
    · subst hkb
      rw [if_pos rfl]
      exact ⟨fun _ => ⟨i, x', S', c, updF_same .., (hS c).2 (.inr rfl), hpc⟩, fun _ => rfl⟩
    · rw [if_neg hkb, h.map k hk]
      constructor
      · rintro ⟨j, y, T, l, hj, hl, he⟩
        by_cases hji : j = i
        · subst hji
          rw [hi] at hj; cases hj
          exact ⟨j, x', S', l, updF_same .., (hS l).2 (.inl hl), by rw [hp l hl]; exact he⟩
        · exact ⟨j, y, T, l, by rw [updF_other _ _ hji]; exact hj, hl, by rw [ho j y T l hji hj hl]; exact he⟩
      · rintro ⟨j, y, T, l, hj, hl, he⟩
        rcases get j y T l hj hl with ⟨y0, T0, h1, h2, h3⟩ | ⟨h1, h2, h3⟩
        · exact ⟨j, y0, T0, l, h1, h2, by rw [← h3]; exact he⟩
        · exact absurd (h3.symm.trans he) (by omega)
  · intro k hk
    rw [hi2 k hk, h.imap k hk]
    by_cases hki : k = i
    · subst hki; rw [updF_same, hi]; rfl
    · rw [updF_other _ _ hki]
/-- A block less. -/
theorem Inv.drop {p : Pl} {V V' : Nat → Bytes} {nd : NF} (h : Inv p V nd) {i b c : Nat} {x x' : Nd} {S S' : Nat → Bool} (hi : nd i = some (x, S)) (hSc : S c = true) (hb : ptr V x c = p.da + b)
    (hf : Fits x') (hS : ∀ k, S' k = true ↔ S k = true ∧ k ≠ c) (hc : c = 200 → ∀ k, S k = true → 10 ≤ k → k = 200)
    (h5 : Len5 V') (hm : ∀ k, k < p.dc → dig V' p.bm k = if k = b then false else dig V p.bm k) (hi2 : ∀ k, k < p.ino → dig V' p.im k = dig V p.im k)
    (hp : ∀ k, S' k = true → ptr V' x' k = ptr V x k) (ho : ∀ j y T k, j ≠ i → nd j = some (y, T) → T k = true → ptr V' y k = ptr V y k) : Inv p V' (updF nd i (some (x', S'))) := by
  have get : ∀ j y T k, updF nd i (some (x', S')) j = some (y, T) → T k = true → ∃ y0 T0, nd j = some (y0, T0) ∧ T0 k = true ∧ ptr V' y k = ptr V y0 k ∧ (j = i → k ≠ c) := by
    intro j y T k hj hk
    by_cases hji : j = i
    · subst hji
      rw [updF_same] at hj
      cases hj
      exact ⟨x, S, hi, ((hS k).1 hk).1, hp k hk, fun _ => ((hS k).1 hk).2⟩
    · rw [updF_other _ _ hji] at hj
      exact ⟨y, T, hj, hk, ho j y T k hji hj hk, fun hh => absurd hh hji⟩
  refine ⟨h5, ?_, ?_, ?_, ?_, ?_, ?_, ?_⟩
  · intro j y T hj
    by_cases hji : j = i
    · subst hji; rw [updF_same] at hj; cases hj; exact hf
    · rw [updF_other _ _ hji] at hj; exact h.fits j y T hj
  · intro j y T hj
    by_cases hji : j = i
    · subst hji; rw [updF_same] at hj; cases hj
      have hs := h.sok j x S hi
      refine ⟨fun k hk => hs.code k ((hS k).1 hk).1, fun k hk h10 => (hS 200).2 ⟨hs.ind k ((hS k).1 hk).1 h10, fun hcc => ?_⟩⟩
      have h1 := (hS k).1 hk
      have := hc hcc.symm k h1.1 h10
      exact h1.2 (this.trans hcc)
    · rw [updF_other _ _ hji] at hj; exact h.sok j y T hj
  · intro j y T hj
    by_cases hji : j = i
    · subst hji; exact h.lt j x S hi
    · rw [updF_other _ _ hji] at hj; exact h.lt j y T hj
  · intro j y T k hj hk
    obtain ⟨y0, T0, h1, h2, h3, _⟩ := get j y T k hj hk
    rw [h3]; exact h.rng j y0 T0 k h1 h2
  · intro j y T k j' y' T' k' hj hk hj' hk' he
    obtain ⟨y0, T0, h1, h2, h3, _⟩ := get j y T k hj hk
    obtain ⟨y0', T0', h1', h2', h3', _⟩ := get j' y' T' k' hj' hk'
    rw [h3, h3'] at he; exact h.inj _ _ _ _ _ _ _ _ h1 h2 h1' h2' he
  · intro k hk
    rw [hm k hk]
    by_cases hkb : k = b
    · subst hkb
      rw [if_pos rfl]
      refine ⟨fun hh => (by cases hh), ?_⟩
      rintro ⟨j, y, T, l, hj, hl, he⟩
      obtain ⟨y0, T0, h1, h2, h3, h4⟩ := get j y T l hj hl
      have := h.inj j y0 T0 l i x S c h1 h2 hi hSc (by rw [← h3, he, hb])
      exact absurd this.2 (h4 this.1)
    · rw [if_neg hkb, h.map k hk]
      constructor
      · rintro ⟨j, y, T, l, hj, hl, he⟩
        by_cases hji : j = i
        · subst hji
          rw [hi] at hj; cases hj
          have hlc : l ≠ c := fun hh => hkb (by subst hh; omega)
          have hl2 := (hS l).2 ⟨hl, hlc⟩
          exact ⟨j, x', S', l, updF_same .., hl2, by rw [hp l hl2]; exact he⟩
        · exact ⟨j, y, T, l, by rw [updF_other _ _ hji]; exact hj, hl, by rw [ho j y T l hji hj hl]; exact he⟩
      · rintro ⟨j, y, T, l, hj, hl, he⟩
        obtain ⟨y0, T0, h1, h2, h3, _⟩ := get j y T l hj hl
        exact ⟨j, y0, T0, l, h1, h2, by rw [← h3]; exact he⟩
  · intro k hk
    rw [hi2 k hk, h.imap k hk]
    by_cases hki : k = i
    · subst hki; rw [updF_same, hi]; rfl
    · rw [updF_other _ _ hki]
/-- Nothing is taken or given; the pointers are what they were. -/
theorem Inv.same {p : Pl} {V V' : Nat → Bytes} {nd nd' : NF} (h : Inv p V nd) (h5 : Len5 V') (hm : ∀ k, k < p.dc → dig V' p.bm k = dig V p.bm k) (hi2 : ∀ k, k < p.ino → dig V' p.im k = dig V p.im k)
    (hn : ∀ j, (nd' j = none ∧ nd j = none) ∨ ∃ y y' T, nd j = some (y, T) ∧ nd' j = some (y', T) ∧ Fits y' ∧ ∀ k, T k = true → ptr V' y' k = ptr V y k) : Inv p V' nd' := by
  have get : ∀ j y T, nd' j = some (y, T) → ∃ y0, nd j = some (y0, T) ∧ Fits y ∧ ∀ k, T k = true → ptr V' y k = ptr V y0 k := by
    intro j y T hj
    rcases hn j with ⟨h1, _⟩ | ⟨y0, y', T', h1, h2, h3, h4⟩
    · rw [h1] at hj; cases hj
    · rw [h2] at hj; cases hj; exact ⟨y0, h1, h3, h4⟩
  refine ⟨h5, ?_, ?_, ?_, ?_, ?_, ?_, ?_⟩
  · intro j y T hj; obtain ⟨y0, h1, h2, h3⟩ := get j y T hj; exact h2
  · intro j y T hj; obtain ⟨y0, h1, h2, h3⟩ := get j y T hj; exact h.sok _ _ _ h1
  · intro j y T hj; obtain ⟨y0, h1, h2, h3⟩ := get j y T hj; exact h.lt _ _ _ h1
  · intro j y T k hj hk; obtain ⟨y0, h1, h2, h3⟩ := get j y T hj; rw [h3 k hk]; exact h.rng _ _ _ _ h1 hk
  · intro j y T k j' y' T' k' hj hk hj' hk' he
    obtain ⟨y0, h1, h2, h3⟩ := get j y T hj
    obtain ⟨y0', h1', h2', h3'⟩ := get j' y' T' hj'
    rw [h3 k hk, h3' k' hk'] at he
    exact h.inj _ _ _ _ _ _ _ _ h1 hk h1' hk' he
  · intro k hk
    rw [hm k hk, h.map k hk]
    constructor
    · rintro ⟨j, y, T, l, hj, hl, he⟩
      rcases hn j with ⟨_, h2⟩ | ⟨y0, y', T', h1, h2, h3, h4⟩
      · rw [h2] at hj; cases hj
      · rw [h1] at hj; cases hj; exact ⟨j, y', T, l, h2, hl, by rw [h4 l hl]; exact he⟩
    · rintro ⟨j, y, T, l, hj, hl, he⟩
      obtain ⟨y0, h1, h2, h3⟩ := get j y T hj
      exact ⟨j, y0, T, l, h1, hl, by rw [← h3 l hl]; exact he⟩
  · intro k hk
    rw [hi2 k hk, h.imap k hk]
    rcases hn k with ⟨h1, h2⟩ | ⟨y0, y', T', h1, h2, h3, h4⟩
    · rw [h1, h2]
    · rw [h1, h2]; rfl
/-- What a change of inode i leaves. -/
structure Kp (p : Pl) (V V' : Nat → Bytes) (nd : NF) (i : Nat) : Prop where
  lo : ∀ b, b < p.bm → V' b = V b
  tab : ∀ b, p.tb ≤ b → b < p.da → V' b = V b
  oth : ∀ j y T k, j ≠ i → nd j = some (y, T) → T k = true → V' (ptr V y k) = V (ptr V y k)
theorem Kp.refl (p : Pl) (V : Nat → Bytes) (nd : NF) (i : Nat) : Kp p V V nd i := ⟨fun _ _ => rfl, fun _ _ _ => rfl, fun _ _ _ _ _ _ _ => rfl⟩
theorem Kp.ptr {p : Pl} {V V' : Nat → Bytes} {nd : NF} {i : Nat} (h : Kp p V V' nd i) {j : Nat} {y : Nd} {T : Nat → Bool} {k : Nat} (hs : SOk T) (hji : j ≠ i) (hj : nd j = some (y, T)) (hk : T k = true) : ptr V' y k = ptr V y k :=
  ptrs_congr hs (fun h2 => by have := h.oth j y T 200 hji hj h2; rwa [ptr_200] at this) hk
theorem Kp.trans {p : Pl} {V V' V'' : Nat → Bytes} {nd nd' : NF} {i : Nat} (h : Kp p V V' nd i) (h' : Kp p V' V'' nd' i) (hs : ∀ j y T, nd j = some (y, T) → SOk T) (hn : ∀ j, j ≠ i → nd' j = nd j) : Kp p V V'' nd i := by
  refine ⟨fun b hb => (h'.lo b hb).trans (h.lo b hb), fun b h1 h2 => (h'.tab b h1 h2).trans (h.tab b h1 h2), fun j y T k hji hj hk => ?_⟩
  have h1 := h.oth j y T k hji hj hk
  have h2 := h.ptr (hs j y T hj) hji hj hk
  have h3 := h'.oth j y T k hji (by rw [hn j hji]; exact hj) hk
  rw [h2] at h3
  exact h3.trans h1
theorem Kp.ldN {p : Pl} {V V' : Nat → Bytes} {nd : NF} {i : Nat} (h : Kp p V V' nd i) (ht : p.tb + (p.ino + 7) / 8 ≤ p.da) {j : Nat} (hj : j < p.ino) : ldN p V' j = ldN p V j := by
  unfold Go.Proofs.YtedmihapieleaaaGreat.ldN
  rw [h.tab _ (by omega) (by omega)]
theorem Kp.imap {p : Pl} {V V' : Nat → Bytes} {nd : NF} {i : Nat} (h : Kp p V V' nd i) (hb : p.im + 1 ≤ p.bm) (hi : p.ino ≤ 4096) {j : Nat} (hj : j < p.ino) : dig V' p.im j = dig V p.im j := by
  unfold dig
  rw [h.lo _ (by omega)]

/-! ### what was written in a transaction -/
structure Dk (p : Pl) (D : List Nat) : Prop where
  nd : D.Nodup
  lo : ∀ x ∈ D, 245 ≤ x
  hi : ∀ x ∈ D, x < p.n
/-- How many of them are no maps. -/
def wt (p : Pl) (D : List Nat) : Nat := (D.filter fun x => decide (p.tb ≤ x)).length
/-- There is room for so many blocks more. -/
def Rm (p : Pl) (D : List Nat) (c : Nat) : Prop := p.n ≤ 304 ∨ (p.tb - 245) + wt p D + c ≤ 60
theorem Dk.nil (p : Pl) : Dk p [] := ⟨List.nodup_nil, (fun x hx => by cases hx), (fun x hx => by cases hx)⟩
theorem Rm.mono {p : Pl} {D D' : List Nat} {c c' : Nat} (h : Rm p D c) (hw : wt p D' + c' ≤ wt p D + c) : Rm p D' c' := by
  unfold Rm at h ⊢
  rcases h with h | h
  · exact .inl h
  · exact .inr (by omega)
theorem Dk.room {p : Pl} {D : List Nat} {c : Nat} (h : Dk p D) (hr : Rm p D (c + 1)) : Room D := by
  unfold Room
  rcases hr with hr | hr
  · have := nodup_bound 245 59 D h.nd fun x hx => ⟨h.lo x hx, by have := h.hi x hx; omega⟩
    omega
  · have h1 : D.length = wt p D + (D.filter fun x => !decide (p.tb ≤ x)).length := by
      unfold wt
      induction D with
      | nil => rfl
      | cons a D ih =>
        have := ih ⟨(List.nodup_cons.1 h.nd).2, fun x hx => h.lo x (List.mem_cons_of_mem _ hx), fun x hx => h.hi x (List.mem_cons_of_mem _ hx)⟩ (by
          unfold wt at hr ⊢
          simp only [List.filter_cons] at hr
          split at hr
          · simp only [List.length_cons] at hr; omega
          · exact hr)
        simp only [List.filter_cons, List.length_cons]
        cases hd : decide (p.tb ≤ a)
        · simp; omega
        · simp; omega
    have h2 := nodup_bound 245 (p.tb - 245) (D.filter fun x => !decide (p.tb ≤ x)) (h.nd.filter _) fun x hx => by
      rw [List.mem_filter] at hx
      have h3 := h.lo x hx.1
      have h4 : ¬ p.tb ≤ x := by simpa using hx.2
      omega
    omega
theorem Dk.ins {p : Pl} {D : List Nat} (h : Dk p D) {k : Nat} (h1 : 245 ≤ k) (h2 : k < p.n) : Dk p (insD D k) := by
  unfold insD
  split
  · exact h
  · rename_i hk
    refine ⟨?_, fun x hx => ?_, fun x hx => ?_⟩
    · rw [List.nodup_append]
      refine ⟨h.nd, by simp, fun a ha b hb => ?_⟩
      simp only [List.mem_singleton] at hb
      subst hb
      exact fun hh => hk (hh ▸ ha)
    · rcases List.mem_append.1 hx with hx | hx
      · exact h.lo x hx
      · rw [List.mem_singleton] at hx; omega
    · rcases List.mem_append.1 hx with hx | hx
      · exact h.hi x hx
      · rw [List.mem_singleton] at hx; omega
theorem wt_ins (p : Pl) (D : List Nat) (k : Nat) : wt p (insD D k) ≤ wt p D + 1 ∧ (k < p.tb → wt p (insD D k) = wt p D) ∧ (k ∈ D → wt p (insD D k) = wt p D) := by
  unfold insD wt
  split
  · rename_i hk; exact ⟨by omega, fun _ => rfl, fun _ => rfl⟩
  · rename_i hk
    rw [List.filter_append, List.length_append]
    refine ⟨by have := List.length_filter_le (fun x => decide (p.tb ≤ x)) [k]; simp only [List.length_singleton] at this; omega, fun h => ?_, fun h => absurd h hk⟩
    rw [List.filter_cons, if_neg (by simp; omega)]
    rfl
theorem mem_insD {D : List Nat} {k x : Nat} : x ∈ insD D k ↔ x ∈ D ∨ x = k := by
  unfold insD
  split
  · constructor
    · exact .inl
    · rintro (h | rfl)
      · exact h
      · assumption
  · simp
/-! ### files -/
abbrev FM := Nat → Option (Nat × Bytes)
def dat (n : Nat) : Nat := (n + 511) / 512
def has (n : Nat) : Nat := if dat n ≤ 10 then dat n else dat n + 1
def updM (F : FM) (i : Nat) (y : Option (Nat × Bytes)) : FM := fun j => if j = i then y else F j
theorem updM_same (F : FM) (i : Nat) (y : Option (Nat × Bytes)) : updM F i y i = y := if_pos rfl
theorem updM_other (F : FM) {i j : Nat} (y : Option (Nat × Bytes)) (h : j ≠ i) : updM F i y j = F j := if_neg h
def hasO : Option (Nat × Bytes) → Nat
  | none => 0
  | some f => has f.2.length
/-- How many blocks all files have. -/
def tot (F : FM) : Nat → Nat
  | 0 => 0
  | n + 1 => tot F n + hasO (F n)
theorem tot_upd (F : FM) (i : Nat) (y : Option (Nat × Bytes)) : ∀ n, tot (updM F i y) n + (if i < n then hasO (F i) else 0) = tot F n + (if i < n then hasO y else 0)
  | 0 => rfl
  | n + 1 => by
    have ih := tot_upd F i y n
    unfold tot
    by_cases h : n = i
    · subst h
      rw [updM_same]
      rw [if_neg (by omega), if_neg (by omega)] at ih
      rw [if_pos (by omega), if_pos (by omega)]
      omega
    · rw [updM_other _ _ h]
      by_cases h2 : i < n
      · rw [if_pos h2, if_pos h2] at ih
        rw [if_pos (by omega), if_pos (by omega)]
        omega
      · rw [if_neg h2, if_neg h2] at ih
        rw [if_neg (by omega), if_neg (by omega)]
        omega
theorem tot_upd' (F : FM) {i n : Nat} (h : i < n) (y : Option (Nat × Bytes)) : tot (updM F i y) n + hasO (F i) = tot F n + hasO y := by
  have := tot_upd F i y n
  rwa [if_pos h, if_pos h] at this
def ndOf (p : Pl) (V : Nat → Bytes) (F : FM) : NF := fun i => (F i).map fun f => (ldN p V i, stdS (dat f.2.length))
structure FOk (V : Nat → Bytes) (x : Nd) (f : Nat × Bytes) : Prop where
  kd : x.kd = f.1
  k12 : f.1 = 1 ∨ f.1 = 2
  sz : x.sz = f.2.length
  big : f.2.length ≤ 70656
  byt : ∀ q, q < f.2.length → fb V x q = f.2.getD q 0
/-- What lies on the device is these files. -/
structure Rep (p : Pl) (V : Nat → Bytes) (F : FM) : Prop where
  inv : Inv p V (ndOf p V F)
  ok : ∀ i f, F i = some f → FOk V (ldN p V i) f
  cn : cnt V p.bm p.dc = tot F p.ino
  root : (F 0).isSome = true
theorem Rep.lt {p : Pl} {V : Nat → Bytes} {F : FM} (h : Rep p V F) {i : Nat} {f : Nat × Bytes} (hi : F i = some f) : i < p.ino :=
  h.inv.lt i (ldN p V i) (stdS (dat f.2.length)) (by unfold ndOf; rw [hi]; rfl)
theorem stdS_ok {m : Nat} (h : m ≤ 138) : SOk (stdS m) := by
  refine ⟨fun k hk => ?_, fun k hk h10 => ?_⟩
  · rcases stdS_iff.1 hk with h1 | ⟨h1, _⟩
    · exact .inl (by omega)
    · exact .inr h1
  · rcases stdS_iff.1 hk with h1 | ⟨h1, h2⟩
    · exact stdS_iff.2 (.inr ⟨rfl, by omega⟩)
    · exact stdS_iff.2 (.inr ⟨rfl, h2⟩)
theorem dat_le {n : Nat} (h : n ≤ 70656) : dat n ≤ 138 := by unfold dat; omega
theorem fb_congr {V V' : Nat → Bytes} {x y : Nd} {q : Nat} (hp : ptr V' y (q / 512) = ptr V x (q / 512)) (hv : V' (ptr V x (q / 512)) = V (ptr V x (q / 512))) : fb V' y q = fb V x q := by
  unfold fb
  rw [hp, hv]
/-- Inode i was changed, and is laid into the table. -/
theorem Rep.save {p : Pl} {V V' : Nat → Bytes} {F : FM} (h : Rep p V F) (ho : PlOk p) {i : Nat} {x : Nd} {f : Nat × Bytes} (hi : i < p.ino) (hr : F i ≠ none ∨ i ≠ 0)
    (hn : Inv p V' (updF (ndOf p V F) i (some (x, stdS (dat f.2.length))))) (hk : ∀ j g, j ≠ i → F j = some g → ldN p V' j = ldN p V j ∧ ∀ k, stdS (dat g.2.length) k = true → V' (ptr V (ldN p V j) k) = V (ptr V (ldN p V j) k))
    (hf : FOk V' x f) (hc : cnt V' p.bm p.dc + hasO (F i) = cnt V p.bm p.dc + has f.2.length) : Rep p (svV p V' i x) (updM F i (some f)) := by
  have htab := ho.tab
  have htbl := ho.tbl
  have hap := ho.apart
  have hi2 := ho.i2
  have hfx : Fits x := hn.fits i x _ (updF_same ..)
  have hV : ∀ b, p.da ≤ b ∨ b < p.tb → svV p V' i x b = V' b := fun b hb => wr_other _ _ (by omega)
  have hld : ∀ j, j ≠ i → ldN p (svV p V' i x) j = ldN p V' j := fun j hj => ldN_svV_other hn.len hj hfx
  have hnd : ∀ j, ndOf p (svV p V' i x) (updM F i (some f)) j = updF (ndOf p V F) i (some (x, stdS (dat f.2.length))) j := by
    intro j
    by_cases hj : j = i
    · subst hj
      rw [updF_same]
      unfold ndOf
      rw [updM_same]
      show some (_, _) = _
      rw [ldN_svV hn.len hfx]
    · rw [updF_other _ _ hj]
      unfold ndOf
      rw [updM_other _ _ hj, hld j hj]
      cases hF : F j with
      | none => rfl
      | some g => rw [(hk j g hj hF).1]
  have hdig : ∀ k, k < p.dc → dig (svV p V' i x) p.bm k = dig V' p.bm k := fun k hk' => by unfold dig; rw [hV _ (by omega)]
  refine ⟨?_, ?_, ?_, ?_⟩
  · refine hn.same (svV_len hn.len i x) hdig (fun k hk' => by unfold dig; rw [hV _ (by omega)]) fun j => ?_
    rw [hnd j]
    cases hj : updF (ndOf p V F) i (some (x, stdS (dat f.2.length))) j with
    | none => exact .inl ⟨rfl, rfl⟩
    | some y =>
      obtain ⟨y, T⟩ := y
      refine .inr ⟨y, y, T, rfl, rfl, hn.fits _ _ _ hj, fun k hk' => ptrs_congr (hn.sok _ _ _ hj) (fun h2 => hV _ ?_) hk'⟩
      have := hn.rng _ _ _ 200 hj h2
      rw [ptr_200] at this
      exact .inl this.1
  · intro j g hj
    by_cases hji : j = i
    · subst hji
      rw [updM_same] at hj
      cases hj
      rw [ldN_svV hn.len hfx]
      refine ⟨hf.kd, hf.k12, hf.sz, hf.big, fun q hq => ?_⟩
      rw [← hf.byt q hq]
      have hS : stdS (dat f.2.length) (q / 512) = true := stdS_iff.2 (.inl (by unfold dat; omega))
      have hp : ptr (svV p V' j x) x (q / 512) = ptr V' x (q / 512) := ptrs_congr (hn.sok _ _ _ (updF_same ..)) (fun h2 => hV _ (by
        have := hn.rng _ _ _ 200 (updF_same ..) h2
        rw [ptr_200] at this
        exact .inl this.1)) hS
      exact fb_congr hp (hV _ (.inl (hn.rng _ _ _ _ (updF_same ..) hS).1))
    · rw [updM_other _ _ hji] at hj
      have hj' := h.ok j g hj
      obtain ⟨h1, h2⟩ := hk j g hji hj
      rw [hld j hji, h1]
      refine ⟨hj'.kd, hj'.k12, hj'.sz, hj'.big, fun q hq => ?_⟩
      rw [← hj'.byt q hq]
      have hS : stdS (dat g.2.length) (q / 512) = true := stdS_iff.2 (.inl (by unfold dat; omega))
      have hnj : ndOf p V F j = some (ldN p V j, stdS (dat g.2.length)) := by unfold ndOf; rw [hj]; rfl
      have hr1 := fun k hk' => h.inv.rng j (ldN p V j) (stdS (dat g.2.length)) k hnj hk'
      have hp : ptr (svV p V' i x) (ldN p V j) (q / 512) = ptr V (ldN p V j) (q / 512) := ptrs_congr (stdS_ok (dat_le hj'.big)) (fun h3 => by
        have h4 := h2 200 h3
        have h5 := hr1 200 h3
        rw [ptr_200] at h4 h5
        rw [hV _ (.inl h5.1), h4]) hS
      exact fb_congr hp (by rw [hV _ (.inl (hr1 _ hS).1)]; exact h2 _ hS)
  · have h1 : cnt (svV p V' i x) p.bm p.dc = cnt V' p.bm p.dc := by
      unfold cnt
      rw [List.filter_congr]
      intro k hk'
      exact hdig k (List.mem_range.1 hk')
    have h2 := tot_upd' F hi (some f)
    rw [h1]
    have h3 := h.cn
    have : hasO (some f) = has f.2.length := rfl
    omega
  · by_cases h0 : 0 = i
    · rw [← h0, updM_same]; rfl
    · rw [updM_other _ _ h0]; exact h.root
/-- A file's bytes were written where it has them. -/
theorem Rep.laid {p : Pl} {V V' : Nat → Bytes} {F : FM} (h : Rep p V F) (ho : PlOk p) {i : Nat} {f : Nat × Bytes} {bs : Bytes} (hi : F i = some f) (hl : bs.length = f.2.length)
    (hn : Inv p V' (ndOf p V F)) (hk : Kp p V V' (ndOf p V F) i) (hm : ∀ k, k < p.dc → dig V' p.bm k = dig V p.bm k) (hb : ∀ q, q < bs.length → fb V' (ldN p V i) q = bs.getD q 0) : Rep p V' (updM F i (some (f.1, bs))) := by
  have htab := ho.tab
  have hld : ∀ j, j < p.ino → ldN p V' j = ldN p V j := fun j hj => hk.ldN htab hj
  have hnd : ∀ j, ndOf p V' (updM F i (some (f.1, bs))) j = ndOf p V F j := by
    intro j
    by_cases hj : j = i
    · subst hj
      unfold ndOf
      rw [updM_same, hi]
      show some (_, _) = some (_, _)
      rw [hld j (h.lt hi), hl]
    · unfold ndOf
      rw [updM_other _ _ hj]
      cases hF : F j with
      | none => rfl
      | some g =>
        show some (_, _) = some (_, _)
        rw [hld j (h.lt hF)]
  refine ⟨?_, ?_, ?_, ?_⟩
  · refine hn.same hn.len (fun _ _ => rfl) (fun _ _ => rfl) fun j => ?_
    rw [hnd j]
    cases hj : ndOf p V F j with
    | none => exact .inl ⟨rfl, rfl⟩
    | some y =>
      obtain ⟨y, T⟩ := y
      exact .inr ⟨y, y, T, rfl, rfl, hn.fits _ _ _ hj, fun _ _ => rfl⟩
  · intro j g hj
    by_cases hji : j = i
    · subst hji
      rw [updM_same] at hj
      cases hj
      have hj' := h.ok j f hi
      rw [hld j (h.lt hi)]
      exact ⟨hj'.kd, hj'.k12, hj'.sz.trans hl.symm, by show bs.length ≤ 70656; rw [hl]; exact hj'.big, hb⟩
    · rw [updM_other _ _ hji] at hj
      have hj' := h.ok j g hj
      rw [hld j (h.lt hj)]
      refine ⟨hj'.kd, hj'.k12, hj'.sz, hj'.big, fun q hq => ?_⟩
      rw [← hj'.byt q hq]
      have hS : stdS (dat g.2.length) (q / 512) = true := stdS_iff.2 (.inl (by unfold dat; omega))
      have hnj : ndOf p V F j = some (ldN p V j, stdS (dat g.2.length)) := by unfold ndOf; rw [hj]; rfl
      exact fb_congr (hk.ptr (stdS_ok (dat_le hj'.big)) hji hnj hS) (hk.oth j _ _ _ hji hnj hS)
  · have h1 : cnt V' p.bm p.dc = cnt V p.bm p.dc := by
      unfold cnt
      rw [List.filter_congr]
      intro k hk'
      exact hm k (List.mem_range.1 hk')
    have h2 := tot_upd' F (h.lt hi) (some (f.1, bs))
    rw [h1, h.cn]
    rw [hi] at h2
    have h3 : tot (updM F i (some (f.1, bs))) p.ino + has f.2.length = tot F p.ino + has bs.length := h2
    rw [hl] at h3
    omega
  · by_cases h0 : 0 = i
    · rw [← h0, updM_same]; rfl
    · rw [updM_other _ _ h0]; exact h.root
end Go.Proofs.YtedmihapieleaaaGreat
