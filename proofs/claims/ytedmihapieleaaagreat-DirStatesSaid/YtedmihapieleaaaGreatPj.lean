/- Files as numbers of blocks: a block more, a block less, bytes laid. Plain. -/
import Derived.Test.YtedmihapieleaaaGreatPi
set_option linter.unusedVariables false
set_option linter.unusedSimpArgs false
namespace Go.Proofs.YtedmihapieleaaaGreat
open Go

theorem cntB_true {f : Nat → Bool} {b : Nat} (h : f b = false) : ∀ n, cntB (setF f b true) n = cntB f n + (if b < n then 1 else 0)
  | 0 => rfl
  | n + 1 => by
    have ih := cntB_true h n
    unfold cntB at ih ⊢
    rw [List.range_succ, List.filter_append, List.filter_append, List.length_append, List.length_append, ih]
    by_cases hb : b = n
    · subst hb
      have h1 : setF f b true b = true := if_pos rfl
      simp [h, h1]
    · have h1 : setF f b true n = f n := if_neg (fun hh => hb hh.symm)
      have h2 : [n].filter (setF f b true) = [n].filter f := by simp only [List.filter_cons, List.filter_nil, h1]
      rw [h2]
      by_cases h2 : b < n
      · rw [if_pos h2, if_pos (by omega)]; omega
      · rw [if_neg h2, if_neg (by omega)]; omega
theorem cntB_false {f : Nat → Bool} {b : Nat} (h : f b = true) : ∀ n, cntB (setF f b false) n + (if b < n then 1 else 0) = cntB f n
  | 0 => rfl
  | n + 1 => by
    have ih := cntB_false h n
    unfold cntB at ih ⊢
    rw [List.range_succ, List.filter_append, List.filter_append, List.length_append, List.length_append, ← ih]
    by_cases hb : b = n
    · subst hb
      have h1 : setF f b false b = false := if_pos rfl
      simp [h, h1]
    · have h1 : setF f b false n = f n := if_neg (fun hh => hb hh.symm)
      have h2 : [n].filter (setF f b false) = [n].filter f := by simp only [List.filter_cons, List.filter_nil, h1]
      rw [h2]
      by_cases h2 : b < n
      · rw [if_pos h2, if_pos (by omega)]; omega
      · rw [if_neg h2, if_neg (by omega)]; omega
theorem cnt_true {V V' : Nat → Bytes} {first n b : Nat} (hb : b < n) (h0 : dig V first b = false) (h : ∀ k, k < n → dig V' first k = if k = b then true else dig V first k) : cnt V' first n = cnt V first n + 1 := by
  have h1 := cntB_true (f := fun k => dig V first k) h0 n
  rw [if_pos hb] at h1
  rw [cnt_cntB (f := setF (fun k => dig V first k) b true) (fun k hk => h k hk), h1]
  rfl
theorem cnt_false {V V' : Nat → Bytes} {first n b : Nat} (hb : b < n) (h0 : dig V first b = true) (h : ∀ k, k < n → dig V' first k = if k = b then false else dig V first k) : cnt V' first n + 1 = cnt V first n := by
  have h1 := cntB_false (f := fun k => dig V first k) h0 n
  rw [if_pos hb] at h1
  rw [cnt_cntB (f := setF (fun k => dig V first k) b false) (fun k hk => h k hk), h1]
  rfl
theorem cnt_same {V V' : Nat → Bytes} {first n : Nat} (h : ∀ k, k < n → dig V' first k = dig V first k) : cnt V' first n = cnt V first n :=
  cnt_cntB (f := fun k => dig V first k) h
theorem cnt_full {V : Nat → Bytes} {first n : Nat} (h : ∀ k, k < n → dig V first k = true) : cnt V first n = n := by
  unfold cnt
  rw [List.filter_eq_self.2 (fun k hk => h k (List.mem_range.1 hk)), List.length_range]
theorem zeros_getD (i : Nat) : zeros.getD i 0 = 0 := by
  unfold zeros
  rw [List.getD_eq_getElem?_getD, List.getElem?_replicate]
  split <;> rfl

/-! ### a block taken: its digit is set, and it is noughts -/
def frV (p : Pl) (V : Nat → Bytes) (b : Nat) : Nat → Bytes := wr (setD V p.bm b true) (p.da + b) zeros
theorem frV_new (p : Pl) (V : Nat → Bytes) (b : Nat) : frV p V b (p.da + b) = zeros := wr_same ..
theorem frV_other {p : Pl} {V : Nat → Bytes} {b v : Nat} (h1 : v ≠ p.da + b) (h2 : v ≠ p.bm + b / 4096) : frV p V b v = V v := by
  unfold frV
  rw [wr_other _ _ h1]
  exact wr_other _ _ h2
theorem frV_len {p : Pl} {V : Nat → Bytes} (h : Len5 V) (b : Nat) : Len5 (frV p V b) := wr_len (setD_len h _ _ _) _ zeros_length
theorem PlOk.mapAt {p : Pl} (ho : PlOk p) {b : Nat} (hb : b < p.dc) : p.bm + b / 4096 < p.tb := by
  have := ho.tbl; omega
theorem PlOk.tbda {p : Pl} (ho : PlOk p) : p.tb + 1 ≤ p.da := by
  have := ho.tab; have := ho.i1; omega
theorem frV_dig {p : Pl} {V : Nat → Bytes} (ho : PlOk p) (h : Len5 V) {b k : Nat} (hb : b < p.dc) (hk : k < p.dc) : dig (frV p V b) p.bm k = if k = b then true else dig V p.bm k := by
  have h1 := ho.mapAt hk
  have h2 := ho.tbda
  rw [← dig_setD h]
  unfold dig frV
  rw [wr_other _ _ (by omega)]
theorem frV_imap {p : Pl} {V : Nat → Bytes} (ho : PlOk p) {b k : Nat} (hb : b < p.dc) (hk : k < p.ino) : dig (frV p V b) p.im k = dig V p.im k := by
  have h1 := ho.mapAt hb
  have h2 := ho.tbda
  have h3 := ho.apart
  have h4 := ho.i2
  unfold dig
  rw [frV_other (by omega) (by omega)]
/-- A block that is free is nobody's. -/
theorem Inv.free {p : Pl} {V : Nat → Bytes} {nd : NF} (h : Inv p V nd) {b : Nat} (hb : b < p.dc) (hd : dig V p.bm b = false) {j : Nat} {y : Nd} {T : Nat → Bool} {k : Nat} (hj : nd j = some (y, T)) (hk : T k = true) : ptr V y k ≠ p.da + b := fun he => by
  have := (h.map b hb).2 ⟨j, y, T, k, hj, hk, he⟩
  rw [hd] at this; cases this
theorem frV_held {p : Pl} {V : Nat → Bytes} {nd : NF} (h : Inv p V nd) (ho : PlOk p) {b : Nat} (hb : b < p.dc) (hd : dig V p.bm b = false) {j : Nat} {y : Nd} {T : Nat → Bool} {k : Nat} (hj : nd j = some (y, T)) (hk : T k = true) : frV p V b (ptr V y k) = V (ptr V y k) := by
  have h1 := ho.mapAt hb
  have h2 := ho.tbda
  have h3 := h.rng j y T k hj hk
  exact frV_other (h.free hb hd hj hk) (by omega)
theorem frV_ptr {p : Pl} {V : Nat → Bytes} {nd : NF} (h : Inv p V nd) (ho : PlOk p) {b : Nat} (hb : b < p.dc) (hd : dig V p.bm b = false) {j : Nat} {y : Nd} {T : Nat → Bool} {k : Nat} (hj : nd j = some (y, T)) (hk : T k = true) : ptr (frV p V b) y k = ptr V y k :=
  ptrs_congr (h.sok j y T hj) (fun h2 => by have := frV_held h ho hb hd hj h2; rwa [ptr_200] at this) hk
theorem frV_kp {p : Pl} {V : Nat → Bytes} {nd : NF} (h : Inv p V nd) (ho : PlOk p) {b : Nat} (hb : b < p.dc) (hd : dig V p.bm b = false) (i : Nat) : Kp p V (frV p V b) nd i := by
  have h1 := ho.mapAt hb
  have h2 := ho.tbda
  exact ⟨fun v hv => frV_other (by omega) (by omega), fun v hv1 hv2 => frV_other (by omega) (by omega), fun j y T k _ hj hk => frV_held h ho hb hd hj hk⟩
theorem getD_set_same {l : List Nat} {k v : Nat} (h : k < l.length) : (l.set k v).getD k 0 = v := by
  rw [List.getD_eq_getElem?_getD, List.getElem?_set_self h]; rfl
theorem getD_set_other {l : List Nat} {k j v : Nat} (h : k ≠ j) : (l.set k v).getD j 0 = l.getD j 0 := by
  rw [List.getD_eq_getElem?_getD, List.getElem?_set_ne h, List.getD_eq_getElem?_getD]
theorem Fits.set {x : Nd} (h : Fits x) {k v : Nat} (hv : v < 4294967296) : Fits ⟨x.kd, x.sz, x.bl.set k v⟩ := by
  refine ⟨by simp [h.bl], fun u hu => ?_⟩
  simp only [Nd.nums, List.mem_cons] at hu
  rcases hu with rfl | rfl | hu
  · exact h.lt _ (by simp [Nd.nums])
  · exact h.lt _ (by simp [Nd.nums])
  · rcases List.mem_or_eq_of_mem_set hu with hu | rfl
    · exact h.lt _ (by simp [Nd.nums, hu])
    · exact hv
/-- What a step of one inode's blocks does. -/
structure Stp (p : Pl) (V V' : Nat → Bytes) (nd : NF) (i : Nat) (x x' : Nd) (S S' : Nat → Bool) : Prop where
  inv : Inv p V' (updF nd i (some (x', S')))
  kp : Kp p V V' nd i
  kd : x'.kd = x.kd
  sz : x'.sz = x.sz
  ptrs : ∀ l, S l = true → S' l = true → ptr V' x' l = ptr V x l
  byt : ∀ l, l ≠ 200 → S l = true → S' l = true → V' (ptr V x l) = V (ptr V x l)
theorem updF_updF (nd : NF) (i : Nat) (y z : Option (Nd × (Nat → Bool))) : updF (updF nd i y) i z = updF nd i z := by
  funext j
  unfold updF
  split <;> rfl
theorem Stp.trans {p : Pl} {V V1 V2 : Nat → Bytes} {nd : NF} {i : Nat} {x x1 x2 : Nd} {S S1 S2 : Nat → Bool} (h0 : Inv p V nd) (h : Stp p V V1 nd i x x1 S S1) (h' : Stp p V1 V2 (updF nd i (some (x1, S1))) i x1 x2 S1 S2)
    (hS : ∀ l, S l = true → S2 l = true → S1 l = true) : Stp p V V2 nd i x x2 S S2 := by
  refine ⟨?_, ?_, h'.kd.trans h.kd, h'.sz.trans h.sz, fun l h1 h2 => ?_, fun l hl h1 h2 => ?_⟩
  · have := h'.inv
    rwa [updF_updF] at this
  · exact h.kp.trans h'.kp h0.sok (fun j hj => updF_other _ _ hj)
  · rw [h'.ptrs l (hS l h1 h2) h2, h.ptrs l h1 (hS l h1 h2)]
  · have h3 := h'.byt l hl (hS l h1 h2) h2
    rw [h.ptrs l h1 (hS l h1 h2)] at h3
    rw [h3, h.byt l hl h1 (hS l h1 h2)]
theorem Stp.fb {p : Pl} {V V' : Nat → Bytes} {nd : NF} {i : Nat} {x x' : Nd} {S S' : Nat → Bool} (h : Stp p V V' nd i x x' S S') {q : Nat} (hq : q / 512 < 138) (h1 : S (q / 512) = true) (h2 : S' (q / 512) = true) : fb V' x' q = fb V x q :=
  fb_congr (h.ptrs _ h1 h2) (h.byt _ (by omega) h1 h2)
/-- A block that the inode itself leads to, or its block of numbers. -/
theorem takeDirect {p : Pl} {V : Nat → Bytes} {nd : NF} (h : Inv p V nd) (ho : PlOk p) {i b k c : Nat} {x : Nd} {S S' : Nat → Bool} (hi : nd i = some (x, S)) (hb : b < p.dc) (hd : dig V p.bm b = false)
    (hk : (k < 10 ∧ c = k) ∨ (k = 10 ∧ c = 200 ∧ ∀ l, S l = true → l < 10)) (hS : ∀ l, S' l = true ↔ S l = true ∨ l = c) (hSc : S c = false) :
    Stp p V (frV p V b) nd i x ⟨x.kd, x.sz, x.bl.set k (p.da + b)⟩ S S' ∧ ptr (frV p V b) ⟨x.kd, x.sz, x.bl.set k (p.da + b)⟩ c = p.da + b := by
  have hfx := h.fits i x S hi
  have hdat := ho.dat
  have hn2 := ho.aB.n2
  have hbl := hfx.bl
  have hp : ∀ l, S l = true → ptr (frV p V b) ⟨x.kd, x.sz, x.bl.set k (p.da + b)⟩ l = ptr V x l := by
    intro l hl
    have h1 := frV_ptr h ho hb hd hi hl
    rw [← h1]
    have hlc : l ≠ c := fun hh => by rw [hh, hSc] at hl; cases hl
    unfold ptr
    rcases hk with ⟨hk, rfl⟩ | ⟨rfl, rfl, hall⟩
    · simp only [getD_set_other (show c ≠ 10 by omega), getD_set_other (Ne.symm hlc)]
    · have := hall l hl
      simp only [if_neg hlc, if_pos this, getD_set_other (show 10 ≠ l by omega)]
  have hpc : ptr (frV p V b) ⟨x.kd, x.sz, x.bl.set k (p.da + b)⟩ c = p.da + b := by
    unfold ptr
    rcases hk with ⟨hk, rfl⟩ | ⟨rfl, rfl, hall⟩
    · rw [if_neg (by omega), if_pos hk]
      exact getD_set_same (by omega)
    · rw [if_pos rfl]
      exact getD_set_same (by omega)
  refine ⟨⟨?_, frV_kp h ho hb hd i, rfl, rfl, fun l h1 h2 => hp l h1, fun l _ h1 h2 => frV_held h ho hb hd hi h1⟩, hpc⟩
  refine h.add hi hb hd hdat (hfx.set (by omega)) hS (by rcases hk with ⟨hk, rfl⟩ | ⟨_, rfl, _⟩; exact .inl (by omega); exact .inr rfl) (by rcases hk with ⟨hk, rfl⟩ | ⟨_, rfl, _⟩ <;> omega) hSc (frV_len h.len b)
    (fun l hl => frV_dig ho h.len hb hl) (fun l hl => frV_imap ho hb hl) hp hpc (fun j y T l hji hj hl => frV_ptr h ho hb hd hj hl)
def inV (p : Pl) (V : Nat → Bytes) (x : Nd) (b k : Nat) : Nat → Bytes := wr (frV p V b) (x.bl.getD 10 0) (put4 (frV p V b (x.bl.getD 10 0)) (4 * (k - 10)) (p.da + b))
/-- A block that the block of numbers leads to. -/
theorem takeFar {p : Pl} {V : Nat → Bytes} {nd : NF} (h : Inv p V nd) (ho : PlOk p) {i b k : Nat} {x : Nd} {S S' : Nat → Bool} (hi : nd i = some (x, S)) (hb : b < p.dc) (hd : dig V p.bm b = false)
    (hk : 10 ≤ k) (hk2 : k < 138) (h200 : S 200 = true) (hS : ∀ l, S' l = true ↔ S l = true ∨ l = k) (hSc : S k = false) :
    Stp p V (inV p V x b k) nd i x x S S' ∧ ptr (inV p V x b k) x k = p.da + b ∧ inV p V x b k (p.da + b) = zeros := by
  have hfx := h.fits i x S hi
  have hdat := ho.dat
  have hn2 := ho.aB.n2
  have hm := ho.mapAt hb
  have htd := ho.tbda
  have hir := h.rng i x S 200 hi h200
  have hif := h.free hb hd hi h200
  rw [ptr_200] at hir hif
  have hlen := frV_len (p := p) h.len b
  have hoth : ∀ v, v ≠ x.bl.getD 10 0 → inV p V x b k v = frV p V b v := fun v hv => wr_other _ _ hv
  have hind : inV p V x b k (x.bl.getD 10 0) = put4 (frV p V b (x.bl.getD 10 0)) (4 * (k - 10)) (p.da + b) := wr_same ..
  have hindV : frV p V b (x.bl.getD 10 0) = V (x.bl.getD 10 0) := frV_other hif (by omega)
  have h4 : 4 * (k - 10) + 4 ≤ (frV p V b (x.bl.getD 10 0)).length := by rw [hlen]; omega
  have hpc : ptr (inV p V x b k) x k = p.da + b := by
    unfold ptr
    rw [if_neg (by omega), if_neg (by omega), hind]
    exact num_put4 h4 (by omega)
  have hp : ∀ l, S l = true → ptr (inV p V x b k) x l = ptr V x l := by
    intro l hl
    have hlk : l ≠ k := fun hh => by rw [hh, hSc] at hl; cases hl
    unfold ptr
    by_cases h1 : l = 200
    · rw [if_pos h1, if_pos h1]
    · rw [if_neg h1, if_neg h1]
      by_cases h2 : l < 10
      · rw [if_pos h2, if_pos h2]
      · rw [if_neg h2, if_neg h2, hind, num_put4_other h4 (by omega), hindV]
  have hne : ∀ j y T l, nd j = some (y, T) → T l = true → (j ≠ i ∨ l ≠ 200) → ptr V y l ≠ x.bl.getD 10 0 := fun j y T l hj hl hne he => by
    have := h.inj j y T l i x S 200 hj hl hi h200 (by rw [ptr_200]; exact he)
    rcases hne with h1 | h1
    · exact h1 this.1
    · exact h1 this.2
  have hheld : ∀ j y T l, nd j = some (y, T) → T l = true → (j ≠ i ∨ l ≠ 200) → inV p V x b k (ptr V y l) = V (ptr V y l) := fun j y T l hj hl hh => by
    rw [hoth _ (hne j y T l hj hl hh)]
    exact frV_held h ho hb hd hj hl
  refine ⟨⟨?_, ⟨fun v hv => ?_, fun v h1 h2 => ?_, fun j y T l hji hj hl => hheld j y T l hj hl (.inl hji)⟩, rfl, rfl, fun l h1 _ => hp l h1, fun l h0 h1 h2 => hheld i x S l hi h1 (.inr h0)⟩, hpc, ?_⟩
  · refine h.add hi hb hd hdat hfx hS (.inl hk2) (fun _ _ => h200) hSc (wr_len hlen _ (by rw [put4_length]; exact hlen _)) (fun l hl => ?_) (fun l hl => ?_) hp hpc (fun j y T l hji hj hl => ?_)
    · have := ho.mapAt hl
      rw [← frV_dig ho h.len hb hl]
      unfold dig
      rw [hoth _ (by omega)]
    · have h1 := ho.apart
      have h2 := ho.i2
      have h3 := ho.tbl
      refine Eq.trans ?_ (frV_imap ho hb hl)
      unfold dig
      rw [hoth _ (by omega)]
    · exact ptrs_congr (h.sok j y T hj) (fun h2 => by have := hheld j y T 200 hj h2 (.inl hji); rwa [ptr_200] at this) hl
  · have h3 := ho.tbl
    rw [hoth _ (by omega)]
    exact (frV_kp h ho hb hd i).lo v hv
  · rw [hoth _ (by omega)]
    exact (frV_kp h ho hb hd i).tab v h1 h2
  · rw [hoth _ (Ne.symm hif)]
    exact frV_new p V b
theorem inV_dig {p : Pl} {V : Nat → Bytes} {nd : NF} (h : Inv p V nd) (ho : PlOk p) {i b k : Nat} {x : Nd} {S : Nat → Bool} (hi : nd i = some (x, S)) (hb : b < p.dc) (h200 : S 200 = true) {l : Nat} (hl : l < p.dc) : dig (inV p V x b k) p.bm l = if l = b then true else dig V p.bm l := by
  have hir := h.rng i x S 200 hi h200
  rw [ptr_200] at hir
  have h1 := ho.mapAt hl
  have h2 := ho.tbda
  rw [← frV_dig ho h.len hb hl]
  unfold dig inV
  rw [wr_other _ _ (by omega)]
/-! ### a block given back -/
theorem giveStp {p : Pl} {V : Nat → Bytes} {nd : NF} (h : Inv p V nd) (ho : PlOk p) {i b c : Nat} {x x' : Nd} {S S' : Nat → Bool} (hi : nd i = some (x, S)) (hSc : S c = true) (hb : ptr V x c = p.da + b)
    (hx : x' = x ∧ 10 ≤ c ∧ c ≠ 200 ∨ c < 10 ∧ x' = ⟨x.kd, x.sz, x.bl.set c 0⟩ ∨ c = 200 ∧ x' = ⟨x.kd, x.sz, x.bl.set 10 0⟩ ∧ ∀ l, S l = true → l < 10 ∨ l = 200) (hS : ∀ l, S' l = true ↔ S l = true ∧ l ≠ c) :
    Stp p V (setD V p.bm b false) nd i x x' S S' ∧ b < p.dc ∧ dig V p.bm b = true := by
  have hfx := h.fits i x S hi
  have hdat := ho.dat
  have hr := h.rng i x S c hi hSc
  have hbd : b < p.dc := by omega
  have hd : dig V p.bm b = true := (h.map b hbd).2 ⟨i, x, S, c, hi, hSc, hb⟩
  have hm := ho.mapAt hbd
  have htd := ho.tbda
  have hV : ∀ v, v ≠ p.bm + b / 4096 → setD V p.bm b false v = V v := fun v hv => wr_other _ _ hv
  have hheld : ∀ j y T l, nd j = some (y, T) → T l = true → setD V p.bm b false (ptr V y l) = V (ptr V y l) := fun j y T l hj hl => hV _ (by have := h.rng j y T l hj hl; omega)
  have hptr : ∀ j y T l, nd j = some (y, T) → T l = true → ptr (setD V p.bm b false) y l = ptr V y l := fun j y T l hj hl =>
    ptrs_congr (h.sok j y T hj) (fun h2 => by have := hheld j y T 200 hj h2; rwa [ptr_200] at this) hl
  have hp : ∀ l, S' l = true → ptr (setD V p.bm b false) x' l = ptr V x l := by
    intro l hl
    have h1 := (hS l).1 hl
    rw [← hptr i x S l hi h1.1]
    rcases hx with ⟨rfl, _, _⟩ | ⟨h2, rfl⟩ | ⟨rfl, rfl, h3⟩
    · rfl
    · unfold ptr
      simp only [getD_set_other (show c ≠ 10 by omega), getD_set_other (Ne.symm h1.2)]
    · have : l < 10 := by rcases h3 l h1.1 with h4 | h4; exact h4; exact absurd h4 h1.2
      unfold ptr
      simp only [if_neg h1.2, if_pos this, getD_set_other (show 10 ≠ l by omega)]
  refine ⟨⟨?_, ⟨fun v hv => hV _ (by omega), fun v h1 h2 => hV _ (by omega), fun j y T l _ hj hl => hheld j y T l hj hl⟩, ?_, ?_, fun l _ h2 => hp l h2, fun l _ h1 _ => hheld i x S l hi h1⟩, hbd, hd⟩
  · refine h.drop hi hSc hb ?_ hS ?_ (setD_len h.len _ _ _) (fun l hl => dig_setD h.len _ _ _ _) (fun l hl => ?_) hp (fun j y T l _ hj hl => hptr j y T l hj hl)
    · rcases hx with ⟨rfl, _, _⟩ | ⟨h2, rfl⟩ | ⟨rfl, rfl, h3⟩
      · exact hfx
      · exact hfx.set (by decide)
      · exact hfx.set (by decide)
    · intro h2 l hl h10
      rcases hx with ⟨_, _, h3⟩ | ⟨h3, _⟩ | ⟨_, _, h3⟩
      · exact absurd h2 h3
      · omega
      · rcases h3 l hl with h4 | h4
        · omega
        · exact h4
    · have h1 := ho.apart
      have h2 := ho.i2
      exact dig_setD_other _ _ _ _ _ (by omega)
  · rcases hx with ⟨rfl, _, _⟩ | ⟨h2, rfl⟩ | ⟨rfl, rfl, h3⟩ <;> rfl
  · rcases hx with ⟨rfl, _, _⟩ | ⟨h2, rfl⟩ | ⟨rfl, rfl, h3⟩ <;> rfl

/-! ### bytes laid into blocks -/
def splice (xs : Bytes) (off : Nat) (ys : Bytes) : Bytes := xs.take off ++ ys ++ xs.drop (off + ys.length)
theorem splice_length {xs ys : Bytes} {off : Nat} (h : off + ys.length ≤ xs.length) : (splice xs off ys).length = xs.length := by
  unfold splice
  simp only [List.length_append, List.length_take, List.length_drop]
  omega
theorem splice_getD {xs ys : Bytes} {off : Nat} (h : off + ys.length ≤ xs.length) (i : Nat) : (splice xs off ys).getD i 0 = if off ≤ i ∧ i < off + ys.length then ys.getD (i - off) 0 else xs.getD i 0 := by
  unfold splice
  simp only [List.getD_eq_getElem?_getD, List.getElem?_append, List.length_append, List.length_take, List.getElem?_take, List.getElem?_drop]
  have h1 : min off xs.length = off := by omega
  rw [h1]
  by_cases c1 : i < off
  · rw [if_pos (by omega), if_pos c1, if_pos c1, if_neg (by omega)]
  · by_cases c2 : i < off + ys.length
    · rw [if_pos c2, if_neg c1, if_pos ⟨by omega, c2⟩]
    · rw [if_neg c2, if_neg (by omega), show off + ys.length + (i - (off + ys.length)) = i from by omega]
/-- The bytes bs were laid from lo on, up to hi. -/
structure LayR (p : Pl) (V V' : Nat → Bytes) (x : Nd) (lo hi : Nat) (bs : Bytes) : Prop where
  len : Len5 V'
  oth : ∀ b, (∀ k, lo / 512 ≤ k → 512 * k < hi → ptr V x k ≠ b) → V' b = V b
  byt : ∀ k, k < 138 → ∀ j, j < 512 → (∀ l, lo / 512 ≤ l → 512 * l < hi → ptr V x l = ptr V x k → l = k) → (V' (ptr V x k)).getD j 0 = if lo ≤ 512 * k + j ∧ 512 * k + j < hi then bs.getD (512 * k + j - lo) 0 else (V (ptr V x k)).getD j 0
theorem LayR.nil {p : Pl} {V : Nat → Bytes} (h : Len5 V) (x : Nd) (lo : Nat) (bs : Bytes) : LayR p V V x lo lo bs :=
  ⟨h, fun _ _ => rfl, fun k hk j hj _ => by rw [if_neg (by omega)]⟩
theorem LayR.step {p : Pl} {V V1 : Nat → Bytes} {x : Nd} {lo hi m : Nat} {bs : Bytes} (h : LayR p V V1 x lo hi bs) (hlo : lo ≤ hi) (hm : 0 < m) (hm2 : hi % 512 + m ≤ 512) (hb : hi - lo + m ≤ bs.length) (hk : hi / 512 < 138)
    (hinj : ∀ k l, lo / 512 ≤ k → 512 * k < hi + m → lo / 512 ≤ l → 512 * l < hi + m → ptr V x k = ptr V x l → k = l) :
    LayR p V (wr V1 (ptr V x (hi / 512)) (splice (V1 (ptr V x (hi / 512))) (hi % 512) ((bs.drop (hi - lo)).take m))) x lo (hi + m) bs := by
  have hlen : ((bs.drop (hi - lo)).take m).length = m := by rw [List.length_take, List.length_drop]; omega
  have hsp : hi % 512 + ((bs.drop (hi - lo)).take m).length ≤ (V1 (ptr V x (hi / 512))).length := by rw [hlen, h.len]; exact hm2
  refine ⟨wr_len h.len _ (by rw [splice_length hsp, h.len]), fun b hbk => ?_, fun k hk' j hj hu => ?_⟩
  · rw [wr_other _ _ (Ne.symm (hbk (hi / 512) (by omega) (by omega)))]
    exact h.oth b fun k h1 h2 => hbk k h1 (by omega)
  · have hu' := fun l h1 (h2 : 512 * l < hi) => hu l h1 (by omega)
    by_cases he : ptr V x k = ptr V x (hi / 512)
    · have hke := hu (hi / 512) (by omega) (by omega) he.symm
      subst hke
      rw [wr_same, splice_getD hsp, hlen]
      have := h.byt (hi / 512) hk j hj hu'
      by_cases c : hi % 512 ≤ j ∧ j < hi % 512 + m
      · rw [if_pos c, if_pos ⟨by omega, by omega⟩]
        rw [List.getD_eq_getElem?_getD, List.getElem?_take, if_pos (by omega), List.getElem?_drop, List.getD_eq_getElem?_getD]
        congr 2
        omega
      · rw [if_neg c, this]
        by_cases c2 : lo ≤ 512 * (hi / 512) + j ∧ 512 * (hi / 512) + j < hi
        · rw [if_pos c2, if_pos ⟨c2.1, by omega⟩]
        · rw [if_neg c2, if_neg (by omega)]
    · rw [wr_other _ _ he, h.byt k hk' j hj hu']
      have hkne : k ≠ hi / 512 := fun hh => he (by rw [hh])
      by_cases c2 : lo ≤ 512 * k + j ∧ 512 * k + j < hi
      · rw [if_pos c2, if_pos ⟨c2.1, by omega⟩]
      · rw [if_neg c2, if_neg (by omega)]
/-- What laying leaves of the maps and inodes. -/
theorem LayR.stp {p : Pl} {V V' : Nat → Bytes} {nd : NF} {i lo hi : Nat} {x : Nd} {S : Nat → Bool} {bs : Bytes} (h : LayR p V V' x lo hi bs) (hv : Inv p V nd) (ho : PlOk p) (hi' : nd i = some (x, S)) (hlo : lo ≤ hi)
    (hS : ∀ k, lo / 512 ≤ k → 512 * k < hi → S k = true ∧ k < 138) :
    Inv p V' nd ∧ Kp p V V' nd i ∧ (∀ k, k < p.dc → dig V' p.bm k = dig V p.bm k) ∧ (∀ k, S k = true → ptr V' x k = ptr V x k) ∧
      ∀ q, q / 512 < 138 → S (q / 512) = true → fb V' x q = if lo ≤ q ∧ q < hi then bs.getD (q - lo) 0 else fb V x q := by
  have htd := ho.tbda
  have hlow : ∀ b, b < p.da → V' b = V b := fun b hb => h.oth b fun k h1 h2 he => by
    have := hv.rng i x S k hi' (hS k h1 h2).1
    omega
  have hheld : ∀ j y T l, nd j = some (y, T) → T l = true → (j ≠ i ∨ l = 200) → V' (ptr V y l) = V (ptr V y l) := fun j y T l hj hl hne => h.oth _ fun k h1 h2 he => by
    have := hv.inj i x S k j y T l hi' (hS k h1 h2).1 hj hl he
    rcases hne with hne | hne
    · exact hne this.1.symm
    · have := (hS k h1 h2).2
      omega
  have hptr : ∀ j y T l, nd j = some (y, T) → T l = true → ptr V' y l = ptr V y l := fun j y T l hj hl =>
    ptrs_congr (hv.sok j y T hj) (fun h2 => by have := hheld j y T 200 hj h2 (.inr rfl); rwa [ptr_200] at this) hl
  have hdig : ∀ k, k < p.dc → dig V' p.bm k = dig V p.bm k := fun k hk => by
    have := ho.mapAt hk
    unfold dig
    rw [hlow _ (by omega)]
  refine ⟨?_, ⟨fun b hb => hlow b (by have := ho.tbl; omega), fun b _ h2 => hlow b h2, fun j y T l hji hj hl => hheld j y T l hj hl (.inl hji)⟩, hdig, fun k hk => hptr i x S k hi' hk, fun q hq hSq => ?_⟩
  · refine hv.same h.len hdig (fun k hk => ?_) fun j => ?_
    · have h1 := ho.apart
      have h2 := ho.i2
      have h3 := ho.tbl
      unfold dig
      rw [hlow _ (by omega)]
    · cases hj : nd j with
      | none => exact .inl ⟨rfl, rfl⟩
      | some y =>
        obtain ⟨y, T⟩ := y
        exact .inr ⟨y, y, T, rfl, rfl, hv.fits _ _ _ hj, fun k hk => hptr j y T k hj hk⟩
  · unfold fb
    rw [hptr i x S (q / 512) hi' hSq, h.byt (q / 512) hq (q % 512) (by omega) (fun l h1 h2 he => (hv.inj i x S l i x S (q / 512) hi' (hS l h1 h2).1 hi' hSq he).2), show 512 * (q / 512) + q % 512 = q from by omega]
end Go.Proofs.YtedmihapieleaaaGreat
