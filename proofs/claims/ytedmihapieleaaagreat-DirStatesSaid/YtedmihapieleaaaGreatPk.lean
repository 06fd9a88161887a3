/- Files as numbers of blocks: what Make, Write, Truncate, Drop do to the files. Plain. -/
import Derived.Test.YtedmihapieleaaaGreatWy
set_option linter.unusedVariables false
set_option linter.unusedSimpArgs false
namespace Go.Proofs.YtedmihapieleaaaGreat
open Go
/-- An inode without blocks comes or goes. -/
theorem Inv.inode {p : Pl} {V V' : Nat → Bytes} {nd : NF} (h : Inv p V nd) (ho : PlOk p) {i : Nat} (hi : i < p.ino) (y : Option (Nd × (Nat → Bool))) (hold : ∀ x S, nd i = some (x, S) → ∀ k, S k = false) (hy : ∀ x S, y = some (x, S) → Fits x ∧ ∀ k, S k = false)
    (h5 : Len5 V') (hV : ∀ v, p.bm ≤ v → V' v = V v) (hd : ∀ j, j < p.ino → dig V' p.im j = if j = i then y.isSome else dig V p.im j) : Inv p V' (updF nd i y) := by
  have hlo := ho.lo
  have get : ∀ j z T k, updF nd i y j = some (z, T) → T k = true → nd j = some (z, T) ∧ ptr V' z k = ptr V z k := by
    intro j z T k hj hk
    by_cases hji : j = i
    · subst hji
      rw [updF_same] at hj
      have := (hy z T hj).2 k
      rw [hk] at this; cases this
    · rw [updF_other _ _ hji] at hj
      exact ⟨hj, ptrs_congr (h.sok j z T hj) (fun h2 => hV _ (by have := h.rng j z T 200 hj h2; rw [ptr_200] at this; omega)) hk⟩
  refine ⟨h5, ?_, ?_, ?_, ?_, ?_, ?_, ?_⟩
  · intro j z T hj
    by_cases hji : j = i
    · subst hji; rw [updF_same] at hj; exact (hy z T hj).1
    · rw [updF_other _ _ hji] at hj; exact h.fits j z T hj
  · intro j z T hj
    by_cases hji : j = i
    · subst hji; rw [updF_same] at hj
      have := (hy z T hj).2
      exact ⟨fun k hk => (by rw [this k] at hk; cases hk), fun k hk => (by rw [this k] at hk; cases hk)⟩
    · rw [updF_other _ _ hji] at hj; exact h.sok j z T hj
  · intro j z T hj
    by_cases hji : j = i
    · subst hji; exact hi
    · rw [updF_other _ _ hji] at hj; exact h.lt j z T hj
  · intro j z T k hj hk
    obtain ⟨h1, h2⟩ := get j z T k hj hk
    rw [h2]; exact h.rng j z T k h1 hk
  · intro j z T k j' z' T' k' hj hk hj' hk' he
    obtain ⟨h1, h2⟩ := get j z T k hj hk
    obtain ⟨h1', h2'⟩ := get j' z' T' k' hj' hk'
    rw [h2, h2'] at he
    exact h.inj _ _ _ _ _ _ _ _ h1 hk h1' hk' he
  · intro k hk
    have e1 : dig V' p.bm k = dig V p.bm k := by unfold dig; rw [hV _ (by omega)]
    rw [e1, h.map k hk]
    constructor
    · rintro ⟨j, z, T, l, hj, hl, he⟩
      by_cases hji : j = i
      · subst hji
        have := hold z T hj l
        rw [hl] at this; cases this
      · have hj' : updF nd i y j = some (z, T) := by rw [updF_other _ _ hji]; exact hj
        exact ⟨j, z, T, l, hj', hl, by rw [(get j z T l hj' hl).2]; exact he⟩
    · rintro ⟨j, z, T, l, hj, hl, he⟩
      obtain ⟨h1, h2⟩ := get j z T l hj hl
      exact ⟨j, z, T, l, h1, hl, by rw [← h2]; exact he⟩
  · intro j hj
    rw [hd j hj]
    by_cases hji : j = i
    · subst hji; rw [if_pos rfl, updF_same]
    · rw [if_neg hji, updF_other _ _ hji]; exact h.imap j hj
theorem stdS_zero (k : Nat) : stdS 0 k = false := by unfold stdS; simp
theorem repNd {p : Pl} {V : Nat → Bytes} {F : FM} {i : Nat} {f : Nat × Bytes} (hi : F i = some f) : ndOf p V F i = some (ldN p V i, stdS (dat f.2.length)) := by unfold ndOf; rw [hi]; rfl
theorem Rep.ndX {p : Pl} {V : Nat → Bytes} {F : FM} (h : Rep p V F) {i : Nat} {f : Nat × Bytes} (hi : F i = some f) : ndOf p V F i = some (ldN p V i, stdS (dat (ldN p V i).sz)) := by rw [(h.ok i f hi).sz]; exact repNd hi
theorem Rep.digI {p : Pl} {V : Nat → Bytes} {F : FM} (h : Rep p V F) {i : Nat} {f : Nat × Bytes} (hi : F i = some f) : i = 0 ∨ Go.Proofs.YtedmihapieleaaaGreat.dig V p.im i = true := by
  refine .inr ?_
  rw [h.inv.imap i (h.lt hi), repNd hi]; rfl
/-- The file of a number, if there is one. -/
def fileAt (F : FM) (i : Int) : Option (Nat × Bytes) := if 0 ≤ i then F i.toNat else none
theorem fileAt_nat (F : FM) (i : Nat) : fileAt F (i : Int) = F i := by unfold fileAt; rw [if_pos (by omega), Int.toNat_natCast]
theorem Rep.nope {p : Pl} {V : Nat → Bytes} {F : FM} (h : Rep p V F) {i : Int} (hi : fileAt F i = none) : ¬ (0 ≤ i ∧ i < p.ino ∧ (i = 0 ∨ Go.Proofs.YtedmihapieleaaaGreat.dig V p.im i.toNat = true)) := by
  rintro ⟨h1, h2, h3⟩
  unfold fileAt at hi
  rw [if_pos h1] at hi
  have h4 := h.inv.imap i.toNat (by omega)
  have h5 : ndOf p V F i.toNat = none := by unfold ndOf; rw [hi]; rfl
  rw [h5] at h4
  rcases h3 with h3 | h3
  · subst h3
    have := h.root
    rw [show (0 : Int).toNat = 0 from rfl] at hi
    rw [hi] at this; cases this
  · rw [h4] at h3; cases h3
theorem kp_others {p : Pl} {V V' : Nat → Bytes} {F : FM} (h : Rep p V F) (ho : PlOk p) {i : Nat} (hk : Kp p V V' (ndOf p V F) i) : ∀ j g, j ≠ i → F j = some g → ldN p V' j = ldN p V j ∧ ∀ k, stdS (dat g.2.length) k = true → V' (ptr V (ldN p V j) k) = V (ptr V (ldN p V j) k) :=
  fun j g hji hj => ⟨hk.ldN ho.tab (h.lt hj), fun k hk' => hk.oth j _ _ k hji (repNd hj) hk'⟩
theorem Rep.cntle {p : Pl} {V : Nat → Bytes} {F : FM} (h : Rep p V F) : tot F p.ino ≤ p.dc := by rw [← h.cn]; exact cnt_le _ _ _
def ext (old : Bytes) (n : Nat) : Bytes := old ++ List.replicate (n - old.length) 0
theorem ext_length (old : Bytes) (n : Nat) : (ext old n).length = max old.length n := by unfold ext; rw [List.length_append, List.length_replicate]; omega
theorem ext_getD (old : Bytes) (n q : Nat) : (ext old n).getD q 0 = old.getD q 0 := by
  unfold ext
  simp only [List.getD_eq_getElem?_getD, List.getElem?_append, List.getElem?_replicate]
  by_cases h : q < old.length
  · rw [if_pos h]
  · rw [if_neg h, List.getElem?_eq_none (by omega)]
    split <;> rfl
theorem ext_self {old : Bytes} {n : Nat} (h : n ≤ old.length) : ext old n = old := by unfold ext; rw [show n - old.length = 0 from by omega]; simp
/-- Bytes written at a place. -/
def wrB (old : Bytes) (at' : Nat) (bs : Bytes) : Bytes := splice (ext old (at' + bs.length)) at' bs
theorem wrB_length (old : Bytes) (at' : Nat) (bs : Bytes) : (wrB old at' bs).length = max old.length (at' + bs.length) := by
  unfold wrB
  rw [splice_length (by rw [ext_length]; omega), ext_length]
theorem wrB_getD (old : Bytes) (at' : Nat) (bs : Bytes) (q : Nat) : (wrB old at' bs).getD q 0 = if at' ≤ q ∧ q < at' + bs.length then bs.getD (q - at') 0 else old.getD q 0 := by
  unfold wrB
  rw [splice_getD (by rw [ext_length]; omega), ext_getD]
/-- Another size. -/
def trB (old : Bytes) (n : Nat) : Bytes := ext (old.take n) n
theorem trB_length (old : Bytes) (n : Nat) : (trB old n).length = n := by unfold trB; rw [ext_length, List.length_take]; omega
theorem trB_getD (old : Bytes) (n q : Nat) (h : q < n) : (trB old n).getD q 0 = old.getD q 0 := by
  unfold trB
  rw [ext_getD, List.getD_eq_getElem?_getD, List.getElem?_take, if_pos h, List.getD_eq_getElem?_getD]
theorem FM_twice (F : FM) (i : Nat) (y z : Option (Nat × Bytes)) : updM (updM F i y) i z = updM F i z := by
  funext j
  unfold updM
  split <;> rfl
/-- Bytes were laid into a file, within its size. -/
theorem Rep.wrote {p : Pl} {V V' : Nat → Bytes} {F : FM} (h : Rep p V F) (ho : PlOk p) {i at' : Nat} {f : Nat × Bytes} {bs : Bytes} (hi : F i = some f) (hl : at' + bs.length ≤ f.2.length) (hy : LayR p V V' (ldN p V i) at' (at' + bs.length) bs) :
    Rep p V' (updM F i (some (f.1, wrB f.2 at' bs))) := by
  have hf := h.ok i f hi
  have hd := dat_le hf.big
  have hwl : (wrB f.2 at' bs).length = f.2.length := by rw [wrB_length]; omega
  obtain ⟨h1, h2, h3, h4, h5⟩ := hy.stp h.inv ho (repNd hi) (by omega) (fun k k1 k2 => ⟨stdS_iff.2 (.inl (by unfold dat; omega)), by unfold dat at hd; omega⟩)
  refine h.laid ho hi hwl h1 h2 h3 fun q hq => ?_
  rw [hwl] at hq
  have hq1 : q / 512 < dat f.2.length := by unfold dat; omega
  rw [h5 q (by omega) (stdS_iff.2 (.inl hq1)), wrB_getD]
  split
  · rfl
  · exact hf.byt q hq
theorem Rep.grown {p : Pl} {V V' : Nat → Bytes} {F : FM} (h : Rep p V F) (ho : PlOk p) {i size : Nat} {f : Nat × Bytes} {x : Nd} {D D' : List Nat} (hi : F i = some f) (hs1 : f.2.length ≤ size) (hs2 : size ≤ 70656) (hg : GrowP p V V' (ndOf p V F) i (ldN p V i) x D D' size) :
    Rep p (svV p V' i x) (updM F i (some (f.1, ext f.2 size))) := by
  have hf := h.ok i f hi
  have hel : (ext f.2 size).length = size := by rw [ext_length]; omega
  refine h.save ho (f := (f.1, ext f.2 size)) (h.lt hi) (.inl (by rw [hi]; simp)) (by show Inv p V' (updF _ i (some (x, stdS (dat (ext f.2 size).length)))); rw [hel]; exact hg.inv) (kp_others h ho hg.kp) ?_ ?_
  · refine ⟨hg.kd.trans hf.kd, hf.k12, by show x.sz = (ext f.2 size).length; rw [hel]; exact hg.sz, by show (ext f.2 size).length ≤ 70656; omega, fun q hq => ?_⟩
    have hq' : q < size := by rw [← hel]; exact hq
    show fb V' x q = (ext f.2 size).getD q 0
    rw [hg.byt q hq', ext_getD, hf.sz]
    split
    · rename_i hlt; exact hf.byt q hlt
    · rename_i hge; rw [List.getD_eq_getElem?_getD, List.getElem?_eq_none (by omega)]; rfl
  · have := hg.cn
    rw [hf.sz] at this
    rw [hi]
    show cnt V' p.bm p.dc + has f.2.length = cnt V p.bm p.dc + has (ext f.2 size).length
    rw [hel]; exact this
theorem Rep.shrunk {p : Pl} {V V' : Nat → Bytes} {F : FM} (h : Rep p V F) (ho : PlOk p) {i size : Nat} {f : Nat × Bytes} {x : Nd} {D D' : List Nat} (hi : F i = some f) (hs1 : size ≤ f.2.length) (hg : GiL p V V' (ndOf p V F) i (ldN p V i) x D D' size (has f.2.length - has size) (stdS (dat size))) :
    Rep p (svV p V' i ⟨x.kd, size, x.bl⟩) (updM F i (some (f.1, trB f.2 size))) := by
  have hf := h.ok i f hi
  have hbig := hf.big
  have hel := trB_length f.2 size
  have hfx := hg.inv.fits i x _ (updF_same ..)
  have hm := hs_mono (dat_mono hs1)
  refine h.save ho (f := (f.1, trB f.2 size)) (h.lt hi) (.inl (by rw [hi]; simp)) ?_ (kp_others h ho hg.kp) ?_ ?_
  · refine hg.inv.same hg.inv.len (fun _ _ => rfl) (fun _ _ => rfl) fun j => ?_
    by_cases hj : j = i
    · subst hj
      refine .inr ⟨x, ⟨x.kd, size, x.bl⟩, stdS (dat size), updF_same .., by rw [updF_same]; show some (_, stdS (dat (trB f.2 size).length)) = _; rw [hel], ⟨hfx.bl, fun v hv => ?_⟩, fun _ _ => rfl⟩
      simp only [Nd.nums, List.mem_cons] at hv
      rcases hv with rfl | rfl | hv
      · exact hfx.lt _ (by simp [Nd.nums])
      · omega
      · exact hfx.lt _ (by simp [Nd.nums, hv])
    · rw [updF_other _ _ hj, updF_other _ _ hj]
      cases hn : ndOf p V F j with
      | none => exact .inl ⟨rfl, rfl⟩
      | some y =>
        obtain ⟨y, T⟩ := y
        exact .inr ⟨y, y, T, rfl, rfl, hg.inv.fits j y T (by rw [updF_other _ _ hj]; exact hn), fun _ _ => rfl⟩
  · refine ⟨hg.kd.trans hf.kd, hf.k12, hel.symm, by show (trB f.2 size).length ≤ 70656; omega, fun q hq => ?_⟩
    have hq' : q < size := by rw [← hel]; exact hq
    show fb V' x q = (trB f.2 size).getD q 0
    rw [hg.old q hq', trB_getD _ _ _ hq']
    exact hf.byt q (by omega)
  · rw [hi]
    show cnt V' p.bm p.dc + has f.2.length = cnt V p.bm p.dc + has (trB f.2 size).length
    rw [hel]
    have := hg.cn
    have e1 := has_hs size
    have e2 := has_hs f.2.length
    omega
theorem cnt_imap {p : Pl} {V : Nat → Bytes} (ho : PlOk p) {i : Nat} (hi : i < p.ino) (on : Bool) : cnt (setD V p.im i on) p.bm p.dc = cnt V p.bm p.dc := by
  have h1 := ho.apart
  have h2 := ho.i2
  exact cnt_same fun k hk => dig_setD_other _ _ _ _ _ (by omega)
theorem imap_other {p : Pl} {V : Nat → Bytes} (ho : PlOk p) {i : Nat} (hi : i < p.ino) (on : Bool) {v : Nat} (hv : p.bm ≤ v) : setD V p.im i on v = V v := by
  have h1 := ho.apart
  have h2 := ho.i2
  exact wr_other _ _ (by omega)
/-- An inode was made. -/
theorem Rep.made {p : Pl} {V : Nat → Bytes} {F : FM} (h : Rep p V F) (ho : PlOk p) {i k : Nat} (hi : i < p.ino) (hd : Go.Proofs.YtedmihapieleaaaGreat.dig V p.im i = false) (hk : k = 1 ∨ k = 2) : Rep p (svV p (setD V p.im i true) i ⟨k, 0, List.replicate 11 0⟩) (updM F i (some (k, []))) := by
  have hlo := ho.lo
  have htd := ho.tbda
  have hn : ndOf p V F i = none := by
    have := h.inv.imap i hi
    rw [hd] at this
    cases hh : ndOf p V F i with
    | none => rfl
    | some y => rw [hh] at this; cases this
  have hF : F i = none := by
    unfold ndOf at hn
    cases hh : F i with
    | none => rfl
    | some y => rw [hh] at hn; cases hn
  have hi0 : i ≠ 0 := fun hh => by
    subst hh
    have := h.root
    rw [hF] at this; cases this
  have hfx : Fits ⟨k, 0, List.replicate 11 0⟩ := kFits (by omega)
  have hinv : Inv p (setD V p.im i true) (updF (ndOf p V F) i (some (⟨k, 0, List.replicate 11 0⟩, stdS (dat ([] : Bytes).length)))) := by
    refine h.inv.inode ho hi _ (fun x S hx => by rw [hn] at hx; cases hx) (fun x S hx => by cases hx; exact ⟨hfx, fun k => stdS_zero k⟩) (setD_len h.inv.len _ _ _) (fun v hv => imap_other ho hi true hv) (fun j hj => ?_)
    rw [dig_setD h.inv.len]; rfl
  refine h.save ho (f := (k, [])) hi (.inr hi0) hinv (fun j g hji hj => ⟨?_, fun l hl => ?_⟩) ⟨rfl, hk, rfl, Nat.zero_le _, fun q hq => by cases hq⟩ ?_
  · unfold ldN
    rw [imap_other ho hi true (by omega)]
  · have := h.inv.rng j _ _ l (repNd hj) hl
    exact imap_other ho hi true (by omega)
  · rw [hF, cnt_imap ho hi]
    show cnt V p.bm p.dc + 0 = cnt V p.bm p.dc + has 0
    rfl
/-- A file was dropped. -/
theorem Rep.dropped {p : Pl} {V V' : Nat → Bytes} {F : FM} (h : Rep p V F) (ho : PlOk p) {i : Nat} {f : Nat × Bytes} {x : Nd} {D D' : List Nat} (hi : F i = some f) (hi0 : i ≠ 0) (hg : GiL p V V' (ndOf p V F) i (ldN p V i) x D D' 0 (has f.2.length - has 0) (stdS (dat 0))) :
    Rep p (setD V' p.im i false) (updM F i none) ∧ Go.Proofs.YtedmihapieleaaaGreat.dig V' p.im i = true := by
  have hlo := ho.lo
  have htd := ho.tbda
  have htab := ho.tab
  have hlt := h.lt hi
  have hinv := hg.inv.inode ho hlt none (fun y S hy => by rw [updF_same] at hy; cases hy; exact fun k => stdS_zero k) (fun x S hx => by cases hx) (V' := setD V' p.im i false) (setD_len hg.inv.len _ _ _) (fun v hv => imap_other ho hlt false hv) (fun j hj => by rw [dig_setD hg.inv.len]; rfl)
  rw [updF_updF] at hinv
  have hV : ∀ v, p.bm ≤ v → setD V' p.im i false v = V' v := fun v hv => imap_other ho hlt false hv
  have hoth := kp_others h ho hg.kp
  have hnd : ∀ j, ndOf p (setD V' p.im i false) (updM F i none) j = updF (ndOf p V F) i none j := by
    intro j
    by_cases hj : j = i
    · subst hj; rw [updF_same]; unfold ndOf; rw [updM_same]; rfl
    · rw [updF_other _ _ hj]
      unfold ndOf
      rw [updM_other _ _ hj]
      cases hF : F j with
      | none => rfl
      | some g =>
        have := (hoth j g hj hF).1
        show some (_, _) = some (_, _)
        rw [← this]
        unfold ldN
        rw [hV _ (by omega)]
  refine ⟨⟨?_, ?_, ?_, ?_⟩, ?_⟩
  · refine hinv.same hinv.len (fun _ _ => rfl) (fun _ _ => rfl) fun j => ?_
    rw [hnd j]
    cases hj : updF (ndOf p V F) i none j with
    | none => exact .inl ⟨rfl, rfl⟩
    | some y =>
      obtain ⟨y, T⟩ := y
      exact .inr ⟨y, y, T, rfl, rfl, hinv.fits _ _ _ hj, fun _ _ => rfl⟩
  · intro j g hj
    by_cases hji : j = i
    · subst hji; rw [updM_same] at hj; cases hj
    · rw [updM_other _ _ hji] at hj
      have hj' := h.ok j g hj
      obtain ⟨h1, h2⟩ := hoth j g hji hj
      have hld : ldN p (setD V' p.im i false) j = ldN p V j := by rw [← h1]; unfold ldN; rw [hV _ (by omega)]
      rw [hld]
      refine ⟨hj'.kd, hj'.k12, hj'.sz, hj'.big, fun q hq => ?_⟩
      rw [← hj'.byt q hq]
      have hS : stdS (dat g.2.length) (q / 512) = true := stdS_iff.2 (.inl (by unfold dat; omega))
      have hr1 := fun k hk' => h.inv.rng j (ldN p V j) (stdS (dat g.2.length)) k (repNd hj) hk'
      have hp : ptr (setD V' p.im i false) (ldN p V j) (q / 512) = ptr V (ldN p V j) (q / 512) := ptrs_congr (stdS_ok (dat_le hj'.big)) (fun h3 => by
        have h4 := h2 200 h3
        have h5 := hr1 200 h3
        rw [ptr_200] at h4 h5
        rw [hV _ (by omega), h4]) hS
      have h6 := hr1 _ hS
      exact fb_congr hp (by rw [hV _ (by omega)]; exact h2 _ hS)
  · rw [cnt_imap ho hlt]
    have h2 := tot_upd' F hlt none
    rw [hi] at h2
    have h3 : tot (updM F i none) p.ino + has f.2.length = tot F p.ino := h2
    have h4 := hg.cn
    have h5 := h.cn
    have h6 : has 0 = 0 := rfl
    omega
  · rw [updM_other _ _ (Ne.symm hi0)]; exact h.root
  · have h1 := hg.inv.imap i hlt
    rw [updF_same] at h1
    exact h1
end Go.Proofs.YtedmihapieleaaaGreat
