/- copy; byte rows that no one writes any more. Over any program. -/
import Derived.Test.YtedmihapieleaaaGreatSq
import Derived.Test.YtedmihapieleaaaGreatPb
set_option linter.unusedVariables false
set_option linter.unusedSimpArgs false
set_option linter.unusedSectionVars false
namespace Go.Proofs.YtedmihapieleaaaGreat
open Go

section
variable {P : Program} {B : Base} {n : Nat} {Q Q' : Exit → Act → World → Prop} {e : Env} {L : List HP} {ops : Array Oper} {l : List Oper}
variable {d : Nat} {ty : TypeId} {pos : String} {af : Array Edge} {x y z : Operand} {gd : Option (Nat × Bool)}

theorem loadCellsFrom_read {w : World} {g off : Nat} {ys : List Value} (h : ∀ i, i < ys.length → w.cell? ⟨g, off + i, none⟩ = ys[i]?) :
    ∀ (k i : Nat) (acc : Array Value), i + k ≤ ys.length → (loadCellsFrom ⟨g, off, none⟩ i k acc).run P w = .ok (acc ++ ((ys.drop i).take k).toArray) w := by
  intro k
  induction k with
  | zero => intro i acc _; simp [loadCellsFrom]
  | succ k ih =>
    intro i acc hle
    have hc := h i (by omega)
    rw [List.getElem?_eq_getElem (show i < ys.length by omega)] at hc
    unfold loadCellsFrom
    simp only [add_plain', load, Sem.run_bind, Sem.run, hc, Result.andThen_ok]
    rw [ih (i + 1) _ (by omega)]
    congr 1
    apply Array.toList_inj.1
    have e1 : (ys.drop i).take (k + 1) = ys[i] :: (ys.drop (i + 1)).take k := by rw [List.drop_eq_getElem_cons (show i < ys.length by omega)]; rfl
    rw [e1]
    simp
theorem run_copy {w : World} {M : List HP} {tt dd el bytes g k off dl dc m sc : Nat} {A : Option Addr} {xs ys : List Value} {R : HP} (ht : sliceOk P tt el 1 bytes = true) (hs : Sat B w (buf g dd k xs :: M)) (hR : Reads R A ys) (hm : Mem M R) (hl : ys.length = m) (hd : off + dl ≤ xs.length) (h1 : ∀ v ∈ ys, Value.single v = true) (ta : TypeId) (tb' : TypeId) :
    ∃ w', (Builtin.copy_ #[tt, ta] tb' #[.slice (some ⟨g, off, none⟩) dl dc, .slice A m sc]).run P w = .ok (.int .i64 ((min m dl : Nat) : Int)) w' ∧ Sat B w' (buf g dd k (xs.take off ++ ys.take (min m dl) ++ xs.drop (off + min m dl)) :: M) := by
  obtain ⟨hu, i, z, hi, hsz, hby, hzz⟩ := slice_of ht
  have hmin : Nat.min m dl = min m dl := rfl
  -- what is read
  have hload : (Builtin.firstCells 1 (min m dl) (.slice A m sc)).run P w = .ok (ys.take (min m dl)).toArray w := by
    match A, hR with
    | none, hR =>
      have : ys = [] := hR
      subst this
      simp [Builtin.firstCells]
    | some ⟨b, o, sp⟩, hR =>
      have hsp : sp = none := hR.1
      subst hsp
      have hcell : ∀ i, i < ys.length → w.cell? ⟨b, o + i, none⟩ = ys[i]? := fun i hi => hR.cell hs.tail hm hi
      have := loadCellsFrom_read (P := P) hcell (min m dl) 0 #[] (by omega)
      simpa [Builtin.firstCells, loadCells] using this
  have hlen : (ys.take (min m dl)).length = min m dl := by simp; omega
  obtain ⟨cur, ⟨h3, h4, h5⟩, hs1⟩ := hs.openE pt_of_buf
  have hb := hs1.get .here
  have hst := run_storeCells (P := P) (w := w) (b := g) (t := dd) (ys.take (min m dl)) 0 off cur w hb (by rw [hlen]; omega) (fun v hv => h1 v (List.mem_of_mem_take hv))
  simp only [Nat.add_zero, hlen] at hst
  have hval : (Builtin.copy_ #[tt, ta] tb' #[.slice (some ⟨g, off, none⟩) dl dc, .slice A m sc]).run P w = ((storeCells ⟨g, off, none⟩ (ys.take (min m dl))).run P w).andThen fun _ w' => .ok (.int .i64 ((min m dl : Nat) : Int)) w' := by
    have hlo : (Builtin.lenOf (.slice A m sc)).run P w = .ok m w := rfl
    simp [Builtin.copy_, run_underlying hu, hlo, sizeOf, typeInfo, hi, hsz, hmin, hload, goInt]
  rw [hval, hst, Result.andThen_ok]
  refine ⟨_, rfl, ?_⟩
  by_cases h0 : ys.take (min m dl) = []
  · rw [if_pos h0, h0]
    have hz : min m dl = 0 := by rw [← hlen, h0]; rfl
    rw [hz]
    simp only [List.append_nil, Nat.add_zero, List.take_append_drop]
    exact hs
  · rw [if_neg h0]
    refine (hs1.set (.here (y := pt g (.cells (cur.toList.take off ++ ys.take (min m dl) ++ cur.toList.drop (off + min m dl)).toArray dd (0, 0))))).imp (L := []) fun h hh => ?_
    unfold pt at hh
    unfold buf
    refine ⟨_, hh, ?_, ?_, ?_⟩
    · simp; omega
    · have hx : xs = cur.toList.take xs.length := h4.symm
      apply List.ext_getElem?
      intro j
      have hg : ∀ j, j < xs.length → cur.toList[j]? = xs[j]? := fun j hj => take_get h4 j hj
      simp only [List.length_append, List.length_take, List.length_drop, List.getElem?_take, List.getElem?_append, List.getElem?_drop, Array.length_toList]
      have hc : cur.size = k := h3
      have hxk := h5
      by_cases c1 : j < off
      · have := hg j (by omega)
        grind
      · by_cases c2 : j < off + min m dl
        · grind
        · by_cases c3 : j < xs.length
          · have := hg j c3
            grind
          · have : xs[j]? = none := List.getElem?_eq_none (by omega)
            grind
    · simp; omega
theorem WL.copy {tt dd el bytes g k off dl dc m sc : Nat} {ta : TypeId} {A : Option Addr} {xs ys : List Value} {R : HP} {M : List HP} (ht : sliceOk P tt el 1 bytes = true) (hR : Reads R A ys) (hl : ys.length = m) (h1 : ∀ v ∈ ys, Value.single v = true)
    (h : WL P B n ops l Q ((d, .int .i64 ((min m dl : Nat) : Int)) :: e) (buf g dd k (xs.take off ++ ys.take (min m dl) ++ xs.drop (off + min m dl)) :: M))
    (hx : evo e x = some (.slice (some ⟨g, off, none⟩) dl dc) := by rfl) (hy : evo e y = some (.slice A m sc) := by rfl) (r : Rem L (buf g dd k xs) M := by repeat (first | exact .here | apply Rem.there)) (hm : Mem M R := by repeat (first | exact .here | refine .there ?_)) (hdl : off + dl ≤ xs.length := by first | (simp only [List.length_replicate, bvs_length]; omega) | (simp; omega)) (hd : Nat.ble (d + 1) n = true := by rfl) :
    WL P B n ops (⟨some d, .call ⟨.builtin .copy, #[x, y], #[tt, ta]⟩, ty, pos, af, none⟩ :: l) Q e L :=
  WL.step rfl fun a w ha hs => by
    obtain ⟨w', h2, h3⟩ := run_copy (P := P) (dc := dc) (sc := sc) ht (hs.front r) hR hm hl hdl h1 ta ty
    refine ⟨_, w', _, _, ?_, ha.put hd _, h3, h⟩
    simp [execOp, resolve, invoke, builtin, ha.eval hx, ha.eval hy, h2]
theorem WL.mkSN {t el bytes : Nat} (k : Nat) {zv : Value} (hz : zeroOf P el = some #[zv]) (ht : sliceOk P t el 1 bytes = true) (hb : bytes * k ≤ 281474976710656) (hm : k ≤ 9223372036854775807) (h : ∀ b, WL P B n ops l Q ((d, .slice (some ⟨b, 0, none⟩) k k) :: e) (buf b el k (List.replicate k zv) :: L))
    (hx : evo e x = some (.int .i64 (k : Int)) := by rfl) (hy : evo e y = some (.int .i64 (k : Int)) := by rfl) (hd : Nat.ble (d + 1) n = true := by rfl) :
    WL P B n ops (⟨some d, .makeSlice t x y, ty, pos, af, none⟩ :: l) Q e L := by
  have h1 : ((bytes * k : Nat) : Int) ≤ 281474976710656 := by omega
  rw [Int.natCast_mul] at h1
  exact WL.mkS (k := (k : Int)) hz (fun b => by simpa using h b) ht (Int.natCast_nonneg _) h1 (by omega) hx hy hd
theorem laid_whole {xs ys : List Value} {m k : Nat} (hm : m = k) (hy : ys.length = m) (hx : xs.length = k) : xs.take 0 ++ ys.take (min m k) ++ xs.drop (0 + min m k) = ys := by
  subst hm
  rw [List.take_zero, List.nil_append, List.take_of_length_le (by omega), List.drop_of_length_le (by omega), List.append_nil]
theorem laid_none {xs : List Value} {k : Nat} : xs.take 0 ++ ([] : List Value).take (min 0 k) ++ xs.drop (0 + min 0 k) = xs := by
  rw [Nat.zero_min]
  rfl
/-- A pure fact that an assertion bears. -/
theorem WL.fact {A : HP} {φ : Prop} (hA : ∀ h, A h → φ) (h : φ → WL P B n ops l Q e L) (hm : Mem L A := by repeat (first | exact .here | refine .there ?_)) : WL P B n ops l Q e L := by
  intro a w ha hs
  obtain ⟨M, r⟩ := hm.rem
  have hs1 := hs.front r
  obtain ⟨_, _, _, ks, hk⟩ := hs1
  match ks, hk with
  | k0 :: ks, ⟨hA0, _⟩ => exact h (hA k0 hA0) a w ha hs
theorem WC.fact {c : Code} {A : HP} {φ : Prop} (hA : ∀ h, A h → φ) (h : φ → WC P B n c Q e L) (hm : Mem L A := by repeat (first | exact .here | refine .there ?_)) : WC P B n c Q e L := by
  intro a w ha hs
  obtain ⟨M, r⟩ := hm.rem
  have hs1 := hs.front r
  obtain ⟨_, _, _, ks, hk⟩ := hs1
  match ks, hk with
  | k0 :: ks, ⟨hA0, _⟩ => exact h (hA k0 hA0) a w ha hs
theorem WC.drop {c : Code} {A : HP} {M : List HP} (h : WC P B n c Q e M) (r : Rem L A M := by repeat (first | exact .here | apply Rem.there)) : WC P B n c Q e L := fun a w ha hs => h a w ha (hs.front r).tail
theorem WL.drop {A : HP} {M : List HP} (h : WL P B n ops l Q e M) (r : Rem L A M := by repeat (first | exact .here | apply Rem.there)) : WL P B n ops l Q e L := fun a w ha hs => h a w ha (hs.front r).tail
end

/-! ### byte rows that stay -/
def blobs (bl : List (Value × Bytes)) : HP := fun h => ∀ p ∈ bl, ∃ g c cs el, p.1 = .slice (some ⟨g, 0, none⟩) p.2.length c ∧ p.2.length ≤ c ∧ h g = some (false, .cells cs el (0, 0)) ∧ cs.toList.take p.2.length = bvs p.2
theorem blobs_shape {bl : List (Value × Bytes)} {v : Value} {xs : Bytes} (hm : (v, xs) ∈ bl) : ∀ h, blobs bl h → ∃ g c, v = .slice (some ⟨g, 0, none⟩) xs.length c ∧ xs.length ≤ c := by
  intro h hb
  obtain ⟨g, c, cs, el, h1, h2, _⟩ := hb _ hm
  exact ⟨g, c, h1, h2⟩
theorem Reads.blob {bl : List (Value × Bytes)} {g c m : Nat} {xs : Bytes} (hm : (.slice (some ⟨g, 0, none⟩) m c, xs) ∈ bl) : Reads (blobs bl) (some ⟨g, 0, none⟩) (bvs xs) := by
  refine ⟨rfl, fun h hb => ?_⟩
  obtain ⟨g', c', cs, el, h1, h2, h3, h4⟩ := hb _ hm
  have : g = g' := by injection h1 with h1; injection h1 with h1; injection h1
  subst this
  refine ⟨false, cs, el, (0, 0), h3, fun i hi => ?_⟩
  rw [← bvs_length] at h4
  have := take_get h4 i hi
  simpa using this
theorem Sat.blobsNil {B : Base} {w : World} {M : List HP} (hs : Sat B w M) : Sat B w (blobs [] :: M) := by
  obtain ⟨p, q, s, hs, h⟩ := hs
  exact ⟨p, q, s, (fun _ => none) :: hs, (fun _ h => by cases h), (fun b x h => by cases h), (fun _ _ b x y h => by cases h), h⟩
theorem Sat.blobsAdd {B : Base} {w : World} {M : List HP} {bl : List (Value × Bytes)} {g el k : Nat} {xs : Bytes} (hk : xs.length ≤ k) (hs : Sat B w (buf g el k (bvs xs) :: blobs bl :: M)) : Sat B w (blobs ((.slice (some ⟨g, 0, none⟩) xs.length k, xs) :: bl) :: M) := by
  obtain ⟨cur, ⟨h1, h2, h3⟩, hs1⟩ := hs.openE pt_of_buf
  have hb := hs1.get .here
  have hs2 := hs1.freeze (.here (y := ro g (.cells cur el (0, 0))))
  obtain ⟨p, q, s, hs, h⟩ := hs2
  match hs, h with
  | h0 :: h1' :: hs, ⟨hr, hle, hd, hbl, hle1, hd1, hrest⟩ =>
    have hr' : h0 g = some (false, .cells cur el (0, 0)) := by unfold ro at hr; exact hr
    refine ⟨p, q, s, (fun b => if b = g then some (false, .cells cur el (0, 0)) else h1' b) :: hs, ?_, ?_, ?_, hrest⟩
    · intro p hp
      rcases List.mem_cons.1 hp with rfl | hp
      · exact ⟨g, k, cur, el, rfl, hk, by simp, by rw [bvs_length] at h2; exact h2⟩
      · obtain ⟨g', c', cs, el', e1, e2, e3, e4⟩ := hbl p hp
        refine ⟨g', c', cs, el', e1, e2, ?_, e4⟩
        by_cases hg : g' = g
        · subst hg
          have := hle1 g' _ e3
          rw [hb] at this
          simp only [Option.some.injEq] at this
          simp [this]
        · simp [hg, e3]
    · intro b x hx
      by_cases hg : b = g
      · subst hg
        simp only [if_true, Option.some.injEq] at hx
        subst hx
        exact hb
      · simp only [hg, if_false] at hx
        exact hle1 b x hx
    · intro j hj b x y hx hy
      by_cases hg : b = g
      · subst hg
        simp only [if_true, Option.some.injEq] at hx
        subst hx
        exact ⟨rfl, (hd j (List.mem_cons_of_mem _ hj) b _ y hr' hy).2⟩
      · simp only [hg, if_false] at hx
        exact hd1 j hj b x y hx hy
attribute [irreducible] blobs
section
variable {P : Program} {B : Base} {n : Nat} {Q Q' : Exit → Act → World → Prop} {e : Env} {L : List HP} {ops : Array Oper} {l : List Oper}
theorem WL.blobsAdd {bl : List (Value × Bytes)} {g el k : Nat} {xs : Bytes} {M N : List HP} (hk : xs.length ≤ k) (h : WL P B n ops l Q e (blobs ((.slice (some ⟨g, 0, none⟩) xs.length k, xs) :: bl) :: N)) (r : Rem L (buf g el k (bvs xs)) M := by repeat (first | exact .here | apply Rem.there)) (r2 : Rem M (blobs bl) N := by repeat (first | exact .here | apply Rem.there)) : WL P B n ops l Q e L :=
  fun a w ha hs => h a w ha (Sat.blobsAdd hk (Sat.take (.cons r (.cons r2 .nil)) hs))
theorem WQ.blobsAdd {xt : Exit} {bl : List (Value × Bytes)} {g el k : Nat} {xs : Bytes} {M N : List HP} (hk : xs.length ≤ k) (h : WQ B n Q xt e (blobs ((.slice (some ⟨g, 0, none⟩) xs.length k, xs) :: bl) :: N)) (r : Rem L (buf g el k (bvs xs)) M := by repeat (first | exact .here | apply Rem.there)) (r2 : Rem M (blobs bl) N := by repeat (first | exact .here | apply Rem.there)) : WQ B n Q xt e L :=
  fun a w ha hs => h a w ha (Sat.blobsAdd hk (Sat.take (.cons r (.cons r2 .nil)) hs))
theorem WL.blobsNil (h : WL P B n ops l Q e (blobs [] :: L)) : WL P B n ops l Q e L := fun a w ha hs => h a w ha hs.blobsNil
theorem WC.blobsNil {c : Code} (h : WC P B n c Q e (blobs [] :: L)) : WC P B n c Q e L := fun a w ha hs => h a w ha hs.blobsNil
theorem WQ.blobsNil {xt : Exit} (h : WQ B n Q xt e (blobs [] :: L)) : WQ B n Q xt e L := fun a w ha hs => h a w ha hs.blobsNil
end
end Go.Proofs.YtedmihapieleaaaGreat
