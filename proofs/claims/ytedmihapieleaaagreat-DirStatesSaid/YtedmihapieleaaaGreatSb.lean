/- More steps: slices, appends, copies. Over any program. -/
import Derived.Test.YtedmihapieleaaaGreatSm
import Derived.Maps.AppendAt
import Derived.Laws.CopyRow
set_option linter.unusedVariables false
set_option linter.unusedSimpArgs false
namespace Go.Proofs.YtedmihapieleaaaGreat
open Go

/-! ### assertions turned -/
theorem Sat.imp {B : Base} {w : World} {L M : List HP} {A A' : HP} (h : Sat B w (A :: M)) (hi : ∀ k, A k → A' k) : Sat B w (A' :: M) := by
  obtain ⟨p, q, s, hs, h⟩ := h
  match hs, h with
  | h0 :: hs, ⟨ha, r⟩ => exact ⟨p, q, s, h0 :: hs, hi h0 ha, r⟩
theorem Sat.openE {B : Base} {w : World} {M : List HP} {A : HP} (h : Sat B w (A :: M)) {α : Type} {p : α → Prop} {A' : α → HP} (hA : ∀ k, A k → ∃ x, p x ∧ A' x k) : ∃ x, p x ∧ Sat B w (A' x :: M) := by
  obtain ⟨a, b, c, hs, h⟩ := h
  match hs, h with
  | h0 :: hs, ⟨ha, r⟩ =>
    obtain ⟨x, hp, hx⟩ := hA h0 ha
    exact ⟨x, hp, a, b, c, h0 :: hs, hx, r⟩
/-- An assertion says the same as, for some x, some assertions apart. -/
structure Opens (A : HP) {α : Type} (p : α → Prop) (Ls : α → List HP) : Prop where
  to : ∀ k, A k → ∃ x, p x ∧ star (Ls x) k
  of : ∀ x, p x → ∀ k, star (Ls x) k → A k
theorem Sat.opens {B : Base} {w : World} {M : List HP} {A : HP} (h : Sat B w (A :: M)) {α : Type} {p : α → Prop} {Ls : α → List HP} (hA : Opens A p Ls) : ∃ x, p x ∧ Sat B w (Ls x ++ M) := by
  obtain ⟨x, hp, hs⟩ := h.openE hA.to
  exact ⟨x, hp, hs.unstar⟩
theorem Sat.shuts {B : Base} {w : World} {M : List HP} {A : HP} {α : Type} {p : α → Prop} {Ls : α → List HP} (hA : Opens A p Ls) {x : α} (hp : p x) (h : Sat B w (Ls x ++ M)) : Sat B w (A :: M) :=
  h.star.imp (L := []) (hA.of x hp)
section
variable {P : Program} {B : Base} {n : Nat} {Q Q' : Exit → Act → World → Prop} {e : Env} {L : List HP} {ops : Array Oper} {l : List Oper}
variable {d : Nat} {ty : TypeId} {pos : String} {af : Array Edge} {x y z : Operand} {gd : Option (Nat × Bool)}
theorem WL.openR {A : HP} {M : List HP} {α : Type} {p : α → Prop} {Ls : α → List HP} (hA : Opens A p Ls) (h : ∀ x, p x → WL P B n ops l Q e (Ls x ++ M)) (r : Rem L A M := by repeat (first | exact .here | apply Rem.there)) : WL P B n ops l Q e L := by
  intro a w ha hs
  obtain ⟨x, hp, hs⟩ := (hs.front r).opens hA
  exact h x hp a w ha hs
theorem WC.openR {A : HP} {M : List HP} {α : Type} {p : α → Prop} {Ls : α → List HP} {c : Code} (hA : Opens A p Ls) (h : ∀ x, p x → WC P B n c Q e (Ls x ++ M)) (r : Rem L A M := by repeat (first | exact .here | apply Rem.there)) : WC P B n c Q e L := by
  intro a w ha hs
  obtain ⟨x, hp, hs⟩ := (hs.front r).opens hA
  exact h x hp a w ha hs
theorem WL.shutR {A : HP} {M : List HP} {α : Type} {p : α → Prop} {Ls : α → List HP} (hA : Opens A p Ls) (x : α) (hp : p x) (h : WL P B n ops l Q e (A :: M)) (t : Tk L (Ls x) M := by repeat (first | exact .nil | (apply Tk.cons; focus ((repeat (first | exact .here | apply Rem.there)); done)))) : WL P B n ops l Q e L :=
  fun a w ha hs => h a w ha (Sat.shuts hA hp (hs.take t))
theorem WC.shutR {A : HP} {M : List HP} {α : Type} {p : α → Prop} {Ls : α → List HP} {c : Code} (hA : Opens A p Ls) (x : α) (hp : p x) (h : WC P B n c Q e (A :: M)) (t : Tk L (Ls x) M := by repeat (first | exact .nil | (apply Tk.cons; focus ((repeat (first | exact .here | apply Rem.there)); done)))) : WC P B n c Q e L :=
  fun a w ha hs => h a w ha (Sat.shuts hA hp (hs.take t))
theorem WQ.shutR {A : HP} {M : List HP} {α : Type} {p : α → Prop} {Ls : α → List HP} {xt : Exit} (hA : Opens A p Ls) (x : α) (hp : p x) (h : WQ B n Q xt e (A :: M)) (t : Tk L (Ls x) M := by repeat (first | exact .nil | (apply Tk.cons; focus ((repeat (first | exact .here | apply Rem.there)); done)))) : WQ B n Q xt e L :=
  fun a w ha hs => h a w ha (Sat.shuts hA hp (hs.take t))
theorem WL.to {A A' : HP} {M : List HP} (hi : ∀ k, A k → A' k) (h : WL P B n ops l Q e (A' :: M)) (r : Rem L A M := by repeat (first | exact .here | apply Rem.there)) : WL P B n ops l Q e L :=
  fun a w ha hs => h a w ha ((hs.front r).imp (L := []) hi)
theorem WC.to {c : Code} {A A' : HP} {M : List HP} (hi : ∀ k, A k → A' k) (h : WC P B n c Q e (A' :: M)) (r : Rem L A M := by repeat (first | exact .here | apply Rem.there)) : WC P B n c Q e L :=
  fun a w ha hs => h a w ha ((hs.front r).imp (L := []) hi)
theorem WQ.to {xt : Exit} {A A' : HP} {M : List HP} (hi : ∀ k, A k → A' k) (h : WQ B n Q xt e (A' :: M)) (r : Rem L A M := by repeat (first | exact .here | apply Rem.there)) : WQ B n Q xt e L :=
  fun a w ha hs => h a w ha ((hs.front r).imp (L := []) hi)
theorem WL.toE {A : HP} {M : List HP} {α : Type} {p : α → Prop} {A' : α → HP} (hi : ∀ k, A k → ∃ x, p x ∧ A' x k) (h : ∀ x, p x → WL P B n ops l Q e (A' x :: M)) (r : Rem L A M := by repeat (first | exact .here | apply Rem.there)) : WL P B n ops l Q e L := by
  intro a w ha hs
  obtain ⟨x, hp, hs⟩ := (hs.front r).openE hi
  exact h x hp a w ha hs
theorem WC.toE {c : Code} {A : HP} {M : List HP} {α : Type} {p : α → Prop} {A' : α → HP} (hi : ∀ k, A k → ∃ x, p x ∧ A' x k) (h : ∀ x, p x → WC P B n c Q e (A' x :: M)) (r : Rem L A M := by repeat (first | exact .here | apply Rem.there)) : WC P B n c Q e L := by
  intro a w ha hs
  obtain ⟨x, hp, hs⟩ := (hs.front r).openE hi
  exact h x hp a w ha hs

/-! ### rows of cells -/
/-- A block of k cells, the first of which are xs. -/
def buf (g e k : Nat) (xs : List Value) : HP := fun h => ∃ cur : Array Value, h g = some (true, .cells cur e (0, 0)) ∧ cur.size = k ∧ cur.toList.take xs.length = xs ∧ xs.length ≤ k
/-- What may be read of a slice. -/
def Reads (R : HP) (A : Option Addr) (xs : List Value) : Prop :=
  match A with
  | none => xs = []
  | some ⟨g, off, sp⟩ => sp = none ∧ ∀ h, R h → ∃ fl cur e fr, h g = some (fl, .cells cur e fr) ∧ ∀ i, i < xs.length → cur[off + i]? = xs[i]?
theorem take_get {α : Type _} {l xs : List α} (h : l.take xs.length = xs) (i : Nat) (hi : i < xs.length) : l[i]? = xs[i]? := by
  have : (l.take xs.length)[i]? = xs[i]? := by rw [h]
  rwa [List.getElem?_take, if_pos hi] at this
theorem Reads.buf {g e k : Nat} {xs : List Value} : Reads (buf g e k xs) (some ⟨g, 0, none⟩) xs :=
  ⟨rfl, fun h ⟨cur, hg, hk, ht, hl⟩ => ⟨true, cur, e, (0, 0), hg, fun i hi => by
    have := take_get ht i hi
    simpa using this⟩⟩
theorem Reads.pt {g e : Nat} {cs : Array Value} {fr : Nat × Nat} : Reads (pt g (.cells cs e fr)) (some ⟨g, 0, none⟩) cs.toList := by
  refine ⟨rfl, fun h hh => ?_⟩
  unfold Go.Proofs.YtedmihapieleaaaGreat.pt at hh
  exact ⟨true, cs, e, fr, hh, fun i hi => by simp⟩
theorem Reads.ro {g e : Nat} {cs : Array Value} {fr : Nat × Nat} {xs : List Value} (hx : cs.toList.take xs.length = xs) : Reads (ro g (.cells cs e fr)) (some ⟨g, 0, none⟩) xs := by
  refine ⟨rfl, fun h hh => ?_⟩
  unfold Go.Proofs.YtedmihapieleaaaGreat.ro at hh
  exact ⟨false, cs, e, fr, hh, fun i hi => by
    have := take_get hx i hi
    simpa using this⟩
theorem Reads.nil {R : HP} : Reads R none [] := rfl
theorem Reads.drop {R : HP} {g off : Nat} {xs : List Value} (h : Reads R (some ⟨g, off, none⟩) xs) (k : Nat) : Reads R (some ⟨g, off + k, none⟩) (xs.drop k) := by
  refine ⟨rfl, fun hh hR => ?_⟩
  obtain ⟨fl, cur, e, fr, h1, h2⟩ := h.2 hh hR
  refine ⟨fl, cur, e, fr, h1, fun i hi => ?_⟩
  simp only [List.length_drop] at hi
  rw [Nat.add_assoc, h2 (k + i) (by omega), List.getElem?_drop]
theorem Reads.take {R : HP} {A : Option Addr} {xs : List Value} (h : Reads R A xs) (k : Nat) : Reads R A (xs.take k) := by
  match A, h with
  | none, h => have h' : xs = [] := h; subst h'; simp [Reads]
  | some ⟨g, off, sp⟩, ⟨h0, h1⟩ =>
    refine ⟨h0, fun hh hR => ?_⟩
    obtain ⟨fl, cur, e, fr, h1, h2⟩ := h1 hh hR
    refine ⟨fl, cur, e, fr, h1, fun i hi => ?_⟩
    simp only [List.length_take] at hi
    rw [h2 i (by omega), List.getElem?_take, if_pos (by omega)]
theorem Reads.cell {R : HP} {g off : Nat} {xs : List Value} (h : Reads R (some ⟨g, off, none⟩) xs) {w : World} (hs : Sat B w L) (m : Mem L R) {i : Nat} (hi : i < xs.length) : w.cell? ⟨g, off + i, none⟩ = xs[i]? := by
  obtain ⟨M, r⟩ := m.rem
  obtain ⟨_, _, _, hs, hh⟩ := hs.front r
  match hs, hh with
  | h0 :: hs, ⟨hR, hle, _⟩ =>
    obtain ⟨fl, cur, e, fr, h1, h2⟩ := h.2 h0 hR
    rw [cell_of (hle g _ h1), h2 i hi]
theorem buf_of_pt {g e : Nat} {cs : Array Value} {xs : List Value} (hx : cs.toList = xs) : ∀ k, pt g (.cells cs e (0, 0)) k → buf g e xs.length xs k := by
  intro k hk
  unfold pt at hk
  subst hx
  exact ⟨cs, hk, by simp, List.take_of_length_le (Nat.le_refl _), Nat.le_refl _⟩
theorem pt_of_buf {g e k : Nat} {xs : List Value} : ∀ h, buf g e k xs h → ∃ cs : Array Value, (cs.size = k ∧ cs.toList.take xs.length = xs ∧ xs.length ≤ k) ∧ pt g (.cells cs e (0, 0)) h := by
  rintro h ⟨cur, h1, h2, h3, h4⟩
  exact ⟨cur, ⟨h2, h3, h4⟩, by unfold pt; exact h1⟩
attribute [irreducible] buf

def sliceOk (P : Program) (t el size bytes : Nat) : Bool :=
  match P.underlying t with
  | some (.slice e) => Nat.beq e el && (match P.info? el with
    | some i => Nat.beq i.size size && Nat.beq i.bytes bytes && i.zero.isSome
    | none => false)
  | _ => false
theorem slice_of {t el size bytes : Nat} (h : sliceOk P t el size bytes = true) : P.underlying t = some (.slice el) ∧ ∃ i z, P.info? el = some i ∧ i.size = size ∧ i.bytes = bytes ∧ i.zero = some z := by
  unfold sliceOk at h
  split at h
  · rename_i e' hu
    simp only [Bool.and_eq_true] at h
    obtain ⟨h1, h2⟩ := h
    have h1 := Nat.eq_of_beq_eq_true h1
    subst h1
    split at h2
    · rename_i i hi
      simp only [Bool.and_eq_true] at h2
      obtain ⟨⟨h2, h3⟩, h4⟩ := h2
      obtain ⟨z, hz⟩ := Option.isSome_iff_exists.1 h4
      exact ⟨hu, i, z, hi, Nat.eq_of_beq_eq_true h2, Nat.eq_of_beq_eq_true h3, hz⟩
    · cases h2
  · cases h
theorem elem_of {t el : Nat} (h : P.underlying t = some (.slice el)) : P.elem t = el := by simp [Program.elem, h]
theorem Qt.lenS {t el k c : Nat} {A : Option Addr} (ht : P.underlying t = some (.slice el)) (hx : evo e x = some (.slice A k c) := by rfl) :
    Qt P B n e L ⟨some d, .call ⟨.builtin .len, #[x], #[t]⟩, ty, pos, af, gd⟩ (.int .i64 (k : Int)) :=
  fun a w ha hs => by
    simp [execOp, resolve, invoke, builtin, ha.eval hx, Builtin.len_, run_underlying ht, goInt]
theorem WL.lenS {t el k c : Nat} {A : Option Addr} (h : WL P B n ops l Q ((d, .int .i64 (k : Int)) :: e) L) (ht : P.underlying t = some (.slice el)) (hx : evo e x = some (.slice A k c) := by rfl) (hd : Nat.ble (d + 1) n = true := by rfl) :
    WL P B n ops (⟨some d, .call ⟨.builtin .len, #[x], #[t]⟩, ty, pos, af, none⟩ :: l) Q e L :=
  WL.pure h hd (Qt.lenS (ht := ht) (hx := hx))
theorem run_eqGuard_slice {op : BinOp} {t : TypeId} {x y : Operand} {A A' : Option Addr} {k c k' c' : Nat} (w : World) : (eqGuard op t x y (.slice A k c) (.slice A' k' c')).run P w = .ok () w := by
  cases op <;> simp [eqGuard]
theorem run_eqSlice {t el k c : Nat} {A : Option Addr} (ht : P.underlying t = some (.slice el)) (w : World) : (binOp .eql t (.slice A k c) (.slice none 0 0)).run P w = .ok (.bool A.isNone) w := by
  have key : ∀ d, (Op.equalIn (d + 1) t (.slice A k c) (.slice none 0 0)).run P w = .ok A.isNone w := by
    intro d
    cases A <;> simp [Op.equalIn, run_underlying ht]
  have : (Op.equal t (.slice A k c) (.slice none 0 0)).run P w = .ok A.isNone w := key 9999
  simp only [binOp]
  simp [this]
theorem WL.eqSl {t u el k c : Nat} {A : Option Addr} (h : WL P B n ops l Q ((d, .bool A.isNone) :: e) L) (ht : P.underlying t = some (.slice el)) (hx : evo e x = some (.slice A k c) := by rfl) (hy : evo e y = some (.slice none 0 0) := by rfl) (hd : Nat.ble (d + 1) n = true := by rfl) :
    WL P B n ops (⟨some d, .binOp .eql t x y u, ty, pos, af, none⟩ :: l) Q e L :=
  WL.bin h (fun w => by simp only [Sem.run_bind, run_eqGuard_slice, Result.andThen_ok, run_eqSlice ht]) hx hy hd
/-- make([]T, n) -/
theorem WL.mkS {t el bytes : Nat} {k : Int} {zv : Value} (hz : zeroOf P el = some #[zv]) (h : ∀ b, WL P B n ops l Q ((d, .slice (some ⟨b, 0, none⟩) k.toNat k.toNat) :: e) (buf b el k.toNat (List.replicate k.toNat zv) :: L))
    (ht : sliceOk P t el 1 bytes = true) (hk : 0 ≤ k) (hb : (bytes : Int) * k ≤ 281474976710656) (hm : k ≤ 9223372036854775807) (hx : evo e x = some (.int .i64 k) := by rfl) (hy : evo e y = some (.int .i64 k) := by rfl) (hd : Nat.ble (d + 1) n = true := by rfl) :
    WL P B n ops (⟨some d, .makeSlice t x y, ty, pos, af, none⟩ :: l) Q e L :=
  WL.step rfl fun a w ha hs => by
    obtain ⟨hu, i, z, hi, hsz, hby, hzz⟩ := slice_of ht
    have hzc : z.cells = #[zv] := by
      unfold zeroOf at hz
      simpa [hi, hzz] using hz
    have hr := run_make (P := P) w t el i z hu hi hzz .i64 .i64 k k hk (Int.le_refl _) (by rw [hby]; exact hb) hm
    rw [hsz, hzc, Nat.mul_one] at hr
    have hcells : (madeCells #[zv] k.toNat).toList = List.replicate k.toNat zv := by
      apply List.ext_getElem
      · simp [madeCells]
      · intro i h1 h2
        simp [madeCells, Nat.mod_one]
    have hb := buf_of_pt (g := w.heap.size) (e := el) hcells
    rw [List.length_replicate] at hb
    refine ⟨_, _, _, _, ?_, ha.put hd _, (hs.new _).imp (L := []) hb, h w.heap.size⟩
    simp only [execOp, ha.eval hx, ha.eval hy]
    rw [Sem.run_bind, hr]
    rfl
/-- The address of an element. -/
theorem Qt.idx {t el size bytes b off k c : Nat} {p : Int} {kk : IntKind} (ht : sliceOk P t el size bytes = true)
    (hx : evo e x = some (.slice (some ⟨b, off, none⟩) k c) := by rfl) (hy : evo e y = some (.int kk p) := by rfl) (hp : 0 ≤ p ∧ p < k := by omega) :
    Qt P B n e L ⟨some d, .indexAddr t x y, ty, pos, af, gd⟩ (.pointer (some ⟨b, off + p.toNat * size, none⟩)) :=
  fun a w ha hs => by
    obtain ⟨hu, i, z, hi, hsz, hby, hzz⟩ := slice_of ht
    simp [execOp, ha.eval hx, ha.eval hy, Instr.indexAt, asIntOf, run_underlying hu, hp, sizeOf, typeInfo, hi, hsz, add_plain']
theorem WL.idx {t el size bytes b off k c : Nat} {p : Int} {kk : IntKind} (h : WL P B n ops l Q ((d, .pointer (some ⟨b, off + p.toNat * size, none⟩)) :: e) L) (ht : sliceOk P t el size bytes = true)
    (hx : evo e x = some (.slice (some ⟨b, off, none⟩) k c) := by rfl) (hy : evo e y = some (.int kk p) := by rfl) (hp : 0 ≤ p ∧ p < k := by omega) (hd : Nat.ble (d + 1) n = true := by rfl) :
    WL P B n ops (⟨some d, .indexAddr t x y, ty, pos, af, none⟩ :: l) Q e L :=
  WL.pure h hd (Qt.idx (ht := ht) (hp := hp) (hx := hx) (hy := hy))
theorem Qt.idx1 {t el bytes b off k c : Nat} {p : Int} {kk : IntKind} (ht : sliceOk P t el 1 bytes = true)
    (hx : evo e x = some (.slice (some ⟨b, off, none⟩) k c) := by rfl) (hy : evo e y = some (.int kk p) := by rfl) (hp : 0 ≤ p ∧ p < k := by omega) :
    Qt P B n e L ⟨some d, .indexAddr t x y, ty, pos, af, gd⟩ (.pointer (some ⟨b, off + p.toNat, none⟩)) := by
  have := Qt.idx (P := P) (B := B) (n := n) (L := L) (d := d) (ty := ty) (pos := pos) (af := af) (gd := gd) ht hx hy hp
  simpa using this
theorem WL.idx1 {t el bytes b off k c : Nat} {p : Int} {kk : IntKind} (h : WL P B n ops l Q ((d, .pointer (some ⟨b, off + p.toNat, none⟩)) :: e) L) (ht : sliceOk P t el 1 bytes = true)
    (hx : evo e x = some (.slice (some ⟨b, off, none⟩) k c) := by rfl) (hy : evo e y = some (.int kk p) := by rfl) (hp : 0 ≤ p ∧ p < k := by omega) (hd : Nat.ble (d + 1) n = true := by rfl) :
    WL P B n ops (⟨some d, .indexAddr t x y, ty, pos, af, none⟩ :: l) Q e L :=
  WL.idx (by simpa using h) ht hx hy hp hd
/-- An element is read. -/
theorem Qt.ldR {t b off i : Nat} {R : HP} {xs : List Value} {v : Value} (hsc : scalarOk P t = true) (hR : Reads R (some ⟨b, off, none⟩) xs) (hv : xs[i]? = some v)
    (hx : evo e x = some (.pointer (some ⟨b, off + i, none⟩)) := by rfl) (hm : Mem L R := by repeat (first | exact .here | refine .there ?_)) :
    Qt P B n e L ⟨some d, .load t x, ty, pos, af, gd⟩ (v) :=
  fun a w ha hs => by
    have hi : i < xs.length := (List.getElem?_eq_some_iff.1 hv).1
    have := hR.cell hs hm hi
    simp [execOp, ha.eval hx, run_load hsc (this.trans hv)]
theorem WL.ldR {t b off i : Nat} {R : HP} {xs : List Value} {v : Value} (h : WL P B n ops l Q ((d, v) :: e) L) (hsc : scalarOk P t = true) (hR : Reads R (some ⟨b, off, none⟩) xs) (hv : xs[i]? = some v)
    (hx : evo e x = some (.pointer (some ⟨b, off + i, none⟩)) := by rfl) (hm : Mem L R := by repeat (first | exact .here | refine .there ?_)) (hd : Nat.ble (d + 1) n = true := by rfl) :
    WL P B n ops (⟨some d, .load t x, ty, pos, af, none⟩ :: l) Q e L :=
  WL.pure h hd (Qt.ldR (hsc := hsc) (hR := hR) (hv := hv) (hx := hx) (hm := hm))
/-- An element is written. -/
theorem Sat.bufSet {w : World} {M : List HP} {g el k : Nat} {xs : List Value} (hs : Sat B w (buf g el k xs :: M)) {i : Nat} {v : Value} (hi : i < xs.length) (hv : Value.single v = true) :
    ∃ w', (store ⟨g, i, none⟩ v).run P w = .ok () w' ∧ Sat B w' (buf g el k (xs.set i v) :: M) := by
  obtain ⟨cur, ⟨h1, h2, h3⟩, hs⟩ := hs.openE pt_of_buf
  have hb := hs.get .here
  refine ⟨_, run_store1 hb (by omega) hv, ?_⟩
  refine (hs.set (.here (y := pt g (.cells (cur.setIfInBounds i v) el (0, 0))))).imp (L := []) fun h hh => ?_
  unfold pt at hh
  unfold buf
  refine ⟨_, hh, by simp [h1], ?_, by simpa using h3⟩
  rw [List.length_set, Array.toList_setIfInBounds, List.take_set, h2]
theorem WL.stB {t b k el i : Nat} {xs : List Value} {v : Value} {M : List HP} (h : WL P B n ops l Q e (buf b el k (xs.set i v) :: M)) (hsc : scalarOk P t = true) (hi : i < xs.length)
    (hx : evo e x = some (.pointer (some ⟨b, i, none⟩)) := by rfl) (hy : evo e y = some v := by rfl) (r : Rem L (buf b el k xs) M := by repeat (first | exact .here | apply Rem.there)) (hv : Value.single v = true := by rfl) :
    WL P B n ops (⟨none, .store t x y, ty, pos, af, none⟩ :: l) Q e L :=
  WL.skipStep rfl fun a w ha hs => by
    obtain ⟨w', h1, h2⟩ := (hs.front r).bufSet (P := P) hi hv
    refine ⟨w', e, _, ?_, ha.put_none _, h2, h⟩
    simp [execOp, ha.eval hx, ha.eval hy, Instr.storeAt, Instr.sureAddr, storeVar, cells_single hv, size_scalar hsc, storeCells, add_plain', h1]

/-! ### slices of slices -/
theorem Qt.slcLH {t el size bytes b off k c : Nat} {p q : Int} {kp kq : IntKind}
    (ht : sliceOk P t el size bytes = true)
    (hx : evo e x = some (.slice (some ⟨b, off, none⟩) k c) := by rfl) (hy : evo e y = some (.int kp p) := by rfl) (hz : evo e z = some (.int kq q) := by rfl) (hp : 0 ≤ p ∧ p ≤ q ∧ q ≤ c := by omega) :
    Qt P B n e L ⟨some d, .slice t x (some y) (some z) none, ty, pos, af, gd⟩ (.slice (if c = p.toNat then some ⟨b, off, none⟩ else some ⟨b, off + p.toNat * size, none⟩) (q.toNat - p.toNat) (c - p.toNat)) :=
  fun a w ha hs => by
    obtain ⟨hu, i, zz, hi, hsz, hby, hzz⟩ := slice_of ht
    have hel := elem_of hu
    have hu' : P.underlying t = some (.slice (P.elem t)) := by rw [hel]; exact hu
    simp only [execOp, ha.eval hx, Option.map_some, ha.eval hy, ha.eval hz, Option.map_none]
    rw [Sem.run_bind, run_sliceAt_slice w t _ _ _ _ hu', run_slice_lh w t _ k c hu' kp kq p q hp.1 hp.2.1 hp.2.2, hel]
    simp [sizeOf, typeInfo, hi, hsz, sliced, add_plain']
theorem WL.slcLH {t el size bytes b off k c : Nat} {p q : Int} {kp kq : IntKind} (h : WL P B n ops l Q ((d, .slice (if c = p.toNat then some ⟨b, off, none⟩ else some ⟨b, off + p.toNat * size, none⟩) (q.toNat - p.toNat) (c - p.toNat)) :: e) L)
    (ht : sliceOk P t el size bytes = true)
    (hx : evo e x = some (.slice (some ⟨b, off, none⟩) k c) := by rfl) (hy : evo e y = some (.int kp p) := by rfl) (hz : evo e z = some (.int kq q) := by rfl) (hp : 0 ≤ p ∧ p ≤ q ∧ q ≤ c := by omega) (hd : Nat.ble (d + 1) n = true := by rfl) :
    WL P B n ops (⟨some d, .slice t x (some y) (some z) none, ty, pos, af, none⟩ :: l) Q e L :=
  WL.pure h hd (Qt.slcLH (ht := ht) (hp := hp) (hx := hx) (hy := hy) (hz := hz))
theorem Qt.slcL {t el size bytes b off k c : Nat} {p : Int} {kp : IntKind}
    (ht : sliceOk P t el size bytes = true)
    (hx : evo e x = some (.slice (some ⟨b, off, none⟩) k c) := by rfl) (hy : evo e y = some (.int kp p) := by rfl) (hp : 0 ≤ p ∧ p ≤ k := by omega) :
    Qt P B n e L ⟨some d, .slice t x (some y) none none, ty, pos, af, gd⟩ (.slice (if c = p.toNat then some ⟨b, off, none⟩ else some ⟨b, off + p.toNat * size, none⟩) (k - p.toNat) (c - p.toNat)) :=
  fun a w ha hs => by
    obtain ⟨hu, i, zz, hi, hsz, hby, hzz⟩ := slice_of ht
    have hel := elem_of hu
    have hu' : P.underlying t = some (.slice (P.elem t)) := by rw [hel]; exact hu
    simp only [execOp, ha.eval hx, Option.map_some, ha.eval hy, Option.map_none]
    rw [Sem.run_bind, run_sliceAt_slice w t _ _ _ _ hu', run_slice_l w t _ k c hu' kp p hp.1 hp.2, hel]
    simp [sizeOf, typeInfo, hi, hsz, sliced, add_plain']
theorem WL.slcL {t el size bytes b off k c : Nat} {p : Int} {kp : IntKind} (h : WL P B n ops l Q ((d, .slice (if c = p.toNat then some ⟨b, off, none⟩ else some ⟨b, off + p.toNat * size, none⟩) (k - p.toNat) (c - p.toNat)) :: e) L)
    (ht : sliceOk P t el size bytes = true)
    (hx : evo e x = some (.slice (some ⟨b, off, none⟩) k c) := by rfl) (hy : evo e y = some (.int kp p) := by rfl) (hp : 0 ≤ p ∧ p ≤ k := by omega) (hd : Nat.ble (d + 1) n = true := by rfl) :
    WL P B n ops (⟨some d, .slice t x (some y) none none, ty, pos, af, none⟩ :: l) Q e L :=
  WL.pure h hd (Qt.slcL (ht := ht) (hp := hp) (hx := hx) (hy := hy))
theorem Qt.slcH {t el size bytes b off k c : Nat} {q : Int} {kq : IntKind}
    (ht : sliceOk P t el size bytes = true)
    (hx : evo e x = some (.slice (some ⟨b, off, none⟩) k c) := by rfl) (hz : evo e z = some (.int kq q) := by rfl) (hp : 0 ≤ q ∧ q ≤ c := by omega) :
    Qt P B n e L ⟨some d, .slice t x none (some z) none, ty, pos, af, gd⟩ (.slice (some ⟨b, off, none⟩) q.toNat c) :=
  fun a w ha hs => by
    obtain ⟨hu, i, zz, hi, hsz, hby, hzz⟩ := slice_of ht
    have hel := elem_of hu
    have hu' : P.underlying t = some (.slice (P.elem t)) := by rw [hel]; exact hu
    simp only [execOp, ha.eval hx, Option.map_some, ha.eval hz, Option.map_none]
    rw [Sem.run_bind, run_sliceAt_slice w t _ _ _ _ hu', run_slice_h w t _ k c hu' kq q hp.1 hp.2, hel]
    simp [sizeOf, typeInfo, hi, hsz, sliced, add_plain']
theorem WL.slcH {t el size bytes b off k c : Nat} {q : Int} {kq : IntKind} (h : WL P B n ops l Q ((d, .slice (some ⟨b, off, none⟩) q.toNat c) :: e) L)
    (ht : sliceOk P t el size bytes = true)
    (hx : evo e x = some (.slice (some ⟨b, off, none⟩) k c) := by rfl) (hz : evo e z = some (.int kq q) := by rfl) (hp : 0 ≤ q ∧ q ≤ c := by omega) (hd : Nat.ble (d + 1) n = true := by rfl) :
    WL P B n ops (⟨some d, .slice t x none (some z) none, ty, pos, af, none⟩ :: l) Q e L :=
  WL.pure h hd (Qt.slcH (ht := ht) (hp := hp) (hx := hx) (hz := hz))
/-- arr[:] of an array's variable -/
theorem Qt.slcArr {t el k b : Nat} (ht : P.underlying t = some (.array k el)) (hi : (P.info? el).isSome = true)
    (hx : evo e x = some (.pointer (some ⟨b, 0, none⟩)) := by rfl) :
    Qt P B n e L ⟨some d, .slice t x none none none, ty, pos, af, gd⟩ (.slice (some ⟨b, 0, none⟩) k k) :=
  fun a w ha hs => by
    obtain ⟨i, hi⟩ := Option.isSome_iff_exists.1 hi
    simp [execOp, ha.eval hx, Instr.sliceAt, run_underlying ht, Instr.sureAddr, Instr.sliceBounds, sizeOf, typeInfo, hi, add_plain']

theorem WL.slcArr {t el k b : Nat} (h : WL P B n ops l Q ((d, .slice (some ⟨b, 0, none⟩) k k) :: e) L) (ht : P.underlying t = some (.array k el)) (hi : (P.info? el).isSome = true)
    (hx : evo e x = some (.pointer (some ⟨b, 0, none⟩)) := by rfl) (hd : Nat.ble (d + 1) n = true := by rfl) :
    WL P B n ops (⟨some d, .slice t x none none none, ty, pos, af, none⟩ :: l) Q e L :=
  WL.pure h hd (Qt.slcArr (ht := ht) (hi := hi) (hx := hx))
/-! ### append -/
/-- A slice of the call's own: nil, or at the head of a block. -/
def rowR (e size : Nat) (v : Value) (k : Nat) (xs : List Value) : HP := fun h => xs.length = k * size ∧ ((v = .slice none 0 0 ∧ k = 0) ∨
  ∃ g cap cur, v = .slice (some ⟨g, 0, none⟩) k cap ∧ h g = some (true, .cells cur e (0, 0)) ∧ k ≤ cap ∧ cap ≤ maxLen ∧ cur.size = cap * size ∧ cur.toList.take (k * size) = xs)
theorem rowR.nil {e size : Nat} (h : PH) : rowR e size (.slice none 0 0) 0 [] h := ⟨by simp, .inl ⟨rfl, rfl⟩⟩
theorem rowR_of_buf {g el cap : Nat} {xs : List Value} (hc : cap ≤ maxLen) : ∀ h, buf g el cap xs h → rowR el 1 (.slice (some ⟨g, 0, none⟩) xs.length cap) xs.length xs h := by
  intro h hh
  unfold buf at hh
  obtain ⟨cur, h1, h2, h3, h4⟩ := hh
  exact ⟨by simp, .inr ⟨g, cap, cur, rfl, h1, h4, hc, by simp [h2], by simpa using h3⟩⟩
theorem Sat.ownsRow {w : World} {M : List HP} {el size : Nat} {v : Value} {k : Nat} {xs : List Value} (hs : Sat B w (rowR el size v k xs :: M)) : w.ownsRow 0 el size v k xs := by
  obtain ⟨_, _, _, hs, h⟩ := hs
  match hs, h with
  | h0 :: hs, ⟨⟨h1, h2⟩, hle, _⟩ =>
    refine ⟨h1, ?_⟩
    rcases h2 with h2 | ⟨g, cap, cur, h2, h3, h4⟩
    · exact .inl h2
    · exact .inr ⟨g, cap, cur, h2, Nat.zero_le _, hle g _ h3, h4⟩
theorem Sat.rowGrown {w w' : World} {M : List HP} {el size : Nat} {v v' : Value} {k k' : Nat} {xs xs' : List Value} (hs : Sat B w (rowR el size v k xs :: M)) (ho : w'.ownsRow 0 el size v' k' xs')
    (hg : w.grownBy w' v.ownBlock) (hat : v'.ownBlock = v.ownBlock ∨ v'.ownBlock = some w.heap.size) : Sat B w' (rowR el size v' k' xs' :: M) := by
  obtain ⟨p, q, s, hs, h⟩ := hs
  match hs, h with
  | h0 :: hs, ⟨⟨h1, h2⟩, hle, hd, hr⟩ =>
    -- the other parts do not hold the old row's block
    have hfar : ∀ k ∈ hs, ∀ b x, k b = some x → v.ownBlock ≠ some b := by
      intro kk hh b x hb hv
      rcases h2 with ⟨rfl, _⟩ | ⟨g, cap, cur, rfl, h3, _⟩
      · simp [Value.ownBlock] at hv
      · have : g = b := by simpa [Value.ownBlock] using hv
        subst this
        have := hd kk hh g _ x h3 hb
        simp at this
    have hlt : ∀ h ∈ hs, ∀ b x, h b = some x → b < w.heap.size := fun h hh b x hb => (Array.getElem?_eq_some_iff.1 (hr.les h hh b x hb)).1
    refine ⟨hg.os.trans p, hg.tape.trans q, hg.output.trans s, ?_⟩
    have hmoved : SatL w' M hs := hr.moved fun h hh b x hb => hg.block b (hlt h hh b x hb) (fun e => hfar h hh b x hb e.symm)
    rcases ho.2 with ⟨hv, hk⟩ | ⟨g, cap, cur, hv, _, h3, h4⟩
    · exact ⟨(fun _ => none) :: hs, ⟨ho.1, .inl ⟨hv, hk⟩⟩, fun b x h => (by cases h), fun _ _ b x y h => (by cases h), hmoved⟩
    · refine ⟨one g (true, .cells cur el (0, 0)) :: hs, ⟨ho.1, .inr ⟨g, cap, cur, hv, one_at _ _, h4⟩⟩, ?_, ?_, hmoved⟩
      · intro b x hb
        obtain ⟨rfl, rfl⟩ := one_of hb
        exact h3
      · intro h hh b x y hb hy
        obtain ⟨rfl, rfl⟩ := one_of hb
        have hgb : v'.ownBlock = some b := by rw [hv]; rfl
        rcases hat with hat | hat
        · exact absurd (hat.symm.trans hgb) (hfar h hh b y hy)
        · rw [hgb] at hat
          injection hat with hat
          have := hlt h hh b y hy
          omega
/-- append(s, xs...) onto a slice of the call's own; the source is read. -/
theorem WL.append {t el size bytes b off m c : Nat} {v : Value} {k : Nat} {xs news : List Value} {R : HP} {M : List HP} (ht : sliceOk P t el size bytes = true) (hsz : 0 < size)
    (r : Rem L (rowR el size v k xs) M) (hR : Reads R (some ⟨b, off, none⟩) news) (hm : Mem M R) (hl : news.length = m * size) (hone : ∀ u ∈ news, Value.single u = true) (h63 : k + m ≤ maxLen) (hbytes : (k + m) * bytes ≤ 140737488355328)
    (hzc : ∃ zz, zeroOf P el = some zz ∧ zz.size = size)
    (h : ∀ v', (v' = .slice none 0 0 ↔ v = .slice none 0 0 ∧ m = 0) → WL P B n ops l Q ((d, v') :: e) (rowR el size v' (k + m) (xs ++ news) :: M)) (hx : evo e x = some v := by rfl) (hy : evo e y = some (.slice (some ⟨b, off, none⟩) m c) := by rfl) (hd : Nat.ble (d + 1) n = true := by rfl) :
    WL P B n ops (⟨some d, .call ⟨.builtin .append, #[x, y], #[t, t]⟩, ty, pos, af, none⟩ :: l) Q e L :=
  WL.step rfl fun a w ha hs => by
    obtain ⟨hu, i, z, hi, hsz', hby, hz⟩ := slice_of ht
    obtain ⟨zz, hzz, hzs⟩ := hzc
    have hzs' : z.cells.size = size := by
      unfold zeroOf at hzz
      simp [hi, hz] at hzz
      rw [hzz]; exact hzs
    have hs1 := hs.front r
    have hcell : ∀ j u, news[j]? = some u → w.cell? ((⟨b, off, none⟩ : Addr).add j) = some u := by
      intro j u hj
      rw [add_plain']
      have hjl := (List.getElem?_eq_some_iff.1 hj).1
      have hs2 := hs1.tail
      exact (hR.cell hs2 hm hjl).trans hj
    have hone' : ∀ u ∈ news, u.oneCell' = true := by
      intro u hu
      have := hone u hu
      cases u <;> first | rfl | (simp [Value.single] at this; done)
    obtain ⟨v', w', hr, h2, h3, h4, h5⟩ := run_append_own_at (P := P) w 0 t ty el i z size bytes hu hi hz hsz' hby hzs' hsz v k xs hs1.ownsRow ⟨b, off, none⟩ m c news hl hcell hone' h63 hbytes (Nat.zero_le _)
    refine ⟨v', w', _, _, ?_, ha.put hd _, hs1.rowGrown h2 h3 h5, h v' h4⟩
    simp [execOp, resolve, invoke, builtin, ha.eval hx, ha.eval hy, hr]
end
theorem buf_of_rowR {el k : Nat} {v : Value} {xs : List Value} (hv : v ≠ .slice none 0 0) : ∀ h, rowR el 1 v k xs h → ∃ x : Nat × Nat, (v = .slice (some ⟨x.1, 0, none⟩) k x.2 ∧ k ≤ x.2 ∧ x.2 ≤ maxLen ∧ xs.length = k) ∧ buf x.1 el x.2 xs h := by
  rintro h ⟨h1, h2⟩
  rcases h2 with ⟨rfl, _⟩ | ⟨g, cap, cur, hv', h3, h4, h5, h6, h7⟩
  · exact absurd rfl hv
  · refine ⟨(g, cap), ⟨hv', h4, h5, by simpa using h1⟩, ?_⟩
    unfold buf
    exact ⟨cur, h3, by simpa using h6, by rw [h1]; exact h7, by rw [h1]; simpa using h4⟩
attribute [irreducible] rowR
end Go.Proofs.YtedmihapieleaaaGreat
