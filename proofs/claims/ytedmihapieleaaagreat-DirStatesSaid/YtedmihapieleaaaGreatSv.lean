/- Strings: their length, their bytes, going over their runes; functions that the model brings. Over any program. -/
import Derived.Test.YtedmihapieleaaaGreatSu
import Derived.Laws.RangeAny
import Derived.Lib.OthersKept
import Derived.Lib.Bytealg
import Derived.Lib.IndexBytes
import Derived.Scope
set_option linter.unusedVariables false
set_option linter.unusedSimpArgs false
namespace Go.Proofs.YtedmihapieleaaaGreat
open Go
def bstr (xs : Bytes) : ByteArray := ⟨xs.toArray⟩
theorem bstr_size (xs : Bytes) : (bstr xs).size = xs.length := by simp [bstr, ByteArray.size]
theorem bstr_get {xs : Bytes} {i : Nat} (h : i < (bstr xs).size) : (bstr xs)[i] = xs[i]'(by rw [bstr_size] at h; exact h) := by
  have h1 := Lib.data_getElem? (bstr xs) i h
  have h2 : (bstr xs).data.toList = xs := rfl
  rw [h2, List.getElem?_eq_getElem (by rw [bstr_size] at h; exact h), Option.some.injEq] at h1
  exact h1.symm
theorem sv_bstr (xs : Bytes) : sv xs = .string (bstr xs) := rfl
section
variable {P : Program} {B : Base} {n : Nat} {Q Q' : Exit → Act → World → Prop} {e : Env} {L : List HP} {ops : Array Oper} {l : List Oper}
variable {d : Nat} {ty : TypeId} {pos : String} {af : Array Edge} {x y z : Operand} {gd : Option (Nat × Bool)}
theorem Qt.lenT {t : TypeId} (xs : Bytes) (ht : strOk P t = true) (hx : evo e x = some (sv xs) := by rfl) :
    Qt P B n e L ⟨some d, .call ⟨.builtin .len, #[x], #[t]⟩, ty, pos, af, gd⟩ (.int .i64 (xs.length : Int)) :=
  fun a w ha hs => by
    simp [execOp, resolve, invoke, builtin, ha.eval hx, Builtin.len_, run_underlying (str_of ht), sv_bstr, bstr_size, goInt]
theorem WL.lenT {t : TypeId} (xs : Bytes) (h : WL P B n ops l Q ((d, .int .i64 (xs.length : Int)) :: e) L) (ht : strOk P t = true) (hx : evo e x = some (sv xs) := by rfl) (hd : Nat.ble (d + 1) n = true := by rfl) :
    WL P B n ops (⟨some d, .call ⟨.builtin .len, #[x], #[t]⟩, ty, pos, af, none⟩ :: l) Q e L := WL.pure h hd (Qt.lenT xs ht hx)
theorem Qt.ixT {t : Nat} {p : Int} {kk : IntKind} {v : UInt8} (xs : Bytes) (ht : strOk P t = true) (hv : xs[p.toNat]? = some v) (hx : evo e x = some (sv xs) := by rfl) (hy : evo e y = some (.int kk p) := by rfl) (hp : 0 ≤ p := by omega) :
    Qt P B n e L ⟨some d, .index t x y, ty, pos, af, gd⟩ (.int .u8 (v.toNat : Int)) :=
  fun a w ha hs => by
    have h1 : (bstr xs)[p.toNat]? = some v := by
      have hlt : p.toNat < xs.length := (List.getElem?_eq_some_iff.1 hv).1
      rw [getElem?_pos (bstr xs) p.toNat (by rw [bstr_size]; exact hlt), bstr_get]
      rw [List.getElem?_eq_getElem hlt] at hv
      exact hv
    simp [execOp, ha.eval hx, ha.eval hy, Instr.index, asIntOf, run_underlying (str_of ht), sv_bstr, hp, h1]
theorem WL.ixT {t : Nat} {p : Int} {kk : IntKind} {v : UInt8} (xs : Bytes) (h : WL P B n ops l Q ((d, .int .u8 (v.toNat : Int)) :: e) L) (ht : strOk P t = true) (hv : xs[p.toNat]? = some v) (hx : evo e x = some (sv xs) := by rfl) (hy : evo e y = some (.int kk p) := by rfl) (hp : 0 ≤ p := by omega) (hd : Nat.ble (d + 1) n = true := by rfl) :
    WL P B n ops (⟨some d, .index t x y, ty, pos, af, none⟩ :: l) Q e L := WL.pure h hd (Qt.ixT xs ht hv hx hy hp)
/-- Going over a string. -/
def strIt (it : Nat) (xs : Bytes) (k : Nat) : HP := pt it (.stringIter (bstr xs) k)
theorem WL.rangeT {t : Nat} (xs : Bytes) (ht : strOk P t = true) (h : ∀ it, WL P B n ops l Q ((d, .pointer (some ⟨it, 0, none⟩)) :: e) (strIt it xs 0 :: L)) (hx : evo e x = some (sv xs) := by rfl) (hd : Nat.ble (d + 1) n = true := by rfl) :
    WL P B n ops (⟨some d, .range t x, ty, pos, af, none⟩ :: l) Q e L :=
  WL.step rfl fun a w ha hs => by
    refine ⟨_, w.alloc (.stringIter (bstr xs) 0), _, _, ?_, ha.put hd _, hs.new _, h w.heap.size⟩
    simp [execOp, ha.eval hx, Instr.range, run_underlying (str_of ht), newObj, Sem.run, sv_bstr]
/-- The rune at a place, and how many bytes it takes. -/
def rune (xs : Bytes) (k : Nat) : Nat × Nat := Utf8.decode (bstr xs) k
theorem WL.nextT {it k : Nat} (xs : Bytes) {M : List HP}
    (h0 : ¬ k < xs.length → WL P B n ops l Q ((d, .tuple #[.bool false]) :: e) (strIt it xs k :: M))
    (h1 : k < xs.length → WL P B n ops l Q ((d, .tuple #[.bool true, .int .i64 (k : Int), .int .i32 ((rune xs k).1 : Int)]) :: e) (strIt it xs (k + (rune xs k).2) :: M))
    (hx : evo e x = some (.pointer (some ⟨it, 0, none⟩)) := by rfl) (r : Rem L (strIt it xs k) M := by repeat (first | exact .here | apply Rem.there)) (hd : Nat.ble (d + 1) n = true := by rfl) :
    WL P B n ops (⟨some d, .next x true, ty, pos, af, none⟩ :: l) Q e L :=
  WL.step rfl fun a w ha hs => by
    have hs1 := hs.front r
    have hb := hs1.get .here
    by_cases hk : k < xs.length
    · refine ⟨_, _, _, _, ?_, ha.put hd _, hs1.set (o' := .stringIter (bstr xs) (k + (rune xs k).2)) .here, h1 hk⟩
      have := Lib.run_next_any_at (P := P) w it (bstr xs) k ty hb (by rw [bstr_size]; exact hk)
      simp only [execOp, ha.eval hx, Sem.run_bind, this, Result.andThen_ok, Sem.run_pure]
      rfl
    · refine ⟨_, w, _, _, ?_, ha.put hd _, hs1, h0 hk⟩
      have := Lib.run_next_end_at (P := P) w it (bstr xs) k ty hb (by rw [bstr_size]; exact hk)
      simp only [execOp, ha.eval hx, Sem.run_bind, this, Result.andThen_ok, Sem.run_pure]
/-- A function that the model brings. -/
theorem WL.callX {f : FuncId} {xs : List Operand} {tys : Array TypeId} {vs : List Value} {v : Value} (hx : evos e xs = some vs := by rfl)
    (hc : ∀ w, (callFunc f vs.toArray).run P w = .ok (.value v) w) (h : WL P B n ops l Q ((d, v) :: e) L) (hd : Nat.ble (d + 1) n = true := by rfl) :
    WL P B n ops (⟨some d, .call ⟨.value (.func f), xs.toArray, tys⟩, ty, pos, af, none⟩ :: l) Q e L := by
  intro a w ha hs
  refine wpList_plain rfl fun K hK => ?_
  have hargs : xs.map a.eval = vs := evos_eval ha hx
  have hrun : (execOp a.eval ⟨some d, .call ⟨.value (.func f), xs.toArray, tys⟩, ty, pos, af, none⟩).run P w = .ok (.value v) w := by
    have he : a.eval (.func f) = .func (.func f) #[] #[] := rfl
    simp [execOp, resolve, Deferred.ofValue, he, invoke, hargs, hc]
  unfold Oper.wp
  rw [hrun]
  simp only [Oper.upon_value]
  exact hK _ _ (h _ w (ha.put hd v) hs)
theorem Qt.subT {t : Nat} {p : Int} (xs : Bytes) (ht : strOk P t = true) (hx : evo e x = some (sv xs) := by rfl) (hy : evo e y = some (.int .i64 p) := by rfl) (hp : 0 ≤ p ∧ p ≤ xs.length := by omega) :
    Qt P B n e L ⟨some d, .slice t x (some y) none none, ty, pos, af, gd⟩ (sv (xs.drop p.toNat)) :=
  fun a w ha hs => by
    have h1 : (bstr xs).extract p.toNat xs.length = bstr (xs.drop p.toNat) := by
      apply ByteArray.ext
      simp [bstr, ByteArray.data_extract, List.take_of_length_le]
    simp [execOp, ha.eval hx, ha.eval hy, Instr.sliceAt, Instr.sureAddr, Instr.slice, Instr.sliceBounds, Instr.sliceBound, asIntOf, run_underlying (str_of ht), sv_bstr, hp, h1, bstr_size]
/-- Passed over: what it hangs on was passed over itself. -/
theorem WL.gU {o : Op} {j t : Nat} {b : Bool} (h : WL P B n ops l Q ((d, undef) :: e) L)
    (hs : (ops[j]?).bind (·.dst) = some t := by rfl) (hl : Go.Proofs.YtedmihapieleaaaGreat.look e t = some undef := by rfl) (hd : Nat.ble (d + 1) n = true := by rfl) :
    WL P B n ops (⟨some d, o, ty, pos, af, some (j, b)⟩ :: l) Q e L := by
  intro a w ha hsat
  have h1 := h _ w (ha.put hd undef) hsat
  have hy : yielded ops a.tmps j = none := by
    have hg := ha.get t undef hl
    rw [Array.getD_eq_getD_getElem?] at hg
    cases hq : a.tmps[t]? with
    | none => simp [yielded, hs, hq]
    | some u =>
      rw [hq] at hg
      have hu : u = undef := hg
      subst hu
      simp [yielded, hs, hq, undef]
  unfold wpList
  have : Region.wanted (⟨some d, o, ty, pos, af, some (j, b)⟩ : Oper) (yielded ops a.tmps) = false := by
    simp [Region.wanted, hy]
  rw [this]
  exact h1
/-! ### scopes that are gone through without a jump -/
theorem WC.scope {c : Code} (h : WC P B n c (Exit.noGoto Q) e L) : WC P B n (.scope c) Q e L := fun a w ha hs => wp_scope_straight (h a w ha hs)
theorem WC.label {k : Nat} (h : WQ B n Q .normal e L) : WC P B n (.label k) Q e L := fun a w ha hs => wp_label (h a w ha hs)
theorem WQ.scopeRet (h : WQ B n Q .ret e L) : WQ B n (Exit.noGoto Q) .ret e L := fun a w ha hs => h a w ha hs
theorem WQ.scopeNormal (h : WQ B n Q .normal e L) : WQ B n (Exit.noGoto Q) .normal e L := fun a w ha hs => h a w ha hs
theorem WQ.scopeExit {i : Nat} (h : WQ B n Q (.exit i) e L) : WQ B n (Exit.noGoto Q) (.exit i) e L := fun a w ha hs => h a w ha hs
theorem NoPanic.scope (h : NoPanic Q) : NoPanic (Exit.noGoto Q) := h
theorem NoPanic.autoS (h : NoPanic Q := by repeat (first | exact NoPanic.body | refine NoPanic.then ?_ | refine NoPanic.block ?_ | refine NoPanic.join ?_ | refine NoPanic.scope ?_)) : NoPanic Q := h
/-- A rune as a string. -/
theorem Qt.cvtRT {s t : Nat} {k kk : IntKind} {p : Int} (hs : P.underlying s = some (.int k)) (ht : strOk P t = true) (hx : evo e x = some (.int kk p) := by rfl) :
    Qt P B n e L ⟨some d, .convert s t x, ty, pos, af, gd⟩ (sv (Utf8.encode p).data.toList) :=
  fun a w ha hs' => by
    have : (convert s t (.int kk p)).run P w = .ok (.string (Utf8.encode p)) w := by
      simp [convert, run_underlying hs, run_underlying (str_of ht), Conv.intToString]
    simp only [execOp, ha.eval hx, Sem.run_bind, this, Result.andThen_ok, Sem.run_pure]
    rfl
end
section
variable {P : Program} {B : Base} {n : Nat} {Q Q' : Exit → Act → World → Prop} {e : Env} {L : List HP} {ops : Array Oper} {l : List Oper}
variable {d : Nat} {ty : TypeId} {pos : String} {af : Array Edge} {x y z : Operand} {gd : Option (Nat × Bool)}
/-- An array from a place on, as a slice. -/
theorem Qt.slcArrL {t el k b : Nat} {q : Int} (ht : arrOk P t el k 1 = true) (hx : evo e x = some (.pointer (some ⟨b, 0, none⟩)) := by rfl) (hy : evo e y = some (.int .i64 q) := by rfl) (hq : 0 ≤ q ∧ q < k := by omega) :
    Qt P B n e L ⟨some d, .slice t x (some y) none none, ty, pos, af, gd⟩ (.slice (some ⟨b, q.toNat, none⟩) (k - q.toNat) (k - q.toNat)) :=
  fun a w ha hs => by
    obtain ⟨hu, i, hi, hsz⟩ := arr_of ht
    have h1 : ¬ k = q.toNat := by omega
    have h2 : q ≤ (k : Int) := by omega
    simp [execOp, ha.eval hx, ha.eval hy, Instr.sliceAt, run_underlying hu, Instr.sureAddr, Instr.sliceBounds, Instr.sliceBound, asIntOf, sizeOf, typeInfo, hi, hsz, add_plain', hq.1, h2, h1]
theorem WL.slcArrL {t el k b : Nat} {q : Int} (h : WL P B n ops l Q ((d, .slice (some ⟨b, q.toNat, none⟩) (k - q.toNat) (k - q.toNat)) :: e) L) (ht : arrOk P t el k 1 = true) (hx : evo e x = some (.pointer (some ⟨b, 0, none⟩)) := by rfl) (hy : evo e y = some (.int .i64 q) := by rfl) (hq : 0 ≤ q ∧ q < k := by omega) (hd : Nat.ble (d + 1) n = true := by rfl) :
    WL P B n ops (⟨some d, .slice t x (some y) none none, ty, pos, af, none⟩ :: l) Q e L := WL.pure h hd (Qt.slcArrL ht hx hy hq)
theorem buf_of_row {b el k : Nat} {xs : List Value} (hk : xs.length = k) : ∀ h, row b el xs h → buf b el k xs h := by
  intro h hh
  subst hk
  unfold row at hh
  exact buf_of_pt (cs := xs.toArray) rfl h hh
theorem row_of_buf {b el k : Nat} {xs : List Value} (hk : xs.length = k) : ∀ h, buf b el k xs h → row b el xs h := by
  intro h hh
  obtain ⟨cs, ⟨h1, h2, _⟩, h3⟩ := pt_of_buf h hh
  have h4 : cs = xs.toArray := by
    rw [List.take_of_length_le (by rw [Array.length_toList]; omega)] at h2
    rw [← h2]
  unfold row
  rw [← h4]
  exact h3
end
/-! ### runes -/
theorem rune_low {xs : Bytes} {k : Nat} (h : k < xs.length) (hb : xs[k].toNat < 128) : rune xs k = (xs[k].toNat, 1) := by
  unfold rune
  have hk : k < (bstr xs).size := by rw [bstr_size]; exact h
  have := decode_ascii (bstr xs) k hk (by rw [bstr_get hk]; exact hb)
  rw [this, bstr_get hk]
theorem bget {xs : Bytes} {k : Nat} (h : k < xs.length) : (bstr xs).get! k = xs[k] := by
  have hk : k < (bstr xs).size := by rw [bstr_size]; exact h
  have := get_at (bstr xs) k hk
  rw [Nat.add_zero] at this
  rw [this, bstr_get hk]
theorem rune_high {xs : Bytes} {k : Nat} (h : k < xs.length) (hb : 128 ≤ xs[k].toNat) :
    128 ≤ (rune xs k).1 ∧ 1 ≤ (rune xs k).2 ∧ ∀ j, k ≤ j → j < k + (rune xs k).2 → ∀ (hj : j < xs.length), 128 ≤ xs[j].toNat := by
  have hk : k < (bstr xs).size := by rw [bstr_size]; exact h
  have h1 := decode_high (bstr xs) k hk (by rw [bstr_get hk]; exact hb)
  refine ⟨h1.1, h1.2, ?_⟩
  intro j hj1 hj2 hj
  by_cases hjk : j = k
  · subst hjk; exact hb
  unfold rune at hj2
  have key : ∀ q, 1 ≤ q → (decide (k + q < (bstr xs).size) && ((bstr xs).get! (k + q)).toNat / 64 == 2) = true → ∀ (hq : k + q < xs.length), 128 ≤ xs[k + q].toNat := by
    intro q _ hq hlt
    rw [Bool.and_eq_true] at hq
    have := hq.2
    rw [bget hlt] at this
    have : xs[k + q].toNat / 64 = 2 := by simpa using this
    omega
  have b0 : ((bstr xs).get! (k + 0)).toNat = xs[k].toNat := congrArg UInt8.toNat (bget h)
  simp only [Utf8.decode, b0] at hj2
  rw [if_neg (by omega)] at hj2
  obtain ⟨q, rfl⟩ : ∃ q, j = k + q := ⟨j - k, by omega⟩
  have hq1 : 1 ≤ q := by omega
  split at hj2
  · rename_i hc
    rw [Bool.and_eq_true] at hc
    have : q < 2 := by split at hj2 <;> simp only at hj2 <;> omega
    obtain rfl : q = 1 := by omega
    exact key 1 (by omega) hc.2 hj
  · split at hj2
    · rename_i hc
      rw [Bool.and_eq_true, Bool.and_eq_true] at hc
      have : q < 3 := by split at hj2 <;> simp only at hj2 <;> omega
      rcases (show q = 1 ∨ q = 2 by omega) with rfl | rfl
      · exact key 1 (by omega) hc.1.2 hj
      · exact key 2 (by omega) hc.2 hj
    · split at hj2
      · rename_i hc
        rw [Bool.and_eq_true, Bool.and_eq_true, Bool.and_eq_true] at hc
        have : q < 4 := by split at hj2 <;> simp only at hj2 <;> omega
        rcases (show q = 1 ∨ q = 2 ∨ q = 3 by omega) with rfl | rfl | rfl
        · exact key 1 (by omega) hc.1.1.2 hj
        · exact key 2 (by omega) hc.1.2 hj
        · exact key 3 (by omega) hc.2 hj
      · simp only at hj2
        omega
theorem rune_pos {xs : Bytes} {k : Nat} (h : k < xs.length) : 1 ≤ (rune xs k).2 := by
  by_cases hb : xs[k].toNat < 128
  · rw [rune_low h hb]; exact Nat.le_refl _
  · exact (rune_high h (by omega)).2.1
theorem rune_le (xs : Bytes) (k : Nat) : (rune xs k).1 ≤ 2147483647 := decode_le _ _
/-- What a rune above 127 is laid as. -/
theorem encode_high {c : Nat} (h : 128 ≤ c) : ∃ l : Bytes, (Utf8.encode (c : Int)).data.toList = l ∧ 2 ≤ l.length ∧ l.length ≤ 4 ∧ (∀ x, l.getLast? = some x → 128 ≤ x.toNat) := by
  refine ⟨_, rfl, ?_⟩
  have hmod : ∀ m : Nat, 128 ≤ (UInt8.ofNat (128 + m % 64)).toNat := by
    intro m
    rw [UInt8.toNat_ofNat']
    omega
  unfold Utf8.encode
  have hc : ∃ q : Nat, (if Utf8.valid (c : Int) then (c : Int).toNat else Utf8.runeError) = q ∧ 128 ≤ q := by
    split
    · exact ⟨c, Int.toNat_natCast c, h⟩
    · exact ⟨_, rfl, by decide⟩
  obtain ⟨q, hq, hq8⟩ := hc
  simp only [hq]
  rw [if_neg (by omega)]
  split
  · simp; omega
  · split
    · simp; omega
    · simp; omega
end Go.Proofs.YtedmihapieleaaaGreat
