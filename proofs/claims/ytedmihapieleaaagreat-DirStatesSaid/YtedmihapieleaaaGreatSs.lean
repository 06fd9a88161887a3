/- Strings; bound methods; rows of the call's own. Over any program. -/
import Derived.Test.YtedmihapieleaaaGreatSc
import Derived.Laws.BytesString
import Derived.Laws.Strings
set_option linter.unusedVariables false
set_option linter.unusedSimpArgs false
set_option linter.unusedSectionVars false
namespace Go.Proofs.YtedmihapieleaaaGreat
open Go

/-- A string of these bytes. -/
def sv (xs : Bytes) : Value := .string ⟨xs.toArray⟩
theorem sv_inj {xs ys : Bytes} (h : sv xs = sv ys) : xs = ys := by
  unfold sv at h
  injection h with h
  injection h with h
  simpa using congrArg Array.toList h
section
variable {P : Program} {B : Base} {n : Nat} {Q Q' : Exit → Act → World → Prop} {e : Env} {L : List HP} {ops : Array Oper} {l : List Oper}
variable {d : Nat} {ty : TypeId} {pos : String} {af : Array Edge} {x y z : Operand} {gd : Option (Nat × Bool)}

def strOk (P : Program) (t : Nat) : Bool :=
  match P.underlying t with
  | some .string => true
  | _ => false
theorem str_of {t : Nat} (h : strOk P t = true) : P.underlying t = some .string := by
  unfold strOk at h
  split at h
  · assumption
  · cases h
def bytesOk (P : Program) (t : Nat) : Bool :=
  match P.underlying t with
  | some (.slice e) => (match P.underlying e with
    | some (.int .u8) => true
    | _ => false)
  | _ => false
theorem bytes_of {t : Nat} (h : bytesOk P t = true) : ∃ e, P.underlying t = some (.slice e) ∧ P.underlying e = some (.int .u8) := by
  unfold bytesOk at h
  split at h
  · rename_i e hu
    refine ⟨e, hu, ?_⟩
    split at h
    · assumption
    · cases h
  · cases h
theorem foldl_push (ns : List Int) (s : ByteArray) : (ns.foldl (fun r n => r.push (UInt8.ofNat n.toNat)) s) = ⟨s.data ++ (ns.map fun n => UInt8.ofNat n.toNat).toArray⟩ := by
  induction ns generalizing s with
  | nil => simp
  | cons n ns ih =>
    rw [List.foldl_cons, ih]
    congr 1
    simp [ByteArray.push]
theorem Qt.cvtBS {s t : Nat} {A : Option Addr} {m c : Nat} {xs : Bytes} {R : HP} (hs : bytesOk P s = true) (ht : strOk P t = true) (hR : Reads R A (bvs xs)) (hl : xs.length = m)
    (hx : evo e x = some (.slice A m c) := by rfl) (hm : Mem L R := by repeat (first | exact .here | refine .there ?_)) : Qt P B n e L ⟨some d, .convert s t x, ty, pos, af, gd⟩ (sv xs) :=
  fun a w ha hsat => by
    obtain ⟨el, h1, h2⟩ := bytes_of hs
    have : (convert s t (.slice A m c)).run P w = .ok (sv xs) w := by
      rw [run_convert_bytes_string w s t el A m c h1 h2 (str_of ht)]
      match A, hR with
      | none, hR =>
        have hb : bvs xs = [] := hR
        have : xs = [] := by simpa [bvs] using hb
        subst this
        rfl
      | some ⟨b, o, sp⟩, hR =>
        have hsp : sp = none := hR.1
        subst hsp
        have hcell : ∀ i, i < (bvs xs).length → w.cell? ⟨b, o + i, none⟩ = (bvs xs)[i]? := fun i hi => hR.cell hsat hm hi
        have hl2 := loadCellsFrom_read (P := P) hcell m 0 #[] (by rw [bvs_length]; omega)
        have hmap : bvs xs = (xs.map fun x => (x.toNat : Int)).map (Value.int .u8) := by simp [bvs, bv, Function.comp_def]
        have hload : (loadCells ⟨b, o, none⟩ m).run P w = .ok ((xs.map fun x => (x.toNat : Int)).map (Value.int .u8)).toArray w := by
          rw [← hmap]
          have : ((bvs xs).drop 0).take m = bvs xs := by rw [List.drop_zero, List.take_of_length_le (by rw [bvs_length]; omega)]
          rw [this] at hl2
          simpa [loadCells] using hl2
        rw [run_bytesToString w _ m c _ hload, foldl_push]
        unfold sv
        congr 3
        simp [Function.comp_def]
    simp [execOp, ha.eval hx, this]
theorem WL.cvtBS {s t : Nat} {A : Option Addr} {m c : Nat} {xs : Bytes} {R : HP} (h : WL P B n ops l Q ((d, sv xs) :: e) L) (hs : bytesOk P s = true) (ht : strOk P t = true) (hR : Reads R A (bvs xs)) (hl : xs.length = m)
    (hx : evo e x = some (.slice A m c) := by rfl) (hm : Mem L R := by repeat (first | exact .here | refine .there ?_)) (hd : Nat.ble (d + 1) n = true := by rfl) : WL P B n ops (⟨some d, .convert s t x, ty, pos, af, none⟩ :: l) Q e L :=
  WL.pure h hd (Qt.cvtBS (hs := hs) (ht := ht) (hR := hR) (hl := hl) (hx := hx) (hm := hm))
theorem eqGuard_strs (op : BinOp) (t : TypeId) (x y : Operand) (p q : ByteArray) (w : World) : (eqGuard op t x y (.string p) (.string q)).run P w = .ok () w := by
  cases op <;> simp [eqGuard]
theorem Qt.strs {op : BinOp} {t u : TypeId} {xs ys : ByteArray} {r : Value} (hr : ∀ w, (binOp op t (.string xs) (.string ys)).run P w = .ok r w) (hx : evo e x = some (.string xs) := by rfl) (hy : evo e y = some (.string ys) := by rfl) :
    Qt P B n e L ⟨some d, .binOp op t x y u, ty, pos, af, gd⟩ r :=
  Qt.bin (fun w => by simp only [Sem.run_bind, eqGuard_strs, Result.andThen_ok, hr]) hx hy
theorem sv_beq (xs ys : Bytes) : ((⟨xs.toArray⟩ : ByteArray).toList == (⟨ys.toArray⟩ : ByteArray).toList) = decide (xs = ys) := by
  rw [ByteArray.toList_eq, ByteArray.toList_eq]
  by_cases h : xs = ys <;> simp [h]
theorem Qt.eqS {t u : TypeId} (xs ys : Bytes) (hx : evo e x = some (sv xs) := by rfl) (hy : evo e y = some (sv ys) := by rfl) :
    Qt P B n e L ⟨some d, .binOp .eql t x y u, ty, pos, af, gd⟩ (.bool (decide (xs = ys))) :=
  Qt.strs (fun w => by rw [binOp_string_eql, ← sv_beq]; rfl) hx hy
theorem WL.eqS {t u : TypeId} (xs ys : Bytes) (h : WL P B n ops l Q ((d, .bool (decide (xs = ys))) :: e) L) (hx : evo e x = some (sv xs) := by rfl) (hy : evo e y = some (sv ys) := by rfl) (hd : Nat.ble (d + 1) n = true := by rfl) :
    WL P B n ops (⟨some d, .binOp .eql t x y u, ty, pos, af, none⟩ :: l) Q e L := WL.pure h hd (Qt.eqS xs ys (hx := hx) (hy := hy))
theorem Qt.neS {t u : TypeId} (xs ys : Bytes) (hx : evo e x = some (sv xs) := by rfl) (hy : evo e y = some (sv ys) := by rfl) :
    Qt P B n e L ⟨some d, .binOp .neq t x y u, ty, pos, af, gd⟩ (.bool (!decide (xs = ys))) :=
  Qt.strs (fun w => by rw [binOp_string_neq, ← sv_beq]; rfl) hx hy
theorem WL.neS {t u : TypeId} (xs ys : Bytes) (h : WL P B n ops l Q ((d, .bool (!decide (xs = ys))) :: e) L) (hx : evo e x = some (sv xs) := by rfl) (hy : evo e y = some (sv ys) := by rfl) (hd : Nat.ble (d + 1) n = true := by rfl) :
    WL P B n ops (⟨some d, .binOp .neq t x y u, ty, pos, af, none⟩ :: l) Q e L := WL.pure h hd (Qt.neS xs ys (hx := hx) (hy := hy))
theorem Sat.storeRow {w : World} {M : List HP} {g dd k : Nat} {xs : List Value} (hs : Sat B w (buf g dd k xs :: M)) (off : Nat) (vs : List Value) (hle : off + vs.length ≤ xs.length) (h1 : ∀ v ∈ vs, Value.single v = true) :
    ∃ w', (storeCells ⟨g, off, none⟩ vs).run P w = .ok () w' ∧ Sat B w' (buf g dd k (xs.take off ++ vs ++ xs.drop (off + vs.length)) :: M) := by
  obtain ⟨cur, ⟨h3, h4, h5⟩, hs1⟩ := hs.openE pt_of_buf
  have hb := hs1.get .here
  have hst := run_storeCells (P := P) (w := w) (b := g) (t := dd) vs 0 off cur w hb (by omega) h1
  simp only [Nat.add_zero] at hst
  rw [hst]
  refine ⟨_, rfl, ?_⟩
  by_cases h0 : vs = []
  · rw [if_pos h0, h0]
    simp only [List.append_nil, List.length_nil, Nat.add_zero, List.take_append_drop]
    exact hs
  · rw [if_neg h0]
    refine (hs1.set (.here (y := pt g (.cells (cur.toList.take off ++ vs ++ cur.toList.drop (off + vs.length)).toArray dd (0, 0))))).imp (L := []) fun h hh => ?_
    unfold pt at hh
    unfold buf
    refine ⟨_, hh, ?_, ?_, ?_⟩
    · simp; omega
    · apply List.ext_getElem?
      intro j
      have hg : ∀ j, j < xs.length → cur.toList[j]? = xs[j]? := fun j hj => take_get h4 j hj
      simp only [List.length_append, List.length_take, List.length_drop, List.getElem?_take, List.getElem?_append, List.getElem?_drop, Array.length_toList]
      have hc : cur.size = k := h3
      by_cases c1 : j < off
      · have := hg j (by omega)
        grind
      · by_cases c2 : j < off + vs.length
        · grind
        · by_cases c3 : j < xs.length
          · have := hg j c3
            grind
          · have : xs[j]? = none := List.getElem?_eq_none (by omega)
            grind
    · simp; omega
/-- copy(b, text) into a row. -/
theorem WL.copyS {tt dd el bytes g k off dl dc : Nat} {ta : TypeId} {xs : List Value} {M : List HP} (ys : Bytes) (ht : sliceOk P tt el 1 bytes = true)
    (h : WL P B n ops l Q ((d, .int .i64 ((min ys.length dl : Nat) : Int)) :: e) (buf g dd k (xs.take off ++ (bvs ys).take (min ys.length dl) ++ xs.drop (off + min ys.length dl)) :: M))
    (hx : evo e x = some (.slice (some ⟨g, off, none⟩) dl dc) := by rfl) (hy : evo e y = some (sv ys) := by rfl) (r : Rem L (buf g dd k xs) M := by repeat (first | exact .here | apply Rem.there)) (hdl : off + dl ≤ xs.length := by first | decide | omega | (simp only [List.length_replicate]; decide) | (simp only [bvs_length]; omega)) (hd : Nat.ble (d + 1) n = true := by rfl) :
    WL P B n ops (⟨some d, .call ⟨.builtin .copy, #[x, y], #[tt, ta]⟩, ty, pos, af, none⟩ :: l) Q e L :=
  WL.step rfl fun a w ha hs => by
    -- as if the text lay in a block of its own
    have hs' : Sat B w (buf g dd k xs :: M) := hs.front r
    obtain ⟨hu, i, z, hi, hsz, hby, hzz⟩ := slice_of ht
    have hlen : ((bvs ys).take (min ys.length dl)).length = min ys.length dl := by rw [List.length_take, bvs_length]; omega
    have hcells : (Builtin.firstCells 1 (min ys.length dl) (sv ys)).run P w = .ok ((bvs ys).take (min ys.length dl)).toArray w := by
      simp [Builtin.firstCells, sv, bvs, bv, List.map_take, Function.comp_def]
      rfl
    obtain ⟨w', h2, h3⟩ := Sat.storeRow (P := P) hs' off ((bvs ys).take (min ys.length dl)) (by rw [hlen]; omega) (fun v hv => bvs_single ys v (List.mem_of_mem_take hv))
    rw [hlen] at h3
    refine ⟨_, w', _, _, ?_, ha.put hd _, h3, h⟩
    have hlo : (Builtin.lenOf (sv ys)).run P w = .ok ys.length w := by simp [sv, Builtin.lenOf, ByteArray.size]
    simp [execOp, resolve, invoke, builtin, ha.eval hx, ha.eval hy, Builtin.copy_, run_underlying hu, hlo, sizeOf, typeInfo, hi, hsz, show Nat.min ys.length dl = min ys.length dl from rfl, hcells, goInt, h2]
/-! ### bound methods -/
theorem mapM_eval {a : Act} (ha : Ag n e a) : ∀ (cs : List Operand) (vs : List Value), evos e cs = some vs → cs.map a.eval = vs := fun cs vs h => evos_eval ha h
theorem Qt.makeFuncB {fn : Fn} {rs cs : List Operand} {us vs : List Value} (hr : evos e rs = some us := by rfl) (hx : evos e cs = some vs := by rfl) :
    Qt P B n e L ⟨some d, .makeFunc fn rs.toArray cs.toArray, ty, pos, af, gd⟩ (.func fn us.toArray vs.toArray) :=
  fun a w ha hs => by
    have h1 : rs.map a.eval = us := evos_eval ha hr
    have h2 : cs.map a.eval = vs := evos_eval ha hx
    simp [execOp, Instr.makeFunc, h1, h2]
theorem WL.makeFuncB {fn : Fn} {rs cs : List Operand} {us vs : List Value} (h : WL P B n ops l Q ((d, .func fn us.toArray vs.toArray) :: e) L) (hr : evos e rs = some us := by rfl) (hx : evos e cs = some vs := by rfl) (hd : Nat.ble (d + 1) n = true := by rfl) :
    WL P B n ops (⟨some d, .makeFunc fn rs.toArray cs.toArray, ty, pos, af, none⟩ :: l) Q e L :=
  WL.pure h hd (Qt.makeFuncB (hr := hr) (hx := hx))
/-- A call of a value that is a function, with what it holds ahead and behind. -/
theorem WL.callF {f : FuncId} {t : Nat} {us cap : Array Value} {xs : List Operand} {tys : Array TypeId} {vs : List Value} {pre Lr : List HP} {R : List HP → Value → List HP → Prop}
    (hf : evo e (.tmp t) = some (.func (.func f) us cap)) (hx : evos e xs = some vs)
    (hc : ∀ args w, (callFunc f args).run P w = .ok (.enter f args) w) (sp : Spec P f (us ++ vs.toArray ++ cap) pre R)
    (h : ∀ v M, R Lr v M → WL P B n ops l Q ((d, v) :: e) M) (tk : Tk L pre Lr) (hd : Nat.ble (d + 1) n = true := by rfl) :
    WL P B n ops (⟨some d, .call ⟨.value (.tmp t), xs.toArray, tys⟩, ty, pos, af, none⟩ :: l) Q e L := by
  intro a w ha hs
  refine wpList_plain rfl fun K hK => ?_
  have hargs : xs.map a.eval = vs := evos_eval ha hx
  have hrun : (execOp a.eval ⟨some d, .call ⟨.value (.tmp t), xs.toArray, tys⟩, ty, pos, af, none⟩).run P w = .ok (.enter f (us ++ vs.toArray ++ cap)) w := by
    simp [execOp, resolve, Deferred.ofValue, ha.eval hf, invoke, hargs, hc]
  unfold Oper.wp
  rw [hrun]
  simp only [Oper.upon_enter]
  refine (sp B Lr w (hs.take tk)).mono ?_
  rintro _ w' ⟨v, M, rfl, hR, hsat⟩
  exact hK _ _ (h v M hR _ w' (ha.put hd v) hsat)
end
/-! ### rows of the call's own -/
theorem rowR_shape {el size k : Nat} {v : Value} {xs : List Value} : ∀ h, rowR el size v k xs h → ∃ A c, v = .slice A k c ∧ Reads (rowR el size v k xs) A xs ∧ k ≤ c ∧ c ≤ maxLen ∧ xs.length = k * size := by
  intro h hh
  unfold rowR at hh
  obtain ⟨h1, h2⟩ := hh
  rcases h2 with ⟨rfl, rfl⟩ | ⟨g, cap, cur, rfl, h3, h4, h5, h6, h7⟩
  · refine ⟨none, 0, rfl, ?_, Nat.le_refl _, Nat.zero_le _, h1⟩
    show xs = []
    exact List.eq_nil_of_length_eq_zero (by rw [h1]; omega)
  · refine ⟨some ⟨g, 0, none⟩, cap, rfl, ⟨rfl, fun h' hh' => ?_⟩, h4, h5, h1⟩
    unfold rowR at hh'
    obtain ⟨q1, q2⟩ := hh'
    rcases q2 with ⟨q2, _⟩ | ⟨g', cap', cur', q2, q3, q4, q5, q6, q7⟩
    · simp at q2
    · injection q2 with q21 q22 q23
      injection q21 with q21
      injection q21 with q21
      subst q21
      refine ⟨true, cur', el, (0, 0), q3, fun i hi => ?_⟩
      rw [← q1] at q7
      have := take_get q7 i hi
      simpa using this
end Go.Proofs.YtedmihapieleaaaGreat
