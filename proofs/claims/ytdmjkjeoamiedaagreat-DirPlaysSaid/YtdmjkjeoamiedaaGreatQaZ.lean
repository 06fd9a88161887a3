/- The law DirPlays holds for every input; no condition. -/
import Derived.Test.YtdmjkjeoamiedaaGreatRows
import Derived.Test.YtdmjkjeoamiedaaGreatQa5
import Derived.WalkKit
import Derived.ProofKit
import Derived.OpenShut
import Derived.Carry
import Derived.ChangeSlices
import Derived.Deep.Slices
import Derived.Deep.Fields
namespace Go.Proofs.YtdmjkjeoamiedaaGreat.dirPlays
open Go.ChangeShapes Go.WideShapes Go.ChangeAt Go.RowKit
set_option linter.unusedVariables false
set_option linter.unusedSimpArgs false

theorem own : ownKnob Tryz.prog.godebug = none := by kernel_rfl
theorem in64 {n : Int} (h : (Lit.int .i64 n).wf = true) : -9223372036854775808 ≤ n ∧ n ≤ 9223372036854775807 := by
  simp [Lit.wf, IntKind.min, IntKind.max, IntKind.bits, IntKind.signed] at h; omega
theorem gaLaid : laidOutB Tryz.prog = true := by kernel_rfl
theorem gaCells : Tryz.prog.cellsOf 33 = 4 := by kernel_rfl
/-- Structs of ints and texts, one behind the other. -/
def mixFields (P : Program) (fs : Array Field) (ks : List Bool) : Bool := (List.range fs.size).all fun i => match fs[i]? with
  | some f => f.offset == i && P.cellsOf f.type == 1 && (match P.underlying f.type, ks.getD i false with
    | some (.int .i64), false => true
    | some .string, true => true
    | _, _ => false)
  | none => false
theorem mix_of {P : Program} {fs : Array Field} {ks : List Bool} (h : mixFields P fs ks = true) : ∀ (i : Nat) (f : Field), fs[i]? = some f → f.offset = i ∧ P.cellsOf f.type = 1 ∧ ((ks.getD i false = false ∧ P.underlying f.type = some (.int .i64)) ∨ (ks.getD i false = true ∧ P.underlying f.type = some .string)) := by
  intro i f hi
  have hlt : i < fs.size := (Array.getElem?_eq_some_iff.1 hi).1
  have := List.all_eq_true.1 h i (List.mem_range.2 hlt)
  simp only [hi, Bool.and_eq_true, beq_iff_eq] at this
  refine ⟨this.1.1, this.1.2, ?_⟩
  have h2 := this.2
  split at h2
  · rename_i h3 h4; exact .inl ⟨h4, h3⟩
  · rename_i h3 h4; exact .inr ⟨h4, h3⟩
  · cases h2
def MixOk (k : Bool) (v : Value) : Prop := match k with
  | false => ∃ n, v = .int .i64 n ∧ (Lit.int .i64 n).wf = true
  | true => ∃ s : ByteArray, v = .string s ∧ s.size ≤ maxLen
theorem open_mixed {H : Type} {enc : TypeId × Value → H} {P : Program} {w : World} {base : Nat} {spare : Nat → Bool} {held : Bool} {t e : TypeId} {fs : Array Field} {k fuel : Nat} {ks : List Bool} {cs : List Value} {x : DataW H × List MemPlace} (ht : P.underlying t = some (.slice e)) (he : P.underlying e = some (.struct fs)) (ce : P.cellsOf e = k) (hk : fs.size = k) (hf : mixFields P fs ks = true)
    (h : DataW.trod enc P w base spare held fuel t cs = some x) :
    cs = [.slice none 0 0] ∨ ∃ (a : Addr) (len cap : Nat), cs = [.slice (some a) len cap] ∧ len ≤ cap ∧ cap ≤ maxLen ∧ ∀ q, q < len * k → ∃ v, w.cell? (a.add q) = some v ∧ MixOk (ks.getD (q % k) false) v := by
  rcases Go.Deep.open_slice ht h with ⟨h0, _⟩ | ⟨a, len, cap, m, n, D, Pl, rfl, hb, hl, hm, hmm, _, hx⟩
  · exact .inl h0
  refine .inr ⟨a, len, cap, rfl, hl, hm, fun q hq => ?_⟩
  have hk0 : 0 < k := Nat.pos_of_ne_zero fun h => by subst h; simp at hq
  have hi : q / k < len := (Nat.div_lt_iff_lt_mul hk0).2 hq
  have hj : q % k < k := Nat.mod_lt _ hk0
  obtain ⟨cs', h1, h2⟩ := hx (q / k) (by rw [hmm]; split <;> omega)
  obtain ⟨_, hlen, hcell⟩ := World.cells?_some h1
  obtain ⟨xs, kk, _, _, hcl, hxl, hff⟩ := DataW.trod_struct he h2
  have hjf : q % k < fs.size := by omega
  obtain ⟨f, hfj⟩ : ∃ f, fs[q % k]? = some f := ⟨_, Array.getElem?_eq_getElem hjf⟩
  obtain ⟨e1, e2, e3⟩ := mix_of hf _ f hfj
  have g := hff _ f hfj
  rw [e1, e2, Go.Deep.take1_drop cs' (q % k) (.int .i64 0) (by omega), List.getElem?_eq_getElem (show q % k < xs.length by omega)] at g
  have hc := hcell (q % k) (by omega)
  rw [Go.Deep.add_add, ce, show q / k * k + q % k = q from by rw [Nat.mul_comm]; exact Nat.div_add_mod q k] at hc
  have hget : w.cell? (a.add q) = some (cs'.getD (q % k) (.int .i64 0)) := by rw [hc, List.getD_eq_getElem?_getD, List.getElem?_eq_getElem (show q % k < cs'.length by omega)]; rfl
  refine ⟨_, hget, ?_⟩
  rcases e3 with ⟨hb, e3⟩ | ⟨hb, e3⟩
  · obtain ⟨v, hv, _, hw⟩ := DataW.trod_int e3 g
    simp only [List.cons.injEq, and_true] at hv
    rw [hb, hv]
    exact ⟨v, rfl, hw⟩
  · obtain ⟨s, hs, _, hz⟩ := DataW.trod_string e3 g
    simp only [List.cons.injEq, and_true] at hs
    rw [hb, hs]
    exact ⟨s, rfl, hz⟩
theorem walk (w : World) (a0 : Int) (w0 : (Lit.int .i64 a0).wf = true) (A : Option Addr) (m c0 : Nat) (xs : List Value) (hR : m = 0 ∨ Reads (whole w) A xs) (hm : xs.length = m * 4) (hxs : ∀ q, q < m → StepAt xs q) (hbig : m ≤ 9223372036854775807) :
    Calls Tryz.prog 3 #[.int .i64 a0, .slice A m c0] w fun e w' => e = .returned (.bool true) ∧ Below w.heap.size w w' := by
  have key : Calls Tryz.prog 3 #[.int .i64 a0, .slice A m c0] w fun e w' => e = .returned (.bool true) ∧ Below w.heap.size w w' := by
    refine (lawPlays (c0 := c0) (in64 w0) hR hm hxs hbig (Base.of w) [] w (Sat.wholeOf w)).mono ?_
    rintro e w' ⟨v, M, rfl, ⟨rfl, rfl⟩, hs⟩
    exact ⟨rfl, hs.belowOld .here⟩
  exact key

/-! ### THE ROW's STEP: WRITTEN OUT: LEAVE IT -/
set_option maxRecDepth 100000 in
theorem lifted (os : Os) (started : os.Started) (H : Type) (enc : TypeId × Value → H) :
    ReturnsInHanded {} Tryz.checked os 3 .any (Rows.dirPlaysSpec.pre6 enc Tryz.prog Tryz.f3 Rows.dirPlaysRow.domain false) (Rows.dirPlaysSpec.post enc Tryz.prog Tryz.f3 false true false false) := by
  refine returnsInHanded_of_change (C := Tryz.checked) own started (by kernel_rfl) Tryz.func3
    (ChangeSpec.witness6 (enc := enc) (C := Tryz.checked) false ⟨#[], #[.int .i64 0, .slice none 0 0], []⟩ 8 (by kernel_rfl) (by kernel_rfl) (by kernel_rfl) (by kernel_rfl)) ?_
  intro W base args ds gs before hval0 hW hcnd _
  have hval : ∀ (j : Nat) t v, Tryz.f3.params[j]? = some t → args[j]? = some v → Value.okWide Tryz.prog W .any base t v := hval0
  have hW' := hW
  obtain ⟨p, q, hA0, hV, rfl, hfz, hnd⟩ := hW
  have hA : DataW.TrodAll enc Tryz.prog W 0 (fun _ => true) true Tryz.f3.params.toList args.toList ds p := hA0
  rw [Tryz.params3] at hA hval
  obtain ⟨v0, vs0, d0, ds0, p0, q0, hargs, rfl, rfl, h0, r0⟩ := trodAll_cons hA
  obtain ⟨v1, vs1, d1, ds1, p1, q1, rfl, rfl, rfl, h1, r1⟩ := trodAll_cons r0
  obtain ⟨rfl, rfl, rfl⟩ := trodAll_nil r1
  obtain rfl : args = #[v0, v1] := by cases args; simp_all
  obtain ⟨rfl, rfl⟩ := trodVars_none hV
  obtain ⟨a0, rfl, rfl, rfl, w0⟩ := open_int Tryz.underlying3 (hval 0 3 v0 rfl rfl) h0
  obtain ⟨al, len, cap, rfl⟩ := okWide_slice Tryz.underlying22 (hval 1 22 v1 rfl rfl)
  have h0k := h1
  obtain ⟨fuel1, hf⟩ := h1
  clear hA0 hval0
  simp only [List.append_nil] at hW'
  have hlt : ∀ x ∈ p1, x.block < W.heap.size := fun x hx => by simpa using hW'.lt x (by simp [hx])
  have hback : ∀ (W' : World), Below W.heap.size W W' → DataW.Trod enc Tryz.prog W' 0 (fun b => decide (b < W.heap.size)) true 22 (.slice al len cap) d1 p1 :=
    fun W' hn => Below.trod gaLaid (by kernel_rfl) (of_decide_eq_true (by kernel_rfl)) h0k hn hlt
  have hwalk : Calls Tryz.prog 3 #[.int .i64 a0, .slice al len cap] W fun e w' => e = .returned (.bool true) ∧ Below W.heap.size W w' := by
    rcases open_mixed (k := 4) (ks := [false, false, true, false]) Tryz.underlying22 Tryz.underlying33 gaCells rfl (by kernel_rfl) hf with hcs | ⟨a, len', cap', hcs, hl, hm, hcell⟩
    · simp [Value.cells] at hcs
      obtain ⟨rfl, rfl, rfl⟩ := hcs
      exact walk W a0 w0 none 0 0 [] (.inl rfl) rfl (fun q hq => absurd hq (Nat.not_lt_zero q)) (by decide)
    · simp [Value.cells] at hcs
      obtain ⟨rfl, rfl, rfl⟩ := hcs
      have hml : maxLen ≤ 9223372036854775807 := by decide
      have hbig : len ≤ 9223372036854775807 := by omega
      by_cases hl0 : len = 0
      · subst hl0
        exact walk W a0 w0 (some a) 0 cap [] (.inl rfl) rfl (fun q hq => absurd hq (Nat.not_lt_zero q)) (by decide)
      · obtain ⟨b, off, spot⟩ := a
        have hspot : spot = none := by
          obtain ⟨v0, h0, _⟩ := hcell 0 (by omega)
          simpa [Addr.add] using World.cell?_spot h0
        subst hspot
        let val : Nat → Value := fun q => match W.cell? ⟨b, off + q, none⟩ with | some v => v | none => .int .i64 0
        have hnum : ∀ q, q < len * 4 → W.cell? ⟨b, off + q, none⟩ = some (val q) ∧ MixOk ([false, false, true, false].getD (q % 4) false) (val q) := by
          intro q hq
          obtain ⟨v, h1, h2⟩ := hcell q hq
          rw [add_plain] at h1
          have : val q = v := by show (match W.cell? ⟨b, off + q, none⟩ with | some v => v | none => .int .i64 0) = v; rw [h1]
          rw [this]; exact ⟨h1, h2⟩
        have hlen : ((List.range (len * 4)).map val).length = len * 4 := by rw [List.length_map, List.length_range]
        have hget : ∀ q, q < len * 4 → ((List.range (len * 4)).map val)[q]? = some (val q) := fun q hq => by rw [List.getElem?_map, List.getElem?_range hq]; rfl
        have hsteps : ∀ q, q < len → StepAt ((List.range (len * 4)).map val) q := by
          intro q hq
          obtain ⟨kd, e0, h0⟩ : MixOk false (val (q * 4 + 0)) := by have := (hnum (q * 4 + 0) (by omega)).2; rwa [show (q * 4 + 0) % 4 = 0 from by omega] at this
          obtain ⟨D, e1, h1⟩ : MixOk false (val (q * 4 + 1)) := by have := (hnum (q * 4 + 1) (by omega)).2; rwa [show (q * 4 + 1) % 4 = 1 from by omega] at this
          obtain ⟨nm, e2, h2⟩ : MixOk true (val (q * 4 + 2)) := by have := (hnum (q * 4 + 2) (by omega)).2; rwa [show (q * 4 + 2) % 4 = 2 from by omega] at this
          obtain ⟨I, e3, h3⟩ : MixOk false (val (q * 4 + 3)) := by have := (hnum (q * 4 + 3) (by omega)).2; rwa [show (q * 4 + 3) % 4 = 3 from by omega] at this
          refine ⟨kd, D, nm.data.toList, I, ?_, in64 h1, in64 h3, Nat.le_trans (Nat.le_of_eq Array.length_toList) (Nat.le_trans h2 hml)⟩
          refine List.ext_getElem? fun j => ?_
          rw [List.getElem?_take]
          split
          · rename_i hj
            rw [List.getElem?_drop, hget _ (by omega)]
            rcases j with _ | _ | _ | _ | j
            · rw [e0]; rfl
            · rw [e1]; rfl
            · rw [e2]; rfl
            · rw [e3]; rfl
            · omega
          · rename_i hj
            rw [List.getElem?_eq_none (by show 4 ≤ j; omega)]
        refine walk W a0 w0 _ len cap ((List.range (len * 4)).map val) (.inr ?_) hlen hsteps hbig
        have hc0 := (hnum 0 (by omega)).1
        obtain ⟨cs, e, fr, hblk⟩ : ∃ cs e fr, W.heap[b]? = some (.cells cs e fr) := by
          unfold World.cell? at hc0
          simp only at hc0
          cases hb : W.heap[b]? with
          | none => rw [hb] at hc0; simp at hc0
          | some o =>
            rw [hb] at hc0
            cases o <;> first | exact ⟨_, _, _, rfl⟩ | simp at hc0
        refine Reads.whole hblk fun i hi => ?_
        have hi' : i < len * 4 := by rw [hlen] at hi; exact hi
        have h1 := (hnum i hi').1
        rw [cell_of hblk] at h1
        rw [h1, hget i hi']
  refine hwalk.mono fun e W' ⟨he, hg⟩ => ?_
  subst he
  refine ⟨_, rfl, _, _, _, [], p1, [], by simpa using hW', ?_, ?_, ?_, hg.frame _, fun h => by cases h⟩
  · exact trodAll_cons_mk (shut_bool Tryz.underlying4 _) trodAll_mk0
  · have h := trodAll_cons_mk (shut_int Tryz.underlying3 w0) (trodAll_cons_mk (hback W' hg) (trodAll_mk0))
    simp only [List.append_nil, List.nil_append] at h
    exact h
  · exact rfl

theorem over : Rows.dirPlaysRow.holds Tryz.pinned (OpenSpec.ofChange Rows.dirPlaysSpec) :=
  OpenClaim.holds_of_wide 3 Tryz.f3 rfl rfl rfl rfl rfl rfl rfl ⟨rfl, rfl, rfl, rfl, rfl⟩ rfl rfl rfl rfl rfl (by kernel_rfl) Tryz.func3 (by kernel_rfl)
    (of_decide_eq_true (by kernel_rfl)) (by unfold Func.isWrapper; first | (rw [if_pos (by decide +kernel)]; kernel_rfl) | (rw [if_neg (by decide +kernel)]; exact ⟨rfl, rfl⟩))
    (fun os started H enc _ => lifted os started H enc)

/-- ████ THE STATEMENT ████ -/
theorem proved : Rows.DirPlaysSaid :=
  over
#print axioms proved
end Go.Proofs.YtdmjkjeoamiedaaGreat.dirPlays
