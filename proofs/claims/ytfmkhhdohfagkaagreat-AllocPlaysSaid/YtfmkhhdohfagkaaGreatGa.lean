/- The law AllocPlays holds for every input; no condition. -/
import Derived.Test.YtfmkhhdohfagkaaGreatRows
import Derived.Test.YtfmkhhdohfagkaaGreatWre
import Derived.WalkKit
import Derived.ProofKit
import Derived.OpenShut
import Derived.Carry
import Derived.ChangeSlices
import Derived.Deep.SlicePairs
namespace Go.Proofs.YtfmkhhdohfagkaaGreat
open Go.ChangeShapes Go.WideShapes Go.ChangeAt Go.RowKit
set_option linter.unusedVariables false

theorem gaOwn : ownKnob Tryz.prog.godebug = none := by kernel_rfl
theorem gaLaid : laidOutB Tryz.prog = true := by kernel_rfl
theorem gaCells3 : Tryz.prog.cellsOf 3 = 1 := by kernel_rfl
theorem gaCells36 : Tryz.prog.cellsOf 36 = 2 := by kernel_rfl
theorem in64 {n : Int} (h : (Lit.int .i64 n).wf = true) : -9223372036854775808 ≤ n ∧ n ≤ 9223372036854775807 := by
  simp [Lit.wf, IntKind.min, IntKind.max, IntKind.bits, IntKind.signed] at h; omega
theorem gaWalk (a0 a1 : Int) (w0 : (Lit.int .i64 a0).wf = true) (w1 : (Lit.int .i64 a1).wf = true) (A : Option Addr) (m c0 : Nat) (xs : List Int) (w : World) (hR : xs = [] ∨ Reads (whole w) A (ints xs)) (hm : xs.length = m * 2) (hxs : ∀ x ∈ xs, -9223372036854775808 ≤ x ∧ x ≤ 9223372036854775807) (hbig : m ≤ 9223372036854775807) :
    Calls Tryz.prog 3 #[.int .i64 a0, .int .i64 a1, .slice A m c0] w fun e w' => e = .returned (.bool true) ∧ Below w.heap.size w w' := by
  refine (lawPlays (c0 := c0) (in64 w0) (in64 w1) hR hm hxs hbig (Base.of w) [] w (Sat.wholeOf w)).mono ?_
  rintro e w' ⟨v, M, rfl, ⟨rfl, rfl⟩, hs⟩
  exact ⟨rfl, hs.belowOld .here⟩
/-- Pairs, laid one behind the other. -/
def flat2 (f g : Nat → Int) : Nat → List Int
  | 0 => []
  | n + 1 => flat2 f g n ++ [f n, g n]
theorem flat2_length (f g : Nat → Int) : ∀ n, (flat2 f g n).length = n * 2
  | 0 => rfl
  | n + 1 => by rw [flat2, List.length_append, flat2_length f g n]; simp; omega
theorem flat2_get (f g : Nat → Int) : ∀ n i, i < n → (flat2 f g n)[i * 2]? = some (f i) ∧ (flat2 f g n)[i * 2 + 1]? = some (g i)
  | 0, i, h => by omega
  | n + 1, i, h => by
    have hl := flat2_length f g n
    by_cases hi : i < n
    · rw [flat2, List.getElem?_append_left (by omega), List.getElem?_append_left (by omega)]
      exact flat2_get f g n i hi
    · have hin : i = n := by omega
      subst hin
      rw [flat2, List.getElem?_append_right (by omega), List.getElem?_append_right (by omega), hl]
      simp
theorem flat2_all {f g : Nat → Int} {p : Int → Prop} : ∀ n, (∀ i, i < n → p (f i) ∧ p (g i)) → ∀ x ∈ flat2 f g n, p x
  | 0, _, x, hx => by cases hx
  | n + 1, h, x, hx => by
    rcases List.mem_append.1 hx with hx | hx
    · exact flat2_all n (fun i hi => h i (by omega)) x hx
    · have := h n (by omega)
      simp only [List.mem_cons, List.not_mem_nil, or_false] at hx
      rcases hx with rfl | rfl
      · exact this.1
      · exact this.2

set_option maxRecDepth 100000 in
theorem gaLifted (os : Os) (started : os.Started) (H : Type) (enc : TypeId × Value → H) :
    ReturnsInHanded {} Tryz.checked os 3 .any (Rows.allocPlaysSpec.pre6 enc Tryz.prog Tryz.f3 Rows.allocPlaysRow.domain false) (Rows.allocPlaysSpec.post enc Tryz.prog Tryz.f3 false true false false) := by
  refine returnsInHanded_of_change (C := Tryz.checked) gaOwn started (by kernel_rfl) Tryz.func3
    (ChangeSpec.witness6 (enc := enc) (C := Tryz.checked) false ⟨#[], #[.int .i64 0, .int .i64 0, .slice none 0 0], []⟩ 8 (by kernel_rfl) (by kernel_rfl) (by kernel_rfl) (by kernel_rfl)) ?_
  intro W base args ds gs before hval0 hW hcnd _
  have hval : ∀ (j : Nat) t v, Tryz.f3.params[j]? = some t → args[j]? = some v → Value.okWide Tryz.prog W .any base t v := hval0
  have hW' := hW
  obtain ⟨p, q, hA0, hV, rfl, hfz, hnd⟩ := hW
  have hA : DataW.TrodAll enc Tryz.prog W 0 (fun _ => true) true Tryz.f3.params.toList args.toList ds p := hA0
  rw [Tryz.params3] at hA hval
  obtain ⟨v0, vs0, d0, ds0, p0, q0, hargs, rfl, rfl, h0, r0⟩ := trodAll_cons hA
  obtain ⟨v1, vs1, d1, ds1, p1, q1, rfl, rfl, rfl, h1, r1⟩ := trodAll_cons r0
  obtain ⟨v2, vs2, d2, ds2, p2, q2, rfl, rfl, rfl, h2, r2⟩ := trodAll_cons r1
  obtain ⟨rfl, rfl, rfl⟩ := trodAll_nil r2
  obtain rfl : args = #[v0, v1, v2] := by cases args; simp_all
  obtain ⟨rfl, rfl⟩ := trodVars_none hV
  obtain ⟨a0, rfl, rfl, rfl, w0⟩ := open_int Tryz.underlying3 (hval 0 3 v0 rfl rfl) h0
  obtain ⟨a1, rfl, rfl, rfl, w1⟩ := open_int Tryz.underlying3 (hval 1 3 v1 rfl rfl) h1
  obtain ⟨aa, len, cap, rfl⟩ := okWide_slice Tryz.underlying22 (hval 2 22 v2 rfl rfl)
  have h0k := h2
  obtain ⟨fuel0, hf⟩ := h2
  clear hA0 hval0
  simp only [List.append_nil, List.nil_append] at hW'
  have hlt : ∀ x ∈ p2, x.block < W.heap.size := fun x hx => by simpa using hW'.lt x hx
  have hargs : ∀ (W' : World), Below W.heap.size W W' → DataW.Trod enc Tryz.prog W' 0 (fun b => decide (b < W.heap.size)) true 22 (.slice aa len cap) d2 p2 :=
    fun W' hn => Below.trod gaLaid (by kernel_rfl) (of_decide_eq_true (by kernel_rfl)) h0k hn hlt
  have hwalk : Calls Tryz.prog 3 #[.int .i64 a0, .int .i64 a1, .slice aa len cap] W fun e w' => e = .returned (.bool true) ∧ Below W.heap.size W w' := by
    rcases Go.Deep.open_slice_pairs Tryz.underlying22 Tryz.underlying36 gaCells36 rfl rfl gaCells3 gaCells3 hf with ⟨hcs, hx⟩ | ⟨a, len', cap', m, nn, V0, V1, D0, D1, P0, P1, hcs, _, hl, hm, hmm, hx, hcell⟩
    · simp [Value.cells] at hcs
      obtain ⟨rfl, rfl, rfl⟩ := hcs
      exact gaWalk a0 a1 w0 w1 none 0 0 [] W (.inl rfl) rfl (fun x hx => by cases hx) (by decide)
    · simp [Value.cells] at hcs
      obtain ⟨rfl, rfl, rfl⟩ := hcs
      simp only [if_true] at hmm
      have hbig : len ≤ 9223372036854775807 := by have : maxLen ≤ 9223372036854775807 := by decide
                                                  omega
      let num : Value → Int := fun v => match v with | .int _ n => n | _ => 0
      have hnum : ∀ i, i < m → V0 i = .int .i64 (num (V0 i)) ∧ V1 i = .int .i64 (num (V1 i)) ∧ (-9223372036854775808 ≤ num (V0 i) ∧ num (V0 i) ≤ 9223372036854775807) ∧ (-9223372036854775808 ≤ num (V1 i) ∧ num (V1 i) ≤ 9223372036854775807) := by
        intro i hi
        obtain ⟨_, _, g0, g1⟩ := hcell i hi
        obtain ⟨n0, e0, _, z0⟩ := DataW.trod_int Tryz.underlying3 g0
        obtain ⟨n1, e1, _, z1⟩ := DataW.trod_int Tryz.underlying3 g1
        simp only [List.cons.injEq, and_true] at e0 e1
        rw [e0, e1]
        exact ⟨rfl, rfl, in64 z0, in64 z1⟩
      by_cases hl0 : len = 0
      · subst hl0
        exact gaWalk a0 a1 w0 w1 (some a) 0 cap [] W (.inl rfl) rfl (fun x hx => by cases hx) (by decide)
      · obtain ⟨b, off, spot⟩ := a
        have hspot : spot = none := by simpa [Addr.add] using World.cell?_spot (hcell 0 (by omega)).1
        subst hspot
        have hlen := flat2_length (fun i => num (V0 i)) (fun i => num (V1 i)) len
        refine gaWalk a0 a1 w0 w1 _ len cap (flat2 (fun i => num (V0 i)) (fun i => num (V1 i)) len) W (.inr ?_) hlen (flat2_all len fun i hi => ⟨(hnum i (by omega)).2.2.1, (hnum i (by omega)).2.2.2⟩) hbig
        have hc0 := (hcell 0 (by omega)).1
        rw [add_plain] at hc0
        obtain ⟨cs, e, fr, hblk⟩ : ∃ cs e fr, W.heap[b]? = some (.cells cs e fr) := by
          unfold World.cell? at hc0
          simp only at hc0
          cases hb : W.heap[b]? with
          | none => rw [hb] at hc0; simp at hc0
          | some o =>
            rw [hb] at hc0
            cases o <;> first | exact ⟨_, _, _, rfl⟩ | simp at hc0
        refine Reads.whole hblk fun i hi => ?_
        have hi' : i < len * 2 := by rw [ints, List.length_map, hlen] at hi; exact hi
        obtain ⟨k, hk, hki⟩ : ∃ k, k < len ∧ (i = k * 2 ∨ i = k * 2 + 1) := ⟨i / 2, by omega, by omega⟩
        obtain ⟨c1, c2, _, _⟩ := hcell k (by omega)
        obtain ⟨e0, e1, _, _⟩ := hnum k (by omega)
        obtain ⟨q0, q1⟩ := flat2_get (fun i => num (V0 i)) (fun i => num (V1 i)) len k hk
        rw [add_plain, cell_of hblk] at c1
        rw [add_plain, cell_of hblk] at c2
        rcases hki with rfl | rfl
        · rw [c1, e0]; unfold ints; rw [List.getElem?_map, q0]; rfl
        · skip
          rw [c2, e1]; unfold ints; rw [List.getElem?_map, q1]; rfl
  refine hwalk.mono fun e W' ⟨he, hB⟩ => ?_
  subst he
  refine ⟨_, rfl, _, _, _, [], p2, [], by simpa using hW', ?_, ?_, ?_, hB.frame _, fun h => by cases h⟩
  · exact trodAll_cons_mk (shut_bool Tryz.underlying4 _) trodAll_mk0
  · exact trodAll_cons_mk (shut_int Tryz.underlying3 w0) (trodAll_cons_mk (shut_int Tryz.underlying3 w1) (trodAll_mk1 (hargs W' hB)))
  · exact rfl

theorem allocPlays_holds : Rows.AllocPlaysSaid :=
  OpenClaim.holds_of_wide 3 Tryz.f3 rfl rfl rfl rfl rfl rfl rfl ⟨rfl, rfl, rfl, rfl, rfl⟩ rfl rfl rfl rfl rfl (by kernel_rfl) Tryz.func3 (by kernel_rfl)
    (of_decide_eq_true (by kernel_rfl)) (by unfold Func.isWrapper; first | (rw [if_pos (by decide +kernel)]; kernel_rfl) | (rw [if_neg (by decide +kernel)]; exact ⟨rfl, rfl⟩))
    (fun os started H enc _ => gaLifted os started H enc)
#print axioms allocPlays_holds
end Go.Proofs.YtfmkhhdohfagkaaGreat
