/- The law InodeApart holds for every input; no condition. -/
import Derived.Test.YtedmihapieleaaaGreatRows
import Derived.Test.YtedmihapieleaaaGreatWag
import Derived.WalkKit
import Derived.ProofKit
import Derived.OpenShut
import Derived.Carry
import Derived.ChangeSlices
namespace Go.Proofs.YtedmihapieleaaaGreat
open Go.ChangeShapes Go.WideShapes Go.ChangeAt Go.RowKit
set_option linter.unusedVariables false

theorem gaOwn : ownKnob Tryz.prog.godebug = none := by kernel_rfl
theorem gaLaid : laidOutB Tryz.prog = true := by kernel_rfl
theorem gaCells3 : Tryz.prog.cellsOf 3 = 1 := by kernel_rfl
theorem gaWalk (A : Option Addr) (m c0 : Nat) (xs : List Int) (w : World) (hR : xs = [] ∨ Reads (whole w) A (ints xs)) (hm : xs.length = m) (hxs : ∀ x ∈ xs, -9223372036854775808 ≤ x ∧ x ≤ 9223372036854775807) (hbig : m ≤ 9223372036854775807) :
    Calls Tryz.prog 3 #[.slice A m c0] w fun e w' => e = .returned (.bool true) ∧ Below w.heap.size w w' := by
  refine (lawApart (c0 := c0) hR hm hxs hbig (Base.of w) [] w (Sat.wholeOf w)).mono ?_
  rintro e w' ⟨v, M, rfl, ⟨rfl, rfl⟩, hs⟩
  exact ⟨rfl, hs.belowOld .here⟩

set_option maxRecDepth 100000 in
theorem gaLifted (os : Os) (started : os.Started) (H : Type) (enc : TypeId × Value → H) :
    ReturnsInHanded {} Tryz.checked os 3 .any (Rows.inodeApartSpec.pre6 enc Tryz.prog Tryz.f3 Rows.inodeApartRow.domain false) (Rows.inodeApartSpec.post enc Tryz.prog Tryz.f3 false true false false) := by
  refine returnsInHanded_of_change (C := Tryz.checked) gaOwn started (by kernel_rfl) Tryz.func3
    (ChangeSpec.witness6 (enc := enc) (C := Tryz.checked) false ⟨#[], #[.slice none 0 0], []⟩ 8 (by kernel_rfl) (by kernel_rfl) (by kernel_rfl) (by kernel_rfl)) ?_
  intro W base args ds gs before hval0 hW hcnd _
  have hval : ∀ (j : Nat) t v, Tryz.f3.params[j]? = some t → args[j]? = some v → Value.okWide Tryz.prog W .any base t v := hval0
  have hW' := hW
  obtain ⟨p, q, hA0, hV, rfl, hfz, hnd⟩ := hW
  have hA : DataW.TrodAll enc Tryz.prog W 0 (fun _ => true) true Tryz.f3.params.toList args.toList ds p := hA0
  rw [Tryz.params3] at hA hval
  obtain ⟨v0, d0, rfl, rfl, h0⟩ := trodAll_one hA
  obtain ⟨rfl, rfl⟩ := trodVars_none hV
  obtain ⟨a0, len, cap, rfl⟩ := okWide_slice Tryz.underlying22 (hval 0 22 v0 rfl rfl)
  have h0k := h0
  obtain ⟨fuel0, hf⟩ := h0
  clear hA0 hval0
  simp only [List.append_nil] at hW'
  have hlt : ∀ x ∈ p, x.block < W.heap.size := fun x hx => by simpa using hW'.lt x hx
  have hargs : ∀ (W' : World), Below W.heap.size W W' → DataW.Trod enc Tryz.prog W' 0 (fun b => decide (b < W.heap.size)) true 22 (.slice a0 len cap) d0 p :=
    fun W' hn => Below.trod gaLaid (by kernel_rfl) (of_decide_eq_true (by kernel_rfl)) h0k hn hlt
  have hwalk : Calls Tryz.prog 3 #[.slice a0 len cap] W fun e w' => e = .returned (.bool true) ∧ Below W.heap.size W w' := by
    rcases open_ints Tryz.underlying22 Tryz.underlying3 gaCells3 hf with ⟨hcs, hx⟩ | ⟨a, len', cap', zs, hcs, _, hl, hm, hz, hx, hcell, hwz⟩
    · simp [Value.cells] at hcs
      obtain ⟨rfl, rfl, rfl⟩ := hcs
      exact gaWalk none 0 0 [] W (.inl rfl) rfl (fun x hx => by cases hx) (by decide)
    · simp [Value.cells] at hcs
      obtain ⟨rfl, rfl, rfl⟩ := hcs
      simp only [if_true] at hz
      have hxr : ∀ x ∈ zs.take len, -9223372036854775808 ≤ x ∧ x ≤ 9223372036854775807 := fun x hx => by
        have := hwz x (List.mem_of_mem_take hx)
        simp [Lit.wf, IntKind.min, IntKind.max, IntKind.bits, IntKind.signed] at this
        omega
      have hlen : (zs.take len).length = len := by rw [List.length_take]; omega
      have hbig : len ≤ 9223372036854775807 := by have : maxLen ≤ 9223372036854775807 := by decide
                                                  omega
      by_cases hl0 : len = 0
      · subst hl0
        exact gaWalk (some a) 0 cap [] W (.inl rfl) rfl (fun x hx => by cases hx) (by decide)
      · obtain ⟨b, off, spot⟩ := a
        have hspot : spot = none := by simpa [Addr.add] using World.cell?_spot (hcell 0 (by omega))
        subst hspot
        refine gaWalk _ len cap (zs.take len) W (.inr ?_) hlen hxr hbig
        have hc0 := hcell 0 (by omega)
        rw [add_plain] at hc0
        obtain ⟨cs, e, fr, hblk⟩ : ∃ cs e fr, W.heap[b]? = some (.cells cs e fr) := by
          unfold World.cell? at hc0
          simp only at hc0
          cases hb : W.heap[b]? with
          | none => rw [hb] at hc0; simp at hc0
          | some o =>
            rw [hb] at hc0
            cases o <;> first | exact ⟨_, _, _, rfl⟩ | simp at hc0
        refine Reads.whole hblk fun i hi => ?_
        have hi' : i < len := by rw [ints, List.length_map, hlen] at hi; exact hi
        have h1 := hcell i (by omega)
        rw [add_plain, cell_of hblk] at h1
        rw [h1, ints_get (by omega)]
        simp [List.getD, show i < zs.length by omega]
  refine hwalk.mono fun e W' ⟨he, hB⟩ => ?_
  subst he
  refine ⟨_, rfl, _, _, _, [], p, [], by simpa using hW', ?_, ?_, ?_, hB.frame _, fun h => by cases h⟩
  · exact trodAll_cons_mk (shut_bool Tryz.underlying4 _) trodAll_mk0
  · exact trodAll_mk1 (hargs W' hB)
  · exact rfl

theorem inodeApart_holds : Rows.InodeApartSaid :=
  OpenClaim.holds_of_wide 3 Tryz.f3 rfl rfl rfl rfl rfl rfl rfl ⟨rfl, rfl, rfl, rfl, rfl⟩ rfl rfl rfl rfl rfl (by kernel_rfl) Tryz.func3 (by kernel_rfl)
    (of_decide_eq_true (by kernel_rfl)) (by unfold Func.isWrapper; first | (rw [if_pos (by decide +kernel)]; kernel_rfl) | (rw [if_neg (by decide +kernel)]; exact ⟨rfl, rfl⟩))
    (fun os started H enc _ => gaLifted os started H enc)
#print axioms inodeApart_holds
end Go.Proofs.YtedmihapieleaaaGreat
