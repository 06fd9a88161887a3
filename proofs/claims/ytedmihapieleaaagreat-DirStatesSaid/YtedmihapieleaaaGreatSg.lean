/- Arrays of bytes; worlds in which nothing that was has turned; maps as the library's contracts have them. Over any program. -/
import Derived.Test.YtedmihapieleaaaGreatSe
import Derived.Maps.Own
import Derived.Lib.SlKeysI
import Derived.WideShapes
set_option linter.unusedVariables false
set_option linter.unusedSimpArgs false
set_option linter.unusedSectionVars false
namespace Go.Proofs.YtedmihapieleaaaGreat
open Go

/-- An array of bytes. -/
def arrV (xs : Bytes) : Value := .agg (bvs xs).toArray
section
variable {P : Program} {B : Base} {n : Nat} {Q Q' : Exit → Act → World → Prop} {e : Env} {L : List HP} {ops : Array Oper} {l : List Oper}
variable {d : Nat} {ty : TypeId} {pos : String} {af : Array Edge} {x y z : Operand} {gd : Option (Nat × Bool)}
/-- An array of bytes is stored whole. -/
theorem WL.stArr {t b k el : Nat} {cs : Array Value} {xs : Bytes} {M : List HP} (h : WL P B n ops l Q e (buf b el k (bvs xs) :: M)) (hag : aggOk P t k = true) (hk : xs.length = k) (hk0 : 0 < k) (hc : cs.size = k)
    (hx : evo e x = some (.pointer (some ⟨b, 0, none⟩)) := by rfl) (hy : evo e y = some (arrV xs) := by rfl) (r : Rem L (pt b (.cells cs el (0, 0))) M := by repeat (first | exact .here | apply Rem.there)) :
    WL P B n ops (⟨none, .store t x y, ty, pos, af, none⟩ :: l) Q e L := by
  have hne : (bvs xs) ≠ [] := fun h => by have := bvs_length xs; rw [h] at this; simp at this; omega
  intro a w ha hs
  have hs1 := hs.front r
  refine WL.stW (L := pt b (.cells cs el (0, 0)) :: M) (L' := pt b (.cells (bvs xs).toArray el (0, 0)) :: M) (us := (bvs xs).toArray) (k := k) ?_ hag (Nat.ble_eq_true_of_le hk0) (by simp [bvs_length, hk]) hc (List.all_eq_true.2 fun v hv => bvs_single xs v (by simpa using hv)) hx hy .here a w ha hs1
  intro a w ha hs
  refine h a w ha (hs.imp (L := []) ?_)
  intro hh h1
  have h2 := buf_of_pt (xs := bvs xs) (by simp) hh h1
  rw [bvs_length, hk] at h2
  exact h2
/-- A slice as a pointer to an array. -/
theorem Qt.toArr {t el k m c : Nat} {A : Option Addr} (ht : P.underlying t = some (.array k el)) (hx : evo e x = some (.slice A m c) := by rfl) (hk : k ≤ m := by omega) :
    Qt P B n e L ⟨some d, .sliceToArrayPointer t x, ty, pos, af, gd⟩ (.pointer A) :=
  fun a w ha hs => by
    have : ¬ m < k := by omega
    simp [execOp, ha.eval hx, Instr.arrayAt, run_underlying ht, this]
theorem WL.toArr {t el k m c : Nat} {A : Option Addr} (h : WL P B n ops l Q ((d, .pointer A) :: e) L) (ht : P.underlying t = some (.array k el)) (hx : evo e x = some (.slice A m c) := by rfl) (hk : k ≤ m := by omega) (hd : Nat.ble (d + 1) n = true := by rfl) :
    WL P B n ops (⟨some d, .sliceToArrayPointer t x, ty, pos, af, none⟩ :: l) Q e L :=
  WL.pure h hd (Qt.toArr (ht := ht) (hx := hx) (hk := hk))
end
theorem replicate_arr (k : Nat) : Array.replicate k (Value.int .u8 0) = (bvs (List.replicate k 0)).toArray := by
  rw [bvs_replicate]
  apply Array.toList_inj.1
  rw [Array.toList_replicate]
theorem zeros_arr : Value.agg (Array.replicate 512 (Value.int .u8 0)) = arrV (List.replicate 512 0) := by
  unfold arrV; rw [replicate_arr]
/-! ### worlds in which nothing that was has turned -/
theorem Sat.below {B : Base} {w w' : World} {L : List HP} (h : Sat B w L) (hb : RowKit.Below w.heap.size w w') : Sat B w' L := by
  obtain ⟨p, q, s, hs, h⟩ := h
  refine ⟨hb.os.trans p, hb.tape.trans q, hb.output.trans s, hs, h.moved fun k hk b x hx => ?_⟩
  exact hb.block b (Array.getElem?_eq_some_iff.1 (h.les k hk b x hx)).1
/-- .. but a row is new. -/
theorem Sat.newRow {B : Base} {w w' : World} {L : List HP} {el size k : Nat} {v : Value} {xs : List Value} (h : Sat B w L) (hb : RowKit.Below w.heap.size w w') (ho : w'.ownsRow w.heap.size el size v k xs) : Sat B w' (rowR el size v k xs :: L) := by
  have h' := h.below hb
  rcases ho with ⟨h1, ⟨rfl, h2⟩ | ⟨g, cap, cur, rfl, h3, h4, h5, h6, h7, h8⟩⟩
  · refine h'.pure ?_
    unfold rowR
    exact ⟨h1, .inl ⟨rfl, h2⟩⟩
  · obtain ⟨p, q, s, hs, hh⟩ := h
    obtain ⟨p', q', s', _⟩ := h'
    refine ⟨p', q', s', one g (true, .cells cur el (0, 0)) :: hs, ?_, ?_, ?_, hh.moved fun k hk b x hx => hb.block b (Array.getElem?_eq_some_iff.1 (hh.les k hk b x hx)).1⟩
    · unfold rowR
      exact ⟨h1, .inr ⟨g, cap, cur, rfl, one_at _ _, h5, h6, h7, h8⟩⟩
    · intro b x hx
      obtain ⟨rfl, rfl⟩ := one_of hx
      exact h4
    · intro k hk b x y hx hy
      obtain ⟨rfl, rfl⟩ := one_of hx
      have := (Array.getElem?_eq_some_iff.1 (hh.les k hk _ y hy)).1
      omega
/-! ### a map of ints, as the library's contracts have it -/
theorem ownsMap_of {P : Program} {kt : Nat} {w : World} {b c : Nat} {es : Array MapEntry} {kvs : List (Int × Value)} (hk : P.underlying kt = some (.int .i64)) (hb : w.heap[b]? = some (.map es c)) (hm : MapIs (Value.int .i64) es c kvs) (hs : kvs.length ≤ maxLen)
    (hr : ∀ p ∈ kvs, -9223372036854775808 ≤ p.1 ∧ p.1 ≤ 9223372036854775807) :
    ∃ D : DataW Unit, w.ownsMap P kt (fun _ => some (.nil, [])) b kvs.length D ∧ Maps.size D = kvs.length ∧ (Go.intKeys D).Perm (kvs.map (·.1)) := by
  have hlen := hm.length
  have hkey : ∀ x ∈ es.toList, ∃ k : Int, x.key = .int .i64 k ∧ WideElems.rd P kt (fun _ => some ((.nil : DataW Unit), [])) x = some (.int .i64 k, .nil) := by
    intro x hx
    have h1 : x.key ∈ es.toList.map (·.key) := List.mem_map.2 ⟨x, hx, rfl⟩
    rw [hm.keys] at h1
    obtain ⟨p, hp, hpx⟩ := List.mem_map.1 h1
    have hb := hr p hp
    refine ⟨p.1, hpx.symm, ?_⟩
    unfold WideElems.rd
    rw [← hpx, Maps.keyOf_int_mk hk (by simp [Lit.wf, IntKind.min, IntKind.max, IntKind.bits, IntKind.signed]; omega)]
    rfl
  have hrg : (es.toList.map (WideElems.rg P kt (fun _ => some ((.nil : DataW Unit), [])))).map (fun p => intOf p.1) = kvs.map (·.1) := by
    have h2 : (es.toList.map (·.key)).map (fun v => match v with | .int _ q => q | _ => 0) = kvs.map (·.1) := by
      rw [hm.keys, List.map_map]; rfl
    rw [← h2, List.map_map, List.map_map]
    apply List.map_congr_left
    intro x hx
    obtain ⟨k, h3, h4⟩ := hkey x hx
    simp only [Function.comp_apply, WideElems.rg, h4, Option.getD_some, h3]
    rfl
  refine ⟨_, ⟨es, c, hb, ⟨by omega, ⟨hm.lt, ?_, ?_⟩, fun x hx => ?_⟩, by omega, rfl⟩, ?_, ?_⟩
  · exact hm.born.imp (fun h => Nat.ne_of_lt h)
  · rw [hm.keys]
    have := hm.nodup
    rw [show (kvs.map fun p => Value.int .i64 p.1) = (kvs.map (·.1)).map (Value.int .i64) from by rw [List.map_map]; rfl]
    exact List.Pairwise.map _ (fun a b h1 h2 => h1 (by injection h2)) this
  · obtain ⟨k, _, h4⟩ := hkey x hx
    exact ⟨_, h4⟩
  · show (List.foldr DataW.insert [] _).length = _
    rw [DataW.length_sorted, List.length_map]
    simpa using hlen
  · show ((List.foldr DataW.insert [] _).map fun p => intOf p.1).Perm _
    rw [← hrg]
    exact (WideShapes.sorted_perm _).map _
end Go.Proofs.YtedmihapieleaaaGreat
