/- Walks of package journal: commits. -/
import Derived.Test.YtedmihapieleaaaGreatFa
import Derived.Test.YtedmihapieleaaaGreatWe
import Derived.KernelRfl
set_option linter.unusedVariables false
set_option linter.unusedSimpArgs false
namespace Go.Proofs.YtedmihapieleaaaGreat
open Go

/-- A change as it lies in a slice: its block, the slice of its bytes, the bytes. -/
structure CV where
  k : Nat
  g : Nat
  q : Nat
  xs : Bytes
def CV.val (c : CV) : Value := .slice (some ⟨c.g, 0, none⟩) 512 c.q
def CV.pair (c : CV) : Nat × Bytes := (c.k, c.xs)
def chCells : List CV → List Value
  | [] => []
  | c :: l => .int .i64 (c.k : Int) :: c.val :: chCells l
theorem chCells_length : ∀ l : List CV, (chCells l).length = l.length * 2
  | [] => rfl
  | c :: l => by simp only [chCells, List.length_cons, chCells_length l]; omega
theorem chCells_get : ∀ (l : List CV) (i : Nat) (h : i < l.length), ((chCells l).drop (i * 2)).take 2 = [.int .i64 (l[i].k : Int), l[i].val]
  | c :: l, 0, _ => rfl
  | c :: l, i + 1, h => by
    rw [show (i + 1) * 2 = i * 2 + 2 from by omega]
    exact chCells_get l i (by simpa using h)
theorem chCells_single : ∀ (l : List CV), ∀ u ∈ chCells l, Value.single u = true
  | [], u, h => by cases h
  | c :: l, u, h => by
    simp only [chCells, List.mem_cons] at h
    rcases h with rfl | rfl | h
    · rfl
    · rfl
    · exact chCells_single l u h
/-- The changes' bytes lie where they should. -/
def Lie (bl : List (Value × Bytes)) (l : List CV) : Prop := ∀ c ∈ l, (c.val, c.xs) ∈ bl
/-- What lies in a slot's blocks of data. -/
def dataL (s : Nat) (l : List (Nat × Bytes)) : List (Nat × Bytes) := l.zipIdx.map fun p => (slotAt s (p.2 + 1), p.1.2)
theorem dataL_length (s : Nat) (l : List (Nat × Bytes)) : (dataL s l).length = l.length := by simp [dataL]
theorem dataL_get (s : Nat) (l : List (Nat × Bytes)) (i : Nat) (h : i < l.length) : (dataL s l)[i]'(by rw [dataL_length]; exact h) = (slotAt s (i + 1), l[i].2) := by simp [dataL]
def headN (gen nn : Nat) (l : List (Nat × Bytes)) : Nat → Bytes
  | 0 => laidB markH [gen, nn, l.length]
  | i + 1 => put (headN gen nn l i) (32 + 4 * i) 4 false (match l[i]? with | some p => p.1 | none => 0)
def headB (gen nn : Nat) (l : List (Nat × Bytes)) : Bytes := headN gen nn l l.length
theorem headN_length (gen nn : Nat) (l : List (Nat × Bytes)) : ∀ i, (headN gen nn l i).length = 512
  | 0 => laidN_length (ys := markH) (by decide) _ _
  | i + 1 => by rw [headN, put_length]; exact headN_length gen nn l i
def JS.next (J : JS) : Nat := (J.last + 1) % 2 ^ 64
/-- The device behind a commit. -/
def JS.wrote (J : JS) (l : List (Nat × Bytes)) : Nat → Bytes := wr (lay (lay J.cur J.ch) (dataL (J.next % 4) l)) (slotAt (J.next % 4) 0) (headB J.gen J.next l)
def JS.commit (J : JS) (l : List (Nat × Bytes)) : JS := ⟨J.gen, J.next, l, J.wrote l⟩
def boxJ (b j : Nat) : HP := pt b (.cells #[.pointer (some ⟨j, 0, none⟩)] 80 (0, 0))
def intO (i : Int) : Obj := .cells #[.int .i64 i] 3 (0, 0)
def chO (c : CV) : Obj := .cells #[.int .i64 (c.k : Int), c.val] 108 (0, 0)
def wr1V (b2 b5 : Nat) (p : Nat × Nat) : Value := .func (.func 160) #[] #[.pointer (some ⟨b2, 0, none⟩), .pointer (some ⟨b5, 0, none⟩), .pointer (some ⟨p.1, 0, none⟩), .pointer (some ⟨p.2, 0, none⟩)]
def wr2V (b2 b5 b6 : Nat) : Value := .func (.func 161) #[] #[.pointer (some ⟨b2, 0, none⟩), .pointer (some ⟨b5, 0, none⟩), .pointer (some ⟨b6, 0, none⟩)]
def settleV (j : Nat) : Value := .func (.func 92) #[.pointer (some ⟨j, 0, none⟩)] #[]

theorem jWrite1 {j d n t gen last mp b2 b5 b8 b9 nn i : Nat} {ov : Value} {os : List (Nat × Obj)} {bl : List (Value × Bytes)} {c : CV} {cur : Nat → Bytes} (h8 : (b8, intO (i : Int)) ∈ os) (h9 : (b9, chO c) ∈ os) (hc : (c.val, c.xs) ∈ bl) (hx : c.xs.length = 512) (hi : i ≤ 59) (hn : 246 ≤ n) (ht : t ≤ 1000) :
    Spec Tryz.prog 160 #[.pointer (some ⟨b2, 0, none⟩), .pointer (some ⟨b5, 0, none⟩), .pointer (some ⟨b8, 0, none⟩), .pointer (some ⟨b9, 0, none⟩)] [boxJ b2 j, cellU b5 nn, frz os, blobs bl, pt j (jO d gen last ov mp), DevR d n cur t] fun F v M => v = okV ∧ M = [boxJ b2 j, cellU b5 nn, frz os, blobs bl, pt j (jO d gen last ov mp), DevR d n (wr cur (slotAt (nn % 4) (i + 1)) c.xs) (t + 1)] ++ F := by
  refine Spec.intro Tryz.func160 rfl rfl fun B F => ?_
  simp only [Tryz.ntmps160, List.cons_append, List.nil_append, env0, Nat.reduceAdd]
  simp only [boxJ, cellU]
  refine WC.seq ?_
  refine WC.region ?_
  refine WL.assign ?_
  refine WL.nil ?_
  refine WQ.next ?_
  refine WC.seq ?_
  refine WC.draw ([pt b2 (.cells #[.pointer (some ⟨j, 0, none⟩)] 80 (0, 0)), pt b5 (.cells #[.int .u64 (nn : Int)] 138 (0, 0)), frz os, pt j (jO d gen last ov mp)]) [] 14 #[false, false, false, false, false, false, false, false, false, false, false, false, false, false] mixed (by kernel_rfl) NoPanic.autoJ ?_
  refine WD.take (i := 0) #[true, false, false, false, false, false, false, false, false, false, false, false, false, false] rfl (by kernel_rfl) (Qt.ld sc80) ?_
  refine WD.take (i := 1) #[true, true, false, false, false, false, false, false, false, false, false, false, false, false] rfl (by kernel_rfl) (Qt.nilCheck ) ?_
  refine WD.take (i := 2) #[true, true, true, false, false, false, false, false, false, false, false, false, false, false] rfl (by kernel_rfl) (Qt.fa fo149_0) ?_
  refine WD.take (i := 3) #[true, true, true, true, false, false, false, false, false, false, false, false, false, false] rfl (by kernel_rfl) (Qt.ld sc76) ?_
  refine WD.take (i := 4) #[true, true, true, true, true, false, false, false, false, false, false, false, false, false] rfl (by kernel_rfl) (Qt.ld sc138) ?_
  refine WD.take (i := 6) #[true, true, true, true, true, false, true, false, false, false, false, false, false, false] rfl (by kernel_rfl) (Qt.ldR (i := 0) sc3 (Reads.frz h8) rfl) ?_
  refine WD.take (i := 7) #[true, true, true, true, true, false, true, true, false, false, false, false, false, false] rfl (by kernel_rfl) (Qt.add ) ?_
  refine WD.take (i := 10) #[true, true, true, true, true, false, true, true, false, false, true, false, false, false] rfl (by kernel_rfl) (Qt.fa fo108_1) ?_
  refine WD.take (i := 11) #[true, true, true, true, true, false, true, true, false, false, true, true, false, false] rfl (by kernel_rfl) (Qt.ldR (i := 1) sc33 (Reads.frz h9) rfl) ?_
  refine WD.one (i := 5) #[true, true, true, true, true, true, true, true, false, false, true, true, false, false] rfl (by kernel_rfl) fun hnp => ?_
  refine WL.call (hc := Tryz.call90) (sp := slotN (a := nn)) (h := ?_)
  rintro _ _ ⟨rfl, rfl⟩
  refine WL.nil (WQ.wd hnp (.inl Am.auto) ?_)
  refine WD.take (i := 8) #[true, true, true, true, true, true, true, true, true, false, true, true, false, false] rfl (by kernel_rfl) (Qt.build (bdPlace _ _)) ?_
  refine WD.one (i := 9) #[true, true, true, true, true, true, true, true, true, true, true, true, false, false] rfl (by kernel_rfl) fun hnp => ?_
  refine WL.call (hc := Tryz.call84) (sp := placeAt (a := nn % 4) (b := i + 1) (by omega)) (h := ?_)
  rintro _ _ ⟨rfl, rfl⟩
  refine WL.nil (WQ.wd hnp (.inl Am.auto) ?_)
  refine WD.one (i := 12) #[true, true, true, true, true, true, true, true, true, true, true, true, true, false] rfl (by kernel_rfl) fun hnp => ?_
  refine WL.call (hc := Tryz.call83) (sp := devWrite (n := n) (t := t) (cur := cur) (k := slotAt (nn % 4) (i + 1)) (Reads.blob hc) hx rfl (by unfold slotAt; omega) (by omega)) (h := ?_)
  rintro _ _ ⟨rfl, rfl⟩
  refine WL.nil (WQ.wd hnp (.inl Am.auto) ?_)
  refine WD.take (i := 13) #[true, true, true, true, true, true, true, true, true, true, true, true, true, true] rfl (by kernel_rfl) (Qt.assign ) ?_
  refine WD.done (by kernel_rfl) ?_
  refine WQ.next ?_
  refine WC.ret (?_)
  exact WQ.ret1 (h1 := .tmp (t := 4) rfl) ⟨_, ⟨rfl, rfl⟩, Am.auto⟩

theorem jWrite2 {j d n t gen last mp b2 b5 b6 gh qh nn : Nat} {ov : Value} {hd : Bytes} {cur : Nat → Bytes} (hx : hd.length = 512) (hn : 246 ≤ n) (ht : t ≤ 1000) :
    Spec Tryz.prog 161 #[.pointer (some ⟨b2, 0, none⟩), .pointer (some ⟨b5, 0, none⟩), .pointer (some ⟨b6, 0, none⟩)] [boxJ b2 j, cellU b5 nn, pt b6 (.cells #[.slice (some ⟨gh, 0, none⟩) 512 qh] 33 (0, 0)), buf gh 5 qh (bvs hd), pt j (jO d gen last ov mp), DevR d n cur t] fun F v M => v = okV ∧ M = [boxJ b2 j, cellU b5 nn, pt b6 (.cells #[.slice (some ⟨gh, 0, none⟩) 512 qh] 33 (0, 0)), buf gh 5 qh (bvs hd), pt j (jO d gen last ov mp), DevR d n (wr cur (slotAt (nn % 4) 0) hd) (t + 1)] ++ F := by
  refine Spec.intro Tryz.func161 rfl rfl fun B F => ?_
  simp only [Tryz.ntmps161, List.cons_append, List.nil_append, env0, Nat.reduceAdd]
  simp only [boxJ, cellU]
  refine WC.seq ?_
  refine WC.region ?_
  refine WL.assign ?_
  refine WL.nil ?_
  refine WQ.next ?_
  refine WC.seq ?_
  refine WC.draw ([pt b2 (.cells #[.pointer (some ⟨j, 0, none⟩)] 80 (0, 0)), pt b5 (.cells #[.int .u64 (nn : Int)] 138 (0, 0)), pt b6 (.cells #[.slice (some ⟨gh, 0, none⟩) 512 qh] 33 (0, 0)), pt j (jO d gen last ov mp)]) [] 11 #[false, false, false, false, false, false, false, false, false, false, false] mixed (by kernel_rfl) NoPanic.autoJ ?_
  refine WD.take (i := 0) #[true, false, false, false, false, false, false, false, false, false, false] rfl (by kernel_rfl) (Qt.ld sc80) ?_
  refine WD.take (i := 1) #[true, true, false, false, false, false, false, false, false, false, false] rfl (by kernel_rfl) (Qt.nilCheck ) ?_
  refine WD.take (i := 2) #[true, true, true, false, false, false, false, false, false, false, false] rfl (by kernel_rfl) (Qt.fa fo149_0) ?_
  refine WD.take (i := 3) #[true, true, true, true, false, false, false, false, false, false, false] rfl (by kernel_rfl) (Qt.ld sc76) ?_
  refine WD.take (i := 4) #[true, true, true, true, true, false, false, false, false, false, false] rfl (by kernel_rfl) (Qt.ld sc138) ?_
  refine WD.take (i := 8) #[true, true, true, true, true, false, false, false, true, false, false] rfl (by kernel_rfl) (Qt.ld sc33) ?_
  refine WD.one (i := 5) #[true, true, true, true, true, true, false, false, true, false, false] rfl (by kernel_rfl) fun hnp => ?_
  refine WL.call (hc := Tryz.call90) (sp := slotN (a := nn)) (h := ?_)
  rintro _ _ ⟨rfl, rfl⟩
  refine WL.nil (WQ.wd hnp (.inl Am.auto) ?_)
  refine WD.take (i := 6) #[true, true, true, true, true, true, true, false, true, false, false] rfl (by kernel_rfl) (Qt.build (bdPlace _ _)) ?_
  refine WD.one (i := 7) #[true, true, true, true, true, true, true, true, true, false, false] rfl (by kernel_rfl) fun hnp => ?_
  refine WL.call (hc := Tryz.call84) (sp := placeAt (a := nn % 4) (b := 0) (by omega)) (h := ?_)
  rintro _ _ ⟨rfl, rfl⟩
  refine WL.nil (WQ.wd hnp (.inl Am.auto) ?_)
  refine WD.one (i := 9) #[true, true, true, true, true, true, true, true, true, true, false] rfl (by kernel_rfl) fun hnp => ?_
  refine WL.call (hc := Tryz.call83) (sp := devWrite (n := n) (t := t) (cur := cur) (k := slotAt (nn % 4) 0) Reads.buf hx rfl (by unfold slotAt; omega) (by omega)) (h := ?_)
  rintro _ _ ⟨rfl, rfl⟩
  refine WL.nil (WQ.wd hnp (.inl Am.auto) ?_)
  refine WD.take (i := 10) #[true, true, true, true, true, true, true, true, true, true, true] rfl (by kernel_rfl) (Qt.assign ) ?_
  refine WD.done (by kernel_rfl) ?_
  refine WQ.next ?_
  refine WC.ret (?_)
  exact WQ.ret1 (h1 := .tmp (t := 3) rfl) ⟨_, ⟨rfl, rfl⟩, Am.auto⟩


theorem goesSettle {j d n t gen last mp c : Nat} {ov : Value} {es : Array MapEntry} {kv : List ((Int × Int) × Value)} {bl : List (Value × Bytes)} {ch : List (Nat × Bytes)} {cur : Nat → Bytes} (hm : MapIs pairE es c kv) (hk : Kept kv bl (last % 4) ch) (hf : Fit n ch) (ht : t ≤ 1000) :
    Goes (settleV j) [pt j (jO d gen last ov mp), rowR 3 1 ov ch.length (blocksV ch), pt mp (.map es c), blobs bl, DevR d n cur t] [pt j (jO d gen last ov mp), rowR 3 1 ov ch.length (blocksV ch), pt mp (.map es c), blobs bl, DevR d n (lay cur ch) (t + ch.length)] := ⟨_, _, _, rfl, Tryz.call92, jSettle hm hk hf ht⟩
theorem goesWr2 {j d n t gen last mp b2 b5 b6 gh qh nn : Nat} {ov : Value} {hd : Bytes} {cur : Nat → Bytes} (hx : hd.length = 512) (hn : 246 ≤ n) (ht : t ≤ 1000) :
    Goes (wr2V b2 b5 b6) [boxJ b2 j, cellU b5 nn, pt b6 (.cells #[.slice (some ⟨gh, 0, none⟩) 512 qh] 33 (0, 0)), buf gh 5 qh (bvs hd), pt j (jO d gen last ov mp), DevR d n cur t] [boxJ b2 j, cellU b5 nn, pt b6 (.cells #[.slice (some ⟨gh, 0, none⟩) 512 qh] 33 (0, 0)), buf gh 5 qh (bvs hd), pt j (jO d gen last ov mp), DevR d n (wr cur (slotAt (nn % 4) 0) hd) (t + 1)] := ⟨_, _, _, rfl, Tryz.call161, jWrite2 hx hn ht⟩
theorem dataChain {j d n t gen last mp b2 b5 nn : Nat} {ov : Value} {os : List (Nat × Obj)} {bs : List (Nat × Nat)} {bl : List (Value × Bytes)} {cvs : List CV} {cur : Nat → Bytes} (X : List HP) (hb : bs.length = cvs.length)
    (hos : ∀ i (h : i < cvs.length) (h' : i < bs.length), (bs[i].1, intO (i : Int)) ∈ os ∧ (bs[i].2, chO cvs[i]) ∈ os) (hli : Lie bl cvs) (hf : Fit n (cvs.map CV.pair)) (hn : 246 ≤ n) (ht : t ≤ 500) :
    Chain (bs.map (wr1V b2 b5)) ([boxJ b2 j, cellU b5 nn, frz os, blobs bl, pt j (jO d gen last ov mp), DevR d n cur t] ++ X) ([boxJ b2 j, cellU b5 nn, frz os, blobs bl, pt j (jO d gen last ov mp), DevR d n (lay cur (dataL (nn % 4) (cvs.map CV.pair))) (t + cvs.length)] ++ X) := by
  have hfew : cvs.length ≤ 60 := by simpa using hf.few
  have key : ∀ k i, k + i = cvs.length → Chain ((bs.drop i).map (wr1V b2 b5)) ([boxJ b2 j, cellU b5 nn, frz os, blobs bl, pt j (jO d gen last ov mp), DevR d n (lay cur ((dataL (nn % 4) (cvs.map CV.pair)).take i)) (t + i)] ++ X) ([boxJ b2 j, cellU b5 nn, frz os, blobs bl, pt j (jO d gen last ov mp), DevR d n (lay cur (dataL (nn % 4) (cvs.map CV.pair))) (t + cvs.length)] ++ X) := by
    intro k
    induction k with
    | zero =>
      intro i hi
      have hi : i = cvs.length := by omega
      rw [List.drop_of_length_le (by omega), List.take_of_length_le (by rw [dataL_length, List.length_map]; omega), hi]
      exact .nil
    | succ k ih =>
      intro i hi
      have hlt : i < cvs.length := by omega
      have hlt' : i < bs.length := by omega
      have hd : i < (dataL (nn % 4) (cvs.map CV.pair)).length := by rw [dataL_length, List.length_map]; exact hlt
      obtain ⟨h8, h9⟩ := hos i hlt hlt'
      have hhome := hf.home cvs[i].pair (List.mem_map.2 ⟨_, List.getElem_mem hlt, rfl⟩)
      rw [List.drop_eq_getElem_cons hlt', List.map_cons]
      refine Chain.cons ?_ (ih (i + 1) (by omega))
      have hg : Goes (wr1V b2 b5 bs[i]) [boxJ b2 j, cellU b5 nn, frz os, blobs bl, pt j (jO d gen last ov mp), DevR d n (lay cur ((dataL (nn % 4) (cvs.map CV.pair)).take i)) (t + i)] [boxJ b2 j, cellU b5 nn, frz os, blobs bl, pt j (jO d gen last ov mp), DevR d n (lay cur ((dataL (nn % 4) (cvs.map CV.pair)).take (i + 1))) (t + (i + 1))] := by
        rw [lay_take _ _ _ hd, dataL_get _ _ _ (by simpa using hlt), List.getElem_map]
        exact ⟨_, _, _, rfl, Tryz.call160, jWrite1 h8 h9 (hli _ (List.getElem_mem hlt)) hhome.2.2 (by omega) hn (by omega)⟩
      exact hg.sub (t := Tk.app) (m := .refl)
  have := key cvs.length 0 (by omega)
  exact this
structure WI (cvs : List CV) (i : Int) (os : List (Nat × Obj)) (bs : List (Nat × Nat)) : Prop where
  lo : 0 ≤ i
  hi : i ≤ cvs.length
  len : bs.length = i.toNat
  lie : ∀ k (h : k < cvs.length) (h' : k < bs.length), (bs[k].1, intO (k : Int)) ∈ os ∧ (bs[k].2, chO cvs[k]) ∈ os
theorem WI.step {cvs : List CV} {i : Int} {os : List (Nat × Obj)} {bs : List (Nat × Nat)} (h : WI cvs i os bs) (hlt : i.toNat < cvs.length) (b8 b9 : Nat) : WI cvs (i + 1) ((b9, chO cvs[i.toNat]) :: (b8, intO i) :: os) (bs ++ [(b8, b9)]) := by
  have hlen := h.len
  have hlo := h.lo
  refine ⟨by omega, by omega, by simp; omega, fun k hk hk' => ?_⟩
  simp only [List.length_append, List.length_cons, List.length_nil] at hk'
  by_cases hkl : k < bs.length
  · rw [List.getElem_append_left hkl]
    exact ⟨List.mem_cons_of_mem _ (List.mem_cons_of_mem _ (h.lie k hk hkl).1), List.mem_cons_of_mem _ (List.mem_cons_of_mem _ (h.lie k hk hkl).2)⟩
  · have hki : k = i.toNat := by omega
    subst hki
    rw [List.getElem_append_right (by omega)]
    simp only [hlen, Nat.sub_self, List.getElem_cons_zero]
    rw [show ((i.toNat : Nat) : Int) = i from by omega]
    exact ⟨List.mem_cons_of_mem _ (List.mem_cons_self ..), List.mem_cons_self ..⟩

theorem jWrite {j d n gen last mp c m c0 : Nat} {ov : Value} {es : Array MapEntry} {kv : List ((Int × Int) × Value)} {jbl bl : List (Value × Bytes)} {ch : List (Nat × Bytes)} {cur : Nat → Bytes} {Rl : HP} {A : Option Addr} {cvs : List CV}
    (hm : MapIs pairE es c kv) (hk : Kept kv jbl (last % 4) ch) (hf : Fit n ch) (hR : Reads Rl A (chCells cvs)) (hml : cvs.length = m) (hli : Lie bl cvs) (hfit : Fit n (cvs.map CV.pair)) (hgen : gen < 2 ^ 64) (hn : 246 ≤ n) (hn2 : n ≤ 65536) :
    Spec Tryz.prog 132 #[.pointer (some ⟨j, 0, none⟩), .slice A m c0] [Rl, blobs bl, pt j (jO d gen last ov mp), rowR 3 1 ov ch.length (blocksV ch), pt mp (.map es c), blobs jbl, DevR d n cur 0] fun F v M => v = okV ∧ M = [Rl, blobs bl, pt j (jO d gen last ov mp), rowR 3 1 ov ch.length (blocksV ch), pt mp (.map es c), blobs jbl, DevR d n ((JS.mk gen last ch cur).wrote (cvs.map CV.pair)) 0] ++ F := by
  refine Spec.intro Tryz.func132 rfl rfl fun B F => ?_
  simp only [Tryz.ntmps132, List.cons_append, List.nil_append, env0, Nat.reduceAdd]
  have hfew : cvs.length ≤ 60 := by simpa using hfit.few
  have hfew2 := hf.few
  have hnn : (last + 1) % 2 ^ 64 < 2 ^ 64 := Nat.mod_lt _ (by decide)
  subst hml
  refine WC.seq ?_
  refine WC.region ?_
  refine WL.box fun b2 => ?_
  refine WL.assign ?_
  refine WL.nil ?_
  refine WQ.next ?_
  refine WC.seq ?_
  refine WC.region ?_
  refine WL.ld ?_ sc80
  refine WL.nilCheck ?_
  refine WL.fa ?_ fo149_2
  refine WL.ld ?_ sc138
  refine WL.addw ?_
  refine WL.cast (d := 14) rfl (congrArg (Value.int .u64) (u64_wrap1 last)) ?_
  refine WL.alloc z138 fun b5 => ?_
  refine WL.st ?_ sc138
  refine WL.nil ?_
  refine WQ.next ?_
  refine WC.seq ?_
  refine WC.join (σ := Nat × Nat × Nat) (fun s => [(1, .slice A cvs.length c0), (2, .pointer (some ⟨b2, 0, none⟩)), (5, .pointer (some ⟨b5, 0, none⟩)), (6, .pointer (some ⟨s.1, 0, none⟩))])
    (fun s => [pt s.1 (.cells #[.slice (some ⟨s.2.1, 0, none⟩) 512 s.2.2] 33 (0, 0)), buf s.2.1 5 s.2.2 (bvs (headN gen ((last + 1) % 2 ^ 64) (cvs.map CV.pair) 0)), boxJ b2 j, cellU b5 ((last + 1) % 2 ^ 64), Rl, blobs bl, pt j (jO d gen last ov mp), rowR 3 1 ov ch.length (blocksV ch), pt mp (.map es c), blobs jbl, DevR d n cur 0] ++ F) (fun s => 512 ≤ s.2.2 ∧ s.2.2 ≤ maxLen) ?_ ?_
  · refine WC.draw ([pt b2 (.cells #[.pointer (some ⟨j, 0, none⟩)] 80 (0, 0)), pt b5 (.cells #[.int .u64 (((last + 1) % 2 ^ 64) : Nat)] 138 (0, 0)), pt j (jO d gen last ov mp)]) [11] 12 #[false, false, false, false, false, false, false, false, false, false, false, false] mixed (by kernel_rfl) NoPanic.autoJ ?_
    refine WD.take (i := 0) #[true, false, false, false, false, false, false, false, false, false, false, false] rfl (by kernel_rfl) (Qt.ld sc80) ?_
    refine WD.take (i := 1) #[true, true, false, false, false, false, false, false, false, false, false, false] rfl (by kernel_rfl) (Qt.nilCheck ) ?_
    refine WD.take (i := 2) #[true, true, true, false, false, false, false, false, false, false, false, false] rfl (by kernel_rfl) (Qt.fa fo149_1) ?_
    refine WD.take (i := 3) #[true, true, true, true, false, false, false, false, false, false, false, false] rfl (by kernel_rfl) (Qt.ld sc138) ?_
    refine WD.take (i := 4) #[true, true, true, true, true, false, false, false, false, false, false, false] rfl (by kernel_rfl) (Qt.ld sc138) ?_
    refine WD.take (i := 5) #[true, true, true, true, true, true, false, false, false, false, false, false] rfl (by kernel_rfl) (Qt.move ) ?_
    refine WD.take (i := 6) #[true, true, true, true, true, true, true, false, false, false, false, false] rfl (by kernel_rfl) (Qt.lenS sl98) ?_
    refine WD.take (i := 7) #[true, true, true, true, true, true, true, true, false, false, false, false] rfl (by kernel_rfl) ((Qt.cvt un3 un138).eq (v' := .int .u64 ((cvs.length : Nat) : Int)) (congrArg (Value.int .u64) (IntWalk.u64_in _ (by omega)))) ?_
    refine WD.two (i := 8) (j := 10) #[true, true, true, true, true, true, true, true, true, false, false, false] #[true, true, true, true, true, true, true, true, false, false, true, false] rfl rfl (by kernel_rfl) (fun hnp => ?_) (fun hnp => ?_)
    · refine WL.buildS (fun b23 => ?_) (bs181_3 _ _ _)
      refine WL.nil (WQ.wd hnp (.inl Am.auto) ?_)
      refine WD.two (i := 9) (j := 10) #[true, true, true, true, true, true, true, true, true, true, false, false] #[true, true, true, true, true, true, true, true, true, false, true, false] rfl rfl (by kernel_rfl) (fun hnp => ?_) (fun hnp => ?_)
      · refine WL.call (hc := Tryz.call88) (sp := jLaid (ys := markH) (nums := [gen, ((last + 1) % 2 ^ 64), cvs.length]) (by decide) Reads.pt rfl (Nat.le_of_ble_eq_true rfl) (by intro v hv; simp only [List.mem_cons, List.not_mem_nil, or_false] at hv; rcases hv with rfl | rfl | rfl <;> omega)) (h := ?_)
        rintro _ _ ⟨gh, qh, ⟨rfl, hq1, hq2⟩, rfl⟩
        refine WL.nil (WQ.wd hnp (.inl Am.auto) ?_)
        refine WD.one (i := 10) #[true, true, true, true, true, true, true, true, true, true, true, false] rfl (by kernel_rfl) fun hnp => ?_
        refine WL.alloc z33 fun b6 => ?_
        refine WL.nil (WQ.wd hnp (.inl Am.auto) ?_)
        refine WD.one (i := 11) #[true, true, true, true, true, true, true, true, true, true, true, true] rfl (by kernel_rfl) fun hnp => ?_
        refine WL.st ?_ sc33
        refine WL.nil (WQ.wd hnp (.inr rfl) ?_)
        refine WD.done (by kernel_rfl) ?_
        refine WQ.to (A' := buf gh 5 qh (bvs (headN gen ((last + 1) % 2 ^ 64) (cvs.map CV.pair) 0))) (fun h hh => by rw [headN, List.length_map]; exact hh) ?_
        exact WQ.joined (b6, gh, qh) ⟨hq1, hq2⟩
      · refine WL.alloc z33 fun b6 => ?_
        refine WL.nil (WQ.wd hnp (.inl Am.auto) ?_)
        refine WD.one (i := 9) #[true, true, true, true, true, true, true, true, true, true, true, false] rfl (by kernel_rfl) fun hnp => ?_
        refine WL.call (hc := Tryz.call88) (sp := jLaid (ys := markH) (nums := [gen, ((last + 1) % 2 ^ 64), cvs.length]) (by decide) Reads.pt rfl (Nat.le_of_ble_eq_true rfl) (by intro v hv; simp only [List.mem_cons, List.not_mem_nil, or_false] at hv; rcases hv with rfl | rfl | rfl <;> omega)) (h := ?_)
        rintro _ _ ⟨gh, qh, ⟨rfl, hq1, hq2⟩, rfl⟩
        refine WL.nil (WQ.wd hnp (.inl Am.auto) ?_)
        refine WD.one (i := 11) #[true, true, true, true, true, true, true, true, true, true, true, true] rfl (by kernel_rfl) fun hnp => ?_
        refine WL.st ?_ sc33
        refine WL.nil (WQ.wd hnp (.inr rfl) ?_)
        refine WD.done (by kernel_rfl) ?_
        refine WQ.to (A' := buf gh 5 qh (bvs (headN gen ((last + 1) % 2 ^ 64) (cvs.map CV.pair) 0))) (fun h hh => by rw [headN, List.length_map]; exact hh) ?_
        exact WQ.joined (b6, gh, qh) ⟨hq1, hq2⟩
    · refine WL.alloc z33 fun b6 => ?_
      refine WL.nil (WQ.wd hnp (.inl Am.auto) ?_)
      refine WD.one (i := 8) #[true, true, true, true, true, true, true, true, true, false, true, false] rfl (by kernel_rfl) fun hnp => ?_
      refine WL.buildS (fun b23 => ?_) (bs181_3 _ _ _)
      refine WL.nil (WQ.wd hnp (.inl Am.auto) ?_)
      refine WD.one (i := 9) #[true, true, true, true, true, true, true, true, true, true, true, false] rfl (by kernel_rfl) fun hnp => ?_
      refine WL.call (hc := Tryz.call88) (sp := jLaid (ys := markH) (nums := [gen, ((last + 1) % 2 ^ 64), cvs.length]) (by decide) Reads.pt rfl (Nat.le_of_ble_eq_true rfl) (by intro v hv; simp only [List.mem_cons, List.not_mem_nil, or_false] at hv; rcases hv with rfl | rfl | rfl <;> omega)) (h := ?_)
      rintro _ _ ⟨gh, qh, ⟨rfl, hq1, hq2⟩, rfl⟩
      refine WL.nil (WQ.wd hnp (.inl Am.auto) ?_)
      refine WD.one (i := 11) #[true, true, true, true, true, true, true, true, true, true, true, true] rfl (by kernel_rfl) fun hnp => ?_
      refine WL.st ?_ sc33
      refine WL.nil (WQ.wd hnp (.inr rfl) ?_)
      refine WD.done (by kernel_rfl) ?_
      refine WQ.to (A' := buf gh 5 qh (bvs (headN gen ((last + 1) % 2 ^ 64) (cvs.map CV.pair) 0))) (fun h hh => by rw [headN, List.length_map]; exact hh) ?_
      exact WQ.joined (b6, gh, qh) ⟨hq1, hq2⟩
  · rintro ⟨b6, gh0, qh0⟩ ⟨hq1, hq2⟩
    refine WQ.next ?_
    refine WC.seq ?_
    refine WC.region ?_
    refine WL.assign ?_
    refine WL.emp (rowR.nil (e := 41) (size := 1) _) ?_
    refine WL.emp frz_nil ?_
    refine WL.nil ?_
    refine WQ.next ?_
    refine WC.seq ?_
    refine WC.seq ?_
    refine WC.region ?_
    refine WL.move ?_
    refine WL.lenS ?_ sl98
    refine WL.move ?_
    refine WL.nil ?_
    refine WQ.next ?_
    refine WC.block ?_
    refine WC.loopA (σ := Int × Nat × Nat × Value × List (Nat × Obj) × List (Nat × Nat)) (fun s => [(1, .slice A cvs.length c0), (2, .pointer (some ⟨b2, 0, none⟩)), (5, .pointer (some ⟨b5, 0, none⟩)), (6, .pointer (some ⟨b6, 0, none⟩)), (7, s.2.2.2.1), (25, .slice A cvs.length c0), (26, .int .i64 (cvs.length : Int)), (27, .int .i64 s.1)]) (fun s => [pt b6 (.cells #[.slice (some ⟨s.2.1, 0, none⟩) 512 s.2.2.1] 33 (0, 0)), buf s.2.1 5 s.2.2.1 (bvs (headN gen ((last + 1) % 2 ^ 64) (cvs.map CV.pair) s.1.toNat)), rowR 41 1 s.2.2.2.1 s.1.toNat (s.2.2.2.2.2.map (wr1V b2 b5)), frz s.2.2.2.2.1, boxJ b2 j, cellU b5 ((last + 1) % 2 ^ 64), Rl, blobs bl, pt j (jO d gen last ov mp), rowR 3 1 ov ch.length (blocksV ch), pt mp (.map es c), blobs jbl, DevR d n cur 0] ++ F) (fun s => WI cvs s.1 s.2.2.2.2.1 s.2.2.2.2.2 ∧ 512 ≤ s.2.2.1 ∧ s.2.2.1 ≤ maxLen) (fun s => ((cvs.length : Int) - s.1).toNat) (0, gh0, qh0, .slice none 0 0, [], []) ⟨⟨by omega, by omega, rfl, fun k hk hk' => by simp at hk'⟩, hq1, hq2⟩ ?_
    rintro ⟨i, gh, qh, v, os, bs⟩ ⟨hi, hq1, hq2⟩
    refine WC.seq ?_
    refine WC.region ?_
    refine WL.lss ?_
    refine WL.nil ?_
    refine WQ.next ?_
    refine WC.seq ?_
    refine WC.cond rfl (fun hb => ?_) (fun hb => ?_)
    · have hlt : i < (cvs.length : Int) := of_decide_eq_true hb
      have hlo := hi.lo
      have hil : i.toNat < cvs.length := by omega
      have hcl := chCells_length cvs
      have hhome := hfit.home cvs[i.toNat].pair (List.mem_map.2 ⟨_, List.getElem_mem hil, rfl⟩)
      have hkk : cvs[i.toNat].k < n := hhome.2.1
      rcases A with _ | ⟨ab, ao, asp⟩
      · exact absurd hR (fun h => by have h2 : chCells cvs = [] := h; rw [h2] at hcl; simp at hcl; omega)
      have hsp : asp = none := hR.1
      subst hsp
      have hstep : put (headN gen ((last + 1) % 2 ^ 64) (cvs.map CV.pair) i.toNat) (32 + 4 * i).toNat (4 : Int).toNat false cvs[i.toNat].k = headN gen ((last + 1) % 2 ^ 64) (cvs.map CV.pair) (i + 1).toNat := by
        rw [show (i + 1).toNat = i.toNat + 1 from by omega, headN, show (cvs.map CV.pair)[i.toNat]? = some cvs[i.toNat].pair from by simp [hil], show (32 + 4 * i).toNat = 32 + 4 * i.toNat from by omega]
        rfl
      refine WC.skip ?_
      refine WQ.next ?_
      refine WC.seq ?_
      refine WC.block ?_
      refine WC.seq ?_
      refine WC.region ?_
      refine WL.move ?_
      refine WL.idx ?_ so98
      refine WL.ldAR ?_ agg108 hR (chCells_get cvs i.toNat hil) (by rw [chCells_length]; omega)
      refine WL.alloc z3 fun b8 => ?_
      refine WL.alloc z108 fun b9 => ?_
      refine WL.st ?_ sc3
      refine WL.stV ?_ agg108
      refine WL.nil ?_
      refine WQ.next ?_
      refine WC.seq ?_
      refine WC.region ?_
      refine WL.ld ?_ sc33
      refine WL.ld ?_ sc3
      refine WL.mul ?_
      refine WL.add ?_
      refine WL.fa ?_ fo108_0
      refine WL.ld ?_ sc3
      refine WL.cvt ?_ un3 un138
      refine WL.cast (d := 39) rfl (congrArg (Value.int .u64) (IntWalk.u64_in _ (by omega))) ?_
      refine WL.call (hc := Tryz.call116) (sp := bitsPut (xs := headN gen ((last + 1) % 2 ^ 64) (cvs.map CV.pair) i.toNat) (v := cvs[i.toNat].k) Reads.buf (headN_length _ _ _ _) (by decide) (by omega) (by omega) (by omega) (by omega)) (h := ?_)
      rintro _ _ ⟨g', q', ⟨rfl, h1, h2⟩, rfl⟩
      refine WL.move ?_
      refine WL.extract ?_
      refine WL.extract ?_
      refine WL.st ?_ sc33
      refine WL.nil ?_
      refine WQ.next ?_
      refine WC.region ?_
      refine WL.move ?_
      refine WL.makeFuncB ?_
      refine WL.buildS (fun b45 => ?_) (bs141_1 _ _ _)
      refine WL.append (m := 1) so141 (by decide) (by repeat (first | exact .here | apply Rem.there | apply Repl.there | apply Mem.there)) Reads.pt (by repeat (first | exact .here | apply Rem.there | apply Repl.there | apply Mem.there)) rfl (by simp [Value.single]) (by unfold maxLen; omega) (by omega) ⟨_, z41, rfl⟩ (fun v' hv' => ?_)
      refine WL.assign ?_
      refine WL.nil ?_
      refine WQ.blockNormal ?_
      refine WQ.next ?_
      refine WC.region ?_
      refine WL.add ?_
      refine WL.move ?_
      refine WL.nil ?_
      refine WQ.to (A' := pt b8 (intO i)) (fun h hh => hh) ?_
      refine WQ.to (A' := pt b9 (chO cvs[i.toNat])) (fun h hh => hh) ?_
      refine WQ.frzAdd (b := b8) (os := os) ?_
      refine WQ.frzAdd (b := b9) (os := (b8, intO i) :: os) ?_
      refine WQ.to (A := rowR 41 1 v' (i.toNat + 1) (bs.map (wr1V b2 b5) ++ [(b8, b9)].map (wr1V b2 b5))) (A' := rowR 41 1 v' (i + 1).toNat ((bs ++ [(b8, b9)]).map (wr1V b2 b5))) (fun h hh => by rw [show (i + 1).toNat = i.toNat + 1 from by omega, List.map_append]; exact hh) ?_
      refine WQ.to (A := buf g' 5 q' (bvs (put (headN gen ((last + 1) % 2 ^ 64) (cvs.map CV.pair) i.toNat) (32 + 4 * i).toNat (4 : Int).toNat false cvs[i.toNat].k))) (A' := buf g' 5 q' (bvs (headN gen ((last + 1) % 2 ^ 64) (cvs.map CV.pair) (i + 1).toNat))) (fun h hh => by rw [← hstep]; exact hh) ?_
      exact WQ.back (i + 1, g', q', v', (b9, chO cvs[i.toNat]) :: (b8, intO i) :: os, bs ++ [(b8, b9)]) ⟨hi.step hil b8 b9, h1, h2⟩ (by show ((cvs.length : Int) - (i + 1)).toNat < ((cvs.length : Int) - i).toNat; omega)
    · have hge : ¬ i < (cvs.length : Int) := of_decide_eq_false hb
      have hlo := hi.lo
      have hhi := hi.hi
      have hie : i = (cvs.length : Int) := by omega
      subst hie
      have hbl : bs.length = cvs.length := by rw [hi.len]; omega
      simp only [Int.toNat_natCast]
      have hhd : headN gen ((last + 1) % 2 ^ 64) (cvs.map CV.pair) cvs.length = headB gen ((last + 1) % 2 ^ 64) (cvs.map CV.pair) := by unfold headB; rw [List.length_map]
      have hhl : (headB gen ((last + 1) % 2 ^ 64) (cvs.map CV.pair)).length = 512 := headN_length _ _ _ _
      rw [hhd]
      refine WC.fact (rowR_shape (el := 41) (size := 1) (v := v) (k := cvs.length) (xs := bs.map (wr1V b2 b5))) (fun ⟨A2, c2, hv2, hR2, hk2, hc2, hl2⟩ => ?_)
      subst hv2
      refine WC.exit (WQ.thenExit (WQ.thenExit (WQ.blockExit (?_))))
      refine WQ.next ?_
      refine WC.seq ?_
      refine WC.region ?_
      refine WL.ld ?_ sc80
      refine WL.makeFuncB ?_
      refine WL.buildS (fun b50 => ?_) (bs141_1 _ _ _)
      refine WL.to (A' := buf b50 41 1 [settleV j]) (buf_of_pt (cs := #[settleV j]) rfl) ?_
      refine WL.to (rowR_of_buf (g := b50) (el := 41) (cap := 1) (xs := [settleV j]) (by decide)) ?_
      refine WL.move ?_
      refine WL.appendAny (m := cvs.length) so141 (by decide) (by repeat (first | exact .here | apply Rem.there | apply Repl.there | apply Mem.there)) hR2 (by repeat (first | exact .here | apply Rem.there | apply Repl.there | apply Mem.there)) hl2 (by intro u hu; obtain ⟨p, _, rfl⟩ := List.mem_map.1 hu; rfl) (by unfold maxLen; simp only [List.length_cons, List.length_nil]; omega) (by simp only [List.length_cons, List.length_nil]; omega) ⟨_, z41, rfl⟩ (fun vB hvB => ?_)
      refine WL.assign ?_
      refine WL.nil ?_
      refine WQ.next ?_
      refine WC.seq ?_
      refine WC.draw ([boxJ b2 j, pt j (jO d gen last ov mp)]) [] 16 #[false, false, false, false, false, false, false, false, false, false, false, false, false, false, false, false] mixed (by kernel_rfl) NoPanic.autoJ ?_
      refine WD.take (i := 0) #[true, false, false, false, false, false, false, false, false, false, false, false, false, false, false, false] rfl (by kernel_rfl) (Qt.move ) ?_
      refine WD.take (i := 1) #[true, true, false, false, false, false, false, false, false, false, false, false, false, false, false, false] rfl (by kernel_rfl) (Qt.ld sc80) ?_
      refine WD.take (i := 2) #[true, true, true, false, false, false, false, false, false, false, false, false, false, false, false, false] rfl (by kernel_rfl) (Qt.nilCheck ) ?_
      refine WD.take (i := 3) #[true, true, true, true, false, false, false, false, false, false, false, false, false, false, false, false] rfl (by kernel_rfl) (Qt.fa fo149_0) ?_
      refine WD.take (i := 4) #[true, true, true, true, true, false, false, false, false, false, false, false, false, false, false, false] rfl (by kernel_rfl) (Qt.ld sc76) ?_
      refine WD.take (i := 5) #[true, true, true, true, true, true, false, false, false, false, false, false, false, false, false, false] rfl (by kernel_rfl) (Qt.makeFuncB ) ?_
      refine WD.take (i := 6) #[true, true, true, true, true, true, true, false, false, false, false, false, false, false, false, false] rfl (by kernel_rfl) (Qt.makeFuncB ) ?_
      refine WD.take (i := 7) #[true, true, true, true, true, true, true, true, false, false, false, false, false, false, false, false] rfl (by kernel_rfl) (Qt.ld sc80) ?_
      refine WD.take (i := 8) #[true, true, true, true, true, true, true, true, true, false, false, false, false, false, false, false] rfl (by kernel_rfl) (Qt.nilCheck ) ?_
      refine WD.take (i := 9) #[true, true, true, true, true, true, true, true, true, true, false, false, false, false, false, false] rfl (by kernel_rfl) (Qt.fa fo149_0) ?_
      refine WD.take (i := 10) #[true, true, true, true, true, true, true, true, true, true, true, false, false, false, false, false] rfl (by kernel_rfl) (Qt.ld sc76) ?_
      refine WD.take (i := 11) #[true, true, true, true, true, true, true, true, true, true, true, true, false, false, false, false] rfl (by kernel_rfl) (Qt.makeFuncB ) ?_
      refine WD.one (i := 12) #[true, true, true, true, true, true, true, true, true, true, true, true, true, false, false, false] rfl (by kernel_rfl) fun hnp => ?_
      refine WL.buildS (fun b65 => ?_) (bs141_3 _ _ _ _ _ _ _ _ _)
      refine WL.nil (WQ.wd hnp (.inl Am.auto) ?_)
      refine WD.one (i := 13) #[true, true, true, true, true, true, true, true, true, true, true, true, true, true, false, false] rfl (by kernel_rfl) fun hnp => ?_
      refine WL.append (m := 3) so141 (by decide) (by repeat (first | exact .here | apply Rem.there | apply Repl.there | apply Mem.there)) Reads.pt (by repeat (first | exact .here | apply Rem.there | apply Repl.there | apply Mem.there)) rfl (by simp [Value.single]) (by unfold maxLen; simp only [List.length_cons, List.length_nil]; omega) (by simp only [List.length_cons, List.length_nil]; omega) ⟨_, z41, rfl⟩ (fun vT hvT => ?_)
      refine WL.rowOpen (v := vT) fun A3 c3 hv3 hR3 hc31 hc32 => ?_
      subst hv3
      refine WL.nil (WQ.wd hnp (.inl Am.auto) ?_)
      refine WD.one (i := 14) #[true, true, true, true, true, true, true, true, true, true, true, true, true, true, true, false] rfl (by kernel_rfl) fun hnp => ?_
      refine WL.call (hc := Tryz.call85) (sp := jTriesC ((Chain.cons (I := [boxJ b2 j, cellU b5 ((last + 1) % 2 ^ 64), frz os, blobs bl, pt j (jO d gen last ov mp), DevR d n cur 0, Rl, rowR 3 1 ov ch.length (blocksV ch), pt mp (.map es c), blobs jbl, pt b6 (.cells #[.slice (some ⟨gh, 0, none⟩) 512 qh] 33 (0, 0)), buf gh 5 qh (bvs (headB gen ((last + 1) % 2 ^ 64) (cvs.map CV.pair)))]) (goesSettle hm hk hf (t := 0) (cur := cur) (by omega)).sub (Chain.append (dataChain (t := 0 + ch.length) (cur := lay cur ch) [Rl, rowR 3 1 ov ch.length (blocksV ch), pt mp (.map es c), blobs jbl, pt b6 (.cells #[.slice (some ⟨gh, 0, none⟩) 512 qh] 33 (0, 0)), buf gh 5 qh (bvs (headB gen ((last + 1) % 2 ^ 64) (cvs.map CV.pair)))] hbl hi.lie hli hfit hn (by omega)) (.cons (goesFlush (d := d) (n := n) (t := 0 + ch.length + cvs.length) (cur := lay (lay cur ch) (dataL (((last + 1) % 2 ^ 64) % 4) (cvs.map CV.pair)))).sub (.cons (goesWr2 (j := j) (d := d) (n := n) (t := 0) (gen := gen) (last := last) (mp := mp) (b2 := b2) (b5 := b5) (b6 := b6) (gh := gh) (qh := qh) (nn := ((last + 1) % 2 ^ 64)) (ov := ov) (hd := headB gen ((last + 1) % 2 ^ 64) (cvs.map CV.pair)) (cur := lay (lay cur ch) (dataL (((last + 1) % 2 ^ 64) % 4) (cvs.map CV.pair))) hhl hn (by decide)).sub (.cons goesFlush.sub .nil)))))) hR3 (by simp only [List.length_append, List.length_cons, List.length_nil, List.length_map]; omega) (by simp only [List.length_cons, List.length_nil]; omega)) (h := ?_)
      rintro _ _ ⟨rfl, rfl⟩
      simp only [List.cons_append, List.nil_append]
      refine WL.nil (WQ.wd hnp (.inl Am.auto) ?_)
      refine WD.take (i := 15) #[true, true, true, true, true, true, true, true, true, true, true, true, true, true, true, true] rfl (by kernel_rfl) (Qt.assign ) ?_
      refine WD.done (by kernel_rfl) ?_
      refine WQ.next ?_
      refine WC.ret (?_)
      exact WQ.ret1 (h1 := .tmp (t := 4) rfl) ⟨_, ⟨rfl, rfl⟩, Am.auto⟩

theorem bs22_1 (v0 : Int) : BuildSOk Tryz.prog 22 1 [(0, .int .i64 v0)] 3 #[.int .i64 v0] := fun w => by kernel_rfl
theorem blocksV_take (l : List (Nat × Bytes)) (i : Nat) (h : i < l.length) : blocksV (l.take (i + 1)) = blocksV (l.take i) ++ [.int .i64 (l[i].1 : Int)] := by
  unfold blocksV ints
  rw [List.take_succ_eq_append_getElem h, List.map_append, List.map_append]
  rfl
theorem Kept.snoc {kv : List ((Int × Int) × Value)} {bl : List (Value × Bytes)} {s i : Nat} {l : List (Nat × Bytes)} (h : Kept kv bl s (l.take i)) (hi : i < l.length) {v : Value} {p : Value × Bytes} (hp : p = (v, l[i].2)) : Kept (kput kv ((s : Int), (i : Int)) v) (p :: bl) s (l.take (i + 1)) := by
  subst hp
  intro k hk
  rw [List.length_take] at hk
  by_cases hki : k = i
  · subst hki
    refine ⟨v, by rw [kget_put, if_pos rfl], ?_⟩
    rw [List.getElem_take]
    exact List.mem_cons_self ..
  · obtain ⟨u, h1, h2⟩ := h k (by rw [List.length_take]; omega)
    refine ⟨u, ?_, ?_⟩
    · rw [kget_put, if_neg (fun hh => hki (by have := congrArg Prod.snd hh; simp only at this; omega))]
      exact h1
    · rw [List.getElem_take] at h2 ⊢
      exact List.mem_cons_of_mem _ h2
structure CI (n : Nat) (s : Nat) (l : List (Nat × Bytes)) (i : Int) (es : Array MapEntry) (c : Nat) (kv : List ((Int × Int) × Value)) (bl : List (Value × Bytes)) : Prop where
  lo : 0 ≤ i
  hi : i ≤ l.length
  hm : MapIs pairE es c kv
  hk : Kept kv bl s (l.take i.toNat)

theorem jCommit0 {j d n m c0 : Nat} {J : JS} {bl : List (Value × Bytes)} {Rl : HP} {A : Option Addr} {cvs : List CV}
    (hR : Reads Rl A (chCells cvs)) (hml : cvs.length = m) (hli : Lie bl cvs) (hfit : Fit n (cvs.map CV.pair)) :
    Spec Tryz.prog 107 #[.pointer (some ⟨j, 0, none⟩), .slice A m c0] [Rl, blobs bl, JR j d n J] fun F v M => v = okV ∧ M = [Rl, blobs bl, JR j d n (J.commit (cvs.map CV.pair))] ++ F := by
  refine Spec.intro Tryz.func107 rfl rfl fun B F => ?_
  simp only [Tryz.ntmps107, List.cons_append, List.nil_append, env0, Nat.reduceAdd]
  refine WC.openR (JR.opens j d n J) fun x hp => ?_
  simp only [jL, List.cons_append, List.nil_append]
  subst hml
  have hfew : cvs.length ≤ 60 := by simpa using hfit.few
  have hnn : J.next < 2 ^ 64 := Nat.mod_lt _ (by decide)
  refine WC.seq ?_
  refine WC.region ?_
  refine WL.assign ?_
  refine WL.nil ?_
  refine WQ.next ?_
  refine WC.seq ?_
  refine WC.seq ?_
  refine WC.region ?_
  refine WL.move ?_
  refine WL.eqNil ?_ ptr80
  refine WL.move ?_
  refine WL.gT ?_
  refine WL.move ?_
  refine WL.gT ?_
  refine WL.nilCheck ?_
  refine WL.gT ?_
  refine WL.fa ?_ fo149_0
  refine WL.gT ?_
  refine WL.ld ?_ sc76
  refine WL.gT ?_
  refine WL.eqNil ?_ ptr76
  refine WL.pickF ?_
  refine WL.move ?_
  refine WL.gT ?_
  refine WL.move ?_
  refine WL.gT ?_
  refine WL.nilCheck ?_
  refine WL.gT ?_
  refine WL.fa ?_ fo149_3
  refine WL.gT ?_
  refine WL.ld ?_ sc4
  refine WL.pickF ?_
  refine WL.nil ?_
  refine WQ.next ?_
  refine WC.condF rfl rfl ?_
  refine WC.skip ?_
  refine WQ.next ?_
  refine WC.seq ?_
  refine WC.seq ?_
  refine WC.region ?_
  refine WL.move ?_
  refine WL.move ?_
  refine WL.call (hc := Tryz.call132) (sp := jWrite hp.hm hp.hk hp.hf hR rfl hli hfit hp.hg hp.n1 hp.n2) (h := ?_)
  rintro _ _ ⟨rfl, rfl⟩
  simp only [List.cons_append, List.nil_append]
  refine WL.assign ?_
  refine WL.nil ?_
  refine WQ.next ?_
  refine WC.seq ?_
  refine WC.region ?_
  refine WL.move ?_
  refine WL.nei ?_
  refine WL.nil ?_
  refine WQ.next ?_
  refine WC.condF rfl rfl ?_
  refine WC.skip ?_
  refine WQ.next ?_
  refine WC.seq ?_
  refine WC.region ?_
  refine WL.move ?_
  refine WL.nilCheck ?_
  refine WL.fa ?_ fo149_2
  refine WL.ld ?_ sc138
  refine WL.addw ?_
  refine WL.cast (d := 36) (u := .int .u64 (J.next : Int)) rfl (congrArg (Value.int .u64) (u64_wrap1 J.last)) ?_
  refine WL.nilCheck ?_
  refine WL.fa ?_ fo149_2
  refine WL.st ?_ sc138
  refine WL.nil ?_
  refine WQ.next ?_
  refine WC.seq ?_
  refine WC.region ?_
  refine WL.move ?_
  refine WL.move ?_
  refine WL.mkMap fun m41 => ?_
  refine WL.nilCheck ?_
  refine WL.fa ?_ fo149_4
  refine WL.st ?_ sc22
  refine WL.nilCheck ?_
  refine WL.fa ?_ fo149_5
  refine WL.st ?_ sc147
  refine WL.nil ?_
  refine WQ.next ?_
  refine WC.seq ?_
  refine WC.seq ?_
  refine WC.region ?_
  refine WL.move ?_
  refine WL.lenS ?_ sl98
  refine WL.move ?_
  refine WL.nil ?_
  refine WQ.next ?_
  refine WC.block ?_
  refine WC.blobsNil ?_
  refine WC.emp (rowR.nil (e := 3) (size := 1) _) ?_
  refine WC.loopA (σ := Int × Value × Array MapEntry × Nat × List ((Int × Int) × Value) × List (Value × Bytes)) (fun s => [(0, .pointer (some ⟨j, 0, none⟩)), (46, .slice A cvs.length c0), (47, .int .i64 (cvs.length : Int)), (48, .int .i64 s.1)]) (fun s => [pt j (jO d J.gen J.next s.2.1 m41), rowR 3 1 s.2.1 s.1.toNat (blocksV ((cvs.map CV.pair).take s.1.toNat)), pt m41 (.map s.2.2.1 s.2.2.2.1), blobs s.2.2.2.2.2, Rl, blobs bl, DevR d n (J.wrote (cvs.map CV.pair)) 0] ++ F) (fun s => CI n (J.next % 4) (cvs.map CV.pair) s.1 s.2.2.1 s.2.2.2.1 s.2.2.2.2.1 s.2.2.2.2.2) (fun s => ((cvs.length : Int) - s.1).toNat) (0, .slice none 0 0, #[], 0, [], []) ⟨by omega, by omega, MapIs.empty _ _, fun k hk => by simp at hk⟩ ?_
  rintro ⟨i, ov, es, c, kv, bl2⟩ hi
  refine WC.seq ?_
  refine WC.region ?_
  refine WL.lss ?_
  refine WL.nil ?_
  refine WQ.next ?_
  refine WC.seq ?_
  refine WC.cond rfl (fun hb => ?_) (fun hb => ?_)
  · have hlt : i < (cvs.length : Int) := of_decide_eq_true hb
    have hlo := hi.lo
    have hil : i.toNat < cvs.length := by omega
    have hcl := chCells_length cvs
    have hhome := hfit.home cvs[i.toNat].pair (List.mem_map.2 ⟨_, List.getElem_mem hil, rfl⟩)
    have hx5 : cvs[i.toNat].xs.length = 512 := hhome.2.2
    have hil2 : i.toNat < (cvs.map CV.pair).length := by simpa using hil
    rcases A with _ | ⟨ab, ao, asp⟩
    · exact absurd hR (fun h => by have h2 : chCells cvs = [] := h; rw [h2] at hcl; simp at hcl; omega)
    have hsp : asp = none := hR.1
    subst hsp
    refine WC.skip ?_
    refine WQ.next ?_
    refine WC.seq ?_
    refine WC.block ?_
    refine WC.seq ?_
    refine WC.region ?_
    refine WL.move ?_
    refine WL.idx ?_ so98
    refine WL.ldAR ?_ agg108 hR (chCells_get cvs i.toNat hil) (by rw [chCells_length]; omega)
    refine WL.alloc z108 fun b7 => ?_
    refine WL.assign ?_
    refine WL.stV ?_ agg108
    refine WL.nil ?_
    refine WQ.next ?_
    refine WC.seq ?_
    refine WC.draw ([pt j (jO d J.gen J.next ov m41), pt b7 (chO cvs[i.toNat])]) [11] 12 #[false, false, false, false, false, false, false, false, false, false, false, false] mixed (by kernel_rfl) NoPanic.autoJ ?_
    refine WD.take (i := 0) #[true, false, false, false, false, false, false, false, false, false, false, false] rfl (by kernel_rfl) (Qt.move ) ?_
    refine WD.take (i := 1) #[true, true, false, false, false, false, false, false, false, false, false, false] rfl (by kernel_rfl) (Qt.move ) ?_
    refine WD.take (i := 2) #[true, true, true, false, false, false, false, false, false, false, false, false] rfl (by kernel_rfl) (Qt.nilCheck ) ?_
    refine WD.take (i := 3) #[true, true, true, true, false, false, false, false, false, false, false, false] rfl (by kernel_rfl) (Qt.fa fo149_4) ?_
    refine WD.take (i := 4) #[true, true, true, true, true, false, false, false, false, false, false, false] rfl (by kernel_rfl) (Qt.ld sc22) ?_
    refine WD.take (i := 5) #[true, true, true, true, true, true, false, false, false, false, false, false] rfl (by kernel_rfl) (Qt.fa fo108_0) ?_
    refine WD.take (i := 6) #[true, true, true, true, true, true, true, false, false, false, false, false] rfl (by kernel_rfl) (Qt.ld sc3) ?_
    refine WD.one (i := 7) #[true, true, true, true, true, true, true, true, false, false, false, false] rfl (by kernel_rfl) fun hnp => ?_
    refine WL.buildS (fun b60 => ?_) (bs22_1 _)
    refine WL.nil (WQ.wd hnp (.inl Am.auto) ?_)
    refine WD.one (i := 8) #[true, true, true, true, true, true, true, true, true, false, false, false] rfl (by kernel_rfl) fun hnp => ?_
    refine WL.append (m := 1) so22 (by decide) (by repeat (first | exact .here | apply Rem.there | apply Repl.there | apply Mem.there)) Reads.pt (by repeat (first | exact .here | apply Rem.there | apply Repl.there | apply Mem.there)) rfl (by simp [Value.single]) (by unfold maxLen; omega) (by omega) ⟨_, z3, rfl⟩ (fun ov' hov' => ?_)
    refine WL.rowOpen (v := ov') fun A4 c4 hv4 hR4 h41 h42 => ?_
    subst hv4
    refine WL.nil (WQ.wd hnp (.inl Am.auto) ?_)
    refine WD.one (i := 9) #[true, true, true, true, true, true, true, true, true, true, false, false] rfl (by kernel_rfl) fun hnp => ?_
    refine WL.nilCheck ?_
    refine WL.nil (WQ.wd hnp (.inl Am.auto) ?_)
    refine WD.take (i := 10) #[true, true, true, true, true, true, true, true, true, true, true, false] rfl (by kernel_rfl) (Qt.fa fo149_4) ?_
    refine WD.one (i := 11) #[true, true, true, true, true, true, true, true, true, true, true, true] rfl (by kernel_rfl) fun hnp => ?_
    refine WL.st ?_ sc22
    refine WL.nil (WQ.wd hnp (.inr rfl) ?_)
    refine WD.done (by kernel_rfl) ?_
    refine WQ.next ?_
    refine WC.draw ([pt j (jO d J.gen J.next (.slice (some A4) (i.toNat + 1) c4) m41), pt b7 (chO cvs[i.toNat])]) [14] 15 #[false, false, false, false, false, false, false, false, false, false, false, false, false, false, false] mixed (by kernel_rfl) NoPanic.autoJ ?_
    refine WD.take (i := 0) #[true, false, false, false, false, false, false, false, false, false, false, false, false, false, false] rfl (by kernel_rfl) (Qt.move ) ?_
    refine WD.take (i := 1) #[true, true, false, false, false, false, false, false, false, false, false, false, false, false, false] rfl (by kernel_rfl) (Qt.nilCheck ) ?_
    refine WD.take (i := 2) #[true, true, true, false, false, false, false, false, false, false, false, false, false, false, false] rfl (by kernel_rfl) (Qt.fa fo149_5) ?_
    refine WD.take (i := 3) #[true, true, true, true, false, false, false, false, false, false, false, false, false, false, false] rfl (by kernel_rfl) (Qt.ld sc147) ?_
    refine WD.take (i := 4) #[true, true, true, true, true, false, false, false, false, false, false, false, false, false, false] rfl (by kernel_rfl) (Qt.move ) ?_
    refine WD.take (i := 5) #[true, true, true, true, true, true, false, false, false, false, false, false, false, false, false] rfl (by kernel_rfl) (Qt.nilCheck ) ?_
    refine WD.take (i := 6) #[true, true, true, true, true, true, true, false, false, false, false, false, false, false, false] rfl (by kernel_rfl) (Qt.fa fo149_2) ?_
    refine WD.take (i := 7) #[true, true, true, true, true, true, true, true, false, false, false, false, false, false, false] rfl (by kernel_rfl) (Qt.ld sc138) ?_
    refine WD.take (i := 9) #[true, true, true, true, true, true, true, true, false, true, false, false, false, false, false] rfl (by kernel_rfl) (Qt.move ) ?_
    refine WD.take (i := 11) #[true, true, true, true, true, true, true, true, false, true, false, true, false, false, false] rfl (by kernel_rfl) (Qt.fa fo108_1) ?_
    refine WD.take (i := 12) #[true, true, true, true, true, true, true, true, false, true, false, true, true, false, false] rfl (by kernel_rfl) (Qt.ld sc33) ?_
    refine WD.one (i := 8) #[true, true, true, true, true, true, true, true, true, true, false, true, true, false, false] rfl (by kernel_rfl) fun hnp => ?_
    refine WL.call (hc := Tryz.call90) (sp := slotN (a := J.next)) (h := ?_)
    rintro _ _ ⟨rfl, rfl⟩
    refine WL.nil (WQ.wd hnp (.inl Am.auto) ?_)
    refine WD.take (i := 10) #[true, true, true, true, true, true, true, true, true, true, true, true, true, false, false] rfl (by kernel_rfl) (Qt.build (bdPlace _ _)) ?_
    refine WD.one (i := 13) #[true, true, true, true, true, true, true, true, true, true, true, true, true, true, false] rfl (by kernel_rfl) fun hnp => ?_
    refine WL.call (hc := Tryz.call123) (sp := bytesClone (Reads.blob (hli _ (List.getElem_mem hil))) hx5 (by decide)) (h := ?_)
    rintro _ _ ⟨gc, kc, ⟨rfl, hk1, hk2⟩, rfl⟩
    refine WL.nil (WQ.wd hnp (.inl Am.auto) ?_)
    refine WD.one (i := 14) #[true, true, true, true, true, true, true, true, true, true, true, true, true, true, true] rfl (by kernel_rfl) fun hnp => ?_
    refine WL.upd (k := (((J.next % 4 : Nat) : Int), i)) klP hi.hm mp147 fun es' c' hm' => ?_
    refine WL.nil (WQ.wd hnp (.inr rfl) ?_)
    refine WD.done (by kernel_rfl) ?_
    refine WQ.blockNormal ?_
    refine WQ.next ?_
    refine WC.region ?_
    refine WL.add ?_
    refine WL.move ?_
    refine WL.nil ?_
    refine WQ.blobsAdd (bl := bl2) (g := gc) (k := kc) (xs := cvs[i.toNat].xs) (by rw [hx5]; exact hk1) ?_
    have hk3 : Kept (kput kv (((J.next % 4 : Nat) : Int), i) (.slice (some ⟨gc, 0, none⟩) 512 kc)) ((.slice (some ⟨gc, 0, none⟩) cvs[i.toNat].xs.length kc, cvs[i.toNat].xs) :: bl2) (J.next % 4) ((cvs.map CV.pair).take (i + 1).toNat) := by
      have := Kept.snoc hi.hk hil2 (v := .slice (some ⟨gc, 0, none⟩) 512 kc) (p := (.slice (some ⟨gc, 0, none⟩) cvs[i.toNat].xs.length kc, cvs[i.toNat].xs)) (by rw [hx5, List.getElem_map]; rfl)
      rw [show (i + 1).toNat = i.toNat + 1 from by omega]
      rw [show ((i.toNat : Nat) : Int) = i from by omega] at this
      exact this
    refine WQ.to (A := rowR 3 1 (.slice (some A4) (i.toNat + 1) c4) (i.toNat + 1) (blocksV ((cvs.map CV.pair).take i.toNat) ++ [.int .i64 (cvs[i.toNat].k : Int)])) (A' := rowR 3 1 (.slice (some A4) (i.toNat + 1) c4) (i + 1).toNat (blocksV ((cvs.map CV.pair).take (i + 1).toNat))) (fun h hh => by rw [show (i + 1).toNat = i.toNat + 1 from by omega, blocksV_take _ _ hil2, List.getElem_map]; exact hh) ?_
    exact WQ.back (i + 1, .slice (some A4) (i.toNat + 1) c4, es', c', kput kv (((J.next % 4 : Nat) : Int), i) (.slice (some ⟨gc, 0, none⟩) 512 kc), (.slice (some ⟨gc, 0, none⟩) cvs[i.toNat].xs.length kc, cvs[i.toNat].xs) :: bl2) ⟨by omega, by rw [List.length_map]; omega, hm', hk3⟩ (by show ((cvs.length : Int) - (i + 1)).toNat < ((cvs.length : Int) - i).toNat; omega)
  · have hge : ¬ i < (cvs.length : Int) := of_decide_eq_false hb
    have hlo := hi.lo
    have hhi := hi.hi
    rw [List.length_map] at hhi
    have hie : i = (cvs.length : Int) := by omega
    subst hie
    have hk3 := hi.hk
    have hll : (cvs.map CV.pair).length = cvs.length := List.length_map ..
    simp only [Int.toNat_natCast] at hk3 ⊢
    rw [List.take_of_length_le (by rw [hll]; exact Nat.le_refl _)] at hk3 ⊢
    refine WC.exit (WQ.thenExit (WQ.thenExit (WQ.blockExit (?_))))
    refine WQ.next ?_
    refine WC.seq ?_
    refine WC.region ?_
    refine WL.assign ?_
    refine WL.nil ?_
    refine WQ.next ?_
    refine WC.ret (?_)
    refine WQ.to (A := rowR 3 1 ov cvs.length (blocksV (cvs.map CV.pair))) (A' := rowR 3 1 ov (cvs.map CV.pair).length (blocksV (cvs.map CV.pair))) (fun h hh => by rw [hll]; exact hh) ?_
    refine WQ.shutR (JR.opens j d n (J.commit (cvs.map CV.pair))) ⟨es, c, m41, kv, bl2, ov⟩ ⟨hi.hm, hk3, hfit, hp.n1, hp.n2, hp.hg, hnn⟩ ?_
    exact WQ.ret1 (h1 := .tmp (t := 4) rfl) ⟨_, ⟨rfl, rfl⟩, Am.auto⟩


structure MI (l : List CV) (i : Int) (es : Array MapEntry) (c : Nat) (kv : List (Int × Value)) : Prop where
  lo : 0 ≤ i
  hi : i ≤ l.length
  hm : MapIs intE es c kv
  met : ∀ k, kget kv k ≠ none → ∃ a, ∃ h : a < l.length, a < i.toNat ∧ k = (l[a].k : Int)
theorem MI.fresh {n : Nat} {l : List CV} {i : Int} {es : Array MapEntry} {c : Nat} {kv : List (Int × Value)} (h : MI l i es c kv) (hf : Fit n (l.map CV.pair)) (hil : i.toNat < l.length) : kget kv (l[i.toNat].k : Int) = none := by
  cases hk : kget kv (l[i.toNat].k : Int) with
  | none => rfl
  | some v =>
    obtain ⟨a, ha, hai, hka⟩ := h.met _ (by rw [hk]; simp)
    exfalso
    have hnd := List.pairwise_iff_getElem.1 hf.apart
    have := hnd a i.toNat (by simpa using ha) (by simpa using hil) hai
    simp only [List.getElem_map] at this
    exact this (by show l[a].k = l[i.toNat].k; omega)
theorem MI.step {l : List CV} {i : Int} {es es' : Array MapEntry} {c c' : Nat} {kv : List (Int × Value)} (h : MI l i es c kv) (hil : i.toNat < l.length) {v : Value} (hm : MapIs intE es' c' (kput kv (l[i.toNat].k : Int) v)) : MI l (i + 1) es' c' (kput kv (l[i.toNat].k : Int) v) := by
  have := h.lo
  refine ⟨by omega, by omega, hm, fun k hk => ?_⟩
  rw [kget_put] at hk
  split at hk
  · exact ⟨i.toNat, hil, by omega, by assumption⟩
  · obtain ⟨a, ha, h1, h2⟩ := h.met k hk
    exact ⟨a, ha, by omega, h2⟩

theorem jMay {j d n m c0 : Nat} {J : JS} {Rl : HP} {A : Option Addr} {cvs : List CV} (hR : Reads Rl A (chCells cvs)) (hml : cvs.length = m) (hfit : Fit n (cvs.map CV.pair)) :
    Spec Tryz.prog 106 #[.pointer (some ⟨j, 0, none⟩), .slice A m c0] [Rl, JR j d n J] fun F v M => v = okV ∧ M = [Rl, JR j d n J] ++ F := by
  refine Spec.intro Tryz.func106 rfl rfl fun B F => ?_
  simp only [Tryz.ntmps106, List.cons_append, List.nil_append, env0, Nat.reduceAdd]
  refine WC.openR (JR.opens j d n J) fun x hp => ?_
  simp only [jL, List.cons_append, List.nil_append]
  subst hml
  have hfew : cvs.length ≤ 60 := by simpa using hfit.few
  refine WC.seq ?_
  refine WC.region ?_
  refine WL.assign ?_
  refine WL.nil ?_
  refine WQ.next ?_
  refine WC.seq ?_
  refine WC.region ?_
  refine WL.mkMap fun m8 => ?_
  refine WL.assign ?_
  refine WL.nil ?_
  refine WQ.next ?_
  refine WC.seq ?_
  refine WC.seq ?_
  refine WC.region ?_
  refine WL.move ?_
  refine WL.lenS ?_ sl98
  refine WL.move ?_
  refine WL.nil ?_
  refine WQ.next ?_
  refine WC.block ?_
  refine WC.loopA (σ := Int × Array MapEntry × Nat × List (Int × Value)) (fun s => [(0, .pointer (some ⟨j, 0, none⟩)), (1, .slice A cvs.length c0), (5, .map (some m8)), (9, .slice A cvs.length c0), (10, .int .i64 (cvs.length : Int)), (11, .int .i64 s.1)]) (fun s => [pt m8 (.map s.2.1 s.2.2.1), Rl, pt j (jO d J.gen J.last x.ov x.mp), rowR 3 1 x.ov J.ch.length (blocksV J.ch), pt x.mp (.map x.es x.c), blobs x.bl, DevR d n J.cur 0] ++ F) (fun s => MI cvs s.1 s.2.1 s.2.2.1 s.2.2.2) (fun s => ((cvs.length : Int) - s.1).toNat) (0, #[], 0, []) ⟨by omega, by omega, MapIs.empty _ _, fun k hk => absurd rfl hk⟩ ?_
  rintro ⟨i, es, c, kv⟩ hi
  refine WC.seq ?_
  refine WC.region ?_
  refine WL.lss ?_
  refine WL.nil ?_
  refine WQ.next ?_
  refine WC.seq ?_
  refine WC.cond rfl (fun hb => ?_) (fun hb => ?_)
  · have hlt : i < (cvs.length : Int) := of_decide_eq_true hb
    have hlo := hi.lo
    have hil : i.toNat < cvs.length := by omega
    have hcl := chCells_length cvs
    have hhome := hfit.home cvs[i.toNat].pair (List.mem_map.2 ⟨_, List.getElem_mem hil, rfl⟩)
    have hx5 : 245 ≤ cvs[i.toNat].k ∧ cvs[i.toNat].k < n := ⟨hhome.1, hhome.2.1⟩
    have hnew := hi.fresh hfit hil
    rcases A with _ | ⟨ab, ao, asp⟩
    · exact absurd hR (fun h => by have h2 : chCells cvs = [] := h; rw [h2] at hcl; simp at hcl; omega)
    have hsp : asp = none := hR.1
    subst hsp
    refine WC.skip ?_
    refine WQ.next ?_
    refine WC.seq ?_
    refine WC.block ?_
    refine WC.seq ?_
    refine WC.region ?_
    refine WL.idx ?_ so98
    refine WL.ldAR ?_ agg108 hR (chCells_get cvs i.toNat hil) (by rw [chCells_length]; omega)
    refine WL.alloc z108 fun b7 => ?_
    refine WL.stV ?_ agg108
    refine WL.nil ?_
    refine WQ.next ?_
    refine WC.seq ?_
    refine WC.seq ?_
    refine WC.region ?_
    refine WL.move ?_
    refine WL.fa ?_ fo108_0
    refine WL.ld ?_ sc3
    refine WL.call (hc := Tryz.call131) (sp := jHome (n := n) (t := 0) (cur := J.cur)) (h := ?_)
    rintro _ _ ⟨rfl, rfl⟩
    refine WL.cast (d := 18) (u := .bool true) rfl (congrArg Value.bool (decide_eq_true (by omega))) ?_
    refine WL.not ?_
    refine WL.move ?_
    refine WL.gT ?_
    refine WL.move ?_
    refine WL.gT ?_
    refine WL.fa ?_ fo108_0
    refine WL.gT ?_
    refine WL.ld ?_ sc3
    refine WL.gT ?_
    refine WL.look klF hi.hm mp173 zv3 ?_
    refine WL.cast (d := 24) (u := .int .i64 0) rfl (by rw [hnew]; rfl) ?_
    refine WL.gT ?_
    refine WL.gtr ?_
    refine WL.pickF ?_
    refine WL.move ?_
    refine WL.gT ?_
    refine WL.fa ?_ fo108_1
    refine WL.gT ?_
    refine WL.ld ?_ sc33
    refine WL.gT ?_
    refine WL.lenS ?_ sl33
    refine WL.gT ?_
    refine WL.nei ?_
    refine WL.pickF ?_
    refine WL.nil ?_
    refine WQ.next ?_
    refine WC.condF rfl rfl ?_
    refine WC.skip ?_
    refine WQ.next ?_
    refine WC.region ?_
    refine WL.move ?_
    refine WL.fa ?_ fo108_0
    refine WL.ld ?_ sc3
    refine WL.upd klF hi.hm mp173 fun es_1 c_1 hm_1 => ?_
    refine WL.nil ?_
    refine WQ.blockNormal ?_
    refine WQ.next ?_
    refine WC.region ?_
    refine WL.add ?_
    refine WL.move ?_
    refine WL.nil ?_
    exact WQ.back (i + 1, es_1, c_1, _) (hi.step hil hm_1) (by show ((cvs.length : Int) - (i + 1)).toNat < ((cvs.length : Int) - i).toNat; omega)
  · refine WC.exit (WQ.thenExit (WQ.thenExit (WQ.blockExit (?_))))
    refine WQ.next ?_
    refine WC.seq ?_
    refine WC.seq ?_
    refine WC.region ?_
    refine WL.move ?_
    refine WL.lenS ?_ sl98
    refine WL.gtr ?_
    refine WL.nil ?_
    refine WQ.next ?_
    refine WC.condF rfl (congrArg Value.bool (by first | (simp; done) | (simp; omega) | omega)) ?_
    refine WC.skip ?_
    refine WQ.next ?_
    refine WC.seq ?_
    refine WC.region ?_
    refine WL.assign ?_
    refine WL.nil ?_
    refine WQ.next ?_
    refine WC.ret (?_)
    refine WQ.shutR (JR.opens j d n J) x hp ?_
    exact WQ.ret1 (h1 := .tmp (t := 4) rfl) ⟨_, ⟨rfl, rfl⟩, Am.auto⟩


def JS.commits (J : JS) (l : List (Nat × Bytes)) : JS := if l = [] then J else J.commit l

theorem jCommit {j d n m c0 : Nat} {J : JS} {bl : List (Value × Bytes)} {Rl : HP} {A : Option Addr} {cvs : List CV}
    (hR : Reads Rl A (chCells cvs)) (hml : cvs.length = m) (hli : Lie bl cvs) (hfit : Fit n (cvs.map CV.pair)) :
    Spec Tryz.prog 59 #[.pointer (some ⟨j, 0, none⟩), .slice A m c0] [Rl, blobs bl, JR j d n J] fun F v M => v = okV ∧ M = [Rl, blobs bl, JR j d n (J.commits (cvs.map CV.pair))] ++ F := by
  refine Spec.intro Tryz.func59 rfl rfl fun B F => ?_
  simp only [Tryz.ntmps59, List.cons_append, List.nil_append, env0, Nat.reduceAdd]
  rcases cvs with _ | ⟨cv, cvs⟩
  · have hm0 : m = 0 := hml.symm
    subst hm0
    refine WC.seq ?_
    refine WC.region ?_
    refine WL.assign ?_
    refine WL.nil ?_
    refine WQ.next ?_
    refine WC.seq ?_
    refine WC.seq ?_
    refine WC.region ?_
    refine WL.move ?_
    refine WL.move ?_
    refine WL.call (hc := Tryz.call106) (sp := jMay (n := n) hR hml hfit) (h := ?_)
    rintro _ _ ⟨rfl, rfl⟩
    simp only [List.cons_append, List.nil_append]
    refine WL.assign ?_
    refine WL.nil ?_
    refine WQ.next ?_
    refine WC.seq ?_
    refine WC.region ?_
    refine WL.move ?_
    refine WL.nei ?_
    refine WL.move ?_
    refine WL.gT ?_
    refine WL.move ?_
    refine WL.gT ?_
    refine WL.lenS ?_ sl98
    refine WL.gT ?_
    refine WL.eqi ?_
    refine WL.pickF ?_
    refine WL.nil ?_
    refine WQ.next ?_
    refine WC.condT rfl rfl ?_
    refine WC.seq ?_
    refine WC.region ?_
    refine WL.move ?_
    refine WL.assign ?_
    refine WL.nil ?_
    refine WQ.next ?_
    refine WC.ret (WQ.thenRet (?_))
    exact WQ.ret1 (h1 := .tmp (t := 4) rfl) ⟨_, ⟨rfl, rfl⟩, Am.auto⟩
  · have hm0 : m ≠ 0 := by rw [← hml]; simp
    refine WC.seq ?_
    refine WC.region ?_
    refine WL.assign ?_
    refine WL.nil ?_
    refine WQ.next ?_
    refine WC.seq ?_
    refine WC.seq ?_
    refine WC.region ?_
    refine WL.move ?_
    refine WL.move ?_
    refine WL.call (hc := Tryz.call106) (sp := jMay (n := n) hR hml hfit) (h := ?_)
    rintro _ _ ⟨rfl, rfl⟩
    simp only [List.cons_append, List.nil_append]
    refine WL.assign ?_
    refine WL.nil ?_
    refine WQ.next ?_
    refine WC.seq ?_
    refine WC.region ?_
    refine WL.move ?_
    refine WL.nei ?_
    refine WL.move ?_
    refine WL.gT ?_
    refine WL.move ?_
    refine WL.gT ?_
    refine WL.lenS ?_ sl98
    refine WL.gT ?_
    refine WL.eqi ?_
    refine WL.pickF ?_
    refine WL.nil ?_
    refine WQ.next ?_
    refine WC.condF rfl (congrArg Value.bool (by first | (simp; done) | (simp; omega) | omega)) ?_
    refine WC.skip ?_
    refine WQ.next ?_
    refine WC.seq ?_
    refine WC.region ?_
    refine WL.move ?_
    refine WL.move ?_
    refine WL.call (hc := Tryz.call107) (sp := jCommit0 (n := n) hR hml hli hfit) (h := ?_)
    rintro _ _ ⟨rfl, rfl⟩
    simp only [List.cons_append, List.nil_append]
    refine WL.assign ?_
    refine WL.nil ?_
    refine WQ.next ?_
    refine WC.ret (?_)
    exact WQ.ret1 (h1 := .tmp (t := 4) rfl) ⟨_, ⟨rfl, rfl⟩, Am.auto⟩

end Go.Proofs.YtedmihapieleaaaGreat
