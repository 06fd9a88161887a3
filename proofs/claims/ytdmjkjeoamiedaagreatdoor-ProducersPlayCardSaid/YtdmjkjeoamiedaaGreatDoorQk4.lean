/- A part of the proof of lawPPlay: texts of this work put together. -/
import Derived.Test.YtdmjkjeoamiedaaGreatDoorQk3
import Derived.KernelRfl
import Derived.Shelf.SlSortCmp.NoneTotal
import Derived.Laws.Cover1
import Derived.Sort.Walk0
import Derived.WalkKit
import Derived.Defers
import Derived.Lib.IndexLaws
set_option linter.unusedVariables false
set_option linter.unusedSimpArgs false
set_option linter.unusedSectionVars false
section
namespace Go.Proofs.YtdmjkjeoamiedaaGreatDoor
open Go
theorem agg262 : aggOk Tryz.prog 262 51 = true := by kernel_rfl
theorem ar262 : arrOk Tryz.prog 262 5 51 1 = true := by kernel_rfl
theorem un262 : Tryz.prog.underlying 262 = some (.array 51 5) := by kernel_rfl
theorem fo51_0 : fieldOk Tryz.prog 51 0 0 = true := by kernel_rfl
theorem fo51_1 : fieldOk Tryz.prog 51 1 1 = true := by kernel_rfl
theorem mp255 : mapOk Tryz.prog 255 262 259 = true := by kernel_rfl
theorem key0 : zeroOf Tryz.prog 262 = some (bvs (List.replicate 51 0)).toArray := by kernel_rfl
theorem keyB_single (nm : Bytes) : ∀ v ∈ bvs (keyB nm), Value.single v = true := bvs_single _
theorem bvsK_length (nm : Bytes) : (bvs (keyB nm)).length = 51 := by rw [bvs_length, keyB_length]
theorem dOf {nm : Bytes} (hn : nm.length ≤ 50) : Spec Tryz.prog 177 #[sv nm] [] fun F v M => v = arrV (keyB nm) ∧ M = F := by
  refine Spec.intro Tryz.func177 rfl rfl fun B F => ?_
  simp only [Tryz.ntmps177, List.cons_append, List.nil_append, env0, Nat.reduceAdd]
  refine .sr ?_
  refine .allocL (us := bvs (List.replicate 51 0)) key0 rfl fun b2 => ?_
  refine .x (.move ?_)
  refine .lenT _ ?_ st9
  refine .cvt ?_ un3 un5
  refine .cast (d := 5) (u := bv (UInt8.ofNat nm.length)) rfl (congrArg (Value.int .u8) (by rw [UInt8.toNat_ofNat', IntWalk.u8_in _ (by omega)]; omega)) ?_
  refine .idxA ?_ ar262
  refine .stL (xs := bvs (List.replicate 51 0)) (i := 0) ?_ sc5 (by rw [bvs_length, List.length_replicate]; decide)
  refine .to (A := row b2 262 ((bvs (List.replicate 51 0)).set 0 (bv (UInt8.ofNat nm.length)))) (A' := buf b2 262 51 (bvs (UInt8.ofNat nm.length :: List.replicate 50 0))) (fun h hh => buf_of_row (by rw [bvs_length]; rfl) h hh) ?_
  refine .x ?_
  refine .slcArrL ?_ ar262
  refine .move ?_
  refine .copyS nm so33 ?_ (hdl := by rw [bvs_length]; exact Nat.le_refl _)
  refine .to (A := buf b2 262 51 ((bvs (UInt8.ofNat nm.length :: List.replicate 50 0)).take 1 ++ (bvs nm).take (min nm.length 50) ++ (bvs (UInt8.ofNat nm.length :: List.replicate 50 0)).drop (1 + min nm.length 50))) (A' := row b2 262 (bvs (keyB nm))) (fun h hh => row_of_buf (bvsK_length nm) h (by rw [← keyB_made hn, bvs_append, bvs_append, bvs_take, bvs_take, bvs_drop]; exact hh)) ?_
  refine .x ?_
  refine .ldW (xs := bvs (keyB nm)) ?_ agg262 (bvsK_length nm)
  refine .stLA (xs := bvs (keyB nm)) (us := bvs (keyB nm)) ?_ agg262 (bvsK_length nm) (bvsK_length nm) (keyB_single nm)
  refine .z ?_
  refine .ret (?_)
  exact .ret1 (h1 := RV.aggL rfl agg262 (by repeat (first | exact .here | apply Rem.there | apply Repl.there | apply Mem.there)) (bvsK_length nm)) ⟨_, ⟨rfl, rfl⟩, Am.auto⟩
theorem IN.more {s a c : Nat} {p : Pl} {F0 F : FM} {W W' : Nat} {op : Bool} (h : W ≤ W') : ∀ k, IN s a c p F0 F W op k → IN s a c p F0 F W' op k := by
  intro k hk
  obtain ⟨y, hy, hs⟩ := (IN.opens s a c p F0 F W op).to k hk
  exact (IN.opens s a c p F0 F W' op).of y ⟨hy.r0, hy.r, hy.dk, Nat.le_trans hy.wt h⟩ k hs
theorem Rw.less {p : Pl} {W c c' : Nat} (h : Rw p W c) (hc : c' ≤ c) : Rw p W c' := by
  unfold Rw at h ⊢
  omega
theorem has_slot (n q : Nat) (h : 64 * q ≤ 64 * n) : has (max (64 * n) (64 * q + 64)) - has (64 * n) ≤ 2 := by
  have h1 : dat (max (64 * n) (64 * q + 64)) ≤ dat (64 * n) + 1 := by unfold dat; omega
  unfold has
  split <;> split <;> omega
theorem slotP {nm : Bytes} (i : Nat) : (bvs (put4 (List.replicate 64 0) 0 i)).take 4 ++ (bvs (keyB nm)).take 51 ++ (bvs (put4 (List.replicate 64 0) 0 i)).drop 55 = bvs (slotB (some (nm, i))) := by
  rw [← slotB_made, bvs_append, bvs_append, bvs_take, bvs_drop, List.take_of_length_le (Nat.le_of_eq (bvsK_length nm))]
theorem bdFound (v0 v1 : Int) : BuildOk Tryz.prog 259 [(0, .int .i64 v0), (1, .int .i64 v1)] #[.int .i64 v0, .int .i64 v1] := fun w => by kernel_rfl
theorem arrOkK : arrIntOk Tryz.prog 262 5 51 = true := by kernel_rfl
def encK : K51 → Value := fun k => Value.agg (bvs k.1).toArray
theorem klN : KeyLaw Tryz.prog 262 encK := arrKeys (fun k : K51 => k.1) arrOkK (fun k => k.2) (fun a b h => Subtype.ext h)
def freeI (sl : List Slot) (q : Nat) : Int := match freeF sl q with
  | some r => ((64 * r : Nat) : Int)
  | none => -1
theorem dLay {s a c : Nat} {p : Pl} {F0 Fm : FM} {W d q i : Nat} {nm : Bytes} {sl : List Slot} (ho : PlOk p) (hF : Fm d = some (2, dirB sl)) (hq : q ≤ sl.length) (hq2 : q < 1104) (hn : nm.length ≤ 50) (hi : i < 4294967296) (hw : Rw p W 13) (hfit : tot Fm p.ino + has (max (64 * sl.length) (64 * q + 64)) ≤ p.dc + has (64 * sl.length)) :
    Spec Tryz.prog 178 #[.pointer (some ⟨s, 0, none⟩), nI d, nI (64 * q), sv nm, nI i] [IN s a c p F0 Fm W true] fun G v M => v = okV ∧ M = IN s a c p F0 (updM Fm d (some (2, dirB (setS sl q (some (nm, i)))))) (W + 8) true :: G := by
  refine Spec.intro Tryz.func178 rfl rfl fun B F => ?_
  simp only [Tryz.ntmps178, List.cons_append, List.nil_append, env0, Nat.reduceAdd]
  have hdl := dirB_length sl
  have hsl := slotB_length (some (nm, i))
  have hhs := has_slot sl.length q (by omega)
  refine .sr (.assign (.x ?_))
  refine .mkSN 64 z5 so33 (by decide) (by decide) fun b15 => ?_
  refine .to (A' := buf b15 5 64 (bvs (List.replicate 64 0))) (fun h hh => by rw [bvs_replicate]; exact hh) ?_
  refine .move ?_
  refine .cvt ?_ un3 un134
  refine .cast (d := 17) (u := .int .u64 (i : Int)) rfl (congrArg (Value.int .u64) (IntWalk.u64_in _ (by omega))) ?_
  refine .call (hc := Tryz.call74) (sp := bitsPut (n := 64) (xs := List.replicate 64 0) (p := 0) (size := 4) (big := false) (v := i) Reads.buf List.length_replicate (by decide) (by decide) (by decide) (by decide) (by omega)) (h := ?_)
  rintro _ _ ⟨gb, qq, ⟨rfl, h1, h2⟩, rfl⟩
  refine .move ?_
  refine .extract ?_
  refine .extract ?_
  refine .assign (.assign (.x (.move ?_)))
  refine .call (hc := Tryz.call177) (sp := dOf hn) (h := ?_)
  rintro _ _ ⟨rfl, rfl⟩
  refine .allocL (us := bvs (List.replicate 51 0)) key0 rfl fun b13 => ?_
  refine .stLA (xs := bvs (List.replicate 51 0)) (us := bvs (keyB nm)) ?_ agg262 (bvsK_length nm) rfl (keyB_single nm)
  refine .to (A := row b13 262 (bvs (keyB nm))) (A' := buf b13 262 51 (bvs (keyB nm))) (fun h hh => buf_of_row (bvsK_length nm) h hh) ?_
  refine .z (.seq ?_)
  refine .dr ([]) [] 4 mixed .autoJ ?_
  refine .tk 0 rfl .move ?_
  refine .tk 1 rfl ((Qt.slcL so33).eq (v' := .slice (some ⟨gb, 4, none⟩) 60 (qq - 4)) (by rw [if_neg (by show ¬ qq = 4; omega)]; rfl)) ?_
  refine .tk 2 rfl (Qt.slcArr un262 (by kernel_rfl)) ?_
  refine .on 3 rfl fun hnp => ?_
  refine .copy (R := buf b13 262 51 (bvs (keyB nm))) (m := 51) (g := gb) (off := 4) (dl := 60) (k := qq) (xs := bvs (put4 (List.replicate 64 0) 0 i)) (ys := bvs (keyB nm)) so33 Reads.buf (bvsK_length nm) (bvs_single _) ?_ (hdl := by rw [bvs_length, put4_length, List.length_replicate]; decide)
  refine .to (A' := buf gb 5 qq (bvs (slotB (some (nm, i))))) (fun h hh => by rw [← slotP]; exact hh) ?_
  refine .nil (.wa hnp ?_)
  refine .fin ?_
  refine .next (.sr (.move (.move (.move (.move ?_)))))
  refine .call (hc := Tryz.call71) (sp := nWrite (s := s) (a := a) (c := c) (p := p) (F0 := F0) (F := Fm) (W := W) (i := d) (at' := 64 * q) (f := (2, dirB sl)) (bs := slotB (some (nm, i))) (m := 64) ho hF (hw.less (by show has (max (dirB sl).length (64 * q + 64)) - has (dirB sl).length + (64 + 511) / 512 + 10 ≤ 13; rw [hdl]; omega)) (.inr Reads.buf) hsl (by omega) h2 (by show 64 * q ≤ (dirB sl).length; omega) (by omega) (by show tot Fm p.ino + has (max (dirB sl).length (64 * q + 64)) ≤ p.dc + has (dirB sl).length; rw [hdl]; exact hfit)) (h := ?_)
  rintro _ _ ⟨rfl, rfl⟩
  refine .assign (.z ?_)
  refine .ret (?_)
  simp only [setS_wr hq]
  refine .to (A' := IN s a c p F0 (updM Fm d (some (2, dirB (setS sl q (some (nm, i)))))) (W + 8) true) (fun h hh => IN.more (by show W + (has (max (dirB sl).length (64 * q + 64)) - has (dirB sl).length) + (64 + 511) / 512 + 5 ≤ W + 8; rw [hdl]; omega) h hh) ?_
  exact .ret1 (h1 := .tmp (t := 10) rfl) ⟨_, ⟨rfl, rfl⟩, Am.auto⟩
theorem freeI_pos {sl : List Slot} {q r : Nat} (h : freeF sl q = some r) : freeI sl q = ((64 * r : Nat) : Int) := by unfold freeI; rw [h]
theorem freeI_neg {sl : List Slot} {q : Nat} (h : freeF sl q = none) : freeI sl q = -1 := by unfold freeI; rw [h]
theorem freeI_keep {sl : List Slot} {q r : Nat} (h : freeF sl q = some r) : freeI sl (q + 1) = ((64 * r : Nat) : Int) := freeI_pos (by rw [freeF, h])
theorem freeI_new {sl : List Slot} {q : Nat} (h : freeF sl q = none) (hs : sl[q]? = some none) : freeI sl (q + 1) = ((64 * q : Nat) : Int) := freeI_pos (by rw [freeF, h]; simp [hs])
theorem freeI_full {sl : List Slot} {q : Nat} {x : Bytes × Nat} (hs : sl[q]? = some (some x)) : freeI sl (q + 1) = freeI sl q := by
  unfold freeI
  rw [freeF]
  cases h : freeF sl q with
  | some r => rfl
  | none => simp [hs]
theorem keyOf_single (s : Slot) : ∀ v ∈ bvs (keyOf s), Value.single v = true := bvs_single _
theorem bvsO_length (s : Slot) : (bvs (keyOf s)).length = 51 := by rw [bvs_length, keyOf_length]
theorem dNames {s a c : Nat} {p : Pl} {F0 Fm : FM} {W d : Nat} {op : Bool} {sl : List Slot} (ho : PlOk p) (hF : Fm d = some (2, dirB sl)) (hd : DirOk sl) (hsz : sl.length ≤ 1104) :
    Spec Tryz.prog 185 #[.pointer (some ⟨s, 0, none⟩), nI d] [IN s a c p F0 Fm W op] fun G v M => ∃ mp es cl, v = .tuple #[.map (some mp), nI (64 * freeS sl), .int .i64 0] ∧ MapIs encK es cl (kvF sl sl.length) ∧ M = pt mp (.map es cl) :: IN s a c p F0 Fm W op :: G := by
  refine Spec.intro Tryz.func185 rfl rfl fun B F => ?_
  simp only [Tryz.ntmps185, List.cons_append, List.nil_append, env0, Nat.reduceAdd]
  have hdl := dirB_length sl
  refine .sr (.assign (.assign (.assign (.x (.move (.move ?_))))))
  refine .call (hc := Tryz.call156) (sp := nStat (s := s) (a := a) (c := c) (p := p) (F0 := F0) (F := Fm) (W := W) (op := op) (i := d) (f := (2, dirB sl)) ho hF) (h := ?_)
  rintro _ _ ⟨rfl, rfl⟩
  refine .move ?_
  refine .extract ?_
  refine .extract ?_
  refine .alloc z51 fun b7 => ?_
  refine .stV ?_ agg51
  refine .assign (.z (.seq (.sr (.move ?_))))
  refine .nei ?_
  refine .z ?_
  refine .condF rfl rfl ?_
  refine .skip (.next (.seq (.sr ?_)))
  refine .fa ?_ fo51_0
  refine .ld ?_ sc3
  refine .nei ?_
  refine .z ?_
  refine .condF rfl rfl ?_
  refine .skip (.next (.sr (.move (.move ?_))))
  refine .fa ?_ fo51_1
  refine .ld ?_ sc3
  refine .call (hc := Tryz.call107) (sp := nRead (s := s) (a := a) (c := c) (p := p) (F0 := F0) (F := Fm) (W := W) (op := op) (i := d) (at' := 0) (k := (dirB sl).length) (f := (2, dirB sl)) ho hF (by decide) (by omega)) (h := ?_)
  rintro _ _ ⟨u, rfl, rfl⟩
  simp only [List.drop_zero, List.take_length]
  refine .move ?_
  refine .extract ?_
  refine .extract ?_
  refine .assign (.assign (.z (.seq (.sr (.move ?_)))))
  refine .nei ?_
  refine .z ?_
  refine .condF rfl rfl ?_
  refine .skip (.next (.sr ?_))
  refine .mkMap fun m36 => ?_
  refine .assign (.assign (.z (.seq (.sr (.assign (.z (.block ?_)))))))
  refine .fact (rowR_shape (el := 5) (size := 1) (v := u) (k := (dirB sl).length) (xs := bvs (dirB sl))) (fun ⟨A2, c2, hv2, hR2, hk2, hc2, hl2⟩ => ?_)
  subst hv2
  refine .loopA (σ := Nat × Array MapEntry × Nat) (fun y => [(4, .map (some m36)), (5, .int .i64 (freeI sl y.1)), (8, .slice A2 (dirB sl).length c2), (9, nI (64 * y.1))]) (fun y => [pt m36 (.map y.2.1 y.2.2), rowR 5 1 (.slice A2 (dirB sl).length c2) (dirB sl).length (bvs (dirB sl)), IN s a c p F0 Fm W op] ++ F) (fun y => y.1 ≤ sl.length ∧ MapIs encK y.2.1 y.2.2 (kvF sl y.1)) (fun y => sl.length - y.1) (0, #[], 0) ⟨Nat.zero_le _, MapIs.empty _ _⟩ ?_
  rintro y hy
  obtain ⟨q, es, cl⟩ := y
  obtain ⟨hq, hm⟩ := hy
  simp only at hq hm
  refine .seq (.sr (.move (.move ?_)))
  refine .lenS ?_ sl33
  refine .lss ?_
  refine .z ?_
  refine .cond rfl (fun hb => ?_) (fun hb => ?_)
  · have hlt : q < sl.length := by have h : ((64 * q : Nat) : Int) < ((dirB sl).length : Int) := of_decide_eq_true hb; omega
    rcases A2 with _ | ⟨ab, ao, asp⟩
    · exact absurd hR2 (fun h => by have h2 : bvs (dirB sl) = [] := h; have h3 : (dirB sl).length = 0 := (by have := congrArg List.length h2; rwa [bvs_length] at this); omega)
    have hsp : asp = none := hR2.1
    subst hsp
    have hp1 : (((64 * q : Nat) : Int) + 4).toNat = 64 * q + 4 := by omega
    have hp2 : (((64 * q : Nat) : Int) + 4 + 51).toNat = 64 * q + 55 := by omega
    have hgs : sl[q]? = some sl[q] := List.getElem?_eq_getElem hlt
    obtain ⟨sq, hsq⟩ : ∃ sq, sl[q] = sq := ⟨_, rfl⟩
    have hkq := dirB_key hlt
    rw [hsq] at hgs hkq
    have hkv : kvF sl (q + 1) = stepK (kvF sl q) q sq := by rw [kvF, hgs]
    refine .skip (.next (.seq (.block (.sr (.move (.move ?_))))))
    refine .add ?_
    refine .move ?_
    refine .add ?_
    refine .add ?_
    refine .slcLH ?_ so33
    refine .cast (d := 49) (u := .slice (some ⟨ab, ao + (64 * q + 4), none⟩) 51 (c2 - (64 * q + 4))) rfl (by rw [hp1, hp2, if_neg (show ¬ c2 = 64 * q + 4 by omega), Nat.mul_one, show 64 * q + 55 - (64 * q + 4) = 51 from by omega]) ?_
    refine .toArr ?_ un262
    refine .ldAR (i := 64 * q + 4) (xs := bvs (dirB sl)) (us := bvs (keyOf sq)) ?_ agg262 hR2 (by rw [← bvs_drop, ← bvs_take, hkq]) (by rw [bvs_length]; omega)
    refine .allocL (us := bvs (List.replicate 51 0)) key0 rfl fun b10 => ?_
    refine .stLA (xs := bvs (List.replicate 51 0)) (us := bvs (keyOf sq)) ?_ agg262 (bvsO_length sq) rfl (keyOf_single sq)
    refine .z (.seq (.sr ?_))
    refine .idxA ?_ ar262
    cases sq
    · refine .ldL (xs := bvs (keyOf none)) (i := 0) (v := .int .u8 0) ?_ sc5 rfl
      refine .eqi ?_
      refine .z ?_
      refine .condT rfl rfl ?_
      refine .seq (.sr (.move ?_))
      refine .lss ?_
      refine .z ?_
      cases hfr : freeF sl q
      · rw [freeI_neg hfr]
        refine .condT rfl rfl ?_
        refine .region (.move (.assign (.z ?_)))
        refine .exit (.thenExit (.blockExit (?_)))
        refine .next (.region (.move ?_))
        refine .add ?_
        refine .assign (.nil ?_)
        refine .cast (d := 9) (u := nI (64 * (q + 1))) rfl (congrArg (Value.int .i64) (by omega)) ?_
        refine .cast (d := 5) (u := .int .i64 (freeI sl (q + 1))) rfl (congrArg (Value.int .i64) (by rw [freeI_new hfr hgs])) ?_
        exact .back (q + 1, es, cl) ⟨by show q + 1 ≤ sl.length; omega, (by rw [hkv]; exact hm)⟩ (by show sl.length - (q + 1) < sl.length - q; omega)
      · rename_i r
        rw [freeI_pos hfr]
        refine .condF rfl (congrArg Value.bool (by first | (simp; done) | (simp; omega) | omega)) ?_
        refine .skip (.next ?_)
        refine .exit (.thenExit (.blockExit (?_)))
        refine .next (.region (.move ?_))
        refine .add ?_
        refine .assign (.nil ?_)
        refine .cast (d := 9) (u := nI (64 * (q + 1))) rfl (congrArg (Value.int .i64) (by omega)) ?_
        refine .cast (d := 5) (u := .int .i64 (freeI sl (q + 1))) rfl (congrArg (Value.int .i64) (by rw [freeI_keep hfr])) ?_
        exact .back (q + 1, es, cl) ⟨by show q + 1 ≤ sl.length; omega, (by rw [hkv]; exact hm)⟩ (by show sl.length - (q + 1) < sl.length - q; omega)
    · rename_i x
      obtain ⟨nm, i⟩ := x
      have hnm := hd.nm q nm i hgs
      have hnum := dirB_num hlt hsq hnm.2
      have hx0 : (bvs (keyOf (some (nm, i))))[0]? = some (bv (UInt8.ofNat nm.length)) := by show (bvs (keyB nm))[0]? = _; unfold bvs; rw [List.getElem?_map, keyB_head]; rfl
      have hxn : ((UInt8.ofNat nm.length).toNat : Int) ≠ 0 := by rw [UInt8.toNat_ofNat']; omega
      refine .ldL (xs := bvs (keyOf (some (nm, i)))) (i := 0) (v := bv (UInt8.ofNat nm.length)) ?_ sc5 hx0
      refine .eqi ?_
      refine .cast (d := 54) (u := .bool false) rfl (congrArg Value.bool (decide_eq_false hxn)) ?_
      refine .z ?_
      refine .condF rfl rfl ?_
      refine .skip (.next (.sr (.move (.move ?_))))
      refine .call (hc := Tryz.call143) (sp := bitsGet (A := ⟨ab, ao, none⟩) (n := (dirB sl).length) (c := c2) (xs := dirB sl) (p := ((64 * q : Nat) : Int)) (size := 4) (big := false) hR2 rfl (by omega) (by decide) (by omega) (by omega)) (h := ?_)
      rintro _ _ ⟨rfl, rfl⟩
      refine .cast (d := 61) (u := .tuple #[.int .u64 (i : Int), .bool true]) rfl (by rw [show (((64 * q : Nat) : Int)).toNat = 64 * q from by omega, show (4 : Int).toNat = 4 from rfl, num_seg (by omega), hnum]) ?_
      refine .move ?_
      refine .extract ?_
      refine .extract ?_
      refine .assign (.assign (.y (.move ?_)))
      refine .ldW (xs := bvs (keyOf (some (nm, i)))) ?_ agg262 (bvsO_length _)
      refine .move (.move ?_)
      refine .cvt ?_ un134 un3
      refine .cast (d := 68) (u := nI i) rfl (congrArg (Value.int .i64) (IntWalk.i64_in _ (by omega))) ?_
      refine .build ?_ (bdFound _ _)
      refine .upd (k := keyK nm) (v := foundV (64 * q) i) klN hm mp255 fun es_1 c_1 hm_1 => ?_
      refine .nil (.blockNormal (.next (.region (.move ?_))))
      refine .add ?_
      refine .assign (.nil ?_)
      refine .cast (d := 9) (u := nI (64 * (q + 1))) rfl (congrArg (Value.int .i64) (by omega)) ?_
      refine .cast (d := 5) (u := .int .i64 (freeI sl (q + 1))) rfl (congrArg (Value.int .i64) (by rw [freeI_full hgs])) ?_
      exact .back (q + 1, es_1, c_1) ⟨by show q + 1 ≤ sl.length; omega, (by rw [hkv]; exact hm_1)⟩ (by show sl.length - (q + 1) < sl.length - q; omega)
  · have hge : ¬ q < sl.length := by have h : ¬ ((64 * q : Nat) : Int) < ((dirB sl).length : Int) := of_decide_eq_false hb; omega
    have hqe : q = sl.length := by omega
    subst hqe
    refine .exit (.thenExit (.thenExit (.blockExit (?_))))
    refine .next (.seq (.sr (.move ?_)))
    refine .lss ?_
    refine .z ?_
    cases hfr : freeF sl sl.length
    · have hfs : freeS sl = sl.length := by unfold freeS; rw [hfr]; rfl
      rw [freeI_neg hfr]
      refine .condT rfl rfl ?_
      refine .region (.move ?_)
      refine .lenS ?_ sl33
      refine .assign (.x (.move (.move (.assign (.assign (.assign (.z ?_)))))))
      refine .ret (?_)
      exact .ret3 (h1 := .tmp (t := 4) rfl) (h2 := .tmp (t := 5) rfl) (h3 := .tmp (t := 6) rfl) ⟨_, ⟨m36, es, cl, by rw [hfs, ← hdl]; rfl, hm, rfl⟩, Am.auto⟩
    · rename_i r
      have hfs : freeS sl = r := by unfold freeS; rw [hfr]; rfl
      rw [freeI_pos hfr]
      refine .condF rfl (congrArg Value.bool (by first | (simp; done) | (simp; omega) | omega)) ?_
      refine .skip (.next (.sr (.move (.move (.assign (.assign (.assign (.z ?_))))))))
      refine .ret (?_)
      exact .ret3 (h1 := .tmp (t := 4) rfl) (h2 := .tmp (t := 5) rfl) (h3 := .tmp (t := 6) rfl) ⟨_, ⟨m36, es, cl, by rw [hfs]; rfl, hm, rfl⟩, Am.auto⟩
end Go.Proofs.YtdmjkjeoamiedaaGreatDoor
end
section
namespace Go.Proofs.YtdmjkjeoamiedaaGreatDoor
open Go
theorem zv259 : zvOf Tryz.prog 259 = some (.agg (#[.int .i64 0, .int .i64 0])) := by kernel_rfl
theorem z259 : zeroOf Tryz.prog 259 = some (#[.int .i64 0, .int .i64 0]) := by kernel_rfl
theorem agg259 : aggOk Tryz.prog 259 2 = true := by kernel_rfl
theorem fo259_1 : fieldOk Tryz.prog 259 1 1 = true := by kernel_rfl
theorem nReady {s a c : Nat} {p : Pl} {F0 Fm : FM} {W : Nat} {op : Bool} : Spec Tryz.prog 210 #[.pointer (some ⟨s, 0, none⟩)] [IN s a c p F0 Fm W op] fun G v M => v = .bool op ∧ M = IN s a c p F0 Fm W op :: G := by
  refine Spec.opens (IN.opens s a c p F0 Fm W op) fun y hy => ((inReady (s := s) (c := c) (a := a) (n := p.n) (p := p) (V0 := y.1) (V := y.2.1) (D := y.2.2) (op := op)).mid).post ?_
  rintro G v M ⟨rfl, rfl⟩
  exact ⟨_, ⟨rfl, rfl⟩, Wk.trans (Am.wk Am.auto) (Wk.shutR (M := G) (IN.opens s a c p F0 Fm W op) y hy)⟩
def FindErr (nm : Bytes) (F : FM) (d : Int) (e : Int) : Prop :=
  (nameOk nm = false ∧ e = 1) ∨ (nameOk nm = true ∧ fileAt F d = none ∧ e = 4) ∨ (nameOk nm = true ∧ (∃ k b, 0 ≤ d ∧ F d.toNat = some (k, b) ∧ k ≠ 2) ∧ e = 6)
theorem nameOk_len {nm : Bytes} (h : nameOk nm = true) : 1 ≤ nm.length ∧ nm.length ≤ 50 := by
  unfold nameOk at h
  simp only [Bool.and_eq_true, Bool.not_eq_true', decide_eq_false_iff_not, decide_eq_true_iff] at h
  obtain ⟨h1, h2, _⟩ := h
  refine ⟨?_, h2⟩
  cases nm with
  | nil => exact absurd rfl h1
  | cons _ _ => rw [List.length_cons]; omega
theorem dNamesNo {s a c : Nat} {p : Pl} {F0 Fm : FM} {W : Nat} {d : Int} {op : Bool} (ho : PlOk p) (hF : fileAt Fm d = none) : Spec Tryz.prog 185 #[.pointer (some ⟨s, 0, none⟩), .int .i64 d] [IN s a c p F0 Fm W op] fun G v M => v = .tuple #[.map none, .int .i64 0, .int .i64 4] ∧ M = IN s a c p F0 Fm W op :: G := by
  refine Spec.intro Tryz.func185 rfl rfl fun B F => ?_
  simp only [Tryz.ntmps185, List.cons_append, List.nil_append, env0, Nat.reduceAdd]
  refine .sr (.assign (.assign (.assign (.x (.move (.move ?_))))))
  refine .call (hc := Tryz.call156) (sp := nStatNo (s := s) (a := a) (c := c) (p := p) (F0 := F0) (F := Fm) (W := W) (op := op) (i := d) ho hF) (h := ?_)
  rintro _ _ ⟨rfl, rfl⟩
  refine .move ?_
  refine .extract ?_
  refine .extract ?_
  refine .alloc z51 fun b7 => ?_
  refine .stV ?_ agg51
  refine .assign (.z (.seq (.sr (.move ?_))))
  refine .nei ?_
  refine .z ?_
  refine .condT rfl rfl ?_
  refine .sr (.move (.assign (.assign (.assign (.z ?_)))))
  refine .ret (.thenRet (?_))
  exact .ret3 (h1 := .tmp (t := 4) rfl) (h2 := .tmp (t := 5) rfl) (h3 := .tmp (t := 6) rfl) ⟨_, ⟨rfl, rfl⟩, Am.auto⟩
theorem dNamesKind {s a c : Nat} {p : Pl} {F0 Fm : FM} {W : Nat} {d k : Nat} {b : Bytes} {op : Bool} (ho : PlOk p) (hF : Fm d = some (k, b)) (hk : k ≠ 2) : Spec Tryz.prog 185 #[.pointer (some ⟨s, 0, none⟩), nI d] [IN s a c p F0 Fm W op] fun G v M => v = .tuple #[.map none, .int .i64 0, .int .i64 6] ∧ M = IN s a c p F0 Fm W op :: G := by
  refine Spec.intro Tryz.func185 rfl rfl fun B F => ?_
  simp only [Tryz.ntmps185, List.cons_append, List.nil_append, env0, Nat.reduceAdd]
  refine .sr (.assign (.assign (.assign (.x (.move (.move ?_))))))
  refine .call (hc := Tryz.call156) (sp := nStat (s := s) (a := a) (c := c) (p := p) (F0 := F0) (F := Fm) (W := W) (op := op) (i := d) (f := (k, b)) ho hF) (h := ?_)
  rintro _ _ ⟨rfl, rfl⟩
  refine .move ?_
  refine .extract ?_
  refine .extract ?_
  refine .alloc z51 fun b7 => ?_
  refine .stV ?_ agg51
  refine .assign (.z (.seq (.sr (.move ?_))))
  refine .nei ?_
  refine .z ?_
  refine .condF rfl rfl ?_
  refine .skip (.next (.seq (.sr ?_)))
  refine .fa ?_ fo51_0
  refine .ld ?_ sc3
  refine .nei ?_
  refine .z ?_
  refine .condT rfl (congrArg Value.bool (by first | (simp; done) | (simp; omega) | omega)) ?_
  refine .sr (.assign (.assign (.assign (.z ?_))))
  refine .ret (.thenRet (?_))
  exact .ret3 (h1 := .tmp (t := 4) rfl) (h2 := .tmp (t := 5) rfl) (h3 := .tmp (t := 6) rfl) ⟨_, ⟨rfl, rfl⟩, Am.auto⟩
theorem dNamesErr {s a c : Nat} {p : Pl} {F0 Fm : FM} {W : Nat} {d : Int} {op : Bool} {nm : Bytes} {e : Int} (ho : PlOk p) (hn : nameOk nm = true) (he : FindErr nm Fm d e) : Spec Tryz.prog 185 #[.pointer (some ⟨s, 0, none⟩), .int .i64 d] [IN s a c p F0 Fm W op] fun G v M => v = .tuple #[.map none, .int .i64 0, .int .i64 e] ∧ M = IN s a c p F0 Fm W op :: G := by
  rcases he with ⟨h, _⟩ | ⟨_, h, rfl⟩ | ⟨_, ⟨k, b, h0, h, hk⟩, rfl⟩
  · rw [hn] at h; cases h
  · exact dNamesNo ho h
  · have := dNamesKind (s := s) (a := a) (c := c) (F0 := F0) (W := W) (op := op) ho h hk
    rwa [show nI d.toNat = .int .i64 d from congrArg (Value.int .i64) (by omega)] at this
theorem dChg {s a c : Nat} {p : Pl} {F0 Fm : FM} {W : Nat} {d : Nat} {nm : Bytes} {sl : List Slot} (ho : PlOk p) (hn : nameOk nm = true) (hF : Fm d = some (2, dirB sl)) (hd : DirOk sl) (hsz : sl.length ≤ 1104) :
    Spec Tryz.prog 176 #[.pointer (some ⟨s, 0, none⟩), nI d, sv nm] [IN s a c p F0 Fm W true] fun G v M => ∃ mp es cl, v = .tuple #[.map (some mp), nI (64 * freeS sl), .int .i64 0] ∧ MapIs encK es cl (kvF sl sl.length) ∧ M = pt mp (.map es cl) :: IN s a c p F0 Fm W true :: G := by
  refine Spec.intro Tryz.func176 rfl rfl fun B F => ?_
  simp only [Tryz.ntmps176, List.cons_append, List.nil_append, env0, Nat.reduceAdd]
  refine .sr (.assign (.assign (.assign (.z (.seq (.sr (.move ?_)))))))
  refine .call (hc := Tryz.call210) (sp := nReady (s := s) (a := a) (c := c) (p := p) (F0 := F0) (Fm := Fm) (W := W) (op := true)) (h := ?_)
  rintro _ _ ⟨rfl, rfl⟩
  refine .not ?_
  refine .z ?_
  refine .condF rfl rfl ?_
  refine .skip (.next (.seq (.sr (.move ?_))))
  refine .call (hc := Tryz.call234) (sp := dName (xs := nm)) (h := ?_)
  rintro _ _ ⟨rfl, rfl⟩
  rw [hn]
  refine .not ?_
  refine .z ?_
  refine .condF rfl rfl ?_
  refine .skip (.next (.sr (.move (.move ?_))))
  refine .call (hc := Tryz.call185) (sp := dNames (s := s) (a := a) (c := c) (p := p) (F0 := F0) (Fm := Fm) (W := W) (d := d) (op := true) ho hF hd hsz) (h := ?_)
  rintro _ _ ⟨mp, es, cl, rfl, hm, rfl⟩
  refine .extract ?_
  refine .extract ?_
  refine .extract ?_
  refine .assign (.assign (.assign (.z ?_)))
  refine .ret (?_)
  exact .ret3 (h1 := .tmp (t := 6) rfl) (h2 := .tmp (t := 7) rfl) (h3 := .tmp (t := 8) rfl) ⟨_, ⟨mp, es, cl, rfl, hm, rfl⟩, Am.auto⟩
theorem dAdd {s a c : Nat} {p : Pl} {F0 Fm : FM} {W : Nat} {d : Nat} {nm : Bytes} {sl : List Slot} (ho : PlOk p) (hn : nameOk nm = true) (hF : Fm d = some (2, dirB sl)) (hd : DirOk sl) (hsz : sl.length ≤ 1104) (hno : ∀ (q i : Nat), sl[q]? ≠ some (some (nm, i))) {i : Nat} (hi : i < 4294967296) (hw : Rw p W 13) (hfs : freeS sl < 1104) (hfit : tot Fm p.ino + has (max (64 * sl.length) (64 * freeS sl + 64)) ≤ p.dc + has (64 * sl.length)) : Spec Tryz.prog 98 #[.pointer (some ⟨s, 0, none⟩), nI d, sv nm, nI i] [IN s a c p F0 Fm W true] fun G v M => v = okV ∧ M = IN s a c p F0 (updM Fm d (some (2, dirB (setS sl (freeS sl) (some (nm, i)))))) (W + 8) true :: G := by
  refine Spec.intro Tryz.func98 rfl rfl fun B F => ?_
  simp only [Tryz.ntmps98, List.cons_append, List.nil_append, env0, Nat.reduceAdd]
  refine .sr (.assign (.x (.move (.move (.move ?_)))))
  refine .call (hc := Tryz.call176) (sp := dChg (s := s) (a := a) (c := c) (p := p) (F0 := F0) (Fm := Fm) (W := W) (d := d) (nm := nm) ho hn hF hd hsz) (h := ?_)
  rintro _ _ ⟨mp, es, cl, rfl, hm, rfl⟩
  refine .move ?_
  refine .extract ?_
  refine .extract ?_
  refine .extract ?_
  refine .assign (.assign (.assign (.z (.seq (.sr (.move ?_))))))
  refine .nei ?_
  refine .z ?_
  refine .condF rfl rfl ?_
  refine .skip (.next (.seq (.sr (.move (.move ?_)))))
  refine .call (hc := Tryz.call177) (sp := dOf (nameOk_len hn).2) (h := ?_)
  rintro _ _ ⟨rfl, rfl⟩
  refine .lookOk (k := keyK nm) klN hm mp255 zv259 ?_
  refine .cast (d := 29) (u := .tuple #[.agg #[.int .i64 0, .int .i64 0], .bool false]) rfl (by rw [kvF_no hd (nameOk_len hn).2 hno]; rfl) ?_
  refine .move ?_
  refine .extract ?_
  refine .extract ?_
  refine .alloc z259 fun b12 => ?_
  refine .stV ?_ agg259
  refine .assign (.x (.move (.z ?_)))
  refine .condF rfl rfl ?_
  refine .skip (.next (.sr (.move (.move (.move (.move (.move ?_)))))))
  refine .call (hc := Tryz.call178) (sp := dLay (s := s) (a := a) (c := c) (p := p) (F0 := F0) (Fm := Fm) (W := W) (d := d) (q := freeS sl) (i := i) (nm := nm) (sl := sl) ho hF (freeS_le sl) hfs (nameOk_len hn).2 hi hw hfit) (h := ?_)
  rintro _ _ ⟨rfl, rfl⟩
  refine .assign (.z ?_)
  refine .ret (?_)
  exact .ret1 (h1 := .tmp (t := 8) rfl) ⟨_, ⟨rfl, rfl⟩, Am.auto⟩
theorem dFindE {s a c : Nat} {p : Pl} {F0 Fm : FM} {W : Nat} {d : Int} {op : Bool} {nm : Bytes} {e : Int} (ho : PlOk p) (he : FindErr nm Fm d e) (he0 : e ≠ 0) : Spec Tryz.prog 184 #[.pointer (some ⟨s, 0, none⟩), .int .i64 d, sv nm] [IN s a c p F0 Fm W op] fun G v M => v = .tuple #[.int .i64 0, .int .i64 e] ∧ M = IN s a c p F0 Fm W op :: G := by
  refine Spec.intro Tryz.func184 rfl rfl fun B F => ?_
  simp only [Tryz.ntmps184, List.cons_append, List.nil_append, env0, Nat.reduceAdd]
  cases hn : nameOk nm
  · have he1 : e = 1 := by
      rcases he with ⟨_, h⟩ | ⟨h, _⟩ | ⟨h, _⟩
      · exact h
      · rw [hn] at h; cases h
      · rw [hn] at h; cases h
    subst he1
    refine .sr (.assign (.assign (.z (.seq (.sr (.move ?_))))))
    refine .call (hc := Tryz.call234) (sp := dName (xs := nm)) (h := ?_)
    rintro _ _ ⟨rfl, rfl⟩
    rw [hn]
    refine .not ?_
    refine .z ?_
    refine .condT rfl rfl ?_
    refine .sr (.assign (.assign (.z ?_)))
    refine .ret (.thenRet (?_))
    exact .ret2 (h1 := .tmp (t := 6) rfl) (h2 := .tmp (t := 7) rfl) ⟨_, ⟨rfl, rfl⟩, Am.auto⟩
  · refine .sr (.assign (.assign (.z (.seq (.sr (.move ?_))))))
    refine .call (hc := Tryz.call234) (sp := dName (xs := nm)) (h := ?_)
    rintro _ _ ⟨rfl, rfl⟩
    rw [hn]
    refine .not ?_
    refine .z ?_
    refine .condF rfl rfl ?_
    refine .skip (.next (.sr (.move (.move ?_))))
    refine .call (hc := Tryz.call185) (sp := dNamesErr (s := s) (a := a) (c := c) (p := p) (F0 := F0) (Fm := Fm) (W := W) (d := d) (op := op) ho hn he) (h := ?_)
    rintro _ _ ⟨rfl, rfl⟩
    refine .move ?_
    refine .extract ?_
    refine .extract ?_
    refine .extract ?_
    refine .assign (.assign (.assign (.z (.seq (.sr (.move ?_))))))
    refine .nei ?_
    refine .z ?_
    refine .condT rfl (congrArg Value.bool (by first | (simp; done) | (simp; omega) | omega)) ?_
    refine .sr (.move (.assign (.assign (.z ?_))))
    refine .ret (.thenRet (?_))
    exact .ret2 (h1 := .tmp (t := 6) rfl) (h2 := .tmp (t := 7) rfl) ⟨_, ⟨rfl, rfl⟩, Am.auto⟩
theorem dFind {s a c : Nat} {p : Pl} {F0 Fm : FM} {W : Nat} {d : Nat} {op : Bool} {nm : Bytes} {sl : List Slot} (ho : PlOk p) (hn : nameOk nm = true) (hF : Fm d = some (2, dirB sl)) (hd : DirOk sl) (hsz : sl.length ≤ 1104) {q j : Nat} (hq : sl[q]? = some (some (nm, j))) : Spec Tryz.prog 184 #[.pointer (some ⟨s, 0, none⟩), nI d, sv nm] [IN s a c p F0 Fm W op] fun G v M => v = .tuple #[nI j, .int .i64 0] ∧ M = IN s a c p F0 Fm W op :: G := by
  refine Spec.intro Tryz.func184 rfl rfl fun B F => ?_
  simp only [Tryz.ntmps184, List.cons_append, List.nil_append, env0, Nat.reduceAdd]
  have hlt : q < sl.length := by
    by_cases h : q < sl.length
    · exact h
    · rw [List.getElem?_eq_none (by omega)] at hq; cases hq
  refine .sr (.assign (.assign (.z (.seq (.sr (.move ?_))))))
  refine .call (hc := Tryz.call234) (sp := dName (xs := nm)) (h := ?_)
  rintro _ _ ⟨rfl, rfl⟩
  rw [hn]
  refine .not ?_
  refine .z ?_
  refine .condF rfl rfl ?_
  refine .skip (.next (.sr (.move (.move ?_))))
  refine .call (hc := Tryz.call185) (sp := dNames (s := s) (a := a) (c := c) (p := p) (F0 := F0) (Fm := Fm) (W := W) (d := d) (op := op) ho hF hd hsz) (h := ?_)
  rintro _ _ ⟨mp, es, cl, rfl, hm, rfl⟩
  refine .move ?_
  refine .extract ?_
  refine .extract ?_
  refine .extract ?_
  refine .assign (.assign (.assign (.z (.seq (.sr (.move ?_))))))
  refine .nei ?_
  refine .z ?_
  refine .condF rfl rfl ?_
  refine .skip (.next (.sr (.move (.move ?_))))
  refine .call (hc := Tryz.call177) (sp := dOf (nameOk_len hn).2) (h := ?_)
  rintro _ _ ⟨rfl, rfl⟩
  refine .lookOk (k := keyK nm) klN hm mp255 zv259 ?_
  refine .cast (d := 30) (u := .tuple #[.agg #[nI (64 * q), nI j], .bool true]) rfl (by rw [kvF_has hd hq sl.length hlt]; rfl) ?_
  refine .move ?_
  refine .extract ?_
  refine .extract ?_
  refine .alloc z259 fun b11 => ?_
  refine .stV ?_ agg259
  refine .assign (.z (.seq (.sr (.move ?_))))
  refine .not ?_
  refine .z ?_
  refine .condF rfl rfl ?_
  refine .skip (.next (.sr ?_))
  refine .fa ?_ fo259_1
  refine .ld ?_ sc3
  refine .assign (.assign (.z ?_))
  refine .ret (?_)
  exact .ret2 (h1 := .tmp (t := 6) rfl) (h2 := .tmp (t := 7) rfl) ⟨_, ⟨rfl, rfl⟩, Am.auto⟩
theorem dFindNo {s a c : Nat} {p : Pl} {F0 Fm : FM} {W : Nat} {d : Nat} {op : Bool} {nm : Bytes} {sl : List Slot} (ho : PlOk p) (hn : nameOk nm = true) (hF : Fm d = some (2, dirB sl)) (hd : DirOk sl) (hsz : sl.length ≤ 1104) (hno : ∀ (q i : Nat), sl[q]? ≠ some (some (nm, i))) : Spec Tryz.prog 184 #[.pointer (some ⟨s, 0, none⟩), nI d, sv nm] [IN s a c p F0 Fm W op] fun G v M => v = .tuple #[.int .i64 0, .int .i64 4] ∧ M = IN s a c p F0 Fm W op :: G := by
  refine Spec.intro Tryz.func184 rfl rfl fun B F => ?_
  simp only [Tryz.ntmps184, List.cons_append, List.nil_append, env0, Nat.reduceAdd]
  refine .sr (.assign (.assign (.z (.seq (.sr (.move ?_))))))
  refine .call (hc := Tryz.call234) (sp := dName (xs := nm)) (h := ?_)
  rintro _ _ ⟨rfl, rfl⟩
  rw [hn]
  refine .not ?_
  refine .z ?_
  refine .condF rfl rfl ?_
  refine .skip (.next (.sr (.move (.move ?_))))
  refine .call (hc := Tryz.call185) (sp := dNames (s := s) (a := a) (c := c) (p := p) (F0 := F0) (Fm := Fm) (W := W) (d := d) (op := op) ho hF hd hsz) (h := ?_)
  rintro _ _ ⟨mp, es, cl, rfl, hm, rfl⟩
  refine .move ?_
  refine .extract ?_
  refine .extract ?_
  refine .extract ?_
  refine .assign (.assign (.assign (.z (.seq (.sr (.move ?_))))))
  refine .nei ?_
  refine .z ?_
  refine .condF rfl rfl ?_
  refine .skip (.next (.sr (.move (.move ?_))))
  refine .call (hc := Tryz.call177) (sp := dOf (nameOk_len hn).2) (h := ?_)
  rintro _ _ ⟨rfl, rfl⟩
  refine .lookOk (k := keyK nm) klN hm mp255 zv259 ?_
  refine .cast (d := 30) (u := .tuple #[.agg #[.int .i64 0, .int .i64 0], .bool false]) rfl (by rw [kvF_no hd (nameOk_len hn).2 hno]; rfl) ?_
  refine .move ?_
  refine .extract ?_
  refine .extract ?_
  refine .alloc z259 fun b11 => ?_
  refine .stV ?_ agg259
  refine .assign (.z (.seq (.sr (.move ?_))))
  refine .not ?_
  refine .z ?_
  refine .condT rfl rfl ?_
  refine .sr (.assign (.assign (.z ?_)))
  refine .ret (.thenRet (?_))
  exact .ret2 (h1 := .tmp (t := 6) rfl) (h2 := .tmp (t := 7) rfl) ⟨_, ⟨rfl, rfl⟩, Am.auto⟩
end Go.Proofs.YtdmjkjeoamiedaaGreatDoor
end
section
namespace Go.Proofs.YtdmjkjeoamiedaaGreatDoor
open Go
inductive NodeT
  | file (b : Bytes)
  | dir (sl : List Slot)
def NodeT.f : NodeT → Nat × Bytes
  | .file b => (1, b)
  | .dir sl => (2, dirB sl)
abbrev FT := Nat → Option NodeT
def fmT (T : FT) : FM := fun i => (T i).map NodeT.f
theorem fmT_some {T : FT} {i : Nat} {x : NodeT} (h : T i = some x) : fmT T i = some x.f := by unfold fmT; rw [h]; rfl
theorem fmT_none {T : FT} {i : Nat} (h : T i = none) : fmT T i = none := by unfold fmT; rw [h]; rfl
def updT (T : FT) (i : Nat) (y : Option NodeT) : FT := fun j => if j = i then y else T j
theorem updT_other (T : FT) {i j : Nat} (y : Option NodeT) (h : j ≠ i) : updT T i y j = T j := if_neg h
theorem fmT_upd (T : FT) (i : Nat) (y : Option NodeT) : updM (fmT T) i (y.map NodeT.f) = fmT (updT T i y) := by
  funext j
  unfold updM fmT updT
  by_cases h : j = i
  · rw [if_pos h, if_pos h]
  · rw [if_neg h, if_neg h]
theorem fmT_updS (T : FT) (i : Nat) (x : NodeT) : updM (fmT T) i (some x.f) = fmT (updT T i (some x)) := fmT_upd T i (some x)
def TOk (T : FT) : Prop := ∀ d sl, T d = some (.dir sl) → DirOk sl ∧ sl.length ≤ 1000
def lookS (nm : Bytes) : List Slot → Option (Nat × Nat)
  | [] => none
  | some (n, i) :: r => if n = nm then some (0, i) else (lookS nm r).map fun x => (x.1 + 1, x.2)
  | none :: r => (lookS nm r).map fun x => (x.1 + 1, x.2)
theorem lookS_some {nm : Bytes} : ∀ {sl : List Slot} {q i : Nat}, lookS nm sl = some (q, i) → sl[q]? = some (some (nm, i))
  | some (n, j) :: r, q, i, h => by
    unfold lookS at h
    split at h
    · rename_i hn
      subst hn
      injection h with h
      injection h with h1 h2
      subst h1; subst h2
      rfl
    · obtain ⟨x, hx, h⟩ := Option.map_eq_some_iff.1 h
      injection h with h1 h2
      subst h1; subst h2
      rw [List.getElem?_cons_succ]
      exact lookS_some hx
  | none :: r, q, i, h => by
    unfold lookS at h
    obtain ⟨x, hx, h⟩ := Option.map_eq_some_iff.1 h
    injection h with h1 h2
    subst h1; subst h2
    rw [List.getElem?_cons_succ]
    exact lookS_some hx
theorem lookS_none {nm : Bytes} : ∀ {sl : List Slot}, lookS nm sl = none → ∀ (q i : Nat), sl[q]? ≠ some (some (nm, i))
  | [], _, q, i => by simp
  | some (n, j) :: r, h, q, i => by
    unfold lookS at h
    split at h
    · cases h
    · rename_i hn
      cases q with
      | zero => intro h2; injection h2 with h2; injection h2 with h2; injection h2 with h2 _; exact hn h2
      | succ q =>
        rw [List.getElem?_cons_succ]
        exact lookS_none (Option.map_eq_none_iff.1 h) q i
  | none :: r, h, q, i => by
    unfold lookS at h
    cases q with
    | zero => intro h2; injection h2 with h2; cases h2
    | succ q =>
      rw [List.getElem?_cons_succ]
      exact lookS_none (Option.map_eq_none_iff.1 h) q i
def findT (T : FT) (d : Nat) (nm : Bytes) : Nat × Nat :=
  if nameOk nm then
    match T d with
    | none => (0, 4)
    | some (.file _) => (0, 6)
    | some (.dir sl) => match lookS nm sl with
      | some (_, i) => (i, 0)
      | none => (0, 4)
  else (0, 1)
theorem findT_ok {T : FT} {d i : Nat} {nm : Bytes} (h : findT T d nm = (i, 0)) : nameOk nm = true ∧ ∃ sl q, T d = some (.dir sl) ∧ lookS nm sl = some (q, i) := by
  unfold findT at h
  split at h
  · rename_i hn
    refine ⟨hn, ?_⟩
    split at h
    · cases h
    · cases h
    · rename_i sl hT
      split at h
      · rename_i q j hl
        injection h with h _
        subst h
        exact ⟨sl, q, hT, hl⟩
      · cases h
  · cases h
theorem findT_err {T : FT} {d i e : Nat} {nm : Bytes} (h : findT T d nm = (i, e)) (he : e ≠ 0) : i = 0 ∧ (FindErr nm (fmT T) (d : Int) (e : Int) ∨ (nameOk nm = true ∧ e = 4 ∧ ∃ sl, T d = some (.dir sl) ∧ lookS nm sl = none)) := by
  unfold findT at h
  split at h
  · rename_i hn
    split at h
    · rename_i hT
      injection h with h1 h2
      subst h1; subst h2
      exact ⟨rfl, .inl (.inr (.inl ⟨hn, by rw [fileAt_nat]; exact fmT_none hT, rfl⟩))⟩
    · rename_i b hT
      injection h with h1 h2
      subst h1; subst h2
      exact ⟨rfl, .inl (.inr (.inr ⟨hn, ⟨1, b, by omega, by rw [Int.toNat_natCast]; exact fmT_some hT, by decide⟩, rfl⟩))⟩
    · rename_i sl hT
      split at h
      · injection h with _ h
        exact absurd h.symm he
      · rename_i hl
        injection h with h1 h2
        subst h1; subst h2
        exact ⟨rfl, .inr ⟨hn, rfl, sl, hT, hl⟩⟩
  · rename_i hn
    injection h with h1 h2
    subst h1; subst h2
    exact ⟨rfl, .inl (.inl ⟨by simpa using hn, rfl⟩)⟩
def walkT (T : FT) : Nat → List Bytes → Nat × Nat
  | d, [] => (d, 0)
  | d, nm :: r => if (findT T d nm).2 = 0 then walkT T (findT T d nm).1 r else (0, (findT T d nm).2)
def splitSl : Bytes → List Bytes
  | [] => [[]]
  | x :: xs => if x = 47 then [] :: splitSl xs else match splitSl xs with
    | [] => [[x]]
    | y :: ys => (x :: y) :: ys
theorem splitSl_ne (xs : Bytes) : splitSl xs ≠ [] := by
  cases xs with
  | nil => simp [splitSl]
  | cons x xs =>
    unfold splitSl
    split
    · simp
    · split <;> simp
def partsT (path : Bytes) : Option (List Bytes) :=
  match path with
  | [] => none
  | x :: rest => if x = 47 then (if rest = [] then some [] else if 8 < (splitSl rest).length then none else if (splitSl rest).all nameOk then some (splitSl rest) else none) else none
def parentT (T : FT) (path : Bytes) : Nat × Bytes × Nat :=
  match partsT path with
  | none => (0, [], 1)
  | some l => if l = [] then (0, [], 1) else if (walkT T 0 l.dropLast).2 = 0 then (match T (walkT T 0 l.dropLast).1 with
    | some (.dir _) => ((walkT T 0 l.dropLast).1, l.getLastD [], 0)
    | _ => (0, [], 6)) else (0, [], (walkT T 0 l.dropLast).2)
def NodeT.size : NodeT → Nat
  | .file b => b.length
  | .dir sl => 64 * sl.length
def NodeT.kind : NodeT → Nat
  | .file _ => 1
  | .dir _ => 2
theorem NodeT.f_kind (x : NodeT) : x.f.1 = x.kind := by cases x <;> rfl
theorem NodeT.f_size (x : NodeT) : x.f.2.length = x.size := by
  cases x with
  | file b => rfl
  | dir sl => exact dirB_length sl
def leadsT (T : FT) (path : Bytes) : Nat × Nat × Nat × Nat :=
  match partsT path with
  | none => (0, 0, 0, 1)
  | some l => if (walkT T 0 l).2 = 0 then (match T (walkT T 0 l).1 with
    | some x => ((walkT T 0 l).1, x.kind, x.size, 0)
    | none => ((walkT T 0 l).1, 0, 0, 4)) else (0, 0, 0, (walkT T 0 l).2)
def fileT (T : FT) (path : Bytes) : Nat × Nat × Nat × Nat :=
  if (leadsT T path).2.2.2 = 0 ∧ (leadsT T path).2.1 ≠ 1 then (0, 0, 0, 6) else leadsT T path
end Go.Proofs.YtdmjkjeoamiedaaGreatDoor
end
section
namespace Go.Proofs.YtdmjkjeoamiedaaGreatDoor
open Go
def SpecD (P : Program) (f : FuncId) (args : Array Value) (L : List HP) (R : List HP → Value → List HP → Prop) : Prop :=
  ∀ B F w u, Sat B w (L ++ F) → CallsD P f args u w fun e u' w' => u' = u ∧ Post B F R e w'
theorem env0_start {vas : List Value} {fn : Func} (hn : Nat.ble vas.length fn.ntmps = true) : Ag ⟨fn.ntmps, []⟩ (env0 0 vas) { tmps := vas.toArray ++ Array.replicate (fn.ntmps - vas.toArray.size) undef, defers := [] } := by
  refine ⟨rfl, ?_, ?_⟩
  · have := Nat.le_of_ble_eq_true hn
    simp; omega
  · intro t v hv
    have := env0_look vas 0 t v hv
    simp only [Nat.sub_zero] at this
    have ht : t < vas.length := (List.getElem?_eq_some_iff.1 this.2).1
    rw [Array.getD_eq_getD_getElem?, Array.getElem?_append_left (by simpa using ht)]
    simp [this.2]
theorem SpecD.intro {P : Program} {f : FuncId} {fn : Func} {c : Code} {vas : List Value} {pre : List HP} {R : List HP → Value → List HP → Prop}
    (hf : P.funcs[f]? = some fn) (hb : fn.body = some c) (hn : Nat.ble vas.length fn.ntmps = true)
    (h : ∀ B F, WC P B ⟨fn.ntmps, []⟩ c (bodyPost P fn (Post B F R)) (env0 0 vas) (pre ++ F)) : SpecD P f vas.toArray pre R :=
  fun B F w u hs => callsD_of_wp hf hb (h B F _ w (env0_start hn) hs)
theorem Spec.introD {P : Program} {f : FuncId} {fn : Func} {c : Code} {vas : List Value} {pre : List HP} {R : List HP → Value → List HP → Prop}
    (hf : P.funcs[f]? = some fn) (hb : fn.body = some c) (hn : Nat.ble vas.length fn.ntmps = true)
    (h : ∀ B F, WC P B ⟨fn.ntmps, []⟩ c (bodyPostD P fn (Post B F R)) (env0 0 vas) (pre ++ F)) : Spec P f vas.toArray pre R :=
  fun B F w hs => calls_of_wp_defers hf hb (h B F _ w (env0_start hn) hs)
theorem Spec.bound {P : Program} {f : FuncId} {us : Array Value} {L : List HP} {R : List HP → Value → List HP → Prop} (h : Spec P f us L R) : Spec P f (us ++ ([] : List Value).toArray ++ #[]) L R := by simpa using h
theorem Spec.capt {P : Program} {f : FuncId} {cs : Array Value} {L : List HP} {R : List HP → Value → List HP → Prop} (h : Spec P f cs L R) : Spec P f ((#[] : Array Value) ++ ([] : List Value).toArray ++ cs) L R := by simpa using h
section
variable {P : Program} {B : Base} {n : Fr} {Q Q' : Exit → Act → World → Prop} {e : Env} {L : List HP} {ops : Array Oper} {l : List Oper}
variable {d : Nat} {ty : TypeId} {pos : String} {af : Array Edge} {x y z : Operand} {gd : Option (Nat × Bool)}
theorem WL.defer {f : FuncId} {xs : List Operand} {vs : List Value} {tys : Array TypeId} (h : WL P B ⟨n.k, { target := .fn (.func f) #[], args := vs.toArray } :: n.ds⟩ ops l Q e L) (hx : evos e xs = some vs := by rfl) :
    WL P B n ops (⟨none, .defer ⟨.value (.func f), xs.toArray, tys⟩, ty, pos, af, none⟩ :: l) Q e L := by
  intro a w ha hs
  refine wpList_plain rfl fun K hK => ?_
  have hargs : xs.map a.eval = vs := evos_eval ha hx
  have hrun : (execOp a.eval ⟨none, .defer ⟨.value (.func f), xs.toArray, tys⟩, ty, pos, af, none⟩).run P w = .ok (.defer { target := .fn (.func f) #[], args := vs.toArray }) w := by
    simp [execOp, resolve, Deferred.ofValue, Act.eval, hargs]
  unfold Oper.wp
  rw [hrun]
  refine hK _ _ (h _ w ⟨?_, ha.size, ha.get⟩ hs)
  show _ :: a.defers = _
  rw [ha.defers]
variable {fn : Func} {F : List HP} {R : List HP → Value → List HP → Prop}
theorem WQ.retD1 {g t : Nat} {dargs : Array Value} {v : Value} {pre Lr : List HP} {R' : List HP → Value → List HP → Prop} {xt : Exit} (hc : ∀ args w, (callFunc g args).run P w = .ok (.enter g args) w) (sp : SpecD P g dargs pre R')
    (h : ∀ v' M', R' Lr v' M' → ∃ M, R F v M ∧ Am M' M) (hD : n.ds = [{ target := .fn (.func g) #[], args := dargs }] := by rfl) (hres : fn.results = #[.tmp t] := by rfl) (hl : look e t = some v := by rfl)
    (tk : Tk L pre Lr := by repeat (first | exact .nil | (apply Tk.cons; focus ((repeat (first | exact .here | apply Rem.there)); done)))) (hx : (xt = .ret ∨ xt = .normal) := by first | exact .inl rfl | exact .inr rfl) : WQ B n (bodyPostD P fn (Post B F R)) xt e L := by
  intro a w ha hs
  have key : Leaves P fn a.tmps (Post B F R) a.defers .returning w := by
    rw [ha.defers, hD]
    refine leaves_cons (by simp) (f := g) (args := dargs) (by simp [invoke, hc]) ?_
    refine (sp B Lr w .returning (hs.take tk)).mono ?_
    rintro e' u' w' ⟨rfl, v', M', rfl, hR', hs'⟩
    obtain ⟨M, hR, hM⟩ := h v' M' hR'
    refine ⟨v, ?_, v, M, rfl, hR, hM.wk B w' hs'⟩
    simp [results_eq, hres, resM, ha.get _ _ hl]
  rcases hx with rfl | rfl <;> exact key
end
section
variable {P : Program} {B : Base} {n : Fr} {Q Q' : Exit → Act → World → Prop} {e : Env} {L : List HP} {ops : Array Oper} {l : List Oper}
variable {d : Nat} {ty : TypeId} {pos : String} {af : Array Edge} {x y z : Operand} {gd : Option (Nat × Bool)}
theorem WQ.openR {A : HP} {M : List HP} {α : Type} {p : α → Prop} {Ls : α → List HP} {xt : Exit} (hA : Opens A p Ls) (h : ∀ x, p x → WQ B n Q xt e (Ls x ++ M)) (r : Rem L A M := by repeat (first | exact .here | apply Rem.there)) : WQ B n Q xt e L := by
  intro a w ha hs
  obtain ⟨x, hp, hs⟩ := (hs.front r).opens hA
  exact h x hp a w ha hs
theorem Qt.negw {k : IntKind} {p : Int} {t : TypeId} (hx : evo e x = some (.int k p) := by rfl) :
    Qt P B n e L ⟨some d, .unOp .neg t x, ty, pos, af, gd⟩ (.int k (k.wrap (0 - p))) :=
  fun a w ha hs => by simp [execOp, ha.eval hx, Op.unary, Op.intArith]
theorem WL.negw {k : IntKind} {p : Int} {t : TypeId} (h : WL P B n ops l Q ((d, .int k (k.wrap (0 - p))) :: e) L) (hx : evo e x = some (.int k p) := by rfl) (hd : Nat.ble (d + 1) n.k = true := by rfl) :
    WL P B n ops (⟨some d, .unOp .neg t x, ty, pos, af, none⟩ :: l) Q e L := WL.pure h hd (Qt.negw (hx := hx))
def icomp (k : IntKind) (p : Int) : Int := bxor k (if k.signed then -1 else k.max) p
theorem Qt.comp {k : IntKind} {p : Int} {t : TypeId} (hx : evo e x = some (.int k p) := by rfl) :
    Qt P B n e L ⟨some d, .unOp .xor t x, ty, pos, af, gd⟩ (.int k (icomp k p)) :=
  fun a w ha hs => by
    cases h : k.signed <;> simp [execOp, ha.eval hx, Op.unary, Op.intBits, icomp, bxor, h]
theorem WL.comp {k : IntKind} {p : Int} {t : TypeId} (h : WL P B n ops l Q ((d, .int k (icomp k p)) :: e) L) (hx : evo e x = some (.int k p) := by rfl) (hd : Nat.ble (d + 1) n.k = true := by rfl) :
    WL P B n ops (⟨some d, .unOp .xor t x, ty, pos, af, none⟩ :: l) Q e L := WL.pure h hd (Qt.comp (hx := hx))
theorem WL.subT {t : Nat} {p : Int} (xs : Bytes) (h : WL P B n ops l Q ((d, sv (xs.drop p.toNat)) :: e) L) (ht : strOk P t = true) (hx : evo e x = some (sv xs) := by rfl) (hy : evo e y = some (.int .i64 p) := by rfl) (hp : 0 ≤ p ∧ p ≤ xs.length := by omega) (hd : Nat.ble (d + 1) n.k = true := by rfl) :
    WL P B n ops (⟨some d, .slice t x (some y) none none, ty, pos, af, none⟩ :: l) Q e L := WL.pure h hd (Qt.subT xs ht hx hy hp)
theorem Qt.subTH {t : Nat} {p : Int} (xs : Bytes) (ht : strOk P t = true) (hx : evo e x = some (sv xs) := by rfl) (hy : evo e y = some (.int .i64 p) := by rfl) (hp : 0 ≤ p ∧ p ≤ xs.length := by omega) :
    Qt P B n e L ⟨some d, .slice t x none (some y) none, ty, pos, af, gd⟩ (sv (xs.take p.toNat)) :=
  fun a w ha hs => by
    have h1 : 0 ≤ p ∧ p ≤ ((bstr xs).size : Int) := by rw [bstr_size]; exact hp
    have h2 : (bstr xs).extract 0 p.toNat = bstr (xs.take p.toNat) := by
      apply ByteArray.ext
      simp [bstr]
    have : (Instr.sliceAt t (sv xs) none (some (.int .i64 p)) none).run P w = .ok (sv (xs.take p.toNat)) w := by
      rw [sv_bstr, sv_bstr, ← h2]
      simp [Instr.sliceAt, Instr.slice, run_underlying (str_of ht), Instr.sliceBounds, Instr.sliceBound, asIntOf, h1]
    simp [execOp, ha.eval hx, ha.eval hy, this]
theorem WL.subTH {t : Nat} {p : Int} (xs : Bytes) (h : WL P B n ops l Q ((d, sv (xs.take p.toNat)) :: e) L) (ht : strOk P t = true) (hx : evo e x = some (sv xs) := by rfl) (hy : evo e y = some (.int .i64 p) := by rfl) (hp : 0 ≤ p ∧ p ≤ xs.length := by omega) (hd : Nat.ble (d + 1) n.k = true := by rfl) :
    WL P B n ops (⟨some d, .slice t x none (some y) none, ty, pos, af, none⟩ :: l) Q e L := WL.pure h hd (Qt.subTH xs ht hx hy hp)
end
theorem ba_beq (a c : Bytes) : ((⟨a.toArray⟩ : ByteArray) == ⟨c.toArray⟩) = decide (a = c) := by
  show (a.toArray == c.toArray) = _
  by_cases h : a = c <;> simp [h]
abbrev XV := Int ⊕ Bytes
def XV.v : XV → Value
  | .inl n => .int .i64 n
  | .inr s => sv s
def XV.k : XV → Bool
  | .inl _ => true
  | .inr _ => false
def xvs (xs : List XV) : List Value := xs.map XV.v
def mixT (P : Program) (t : Nat) (b : Bool) : Bool := if b then intAny P t else strOk P t
def fieldsMix (P : Program) : List Field → List Bool → Nat → Bool
  | [], [], _ => true
  | f :: fs, b :: bs, i => (f.name != "_") && Nat.beq f.offset i && mixT P f.type b && fieldsMix P fs bs (i + 1)
  | _, _, _ => false
def mixOk (P : Program) (t : Nat) (pat : List Bool) : Bool :=
  match P.underlying t with
  | some (.struct fs) => fieldsMix P fs.toList pat 0 && !P.stoodInHeld t && !P.eqGuardType P.depth t
  | _ => false
theorem mix_of {P : Program} {t : Nat} {pat : List Bool} (h : mixOk P t pat = true) : P.underlying t = some (.struct (P.fieldsOf t)) ∧ fieldsMix P (P.fieldsOf t).toList pat 0 = true ∧ P.stoodInHeld t = false ∧ P.eqGuardType P.depth t = false := by
  unfold mixOk at h
  split at h
  · rename_i fs hu
    simp only [Bool.and_eq_true] at h
    obtain ⟨⟨h2, h3⟩, h4⟩ := h
    have : P.fieldsOf t = fs := by simp [Program.fieldsOf, hu]
    rw [this]
    exact ⟨hu, h2, by simpa using h3, by simpa using h4⟩
  · cases h
section
variable {P : Program}
theorem run_part_mix {t : Nat} {b : Bool} (h : mixT P t b = true) {cs : Array Value} {i : Nat} {v : Value} (hv : cs[i]? = some v) (w : World) : (part t cs i).run P w = .ok v w := by
  cases b
  · have hk := str_of (P := P) (t := t) h
    simp [part, isAgg, run_underlying hk, hv]
  · exact run_part_int h hv w
theorem run_equal_mix {t : Nat} {b : Bool} (h : mixT P t b = true) (d : Nat) {x y : XV} (hx : x.k = b) (hy : y.k = b) (w : World) : (Op.equalIn (d + 1) t x.v y.v).run P w = .ok (decide (x = y)) w := by
  cases x with
  | inl a =>
    cases y with
    | inl c =>
      subst hx
      obtain ⟨k, hk⟩ := int_any h
      have := run_equalIn_int (P := P) w d t .i64 k a c hk
      show (Op.equalIn (d + 1) t (.int .i64 a) (.int .i64 c)).run P w = _
      rw [this]
      congr 1
      by_cases hac : a = c <;> simp [hac]
    | inr c => subst hx; cases hy
  | inr a =>
    cases y with
    | inl c => subst hx; cases hy
    | inr c =>
      subst hx
      have hk := str_of (P := P) (t := t) h
      have : (Op.equalIn (d + 1) t (sv a) (sv c)).run P w = .ok (decide (a = c)) w := by
        rw [← ba_beq]
        simp [Op.equalIn, run_underlying hk, sv]
      show (Op.equalIn (d + 1) t (sv a) (sv c)).run P w = _
      rw [this]
      congr 1
      by_cases hac : a = c <;> simp [hac]
theorem xvs_at {xs : List XV} {i : Nat} (h : i < xs.length) : (xvs xs).toArray[i]? = some xs[i].v := by simp [xvs, h]
theorem run_eqFieldsMix (d : Nat) (xs ys : List XV) : ∀ (fs : List Field) (pat : List Bool) (i : Nat), fieldsMix P fs pat i = true → (xs.drop i).map XV.k = pat → (ys.drop i).map XV.k = pat → ∀ w,
    (Op.eqFields (d + 1) (xvs xs).toArray (xvs ys).toArray fs).run P w = .ok (decide (xs.drop i = ys.drop i)) w
  | [], [], i, _, hx, hy, w => by
    have h1 : xs.drop i = [] := by simpa using hx
    have h2 : ys.drop i = [] := by simpa using hy
    simp [Op.eqFields, h1, h2]
  | f :: fs, b :: bs, i, hf, hx, hy, w => by
    simp only [fieldsMix, Bool.and_eq_true] at hf
    obtain ⟨⟨⟨h1, h2⟩, h3⟩, h4⟩ := hf
    have h2 := Nat.eq_of_beq_eq_true h2
    have hn : f.name ≠ "_" := by simpa using h1
    have hxl : i < xs.length := by
      have := congrArg List.length hx
      simp at this; omega
    have hyl : i < ys.length := by
      have := congrArg List.length hy
      simp at this; omega
    rw [List.drop_eq_getElem_cons hxl, List.map_cons, List.cons.injEq] at hx
    rw [List.drop_eq_getElem_cons hyl, List.map_cons, List.cons.injEq] at hy
    have px := run_part_mix (P := P) h3 (xvs_at hxl) w
    have py := run_part_mix (P := P) h3 (xvs_at hyl) w
    have pe := run_equal_mix (P := P) h3 d hx.1 hy.1 w
    have ih := run_eqFieldsMix d xs ys fs bs (i + 1) h4 hx.2 hy.2 w
    have hdec : decide (xs.drop i = ys.drop i) = (decide (xs[i] = ys[i]) && decide (xs.drop (i + 1) = ys.drop (i + 1))) := by
      rw [Bool.eq_iff_iff]
      rw [List.drop_eq_getElem_cons hxl, List.drop_eq_getElem_cons hyl, decide_eq_true_iff, Bool.and_eq_true, decide_eq_true_iff, decide_eq_true_iff, List.cons.injEq]
    rw [hdec]
    simp only [Op.eqFields, hn, ne_eq, not_false_eq_true, if_true, h2, Sem.run_bind, px, py, pe, Result.andThen_ok]
    by_cases hxy : xs[i] = ys[i]
    · simp [hxy, ih]
    · simp [hxy]
theorem run_equalMix {t : Nat} {pat : List Bool} (h : mixOk P t pat = true) (d : Nat) {xs ys : List XV} (hx : xs.map XV.k = pat) (hy : ys.map XV.k = pat) (w : World) :
    (Op.equalIn (d + 2) t (.agg (xvs xs).toArray) (.agg (xvs ys).toArray)).run P w = .ok (decide (xs = ys)) w := by
  obtain ⟨h1, h3, h4, h5⟩ := mix_of h
  have := run_eqFieldsMix (P := P) d xs ys _ pat 0 h3 (by simpa using hx) (by simpa using hy) w
  rw [run_equalIn_struct w (d + 1) t _ _ h1 h4, this]
  simp
theorem run_checkMixF (emp : Bool) (m : Nat) (xs : List XV) (w : World) : ∀ (fs : List Field) (pat : List Bool) (i : Nat), fieldsMix P fs pat i = true → (xs.drop i).map XV.k = pat →
    (forIn (m := Sem) fs PUnit.unit (fun f _ => do
      if f.name ≠ "_" then Instr.checkKey emp (m + 1) f.type (← part f.type (xvs xs).toArray f.offset)
      pure (ForInStep.yield PUnit.unit))).run P w = .ok PUnit.unit w
  | [], _, i, _, _ => by simp
  | f :: fs, b :: bs, i, hf, hx => by
    simp only [fieldsMix, Bool.and_eq_true] at hf
    obtain ⟨⟨⟨h1, h2⟩, h3⟩, h4⟩ := hf
    have h2 := Nat.eq_of_beq_eq_true h2
    have hn : f.name ≠ "_" := by simpa using h1
    have hxl : i < xs.length := by
      have := congrArg List.length hx
      simp at this; omega
    rw [List.drop_eq_getElem_cons hxl, List.map_cons, List.cons.injEq] at hx
    have px := run_part_mix (P := P) h3 (xvs_at hxl) w
    have pc : (Instr.checkKey emp (m + 1) f.type xs[i].v).run P w = .ok () w := by
      obtain ⟨hx1, _⟩ := hx
      cases hv : xs[i] with
      | inl a =>
        rw [hv] at hx1
        subst hx1
        obtain ⟨k, hk⟩ := int_any h3
        exact checkKey_int hk emp m .i64 a w
      | inr a =>
        rw [hv] at hx1
        subst hx1
        have hk := str_of (P := P) (t := f.type) h3
        simp [Instr.checkKey, run_underlying hk, XV.v]
    have ih := run_checkMixF emp m xs w fs bs (i + 1) h4 hx.2
    simp only [List.forIn_cons, hn, ne_eq, not_false_eq_true, if_true, h2, Sem.run_bind, px, Result.andThen_ok, pc, Sem.run_pure]
    exact ih
theorem run_checkMix {t : Nat} {pat : List Bool} (h : mixOk P t pat = true) (emp : Bool) (m : Nat) {xs : List XV} (hx : xs.map XV.k = pat) (w : World) : (Instr.checkKey emp (m + 2) t (.agg (xvs xs).toArray)).run P w = .ok () w := by
  obtain ⟨h1, h3, h4, h5⟩ := mix_of h
  have := run_checkMixF (P := P) emp m xs w (P.fieldsOf t).toList pat 0 h3 (by simpa using hx)
  rw [Instr.checkKey]
  simp only [Sem.run_bind, run_underlying h1, Result.andThen_ok]
  rw [← Array.forIn_toList]
  rw [show (forIn (P.fieldsOf t).toList PUnit.unit (fun f (_ : PUnit) => (if f.name ≠ "_" then do
      Instr.checkKey emp (m + 1) f.type (← part f.type (xvs xs).toArray f.offset)
      Pure.pure (ForInStep.yield PUnit.unit) else Pure.pure (ForInStep.yield PUnit.unit) : Sem (ForInStep PUnit)))).run P w = .ok PUnit.unit w from this]
  rfl
theorem sameBits_mix (n : Nat) (xs : List XV) : Instr.sameBits (n + 1) (.agg (xvs xs).toArray) (.agg (xvs xs).toArray) = true := by
  simp only [Instr.sameBits, beq_self_eq_true, Bool.true_and, List.all_eq_true]
  intro p hp
  have : ∀ (l : List Value), p ∈ l.zip l → p.1 = p.2 ∧ p.1 ∈ l := by
    intro l
    induction l with
    | nil => intro h; cases h
    | cons a l ih =>
      intro h
      simp only [List.zip_cons_cons, List.mem_cons] at h
      rcases h with rfl | h
      · simp
      · have := ih h
        exact ⟨this.1, List.mem_cons_of_mem _ this.2⟩
  obtain ⟨h1, h2⟩ := this _ hp
  simp only [List.toList_toArray, xvs, List.mem_map] at h2
  obtain ⟨a, _, ha⟩ := h2
  obtain ⟨x, y⟩ := p
  simp only at h1 ha ⊢
  subst h1
  rw [← ha]
  cases a with
  | inl a => exact sameBits_int _ _ _
  | inr a => cases n <;> simp [XV.v, sv, Instr.sameBits, ba_beq]
theorem mixKeys {κ : Type} [DecidableEq κ] (f : κ → List XV) {kt : Nat} (pat : List Bool) (h : mixOk P kt pat = true) (hf : ∀ k, (f k).map XV.k = pat) (inj : ∀ a b, f a = f b → a = b) : KeyLaw P kt (fun k => Value.agg (xvs (f k)).toArray) where
  check emp k w := run_checkMix h emp 9998 (hf k) w
  find k ks es w hk := by
    obtain ⟨h1, h3, h4, h5⟩ := mix_of h
    have hask : ∀ (ks : List κ) (es : List MapEntry) (i : Nat) (w : World), es.map (·.key) = ks.map (fun k => Value.agg (xvs (f k)).toArray) →
        (Instr.findAsking kt (Value.agg (xvs (f k)).toArray) es i).run P w = .ok (findPure k ks es i) w := by
      intro ks
      induction ks with
      | nil =>
        intro es i w h
        have : es = [] := by simpa using h
        subst this
        simp [Instr.findAsking, findPure]
      | cons k' ks ih =>
        intro es i w h'
        cases es with
        | nil => simp at h'
        | cons e es =>
          simp only [List.map_cons, List.cons.injEq] at h'
          have he : (Op.equal kt (Value.agg (xvs (f k)).toArray) e.key).run P w = .ok (decide (f k = f k')) w := by
            rw [h'.1]
            exact run_equalMix h 9998 (hf k) (hf k') w
          simp only [Instr.findAsking, Sem.run_bind, he, Result.andThen_ok, findPure]
          by_cases hkk : k = k'
          · subst hkk; simp
          · have : ¬ f k = f k' := fun e => hkk (inj _ _ e)
            simp only [this, decide_false, Bool.false_eq_true, if_false, hkk]
            exact ih es (i + 1) w h'.2
    cases es with
    | nil =>
      cases ks with
      | nil => simp [Instr.findKey, run_underlying h1, Instr.findNow, findPure]
      | cons k' ks => simp at hk
    | cons e es =>
      have hnow : Instr.findNow (.struct (P.fieldsOf kt)) (Value.agg (xvs (f k)).toArray) (e :: es) 0 = none := by
        simp [Instr.findNow, Instr.sameNow]
      simp only [Instr.findKey, Sem.run_bind, run_underlying h1, Result.andThen_ok, hnow]
      exact hask ks (e :: es) 0 w hk
  stays k := sameBits_mix _ _
end
end Go.Proofs.YtdmjkjeoamiedaaGreatDoor
end
section
namespace Go.Proofs.YtdmjkjeoamiedaaGreatDoor
open Go
theorem so92 : sliceOk Tryz.prog 92 9 1 16 = true := by kernel_rfl
theorem sc9 : scalarOk Tryz.prog 9 = true := by kernel_rfl
theorem z9 : zeroOf Tryz.prog 9 = some (#[.string ⟨#[]⟩]) := by kernel_rfl
theorem sl92 : Tryz.prog.underlying 92 = some (.slice 9) := by kernel_rfl
theorem countX (xs : Bytes) (c : Int) (w : World) : (callFunc 328 #[sv xs, .int .u8 c]).run Tryz.prog w = .ok (.value (.int .i64 (Lib.countByte xs c.toNat.toUInt8))) w := by
  rw [run_callFunc_extern Tryz.func328 (by kernel_rfl) (by kernel_rfl) (by kernel_rfl) (e := Extern.BytealgCount.count) (by kernel_rfl), sv_bstr, Lib.run_countString]
  rfl
theorem splitSl_len (xs : Bytes) : (splitSl xs).length = Lib.countByte xs 47 + 1 := by
  unfold Lib.countByte
  induction xs with
  | nil => rfl
  | cons x xs ih =>
    unfold splitSl
    by_cases h : x = 47
    · subst h
      rw [if_pos rfl, List.length_cons, ih, List.count_cons_self]
    · rw [if_neg h, List.count_cons_of_ne (by simpa using h)]
      cases hs : splitSl xs with
      | nil => exact absurd hs (splitSl_ne xs)
      | cons y ys => rw [hs] at ih; simpa using ih
theorem splitSl_none {xs : Bytes} (h : ∀ k : Nat, xs[k]? ≠ some 47) : splitSl xs = [xs] := by
  induction xs with
  | nil => rfl
  | cons x xs ih =>
    have hx : x ≠ 47 := fun hx => h 0 (by rw [hx]; rfl)
    have ih := ih (fun k => by have := h (k + 1); simpa using this)
    unfold splitSl
    rw [if_neg hx, ih]
theorem splitSl_step {xs : Bytes} : ∀ {m : Nat}, xs[m]? = some 47 → (∀ k : Nat, k < m → xs[k]? ≠ some 47) → splitSl xs = xs.take m :: splitSl (xs.drop (m + 1)) := by
  induction xs with
  | nil => intro m h; simp at h
  | cons x xs ih =>
    intro m h hb
    cases m with
    | zero =>
      have hx : x = 47 := by simpa using h
      rw [splitSl, if_pos hx]; rfl
    | succ m =>
      have hx : x ≠ 47 := fun hx => hb 0 (by omega) (by rw [hx]; rfl)
      have ih := ih (m := m) (by simpa using h) (fun k hk => by have := hb (k + 1) (by omega); simpa using this)
      rw [splitSl, if_neg hx, ih]
      rfl
theorem hasPre {xs ps : Bytes} : Spec Tryz.prog 248 #[sv xs, sv ps] [] fun F v M => v = .bool (decide (xs.take ps.length = ps)) ∧ M = F := by
  refine Spec.intro Tryz.func248 rfl rfl fun B F => ?_
  simp only [Tryz.ntmps248, List.cons_append, List.nil_append, env0, Nat.reduceAdd]
  by_cases hl : ps.length ≤ xs.length
  · refine .sr (.assign (.x (.move ?_)))
    refine .lenT _ ?_ st9
    refine .move ?_
    refine .lenT _ ?_ st9
    refine .geq ?_
    refine .cast (d := 9) (u := .bool true) rfl (congrArg Value.bool (by simp only [ge_iff_le, decide_eq_true_eq]; omega)) ?_
    refine .move ?_
    refine .gT ?_
    refine .move ?_
    refine .gT ?_
    refine .move ?_
    refine .gT ?_
    refine .lenT _ ?_ st9
    refine .gT ?_
    refine .subTH xs ?_ st9
    refine .gT ?_
    refine .move ?_
    refine .gT ?_
    refine .eqS (xs.take ps.length) ps ?_
    refine .pickT ?_
    refine .assign (.z ?_)
    refine .ret (?_)
    exact .ret1 (h1 := .tmp (t := 4) rfl) ⟨_, ⟨rfl, rfl⟩, Am.auto⟩
  · refine .sr (.assign (.x (.move ?_)))
    refine .lenT _ ?_ st9
    refine .move ?_
    refine .lenT _ ?_ st9
    refine .geq ?_
    refine .cast (d := 9) (u := .bool false) rfl (congrArg Value.bool (by simp only [ge_iff_le, decide_eq_false_iff_not]; omega)) ?_
    refine .move ?_
    refine .gF ?_
    refine .gF ?_
    refine .gF ?_
    refine .gF ?_
    refine .gF ?_
    refine .gF ?_
    refine .pickF ?_
    refine .assign (.z ?_)
    refine .ret (?_)
    have hne : ¬ xs.take ps.length = ps := fun h => by have := congrArg List.length h; rw [List.length_take] at this; omega
    exact .ret1 (h1 := .tmp (t := 4) rfl) ⟨_, ⟨congrArg Value.bool (decide_eq_false hne).symm, rfl⟩, Am.auto⟩
theorem cutPreL {xs ps : Bytes} : Spec Tryz.prog 274 #[sv xs, sv ps] [] fun F v M => v = .tuple #[sv (if xs.take ps.length = ps then xs.drop ps.length else xs), .bool (decide (xs.take ps.length = ps))] ∧ M = F := by
  refine Spec.intro Tryz.func274 rfl rfl fun B F => ?_
  simp only [Tryz.ntmps274, List.cons_append, List.nil_append, env0, Nat.reduceAdd]
  by_cases hp : xs.take ps.length = ps
  · have hl : ps.length ≤ xs.length := by have := congrArg List.length hp; rw [List.length_take] at this; omega
    refine .sr (.assign (.assign (.z (.seq (.sr (.move (.move ?_)))))))
    refine .call (hc := Tryz.call248) (sp := hasPre) (h := ?_)
    rintro _ _ ⟨rfl, rfl⟩
    refine .cast (d := 8) (u := .bool true) rfl (congrArg Value.bool (decide_eq_true hp)) ?_
    refine .not ?_
    refine .z ?_
    refine .condF rfl rfl ?_
    refine .skip (.next (.sr (.move (.move ?_))))
    refine .lenT _ ?_ st9
    refine .subT xs ?_ st9
    refine .assign (.assign (.z ?_))
    refine .ret (?_)
    exact .ret2 (h1 := .tmp (t := 4) rfl) (h2 := .tmp (t := 5) rfl) ⟨_, ⟨by rw [if_pos hp, decide_eq_true hp]; rfl, rfl⟩, Am.auto⟩
  · refine .sr (.assign (.assign (.z (.seq (.sr (.move (.move ?_)))))))
    refine .call (hc := Tryz.call248) (sp := hasPre) (h := ?_)
    rintro _ _ ⟨rfl, rfl⟩
    refine .cast (d := 8) (u := .bool false) rfl (congrArg Value.bool (decide_eq_false hp)) ?_
    refine .not ?_
    refine .z ?_
    refine .condT rfl rfl ?_
    refine .sr (.move (.assign (.assign (.z ?_))))
    refine .ret (.thenRet (?_))
    exact .ret2 (h1 := .tmp (t := 4) rfl) (h2 := .tmp (t := 5) rfl) ⟨_, ⟨by rw [if_neg hp, decide_eq_false hp], rfl⟩, Am.auto⟩
theorem cutPre {xs ps : Bytes} : Spec Tryz.prog 232 #[sv xs, sv ps] [] fun F v M => v = .tuple #[sv (if xs.take ps.length = ps then xs.drop ps.length else xs), .bool (decide (xs.take ps.length = ps))] ∧ M = F := by
  refine Spec.intro Tryz.func232 rfl rfl fun B F => ?_
  simp only [Tryz.ntmps232, List.cons_append, List.nil_append, env0, Nat.reduceAdd]
  refine .sr (.assign (.assign (.x (.move (.move ?_)))))
  refine .call (hc := Tryz.call274) (sp := cutPreL) (h := ?_)
  rintro _ _ ⟨rfl, rfl⟩
  refine .extract ?_
  refine .extract ?_
  refine .assign (.assign (.z ?_))
  refine .ret (?_)
  exact .ret2 (h1 := .tmp (t := 4) rfl) (h2 := .tmp (t := 5) rfl) ⟨_, ⟨rfl, rfl⟩, Am.auto⟩
theorem countSl {xs : Bytes} : Spec Tryz.prog 305 #[sv xs, sv [47]] [] fun F v M => v = .int .i64 ((Lib.countByte xs 47 : Nat) : Int) ∧ M = F := by
  refine Spec.intro Tryz.func305 rfl rfl fun B F => ?_
  simp only [Tryz.ntmps305, List.cons_append, List.nil_append, env0, Nat.reduceAdd]
  refine .sr (.assign (.z (.seq (.sr (.move ?_)))))
  refine .lenT _ ?_ st9
  refine .eqi ?_
  refine .z ?_
  refine .condF rfl rfl ?_
  refine .skip (.next (.seq (.sr (.move ?_))))
  refine .lenT _ ?_ st9
  refine .eqi ?_
  refine .z ?_
  refine .condT rfl rfl ?_
  refine .sr (.move (.move ?_))
  refine .ixT (p := 0) (v := 47) [47] ?_ st9 rfl
  refine .callX (hc := countX xs ((47 : UInt8).toNat : Int)) (h := ?_)
  refine .assign (.z ?_)
  refine .ret (.thenRet (?_))
  exact .ret1 (h1 := .tmp (t := 4) rfl) ⟨_, ⟨rfl, rfl⟩, Am.auto⟩
theorem indexSlL {xs : Bytes} : Spec Tryz.prog 329 #[sv xs, sv [47]] [] fun F v M => v = .int .i64 (Lib.indexByte xs 47) ∧ M = F := by
  refine Spec.intro Tryz.func329 rfl rfl fun B F => ?_
  simp only [Tryz.ntmps329, List.cons_append, List.nil_append, env0, Nat.reduceAdd]
  by_cases hx : [47] = xs
  · refine .sr (.assign (.x (.move ?_)))
    refine .lenT _ ?_ st9
    refine .assign (.z (.seq (.block (.sr (.move ?_)))))
    refine .eqi ?_
    refine .move ?_
    refine .gT ?_
    refine .move ?_
    refine .gT ?_
    refine .move ?_
    refine .gT ?_
    refine .eqS [47] xs ?_
    refine .cast (d := 22) (u := .bool true) rfl (congrArg Value.bool (decide_eq_true hx)) ?_
    refine .pickF ?_
    refine .assign (.z ?_)
    refine .condT rfl rfl ?_
    refine .sr (.assign (.z ?_))
    refine .ret (.blockRet (.thenRet (?_)))
    subst hx
    exact .ret1 (h1 := .tmp (t := 4) rfl) ⟨_, ⟨rfl, rfl⟩, Am.auto⟩
  · refine .sr (.assign (.x (.move ?_)))
    refine .lenT _ ?_ st9
    refine .assign (.z (.seq (.block (.sr (.move ?_)))))
    refine .eqi ?_
    refine .move ?_
    refine .gT ?_
    refine .move ?_
    refine .gT ?_
    refine .move ?_
    refine .gT ?_
    refine .eqS [47] xs ?_
    refine .cast (d := 22) (u := .bool false) rfl (congrArg Value.bool (decide_eq_false hx)) ?_
    refine .pickF ?_
    refine .assign (.z ?_)
    refine .condF rfl rfl ?_
    refine .sr (.move ?_)
    refine .eqi ?_
    refine .assign (.z ?_)
    refine .condT rfl rfl ?_
    refine .sr (.move (.move ?_))
    refine .ixT (p := 0) (v := 47) [47] ?_ st9 rfl
    refine .call (hc := Tryz.call340) (sp := idxByteL (xs := xs) (c := ((47 : UInt8).toNat : Int))) (h := ?_)
    rintro _ _ ⟨rfl, rfl⟩
    refine .assign (.z ?_)
    refine .ret (.blockRet (.thenRet (?_)))
    exact .ret1 (h1 := .tmp (t := 4) rfl) ⟨_, ⟨rfl, rfl⟩, Am.auto⟩
theorem indexSl {xs : Bytes} : Spec Tryz.prog 306 #[sv xs, sv [47]] [] fun F v M => v = .int .i64 (Lib.indexByte xs 47) ∧ M = F := by
  refine Spec.intro Tryz.func306 rfl rfl fun B F => ?_
  simp only [Tryz.ntmps306, List.cons_append, List.nil_append, env0, Nat.reduceAdd]
  refine .sr (.assign (.x (.move (.move ?_))))
  refine .call (hc := Tryz.call329) (sp := indexSlL) (h := ?_)
  rintro _ _ ⟨rfl, rfl⟩
  refine .assign (.z ?_)
  refine .ret (?_)
  exact .ret1 (h1 := .tmp (t := 4) rfl) ⟨_, ⟨rfl, rfl⟩, Am.auto⟩
def svs (l : List Bytes) : List Value := l.map sv
theorem svs_length (l : List Bytes) : (svs l).length = l.length := List.length_map ..
theorem svs_get {l : List Bytes} {i : Nat} (h : i < l.length) : (svs l)[i]? = some (sv l[i]) := by simp [svs, h]
structure SpI (xs : Bytes) (i : Nat) (dn : List Bytes) (rest : Bytes) : Prop where
  len : dn.length = i
  all : splitSl xs = dn ++ splitSl rest
  le : rest.length ≤ xs.length
theorem svs_set (dn : List Bytes) (k : Nat) (x : Bytes) (hk : 0 < k) : (svs dn ++ List.replicate k (sv [])).set dn.length (sv x) = svs (dn ++ [x]) ++ List.replicate (k - 1) (sv []) := by
  obtain ⟨k, rfl⟩ : ∃ k', k = k' + 1 := ⟨k - 1, by omega⟩
  rw [List.set_append_right _ _ (by rw [svs_length]; exact Nat.le_refl _), svs_length, Nat.sub_self, List.replicate_succ]
  unfold svs
  rw [List.map_append, List.append_assoc]
  rfl
theorem genSplitSl {xs : Bytes} (hl : xs.length ≤ 1000000) : Spec Tryz.prog 275 #[sv xs, sv [47], .int .i64 0, .int .i64 (-1)] [] fun F v M => ∃ u, v = u ∧ M = rowR 9 1 u (splitSl xs).length (svs (splitSl xs)) :: F := by
  refine Spec.intro Tryz.func275 rfl rfl fun B F => ?_
  simp only [Tryz.ntmps275, List.cons_append, List.nil_append, env0, Nat.reduceAdd]
  obtain ⟨N, hN⟩ : ∃ N, (splitSl xs).length = N := ⟨_, rfl⟩
  have hcl := splitSl_len xs
  have hcx : Lib.countByte xs 47 ≤ xs.length := List.count_le_length
  refine .sr (.assign (.z (.seq (.sr (.move ?_)))))
  refine .eqi ?_
  refine .z ?_
  refine .condF rfl rfl ?_
  refine .skip (.next (.seq (.sr (.move ?_))))
  refine .eqS [47] [] ?_
  refine .cast (d := 15) (u := .bool false) rfl rfl ?_
  refine .z ?_
  refine .condF rfl rfl ?_
  refine .skip (.next (.seq (.sr (.move ?_))))
  refine .lss ?_
  refine .z ?_
  refine .condT rfl rfl ?_
  refine .region (.move (.move ?_))
  refine .call (hc := Tryz.call305) (sp := countSl) (h := ?_)
  rintro _ _ ⟨rfl, hM⟩
  obtain rfl := hM.symm
  refine .add ?_
  refine .cast (d := 24) (u := .int .i64 (N : Int)) rfl (congrArg (Value.int .i64) (by omega)) ?_
  refine .assign (.x (.move (.move ?_)))
  refine .lenT _ ?_ st9
  refine .add ?_
  refine .minI ?_
  refine .cast (d := 29) (u := .int .i64 (N : Int)) rfl (congrArg (Value.int .i64) (by split <;> omega)) ?_
  refine .assign (.x (.move ?_))
  refine .mkS (k := (N : Int)) z9 (fun b31 => ?_) so92 (by omega) (by omega) (by omega)
  refine .cast (d := 31) (u := .slice (some ⟨b31, 0, none⟩) N N) rfl (by rw [Int.toNat_natCast]) ?_
  refine .assign (.x (.move ?_))
  refine .sub ?_
  refine .assign (.x (.assign (.z (.seq (.block ?_)))))
  simp only [Int.toNat_natCast]
  refine .to (A := buf b31 9 N (List.replicate N (.string ⟨#[]⟩))) (A' := buf b31 9 N (svs [] ++ List.replicate (N - 0) (sv []))) (fun h hh => hh) ?_
  refine .loopA (σ := Nat × List Bytes × Bytes) (fun y => [(0, sv y.2.2), (1, sv [47]), (2, .int .i64 0), (3, .int .i64 ((N : Int) - 1)), (9, .slice (some ⟨b31, 0, none⟩) N N), (10, .int .i64 ((y.1 : Nat) : Int))]) (fun y => buf b31 9 N (svs y.2.1 ++ List.replicate (N - y.1) (sv [])) :: F) (fun y => SpI xs y.1 y.2.1 y.2.2 ∧ y.1 < N) (fun y => N - y.1) (0, [], xs) ⟨⟨rfl, rfl, Nat.le_refl _⟩, by show 0 < N; omega⟩ ?_
  rintro y hy
  obtain ⟨i, dn, rest⟩ := y
  obtain ⟨hy, hiN⟩ := hy
  simp only at hy hiN ⊢
  have hdl := hy.len
  refine .seq (.sr (.move (.move ?_)))
  refine .lss ?_
  refine .z ?_
  refine .cond rfl (fun hb => ?_) (fun hb => ?_)
  · have hlt : i + 1 < N := by have h : (i : Int) < (N : Int) - 1 := of_decide_eq_true hb; omega
    have h47l : ([47] : Bytes).length = 1 := rfl
    have hrl := splitSl_len rest
    have hal := congrArg List.length hy.all
    rw [List.length_append, hN, hrl, hdl] at hal
    have hge := Lib.indexByte_ge rest 47
    have hne : Lib.indexByte rest 47 ≠ -1 := fun h => by
      have h1 := Lib.indexByte_none h
      have h2 := splitSl_none h1
      rw [h2] at hrl
      simp only [List.length_cons, List.length_nil] at hrl
      omega
    obtain ⟨m, hm⟩ : ∃ m : Nat, Lib.indexByte rest 47 = (m : Int) := ⟨(Lib.indexByte rest 47).toNat, by omega⟩
    obtain ⟨h47, hbf⟩ := Lib.indexByte_some hm
    have hml : m < rest.length := by
      by_cases h : m < rest.length
      · exact h
      · rw [List.getElem?_eq_none (by omega)] at h47; cases h47
    have hst := splitSl_step h47 hbf
    have hle := hy.le
    refine .skip (.next (.block (.sr (.move (.move ?_)))))
    refine .call (hc := Tryz.call306) (sp := indexSl) (h := ?_)
    rintro _ _ ⟨rfl, rfl⟩
    rw [hm]
    refine .assign (.z (.seq (.sr (.move ?_))))
    refine .lss ?_
    refine .z ?_
    refine .condF rfl (congrArg Value.bool (by first | (simp; done) | (simp; omega) | omega)) ?_
    refine .skip (.next (.sr (.move (.move (.move (.move (.move ?_)))))))
    refine .add ?_
    refine .cast (d := 47) (u := .int .i64 (m : Int)) rfl (congrArg (Value.int .i64) (by omega)) ?_
    refine .subTH rest ?_ st9
    refine .idx1 ?_ so92
    refine .stB (i := 0 + ((i : Nat) : Int).toNat) (xs := svs dn ++ List.replicate (N - i) (sv [])) ?_ sc9 (by rw [List.length_append, svs_length, List.length_replicate]; omega)
    refine .to (A := buf b31 9 N ((svs dn ++ List.replicate (N - i) (sv [])).set (0 + ((i : Nat) : Int).toNat) (sv (rest.take ((m : Nat) : Int).toNat)))) (A' := buf b31 9 N (svs (dn ++ [rest.take m]) ++ List.replicate (N - (i + 1)) (sv []))) (fun h hh => by rw [show 0 + ((i : Nat) : Int).toNat = dn.length from by omega, Int.toNat_natCast, svs_set _ _ _ (by omega), show N - i - 1 = N - (i + 1) from by omega] at hh; exact hh) ?_
    refine .x (.move (.move (.move ?_)))
    refine .lenT _ ?_ st9
    refine .add ?_
    refine .subT rest ?_ st9
    refine .cast (d := 55) (u := sv (rest.drop (m + 1))) rfl (congrArg sv (congrArg (fun k => rest.drop k) (by show ((m : Int) + 1).toNat = m + 1; omega))) ?_
    refine .assign (.y (.move ?_))
    refine .add ?_
    refine .assign (.nil (.blockNormal ?_))
    refine .cast (d := 10) (u := .int .i64 ((i + 1 : Nat) : Int)) rfl (congrArg (Value.int .i64) (by omega)) ?_
    exact .back (i + 1, dn ++ [rest.take m], rest.drop (m + 1)) ⟨⟨by rw [List.length_append, hdl]; rfl, by rw [hy.all, hst, List.append_assoc]; rfl, by rw [List.length_drop]; omega⟩, by show i + 1 < N; omega⟩ (by show N - (i + 1) < N - i; omega)
  · have hge : ¬ i + 1 < N := by have h : ¬ (i : Int) < (N : Int) - 1 := of_decide_eq_false hb; omega
    have hal := congrArg List.length hy.all
    rw [List.length_append, hN, hdl] at hal
    have hone : splitSl rest = [rest] := by
      refine splitSl_none fun k hk => ?_
      have h1 := splitSl_len rest
      have h2 : 0 < Lib.countByte rest 47 := List.count_pos_iff.2 (List.mem_of_getElem? hk)
      omega
    refine .exit (.thenExit (.thenExit (.blockExit (?_))))
    refine .next (.sr (.move (.move (.move ?_))))
    refine .idx1 ?_ so92
    refine .stB (i := 0 + ((i : Nat) : Int).toNat) (xs := svs dn ++ List.replicate (N - i) (sv [])) ?_ sc9 (by rw [List.length_append, svs_length, List.length_replicate]; omega)
    refine .to (A := buf b31 9 N ((svs dn ++ List.replicate (N - i) (sv [])).set (0 + ((i : Nat) : Int).toNat) (sv rest))) (A' := rowR 9 1 (.slice (some ⟨b31, 0, none⟩) (splitSl xs).length N) (splitSl xs).length (svs (splitSl xs))) (fun h hh => by rw [show 0 + ((i : Nat) : Int).toNat = dn.length from by omega, svs_set _ _ _ (by omega), show N - i - 1 = 0 from by omega, List.replicate_zero, List.append_nil, ← hone, ← hy.all] at hh; have := rowR_of_buf (by unfold maxLen; omega) h hh; rwa [svs_length] at this) ?_
    refine .x (.move (.move ?_))
    refine .add ?_
    refine .slcH ?_ so92
    refine .cast (d := 65) (u := .slice (some ⟨b31, 0, none⟩) (splitSl xs).length N) rfl (by rw [show ((i : Int) + 1).toNat = (splitSl xs).length from by omega]) ?_
    refine .assign (.z ?_)
    refine .ret (?_)
    exact .ret1 (h1 := .tmp (t := 8) rfl) ⟨_, ⟨_, rfl, rfl⟩, Am.auto⟩
theorem splitSlS {xs : Bytes} (hl : xs.length ≤ 1000000) : Spec Tryz.prog 233 #[sv xs, sv [47]] [] fun F v M => ∃ u, v = u ∧ M = rowR 9 1 u (splitSl xs).length (svs (splitSl xs)) :: F := by
  refine Spec.intro Tryz.func233 rfl rfl fun B F => ?_
  simp only [Tryz.ntmps233, List.cons_append, List.nil_append, env0, Nat.reduceAdd]
  refine .sr (.assign (.x (.move (.move ?_))))
  refine .call (hc := Tryz.call275) (sp := genSplitSl hl) (h := ?_)
  rintro _ _ ⟨u, hu0, rfl⟩
  rw [hu0]
  clear hu0
  refine .assign (.z ?_)
  refine .ret (?_)
  exact .ret1 (h1 := .tmp (t := 4) rfl) ⟨_, ⟨_, rfl, rfl⟩, Am.auto⟩
theorem fsPartsA {path : Bytes} (hl : path.length ≤ 1000000) : Spec Tryz.prog 154 #[sv path] [] fun F v M => (∃ l u, partsT path = some l ∧ v = .tuple #[u, .int .i64 0] ∧ M = rowR 9 1 u l.length (svs l) :: F) ∨ (partsT path = none ∧ v = .tuple #[.slice none 0 0, .int .i64 1] ∧ M = F) := by
  refine Spec.intro Tryz.func154 rfl rfl fun B F => ?_
  simp only [Tryz.ntmps154, List.cons_append, List.nil_append, env0, Nat.reduceAdd]
  by_cases h1 : path = [47]
  · refine .sr (.assign (.assign (.z (.scope (.seq (.sr (.move ?_)))))))
    refine .eqS path [47] ?_
    refine .cast (d := 10) (u := .bool true) rfl (congrArg Value.bool (decide_eq_true h1)) ?_
    refine .z ?_
    refine .condT rfl rfl ?_
    refine .sr (.assign ?_)
    refine .emp (rowR.nil (e := 9) (size := 1) _) ?_
    refine .assign (.z ?_)
    refine .ret (.thenRet (.scopeRet (?_)))
    exact .ret2 (h1 := .tmp (t := 2) rfl) (h2 := .tmp (t := 3) rfl) ⟨_, .inl ⟨[], .slice none 0 0, by rw [h1]; rfl, rfl, rfl⟩, Am.auto⟩
  · by_cases h2 : path.take ([47] : Bytes).length = [47]
    · obtain ⟨rest, rfl⟩ : ∃ rest, path = 47 :: rest := by
        cases path with
        | nil => cases h2
        | cons x r =>
          have hx : x = 47 := by
            have h2 : [x] = [47] := h2
            injection h2
          exact ⟨r, by rw [hx]⟩
      have hne : rest ≠ [] := fun h => h1 (by rw [h])
      have hrl : rest.length ≤ 1000000 := by rw [List.length_cons] at hl; omega
      obtain ⟨l, hsl⟩ : ∃ l, splitSl rest = l := ⟨_, rfl⟩
      have hpt : partsT (47 :: rest) = if 8 < l.length then none else if l.all nameOk then some l else none := by
        show (if (47 : UInt8) = 47 then (if rest = [] then some [] else if 8 < (splitSl rest).length then none else if (splitSl rest).all nameOk then some (splitSl rest) else none) else none) = _
        rw [if_pos rfl, if_neg hne, hsl]
      by_cases h8 : 8 < l.length
      · refine .sr (.assign (.assign (.z (.scope (.seq (.sr (.move ?_)))))))
        refine .eqS (47 :: rest) [47] ?_
        refine .cast (d := 10) (u := .bool false) rfl (congrArg Value.bool (decide_eq_false h1)) ?_
        refine .z ?_
        refine .condF rfl rfl ?_
        refine .skip (.next (.sr (.move ?_)))
        refine .call (hc := Tryz.call232) (sp := cutPre (xs := 47 :: rest) (ps := [47])) (h := ?_)
        rintro _ _ ⟨rfl, hM⟩
        obtain rfl := hM.symm
        rw [if_pos h2, decide_eq_true h2, show (47 :: rest).drop ([47] : Bytes).length = rest from rfl]
        refine .move ?_
        refine .extract ?_
        refine .extract ?_
        refine .assign (.assign (.z (.seq (.sr (.move ?_)))))
        refine .not ?_
        refine .z ?_
        refine .condF rfl rfl ?_
        refine .skip (.next (.sr (.move ?_)))
        refine .call (hc := Tryz.call233) (sp := splitSlS hrl) (h := ?_)
        rintro _ _ ⟨u, hu0, rfl⟩
        rw [hu0]
        clear hu0
        refine .fact (rowR_shape (el := 9) (size := 1) (v := u) (k := (splitSl rest).length) (xs := svs (splitSl rest))) (fun ⟨A, cc, hu, hR, hc1, hc2, hlen⟩ => ?_)
        subst hu
        rw [hsl] at hR hc1 hlen ⊢
        refine .assign (.z (.seq (.sr (.move ?_))))
        refine .lenS ?_ sl92
        refine .gtr ?_
        refine .z ?_
        refine .condT rfl (congrArg Value.bool (by first | (simp; done) | (simp; omega) | omega)) ?_
        refine .sr (.assign (.assign (.z ?_)))
        refine .ret (.thenRet (.scopeRet (?_)))
        exact .ret2 (h1 := .tmp (t := 2) rfl) (h2 := .tmp (t := 3) rfl) ⟨_, .inr ⟨(by rw [hpt, if_pos h8]), rfl, rfl⟩, Am.auto⟩
      · refine .sr (.assign (.assign (.z (.scope (.seq (.sr (.move ?_)))))))
        refine .eqS (47 :: rest) [47] ?_
        refine .cast (d := 10) (u := .bool false) rfl (congrArg Value.bool (decide_eq_false h1)) ?_
        refine .z ?_
        refine .condF rfl rfl ?_
        refine .skip (.next (.sr (.move ?_)))
        refine .call (hc := Tryz.call232) (sp := cutPre (xs := 47 :: rest) (ps := [47])) (h := ?_)
        rintro _ _ ⟨rfl, hM⟩
        obtain rfl := hM.symm
        rw [if_pos h2, decide_eq_true h2, show (47 :: rest).drop ([47] : Bytes).length = rest from rfl]
        refine .move ?_
        refine .extract ?_
        refine .extract ?_
        refine .assign (.assign (.z (.seq (.sr (.move ?_)))))
        refine .not ?_
        refine .z ?_
        refine .condF rfl rfl ?_
        refine .skip (.next (.sr (.move ?_)))
        refine .call (hc := Tryz.call233) (sp := splitSlS hrl) (h := ?_)
        rintro _ _ ⟨u, hu0, rfl⟩
        rw [hu0]
        clear hu0
        refine .fact (rowR_shape (el := 9) (size := 1) (v := u) (k := (splitSl rest).length) (xs := svs (splitSl rest))) (fun ⟨A, cc, hu, hR, hc1, hc2, hlen⟩ => ?_)
        subst hu
        rw [hsl] at hR hc1 hlen ⊢
        refine .assign (.z (.seq (.sr (.move ?_))))
        refine .lenS ?_ sl92
        refine .gtr ?_
        refine .z ?_
        refine .condF rfl (congrArg Value.bool (by first | (simp; done) | (simp; omega) | omega)) ?_
        refine .skip (.next (.seq (.label (.next (.seq (.sr (.move ?_)))))))
        refine .lenS ?_ sl92
        refine .move (.z (.block ?_))
        refine .loopA (σ := Nat) (fun k => [(6, .slice A l.length cc), (23, .slice A l.length cc), (24, .int .i64 ((l.length : Nat) : Int)), (25, .int .i64 ((k : Nat) : Int))]) (fun _ => rowR 9 1 (.slice A l.length cc) l.length (svs l) :: F) (fun k => k ≤ l.length ∧ ∀ j, j < k → nameOk (l.getD j []) = true) (fun k => l.length - k) 0 ⟨Nat.zero_le _, fun j hj => absurd hj (Nat.not_lt_zero _)⟩ ?_
        rintro k hk
        refine .sr ?_
        refine .lss ?_
        refine .z (.seq ?_)
        refine .cond rfl (fun hb => ?_) (fun hb => ?_)
        · have hlt : k < l.length := by have h : (k : Int) < (l.length : Int) := of_decide_eq_true hb; omega
          have hll := svs_length l
          rcases A with _ | ⟨ab, ao, asp⟩
          · exact absurd hR (fun h => by have h2 : svs l = [] := h; rw [h2] at hll; simp at hll; omega)
          have hsp : asp = none := hR.1
          subst hsp
          have hgk : (svs l)[((k : Nat) : Int).toNat]? = some (sv l[k]) := svs_get hlt
          refine .skip (.next (.seq (.block (.sr ?_))))
          refine .idx1 ?_ so92
          refine .ldR (i := ((k : Nat) : Int).toNat) ?_ sc9 hR hgk
          refine .assign (.z (.seq (.sr (.move ?_))))
          refine .call (hc := Tryz.call234) (sp := dName (xs := l[k])) (h := ?_)
          rintro _ _ ⟨rfl, rfl⟩
          refine .z ?_
          cases hnm : nameOk l[k]
          · refine .condF rfl rfl ?_
            refine .skip (.next (.sr (.assign (.assign (.z ?_)))))
            refine .ret (.blockRet (.thenRet (.thenRet (.blockRet (.thenRet (.scopeRet (?_)))))))
            have hall : l.all nameOk = false := by
              rw [List.all_eq_false]
              exact ⟨l[k], List.getElem_mem hlt, by rw [hnm]; decide⟩
            exact .ret2 (h1 := .tmp (t := 2) rfl) (h2 := .tmp (t := 3) rfl) ⟨_, .inr ⟨(by rw [hpt, if_neg h8, if_neg (by rw [hall]; decide)]), rfl, rfl⟩, Am.auto⟩
          · refine .condT rfl rfl ?_
            refine .exit (.thenExit (.blockExit (?_)))
            refine .next (.region ?_)
            refine .add ?_
            refine .move (.nil ?_)
            refine .cast (d := 25) (u := .int .i64 ((k + 1 : Nat) : Int)) rfl (congrArg (Value.int .i64) (by omega)) ?_
            exact .back (k + 1) ⟨by show k + 1 ≤ l.length; omega, fun j hj => if hjk : j < k then hk.2 j hjk else by rw [show j = k from by omega, List.getD_eq_getElem?_getD, List.getElem?_eq_getElem hlt]; exact hnm⟩ (by show l.length - (k + 1) < l.length - k; omega)
        · have hge : ¬ k < l.length := by have h : ¬ (k : Int) < (l.length : Int) := of_decide_eq_false hb; omega
          have hall : l.all nameOk = true := by
            rw [List.all_eq_true]
            intro x hx
            obtain ⟨j, hj, rfl⟩ := List.mem_iff_getElem.1 hx
            have := hk.2 j (by omega)
            rwa [List.getD_eq_getElem?_getD, List.getElem?_eq_getElem hj] at this
          refine .exit (.thenExit (.thenExit (.blockExit (?_))))
          refine .next (.sr (.move (.assign (.assign (.z ?_)))))
          refine .ret (.scopeRet (?_))
          exact .ret2 (h1 := .tmp (t := 2) rfl) (h2 := .tmp (t := 3) rfl) ⟨_, .inl ⟨l, _, by rw [hpt, if_neg h8, if_pos hall], rfl, rfl⟩, Am.auto⟩
    · refine .sr (.assign (.assign (.z (.scope (.seq (.sr (.move ?_)))))))
      refine .eqS path [47] ?_
      refine .cast (d := 10) (u := .bool false) rfl (congrArg Value.bool (decide_eq_false h1)) ?_
      refine .z ?_
      refine .condF rfl rfl ?_
      refine .skip (.next (.sr (.move ?_)))
      refine .call (hc := Tryz.call232) (sp := cutPre (xs := path) (ps := [47])) (h := ?_)
      rintro _ _ ⟨rfl, hM⟩
      obtain rfl := hM.symm
      rw [if_neg h2, decide_eq_false h2]
      refine .move ?_
      refine .extract ?_
      refine .extract ?_
      refine .assign (.assign (.z (.seq (.sr (.move ?_)))))
      refine .not ?_
      refine .z ?_
      refine .condT rfl rfl ?_
      refine .sr (.assign (.assign (.z ?_)))
      refine .ret (.thenRet (.scopeRet (?_)))
      have hno : partsT path = none := by
        cases path with
        | nil => rfl
        | cons x r =>
          have hx : x ≠ 47 := fun hx => h2 (by rw [hx]; rfl)
          show (if x = 47 then _ else none) = none
          rw [if_neg hx]
      exact .ret2 (h1 := .tmp (t := 2) rfl) (h2 := .tmp (t := 3) rfl) ⟨_, .inr ⟨hno, rfl, rfl⟩, Am.auto⟩
theorem fsParts {path : Bytes} {l : List Bytes} (hl : path.length ≤ 1000000) (hp : partsT path = some l) : Spec Tryz.prog 154 #[sv path] [] fun F v M => ∃ u, v = .tuple #[u, .int .i64 0] ∧ M = rowR 9 1 u l.length (svs l) :: F := by
  refine (fsPartsA hl).post ?_
  rintro F v M (⟨l', u, h, rfl, rfl⟩ | ⟨h, _⟩)
  · rw [hp] at h
    injection h with h
    subst h
    exact ⟨_, ⟨u, rfl, rfl⟩, Wk.refl⟩
  · rw [hp] at h; cases h
theorem fsPartsNo {path : Bytes} (hl : path.length ≤ 1000000) (hp : partsT path = none) : Spec Tryz.prog 154 #[sv path] [] fun F v M => v = .tuple #[.slice none 0 0, .int .i64 1] ∧ M = F := by
  refine (fsPartsA hl).post ?_
  rintro F v M (⟨l', u, h, rfl, rfl⟩ | ⟨h, rfl, rfl⟩)
  · rw [hp] at h; cases h
  · exact ⟨_, ⟨rfl, rfl⟩, Wk.refl⟩
end Go.Proofs.YtdmjkjeoamiedaaGreatDoor
end
section
namespace Go.Proofs.YtdmjkjeoamiedaaGreatDoor
open Go
theorem fo129_6 : fieldOk Tryz.prog 129 6 6 = true := by kernel_rfl
theorem sc127 : scalarOk Tryz.prog 127 = true := by kernel_rfl
theorem fo129_2 : fieldOk Tryz.prog 129 2 2 = true := by kernel_rfl
theorem sc126 : scalarOk Tryz.prog 126 = true := by kernel_rfl
theorem mp127 : mapOk Tryz.prog 127 270 3 = true := by kernel_rfl
theorem ptr23 : ptrOk Tryz.prog 23 = true := by kernel_rfl
theorem fo129_0 : fieldOk Tryz.prog 129 0 0 = true := by kernel_rfl
theorem bdLink (d : Int) (s : ByteArray) : BuildOk Tryz.prog 270 [(0, .int .i64 d), (1, .string s)] #[.int .i64 d, .string s] := fun w => by kernel_rfl
abbrev KL := Int × Bytes
def encL : KL → Value := fun k => .agg (xvs [.inl k.1, .inr k.2]).toArray
theorem klL : KeyLaw Tryz.prog 270 encL := mixKeys (fun k : KL => [.inl k.1, .inr k.2]) [true, false] (by kernel_rfl) (fun _ => rfl) (fun a b h => by
  obtain ⟨a1, a2⟩ := a
  obtain ⟨b1, b2⟩ := b
  injection h with h1 h2
  injection h1 with h1
  injection h2 with h2 _
  injection h2 with h2
  have h1 : a1 = b1 := h1
  have h2 : a2 = b2 := h2
  rw [h1, h2])
structure LDP (T : FT) (y : Array MapEntry × Nat × List (KL × Value)) : Prop where
  hm : MapIs encL y.1 y.2.1 y.2.2
  ok : ∀ d nm v, kget y.2.2 (d, nm) = some v → ∃ i : Nat, v = nI i ∧ 0 ≤ d ∧ findT T d.toNat nm = (i, 0)
def LD (mp : Nat) (T : FT) : HP := fun h => ∃ y, LDP T y ∧ star [pt mp (.map y.1 y.2.1)] h
theorem LD.opens (mp : Nat) (T : FT) : Opens (LD mp T) (LDP T) (fun y => [pt mp (.map y.1 y.2.1)]) := ⟨fun h hh => hh, fun x hp h hh => ⟨x, hp, hh⟩⟩
attribute [irreducible] LD
theorem LDP.empty (T : FT) (c : Nat) : LDP T (#[], c, []) := ⟨MapIs.empty _ _, fun d nm v h => by cases h⟩
theorem LDP.put {T : FT} {es : Array MapEntry} {c : Nat} {kv : List (KL × Value)} {es' : Array MapEntry} {c' : Nat} (h : LDP T (es, c, kv)) {d i : Nat} {nm : Bytes} (hm : MapIs encL es' c' (kput kv ((d : Int), nm) (nI i))) (hf : findT T d nm = (i, 0)) : LDP T (es', c', kput kv ((d : Int), nm) (nI i)) := by
  refine ⟨hm, fun d' nm' v hg => ?_⟩
  rw [kget_put] at hg
  split at hg
  · rename_i he
    injection he with h1 h2
    injection hg with hg
    exact ⟨i, hg.symm, by omega, by rw [h1, h2, Int.toNat_natCast]; exact hf⟩
  · exact h.ok d' nm' v hg
def fO (c a s : Nat) (b ov dead : Bool) (mp : Nat) : Obj := .cells #[.pointer (some ⟨c, 0, none⟩), .pointer (some ⟨a, 0, none⟩), .pointer (some ⟨s, 0, none⟩), .bool b, .bool ov, .bool dead, .map (some mp)] 129 (0, 0)
theorem dFindT {s a c : Nat} {p : Pl} {T : FT} {F0 : FM} {W : Nat} {op : Bool} {d : Nat} {nm : Bytes} (ho : PlOk p) (hT : TOk T) : Spec Tryz.prog 184 #[.pointer (some ⟨s, 0, none⟩), nI d, sv nm] [IN s a c p F0 (fmT T) W op] fun G v M => v = .tuple #[nI (findT T d nm).1, nI (findT T d nm).2] ∧ M = IN s a c p F0 (fmT T) W op :: G := by
  obtain ⟨i, e, hf⟩ : ∃ i e, findT T d nm = (i, e) := ⟨_, _, rfl⟩
  rw [hf]
  by_cases he : e = 0
  · subst he
    obtain ⟨hn, sl, q, hd, hl⟩ := findT_ok hf
    have := hT d sl hd
    exact dFind (s := s) (a := a) (c := c) (p := p) (F0 := F0) (Fm := fmT T) (W := W) (op := op) ho hn (fmT_some hd) this.1 (by omega) (lookS_some hl)
  · obtain ⟨rfl, h | ⟨hn, rfl, sl, hd, hl⟩⟩ := findT_err hf he
    · exact dFindE (s := s) (a := a) (c := c) (p := p) (F0 := F0) (Fm := fmT T) (W := W) (op := op) (d := (d : Int)) (e := (e : Int)) ho h (by omega)
    · have := hT d sl hd
      exact dFindNo (s := s) (a := a) (c := c) (p := p) (F0 := F0) (Fm := fmT T) (W := W) (op := op) ho hn (fmT_some hd) this.1 (by omega) (lookS_none hl)
theorem fsFind {f s a c mp : Nat} {b ov dead : Bool} {p : Pl} {T : FT} {F0 : FM} {W : Nat} {op : Bool} {d : Nat} {nm : Bytes} (ho : PlOk p) (hT : TOk T) : Spec Tryz.prog 110 #[.pointer (some ⟨f, 0, none⟩), nI d, sv nm] [pt f (fO c a s b ov dead mp), LD mp T, IN s a c p F0 (fmT T) W op] fun F v M => v = .tuple #[nI (findT T d nm).1, nI (findT T d nm).2] ∧ M = pt f (fO c a s b ov dead mp) :: LD mp T :: IN s a c p F0 (fmT T) W op :: F := by
  refine Spec.intro Tryz.func110 rfl rfl fun B F => ?_
  simp only [Tryz.ntmps110, List.cons_append, List.nil_append, env0, Nat.reduceAdd]
  refine .openR (LD.opens mp T) fun y hy => ?_
  obtain ⟨es, cl, kv⟩ := y
  simp only [List.cons_append, List.nil_append]
  cases hg : kget kv ((d : Int), nm) with
  | some v =>
    obtain ⟨i, rfl, _, hf⟩ := hy.ok _ _ _ hg
    rw [Int.toNat_natCast] at hf
    refine .sr (.assign (.assign (.z (.seq (.sr (.move ?_))))))
    refine .nilCheck ?_
    refine .fa ?_ fo129_6
    refine .ld ?_ sc127
    refine .move (.move ?_)
    refine .build ?_ (bdLink _ _)
    refine .lookOk (k := ((d : Int), nm)) klL hy.hm mp127 zv3 ?_
    refine .cast (d := 20) (u := .tuple #[nI i, .bool true]) rfl (by rw [hg]; rfl) ?_
    refine .move ?_
    refine .extract ?_
    refine .extract ?_
    refine .assign (.assign (.x (.move (.z ?_))))
    refine .condT rfl rfl ?_
    refine .sr (.move (.assign (.assign (.z ?_))))
    refine .ret (.thenRet (?_))
    refine .shutR (LD.opens mp T) (es, cl, kv) hy ?_
    exact .ret2 (h1 := .tmp (t := 6) rfl) (h2 := .tmp (t := 7) rfl) ⟨_, ⟨by first | rfl | (rw [hf]; rfl), rfl⟩, Am.auto⟩
  | none =>
    obtain ⟨i, e, hf⟩ : ∃ i e, findT T d nm = (i, e) := ⟨_, _, rfl⟩
    by_cases he : e = 0
    · subst he
      refine .sr (.assign (.assign (.z (.seq (.sr (.move ?_))))))
      refine .nilCheck ?_
      refine .fa ?_ fo129_6
      refine .ld ?_ sc127
      refine .move (.move ?_)
      refine .build ?_ (bdLink _ _)
      refine .lookOk (k := ((d : Int), nm)) klL hy.hm mp127 zv3 ?_
      refine .cast (d := 20) (u := .tuple #[nI 0, .bool false]) rfl (by rw [hg]; rfl) ?_
      refine .move ?_
      refine .extract ?_
      refine .extract ?_
      refine .assign (.assign (.x (.move (.z ?_))))
      refine .condF rfl rfl ?_
      refine .skip (.next (.sr (.move ?_)))
      refine .nilCheck ?_
      refine .fa ?_ fo129_2
      refine .ld ?_ sc126
      refine .move (.move ?_)
      refine .call (hc := Tryz.call184) (sp := dFindT (s := s) (a := a) (c := c) (p := p) (F0 := F0) (T := T) (W := W) (op := op) (d := d) (nm := nm) ho hT) (h := ?_)
      rintro _ _ ⟨rfl, rfl⟩
      rw [hf]
      refine .move ?_
      refine .extract ?_
      refine .extract ?_
      refine .assign (.assign (.z (.seq (.sr (.move ?_)))))
      refine .eqi ?_
      refine .z ?_
      refine .condT rfl (congrArg Value.bool (by first | (simp; done) | (simp; omega) | omega)) ?_
      refine .region (.move ?_)
      refine .nilCheck ?_
      refine .fa ?_ fo129_6
      refine .ld ?_ sc127
      refine .move (.move ?_)
      refine .build ?_ (bdLink _ _)
      refine .move ?_
      refine .upd (k := ((d : Int), nm)) klL hy.hm mp127 fun es2 c2 hm2 => ?_
      refine .x (.move (.move (.assign (.assign (.z ?_)))))
      refine .ret (?_)
      refine .shutR (LD.opens mp T) (es2, c2, _) (hy.put hm2 hf) ?_
      exact .ret2 (h1 := .tmp (t := 6) rfl) (h2 := .tmp (t := 7) rfl) ⟨_, ⟨by first | rfl | (rw [hf]; rfl), rfl⟩, Am.auto⟩
    · refine .sr (.assign (.assign (.z (.seq (.sr (.move ?_))))))
      refine .nilCheck ?_
      refine .fa ?_ fo129_6
      refine .ld ?_ sc127
      refine .move (.move ?_)
      refine .build ?_ (bdLink _ _)
      refine .lookOk (k := ((d : Int), nm)) klL hy.hm mp127 zv3 ?_
      refine .cast (d := 20) (u := .tuple #[nI 0, .bool false]) rfl (by rw [hg]; rfl) ?_
      refine .move ?_
      refine .extract ?_
      refine .extract ?_
      refine .assign (.assign (.x (.move (.z ?_))))
      refine .condF rfl rfl ?_
      refine .skip (.next (.sr (.move ?_)))
      refine .nilCheck ?_
      refine .fa ?_ fo129_2
      refine .ld ?_ sc126
      refine .move (.move ?_)
      refine .call (hc := Tryz.call184) (sp := dFindT (s := s) (a := a) (c := c) (p := p) (F0 := F0) (T := T) (W := W) (op := op) (d := d) (nm := nm) ho hT) (h := ?_)
      rintro _ _ ⟨rfl, rfl⟩
      rw [hf]
      refine .move ?_
      refine .extract ?_
      refine .extract ?_
      refine .assign (.assign (.z (.seq (.sr (.move ?_)))))
      refine .eqi ?_
      refine .z ?_
      refine .condF rfl (congrArg Value.bool (by first | (simp; done) | (simp; omega) | omega)) ?_
      refine .skip (.next (.sr (.move (.move (.assign (.assign (.z ?_)))))))
      refine .ret (?_)
      refine .shutR (LD.opens mp T) (es, cl, kv) hy ?_
      exact .ret2 (h1 := .tmp (t := 6) rfl) (h2 := .tmp (t := 7) rfl) ⟨_, ⟨by first | rfl | (rw [hf]; rfl), rfl⟩, Am.auto⟩
theorem walkT_step {T : FT} {nm : Bytes} {r : List Bytes} {d : Nat} (h : (findT T d nm).2 = 0) : walkT T d (nm :: r) = walkT T (findT T d nm).1 r := by rw [walkT, if_pos h]
theorem walkT_stop {T : FT} {nm : Bytes} {r : List Bytes} {d : Nat} (h : (findT T d nm).2 ≠ 0) : walkT T d (nm :: r) = (0, (findT T d nm).2) := by rw [walkT, if_neg h]
theorem fsWalk {f s a c mp : Nat} {b ov dead : Bool} {p : Pl} {T : FT} {F0 : FM} {W : Nat} {op : Bool} {R : HP} {A : Option Addr} {cc m : Nat} {l : List Bytes} (ho : PlOk p) (hT : TOk T) (hR : Reads R A (svs l) ∨ l = []) (hl : l.length = m) (hl8 : m ≤ 1000000) : Spec Tryz.prog 155 #[.pointer (some ⟨f, 0, none⟩), .slice A m cc] [pt f (fO c a s b ov dead mp), LD mp T, IN s a c p F0 (fmT T) W op, R] fun F v M => v = .tuple #[nI (walkT T 0 l).1, nI (walkT T 0 l).2] ∧ M = pt f (fO c a s b ov dead mp) :: LD mp T :: IN s a c p F0 (fmT T) W op :: R :: F := by
  refine Spec.intro Tryz.func155 rfl rfl fun B F => ?_
  simp only [Tryz.ntmps155, List.cons_append, List.nil_append, env0, Nat.reduceAdd]
  subst hl
  refine .sr (.assign (.assign (.z (.seq (.sr (.move ?_))))))
  refine .lenS ?_ sl92
  refine .move (.z (.block ?_))
  refine .loopA (σ := Nat × Nat) (fun y => [(0, .pointer (some ⟨f, 0, none⟩)), (4, nI y.2), (8, .slice A l.length cc), (9, .int .i64 ((l.length : Nat) : Int)), (10, .int .i64 ((y.1 : Nat) : Int))]) (fun _ => [pt f (fO c a s b ov dead mp), LD mp T, IN s a c p F0 (fmT T) W op, R] ++ F) (fun y => y.1 ≤ l.length ∧ walkT T y.2 (l.drop y.1) = walkT T 0 l) (fun y => l.length - y.1) (0, 0) ⟨Nat.zero_le _, rfl⟩ ?_
  rintro y hy
  obtain ⟨k, d⟩ := y
  obtain ⟨hk, hwk⟩ := hy
  simp only at hk hwk ⊢
  refine .sr ?_
  refine .lss ?_
  refine .z (.seq ?_)
  refine .cond rfl (fun hb => ?_) (fun hb => ?_)
  · have hlt : k < l.length := by have h : (k : Int) < (l.length : Int) := of_decide_eq_true hb; omega
    have hdk := List.drop_eq_getElem_cons hlt
    rcases hR with hR | hR
    rotate_left
    · subst hR; simp at hlt
    rcases A with _ | ⟨ab, ao, asp⟩
    · exact absurd hR (fun h => by have h2 : svs l = [] := h; have hll := svs_length l; rw [h2] at hll; simp at hll; omega)
    have hsp : asp = none := hR.1
    subst hsp
    have hgk : (svs l)[((k : Nat) : Int).toNat]? = some (sv l[k]) := svs_get hlt
    obtain ⟨i, e, hf⟩ : ∃ i e, findT T d l[k] = (i, e) := ⟨_, _, rfl⟩
    by_cases he : e = 0
    · subst he
      refine .skip (.next (.seq (.block (.sr ?_))))
      refine .idx1 ?_ so92
      refine .ldR (i := ((k : Nat) : Int).toNat) ?_ sc9 hR hgk
      refine .assign (.x (.move (.move (.move ?_))))
      refine .call (hc := Tryz.call110) (sp := fsFind (f := f) (s := s) (a := a) (c := c) (mp := mp) (b := b) (ov := ov) (dead := dead) (p := p) (T := T) (F0 := F0) (W := W) (op := op) (d := d) (nm := l[k]) ho hT) (h := ?_)
      rintro _ _ ⟨rfl, rfl⟩
      rw [hf]
      refine .move ?_
      refine .extract ?_
      refine .extract ?_
      refine .assign (.assign (.x (.move ?_)))
      refine .nei ?_
      refine .z ?_
      refine .condF rfl (congrArg Value.bool (by first | (simp; done) | (simp; omega) | omega)) ?_
      refine .skip (.blockNormal (.next (.region ?_)))
      refine .add ?_
      refine .move (.nil ?_)
      refine .cast (d := 10) (u := .int .i64 ((k + 1 : Nat) : Int)) rfl (congrArg (Value.int .i64) (by omega)) ?_
      exact .back (k + 1, i) ⟨by show k + 1 ≤ l.length; omega, by show walkT T i (l.drop (k + 1)) = _; rw [← hwk, hdk, walkT_step (by rw [hf]), hf]⟩ (by show l.length - (k + 1) < l.length - k; omega)
    · refine .skip (.next (.seq (.block (.sr ?_))))
      refine .idx1 ?_ so92
      refine .ldR (i := ((k : Nat) : Int).toNat) ?_ sc9 hR hgk
      refine .assign (.x (.move (.move (.move ?_))))
      refine .call (hc := Tryz.call110) (sp := fsFind (f := f) (s := s) (a := a) (c := c) (mp := mp) (b := b) (ov := ov) (dead := dead) (p := p) (T := T) (F0 := F0) (W := W) (op := op) (d := d) (nm := l[k]) ho hT) (h := ?_)
      rintro _ _ ⟨rfl, rfl⟩
      rw [hf]
      refine .move ?_
      refine .extract ?_
      refine .extract ?_
      refine .assign (.assign (.x (.move ?_)))
      refine .nei ?_
      refine .z ?_
      refine .condT rfl (congrArg Value.bool (by first | (simp; done) | (simp; omega) | omega)) ?_
      refine .sr (.move (.assign (.assign (.z ?_))))
      refine .ret (.blockRet (.thenRet (.thenRet (.blockRet (.thenRet (?_))))))
      have hst : walkT T 0 l = (0, e) := by rw [← hwk, hdk, walkT_stop (by rw [hf]; exact he), hf]
      exact .ret2 (h1 := .tmp (t := 4) rfl) (h2 := .tmp (t := 5) rfl) ⟨_, ⟨by rw [hst]; rfl, rfl⟩, Am.auto⟩
  · have hge : ¬ k < l.length := by have h : ¬ (k : Int) < (l.length : Int) := of_decide_eq_false hb; omega
    rw [List.drop_eq_nil_of_le (by omega)] at hwk
    refine .exit (.thenExit (.thenExit (.blockExit (?_))))
    refine .next (.sr (.move (.assign (.assign (.z ?_)))))
    refine .ret (?_)
    exact .ret2 (h1 := .tmp (t := 4) rfl) (h2 := .tmp (t := 5) rfl) ⟨_, ⟨by rw [← hwk]; rfl, rfl⟩, Am.auto⟩
theorem nStatT {s a c : Nat} {p : Pl} {T : FT} {F0 : FM} {W : Nat} {op : Bool} {i : Nat} {x : NodeT} (ho : PlOk p) (hi : T i = some x) : Spec Tryz.prog 156 #[.pointer (some ⟨s, 0, none⟩), nI i] [IN s a c p F0 (fmT T) W op] fun G v M => v = .tuple #[.agg #[nI x.kind, nI x.size], .int .i64 0] ∧ M = IN s a c p F0 (fmT T) W op :: G := by
  have := nStat (s := s) (a := a) (c := c) (p := p) (F0 := F0) (F := fmT T) (W := W) (op := op) (i := i) ho (fmT_some hi)
  rwa [x.f_kind, x.f_size] at this
theorem nStatTNo {s a c : Nat} {p : Pl} {T : FT} {F0 : FM} {W : Nat} {op : Bool} {i : Nat} (ho : PlOk p) (hi : T i = none) : Spec Tryz.prog 156 #[.pointer (some ⟨s, 0, none⟩), nI i] [IN s a c p F0 (fmT T) W op] fun G v M => v = .tuple #[.agg #[nI 0, nI 0], .int .i64 4] ∧ M = IN s a c p F0 (fmT T) W op :: G :=
  nStatNo (i := (i : Int)) ho (by rw [fileAt_nat]; exact fmT_none hi)
theorem partsT_len {path : Bytes} {l : List Bytes} (h : partsT path = some l) : l.length ≤ 1000000 := by
  unfold partsT at h
  split at h
  · cases h
  · split at h
    · split at h
      · injection h with h; subst h; exact Nat.zero_le _
      · split at h
        · cases h
        · split at h
          · injection h with h; subst h; omega
          · cases h
    · cases h
theorem fsLeads {f s a c mp : Nat} {b ov dead : Bool} {p : Pl} {T : FT} {F0 : FM} {W : Nat} {op : Bool} {path : Bytes} (ho : PlOk p) (hT : TOk T) (hpl : path.length ≤ 1000000) : Spec Tryz.prog 77 #[.pointer (some ⟨f, 0, none⟩), sv path] [pt f (fO c a s b ov dead mp), LD mp T, IN s a c p F0 (fmT T) W op] fun F v M => v = .tuple #[nI (leadsT T path).1, .agg #[nI (leadsT T path).2.1, nI (leadsT T path).2.2.1], nI (leadsT T path).2.2.2] ∧ M = pt f (fO c a s b ov dead mp) :: LD mp T :: IN s a c p F0 (fmT T) W op :: F := by
  refine Spec.intro Tryz.func77 rfl rfl fun B F => ?_
  simp only [Tryz.ntmps77, List.cons_append, List.nil_append, env0, Nat.reduceAdd]
  cases hpt : partsT path with
  | none =>
    have hlt : leadsT T path = (0, 0, 0, 1) := by unfold leadsT; rw [hpt]
    refine .sr (.assign ?_)
    refine .alloc z51 fun b5 => ?_
    refine .assign (.z (.seq (.sr (.move ?_))))
    refine .eqNil ?_ ptr23
    refine .move ?_
    refine .gT ?_
    refine .move ?_
    refine .gT ?_
    refine .nilCheck ?_
    refine .gT ?_
    refine .fa ?_ fo129_0
    refine .gT ?_
    refine .ld ?_ sc124
    refine .gT ?_
    refine .eqNil ?_ ptr124
    refine .pickF ?_
    refine .z ?_
    refine .condF rfl rfl ?_
    refine .skip (.next (.sr (.move ?_)))
    refine .call (hc := Tryz.call154) (sp := fsPartsNo hpl hpt) (h := ?_)
    rintro _ _ ⟨rfl, rfl⟩
    refine .move ?_
    refine .extract ?_
    refine .extract ?_
    refine .assign (.assign (.z (.seq (.sr (.move ?_)))))
    refine .nei ?_
    refine .z ?_
    refine .condT rfl (congrArg Value.bool (by first | (simp; done) | (simp; omega) | omega)) ?_
    refine .sr ?_
    refine .build (cs := #[nI 0, nI 0]) ?_ (fun w => by kernel_rfl)
    refine .move (.assign ?_)
    refine .stV ?_ agg51
    refine .assign (.z ?_)
    refine .ret (.thenRet (?_))
    exact .ret3 (h1 := .tmp (t := 4) rfl) (h3 := .tmp (t := 6) rfl) ⟨_, ⟨by rw [hlt]; rfl, rfl⟩, Am.auto⟩
  | some l =>
    have hlt : leadsT T path = if (walkT T 0 l).2 = 0 then (match T (walkT T 0 l).1 with | some x => ((walkT T 0 l).1, x.kind, x.size, 0) | none => ((walkT T 0 l).1, 0, 0, 4)) else (0, 0, 0, (walkT T 0 l).2) := by unfold leadsT; rw [hpt]; first | done | rfl
    have hl8 := partsT_len hpt
    obtain ⟨i, e, hw⟩ : ∃ i e, walkT T 0 l = (i, e) := ⟨_, _, rfl⟩
    rw [hw] at hlt
    by_cases he : e = 0
    · subst he
      rw [if_pos rfl] at hlt
      cases hTi : T i with
      | some x =>
        simp only [hTi] at hlt
        refine .sr (.assign ?_)
        refine .alloc z51 fun b5 => ?_
        refine .assign (.z (.seq (.sr (.move ?_))))
        refine .eqNil ?_ ptr23
        refine .move ?_
        refine .gT ?_
        refine .move ?_
        refine .gT ?_
        refine .nilCheck ?_
        refine .gT ?_
        refine .fa ?_ fo129_0
        refine .gT ?_
        refine .ld ?_ sc124
        refine .gT ?_
        refine .eqNil ?_ ptr124
        refine .pickF ?_
        refine .z ?_
        refine .condF rfl rfl ?_
        refine .skip (.next (.sr (.move ?_)))
        refine .call (hc := Tryz.call154) (sp := fsParts hpl hpt) (h := ?_)
        rintro _ _ ⟨u, rfl, rfl⟩
        refine .fact (rowR_shape (el := 9) (size := 1) (v := u) (k := l.length) (xs := svs l)) (fun ⟨A, cc, hu, hR, hc1, hc2, hlen⟩ => ?_)
        subst hu
        refine .move ?_
        refine .extract ?_
        refine .extract ?_
        refine .assign (.assign (.z (.seq (.sr (.move ?_)))))
        refine .nei ?_
        refine .z ?_
        refine .condF rfl (congrArg Value.bool (by first | (simp; done) | (simp; omega) | omega)) ?_
        refine .skip (.next (.sr (.move (.move ?_))))
        refine .call (hc := Tryz.call155) (sp := fsWalk (f := f) (s := s) (a := a) (c := c) (mp := mp) (b := b) (ov := ov) (dead := dead) (p := p) (T := T) (F0 := F0) (W := W) (op := op) (l := l) (R := rowR 9 1 (.slice A l.length cc) l.length (svs l)) ho hT (.inl hR) rfl hl8) (h := ?_)
        rintro _ _ ⟨rfl, rfl⟩
        rw [hw]
        refine .move ?_
        refine .extract ?_
        refine .extract ?_
        refine .assign (.assign (.z (.seq (.sr (.move ?_)))))
        refine .nei ?_
        refine .z ?_
        refine .condF rfl (congrArg Value.bool (by first | (simp; done) | (simp; omega) | omega)) ?_
        refine .skip (.next (.sr (.move ?_)))
        refine .nilCheck ?_
        refine .fa ?_ fo129_2
        refine .ld ?_ sc126
        refine .move ?_
        refine .call (hc := Tryz.call156) (sp := nStatT (s := s) (a := a) (c := c) (p := p) (F0 := F0) (T := T) (W := W) (op := op) (i := i) ho hTi) (h := ?_)
        rintro _ _ ⟨rfl, rfl⟩
        refine .move ?_
        refine .extract ?_
        refine .extract ?_
        refine .alloc z51 fun b10 => ?_
        refine .stV ?_ agg51
        refine .assign (.z (.seq ?_))
        refine .dr ([pt b10 (.cells #[nI x.kind, nI x.size] 51 (0, 0))]) [] 6 mixed .autoJ ?_
        refine .tk 0 rfl .move ?_
        refine .tk 1 rfl (.ldA agg51) ?_
        refine .tk 2 rfl .move ?_
        refine .tk 3 rfl .assign ?_
        refine .on 4 rfl fun hnp => ?_
        refine .stV ?_ agg51
        refine .nil (.wa hnp ?_)
        refine .tk 5 rfl .assign ?_
        refine .fin ?_
        refine .next ?_
        refine .ret (?_)
        exact .ret3 (h1 := .tmp (t := 4) rfl) (h3 := .tmp (t := 6) rfl) ⟨_, ⟨by rw [hlt]; rfl, rfl⟩, Am.auto⟩
      | none =>
        simp only [hTi] at hlt
        refine .sr (.assign ?_)
        refine .alloc z51 fun b5 => ?_
        refine .assign (.z (.seq (.sr (.move ?_))))
        refine .eqNil ?_ ptr23
        refine .move ?_
        refine .gT ?_
        refine .move ?_
        refine .gT ?_
        refine .nilCheck ?_
        refine .gT ?_
        refine .fa ?_ fo129_0
        refine .gT ?_
        refine .ld ?_ sc124
        refine .gT ?_
        refine .eqNil ?_ ptr124
        refine .pickF ?_
        refine .z ?_
        refine .condF rfl rfl ?_
        refine .skip (.next (.sr (.move ?_)))
        refine .call (hc := Tryz.call154) (sp := fsParts hpl hpt) (h := ?_)
        rintro _ _ ⟨u, rfl, rfl⟩
        refine .fact (rowR_shape (el := 9) (size := 1) (v := u) (k := l.length) (xs := svs l)) (fun ⟨A, cc, hu, hR, hc1, hc2, hlen⟩ => ?_)
        subst hu
        refine .move ?_
        refine .extract ?_
        refine .extract ?_
        refine .assign (.assign (.z (.seq (.sr (.move ?_)))))
        refine .nei ?_
        refine .z ?_
        refine .condF rfl (congrArg Value.bool (by first | (simp; done) | (simp; omega) | omega)) ?_
        refine .skip (.next (.sr (.move (.move ?_))))
        refine .call (hc := Tryz.call155) (sp := fsWalk (f := f) (s := s) (a := a) (c := c) (mp := mp) (b := b) (ov := ov) (dead := dead) (p := p) (T := T) (F0 := F0) (W := W) (op := op) (l := l) (R := rowR 9 1 (.slice A l.length cc) l.length (svs l)) ho hT (.inl hR) rfl hl8) (h := ?_)
        rintro _ _ ⟨rfl, rfl⟩
        rw [hw]
        refine .move ?_
        refine .extract ?_
        refine .extract ?_
        refine .assign (.assign (.z (.seq (.sr (.move ?_)))))
        refine .nei ?_
        refine .z ?_
        refine .condF rfl (congrArg Value.bool (by first | (simp; done) | (simp; omega) | omega)) ?_
        refine .skip (.next (.sr (.move ?_)))
        refine .nilCheck ?_
        refine .fa ?_ fo129_2
        refine .ld ?_ sc126
        refine .move ?_
        refine .call (hc := Tryz.call156) (sp := nStatTNo (s := s) (a := a) (c := c) (p := p) (F0 := F0) (T := T) (W := W) (op := op) (i := i) ho hTi) (h := ?_)
        rintro _ _ ⟨rfl, rfl⟩
        refine .move ?_
        refine .extract ?_
        refine .extract ?_
        refine .alloc z51 fun b10 => ?_
        refine .stV ?_ agg51
        refine .assign (.z (.seq ?_))
        refine .dr ([pt b10 (.cells #[nI 0, nI 0] 51 (0, 0))]) [] 6 mixed .autoJ ?_
        refine .tk 0 rfl .move ?_
        refine .tk 1 rfl (.ldA agg51) ?_
        refine .tk 2 rfl .move ?_
        refine .tk 3 rfl .assign ?_
        refine .on 4 rfl fun hnp => ?_
        refine .stV ?_ agg51
        refine .nil (.wa hnp ?_)
        refine .tk 5 rfl .assign ?_
        refine .fin ?_
        refine .next ?_
        refine .ret (?_)
        exact .ret3 (h1 := .tmp (t := 4) rfl) (h3 := .tmp (t := 6) rfl) ⟨_, ⟨by rw [hlt]; rfl, rfl⟩, Am.auto⟩
    · rw [if_neg he] at hlt
      refine .sr (.assign ?_)
      refine .alloc z51 fun b5 => ?_
      refine .assign (.z (.seq (.sr (.move ?_))))
      refine .eqNil ?_ ptr23
      refine .move ?_
      refine .gT ?_
      refine .move ?_
      refine .gT ?_
      refine .nilCheck ?_
      refine .gT ?_
      refine .fa ?_ fo129_0
      refine .gT ?_
      refine .ld ?_ sc124
      refine .gT ?_
      refine .eqNil ?_ ptr124
      refine .pickF ?_
      refine .z ?_
      refine .condF rfl rfl ?_
      refine .skip (.next (.sr (.move ?_)))
      refine .call (hc := Tryz.call154) (sp := fsParts hpl hpt) (h := ?_)
      rintro _ _ ⟨u, rfl, rfl⟩
      refine .fact (rowR_shape (el := 9) (size := 1) (v := u) (k := l.length) (xs := svs l)) (fun ⟨A, cc, hu, hR, hc1, hc2, hlen⟩ => ?_)
      subst hu
      refine .move ?_
      refine .extract ?_
      refine .extract ?_
      refine .assign (.assign (.z (.seq (.sr (.move ?_)))))
      refine .nei ?_
      refine .z ?_
      refine .condF rfl (congrArg Value.bool (by first | (simp; done) | (simp; omega) | omega)) ?_
      refine .skip (.next (.sr (.move (.move ?_))))
      refine .call (hc := Tryz.call155) (sp := fsWalk (f := f) (s := s) (a := a) (c := c) (mp := mp) (b := b) (ov := ov) (dead := dead) (p := p) (T := T) (F0 := F0) (W := W) (op := op) (l := l) (R := rowR 9 1 (.slice A l.length cc) l.length (svs l)) ho hT (.inl hR) rfl hl8) (h := ?_)
      rintro _ _ ⟨rfl, rfl⟩
      rw [hw]
      refine .move ?_
      refine .extract ?_
      refine .extract ?_
      refine .assign (.assign (.z (.seq (.sr (.move ?_)))))
      refine .nei ?_
      refine .z ?_
      refine .condT rfl (congrArg Value.bool (by first | (simp; done) | (simp; omega) | omega)) ?_
      refine .sr ?_
      refine .build (cs := #[nI 0, nI 0]) ?_ (fun w => by kernel_rfl)
      refine .move (.assign ?_)
      refine .stV ?_ agg51
      refine .assign (.z ?_)
      refine .ret (.thenRet (?_))
      exact .ret3 (h1 := .tmp (t := 4) rfl) (h3 := .tmp (t := 6) rfl) ⟨_, ⟨by rw [hlt]; rfl, rfl⟩, Am.auto⟩
theorem fsFileAt {f s a c mp : Nat} {b ov dead : Bool} {p : Pl} {T : FT} {F0 : FM} {W : Nat} {op : Bool} {path : Bytes} (ho : PlOk p) (hT : TOk T) (hpl : path.length ≤ 1000000) : Spec Tryz.prog 106 #[.pointer (some ⟨f, 0, none⟩), sv path] [pt f (fO c a s b ov dead mp), LD mp T, IN s a c p F0 (fmT T) W op] fun F v M => v = .tuple #[nI (fileT T path).1, .agg #[nI (fileT T path).2.1, nI (fileT T path).2.2.1], nI (fileT T path).2.2.2] ∧ M = pt f (fO c a s b ov dead mp) :: LD mp T :: IN s a c p F0 (fmT T) W op :: F := by
  refine Spec.intro Tryz.func106 rfl rfl fun B F => ?_
  simp only [Tryz.ntmps106, List.cons_append, List.nil_append, env0, Nat.reduceAdd]
  obtain ⟨i, k, z, e, hlt⟩ : ∃ i k z e, leadsT T path = (i, k, z, e) := ⟨_, _, _, _, rfl⟩
  have hft : fileT T path = if e = 0 ∧ k ≠ 1 then (0, 0, 0, 6) else (i, k, z, e) := by unfold fileT; rw [hlt]
  by_cases he : e = 0
  · subst he
    by_cases hk : k = 1
    · rw [if_neg (fun h => h.2 hk)] at hft
      refine .sr (.assign ?_)
      refine .alloc z51 fun b5 => ?_
      refine .assign (.x (.move (.move ?_)))
      refine .call (hc := Tryz.call77) (sp := fsLeads (f := f) (s := s) (a := a) (c := c) (mp := mp) (b := b) (ov := ov) (dead := dead) (p := p) (T := T) (F0 := F0) (W := W) (op := op) (path := path) ho hT hpl) (h := ?_)
      rintro _ _ ⟨rfl, rfl⟩
      rw [hlt]
      refine .move ?_
      refine .extract ?_
      refine .extract ?_
      refine .extract ?_
      refine .alloc z51 fun b8 => ?_
      refine .assign ?_
      refine .stV ?_ agg51
      refine .assign (.z (.seq (.sr (.move ?_))))
      refine .eqi ?_
      refine .move ?_
      refine .cast (d := 19) (u := .bool true) rfl (congrArg Value.bool (by first | (simp; done) | (simp; omega) | omega)) ?_
      refine .gT ?_
      refine .fa ?_ fo51_0
      refine .gT ?_
      refine .ld ?_ sc3
      refine .gT ?_
      refine .nei ?_
      refine .pickT ?_
      refine .z ?_
      refine .condF rfl (congrArg Value.bool (by first | (simp; done) | (simp; omega) | omega)) ?_
      refine .skip (.next (.seq ?_))
      refine .dr ([pt b8 (.cells #[nI k, nI z] 51 (0, 0))]) [] 6 mixed .autoJ ?_
      refine .tk 0 rfl .move ?_
      refine .tk 1 rfl (.ldA agg51) ?_
      refine .tk 2 rfl .move ?_
      refine .tk 3 rfl .assign ?_
      refine .on 4 rfl fun hnp => ?_
      refine .stV ?_ agg51
      refine .nil (.wa hnp ?_)
      refine .tk 5 rfl .assign ?_
      refine .fin ?_
      refine .next ?_
      refine .ret (?_)
      exact .ret3 (h1 := .tmp (t := 4) rfl) (h3 := .tmp (t := 6) rfl) ⟨_, ⟨by rw [hft]; rfl, rfl⟩, Am.auto⟩
    · rw [if_pos ⟨rfl, hk⟩] at hft
      refine .sr (.assign ?_)
      refine .alloc z51 fun b5 => ?_
      refine .assign (.x (.move (.move ?_)))
      refine .call (hc := Tryz.call77) (sp := fsLeads (f := f) (s := s) (a := a) (c := c) (mp := mp) (b := b) (ov := ov) (dead := dead) (p := p) (T := T) (F0 := F0) (W := W) (op := op) (path := path) ho hT hpl) (h := ?_)
      rintro _ _ ⟨rfl, rfl⟩
      rw [hlt]
      refine .move ?_
      refine .extract ?_
      refine .extract ?_
      refine .extract ?_
      refine .alloc z51 fun b8 => ?_
      refine .assign ?_
      refine .stV ?_ agg51
      refine .assign (.z (.seq (.sr (.move ?_))))
      refine .eqi ?_
      refine .move ?_
      refine .cast (d := 19) (u := .bool true) rfl (congrArg Value.bool (by first | (simp; done) | (simp; omega) | omega)) ?_
      refine .gT ?_
      refine .fa ?_ fo51_0
      refine .gT ?_
      refine .ld ?_ sc3
      refine .gT ?_
      refine .nei ?_
      refine .pickT ?_
      refine .z ?_
      refine .condT rfl (congrArg Value.bool (by first | (simp; done) | (simp; omega) | omega)) ?_
      refine .sr ?_
      refine .build (cs := #[nI 0, nI 0]) ?_ (fun w => by kernel_rfl)
      refine .assign ?_
      refine .stV ?_ agg51
      refine .assign (.z ?_)
      refine .ret (.thenRet (?_))
      exact .ret3 (h1 := .tmp (t := 4) rfl) (h3 := .tmp (t := 6) rfl) ⟨_, ⟨by rw [hft]; rfl, rfl⟩, Am.auto⟩
  · rw [if_neg (fun h => he h.1)] at hft
    refine .sr (.assign ?_)
    refine .alloc z51 fun b5 => ?_
    refine .assign (.x (.move (.move ?_)))
    refine .call (hc := Tryz.call77) (sp := fsLeads (f := f) (s := s) (a := a) (c := c) (mp := mp) (b := b) (ov := ov) (dead := dead) (p := p) (T := T) (F0 := F0) (W := W) (op := op) (path := path) ho hT hpl) (h := ?_)
    rintro _ _ ⟨rfl, rfl⟩
    rw [hlt]
    refine .move ?_
    refine .extract ?_
    refine .extract ?_
    refine .extract ?_
    refine .alloc z51 fun b8 => ?_
    refine .assign ?_
    refine .stV ?_ agg51
    refine .assign (.z (.seq (.sr (.move ?_))))
    refine .eqi ?_
    refine .move ?_
    refine .cast (d := 19) (u := .bool false) rfl (congrArg Value.bool (by first | (simp; done) | (simp; omega) | omega)) ?_
    refine .gF ?_
    refine .gF ?_
    refine .gF ?_
    refine .pickF ?_
    refine .z ?_
    refine .condF rfl rfl ?_
    refine .skip (.next (.seq ?_))
    refine .dr ([pt b8 (.cells #[nI k, nI z] 51 (0, 0))]) [] 6 mixed .autoJ ?_
    refine .tk 0 rfl .move ?_
    refine .tk 1 rfl (.ldA agg51) ?_
    refine .tk 2 rfl .move ?_
    refine .tk 3 rfl .assign ?_
    refine .on 4 rfl fun hnp => ?_
    refine .stV ?_ agg51
    refine .nil (.wa hnp ?_)
    refine .tk 5 rfl .assign ?_
    refine .fin ?_
    refine .next ?_
    refine .ret (?_)
    exact .ret3 (h1 := .tmp (t := 4) rfl) (h3 := .tmp (t := 6) rfl) ⟨_, ⟨by rw [hft]; rfl, rfl⟩, Am.auto⟩
theorem fsParent {f s a c mp : Nat} {b ov dead : Bool} {p : Pl} {T : FT} {F0 : FM} {W : Nat} {op : Bool} {path : Bytes} (ho : PlOk p) (hT : TOk T) (hpl : path.length ≤ 1000000) : Spec Tryz.prog 109 #[.pointer (some ⟨f, 0, none⟩), sv path] [pt f (fO c a s b ov dead mp), LD mp T, IN s a c p F0 (fmT T) W op] fun F v M => v = .tuple #[nI (parentT T path).1, sv (parentT T path).2.1, nI (parentT T path).2.2] ∧ M = pt f (fO c a s b ov dead mp) :: LD mp T :: IN s a c p F0 (fmT T) W op :: F := by
  refine Spec.intro Tryz.func109 rfl rfl fun B F => ?_
  simp only [Tryz.ntmps109, List.cons_append, List.nil_append, env0, Nat.reduceAdd]
  cases hpt : partsT path with
  | none =>
    have hlt : parentT T path = (0, [], 1) := by unfold parentT; rw [hpt]
    refine .sr (.assign (.assign (.assign (.x (.move ?_)))))
    refine .call (hc := Tryz.call154) (sp := fsPartsNo hpl hpt) (h := ?_)
    rintro _ _ ⟨rfl, rfl⟩
    refine .move ?_
    refine .extract ?_
    refine .extract ?_
    refine .assign (.assign (.z (.seq (.sr (.move ?_)))))
    refine .nei ?_
    refine .z ?_
    refine .condT rfl (congrArg Value.bool (by first | (simp; done) | (simp; omega) | omega)) ?_
    refine .sr (.move (.assign (.assign (.assign (.z ?_)))))
    refine .ret (.thenRet (?_))
    exact .ret3 (h1 := .tmp (t := 4) rfl) (h2 := .tmp (t := 5) rfl) (h3 := .tmp (t := 6) rfl) ⟨_, ⟨by rw [hlt]; rfl, rfl⟩, Am.auto⟩
  | some l =>
    have hl8 := partsT_len hpt
    by_cases hl0 : l = []
    · have hl00 : l.length = 0 := by rw [hl0]; rfl
      have hlt : parentT T path = (0, [], 1) := by unfold parentT; simp only [hpt]; rw [if_pos hl0]
      refine .sr (.assign (.assign (.assign (.x (.move ?_)))))
      refine .call (hc := Tryz.call154) (sp := fsParts hpl hpt) (h := ?_)
      rintro _ _ ⟨u, rfl, rfl⟩
      refine .fact (rowR_shape (el := 9) (size := 1) (v := u) (k := l.length) (xs := svs l)) (fun ⟨A, cc, hu, hR, hc1, hc2, hlen⟩ => ?_)
      subst hu
      refine .move ?_
      refine .extract ?_
      refine .extract ?_
      refine .assign (.assign (.z (.seq (.sr (.move ?_)))))
      refine .nei ?_
      refine .z ?_
      refine .condF rfl (congrArg Value.bool (by first | (simp; done) | (simp; omega) | omega)) ?_
      refine .skip (.next (.seq (.sr (.move ?_))))
      refine .lenS ?_ sl92
      refine .eqi ?_
      refine .z ?_
      refine .condT rfl (congrArg Value.bool (by first | (simp; done) | (simp; omega) | omega)) ?_
      refine .sr (.assign (.assign (.assign (.z ?_))))
      refine .ret (.thenRet (?_))
      exact .ret3 (h1 := .tmp (t := 4) rfl) (h2 := .tmp (t := 5) rfl) (h3 := .tmp (t := 6) rfl) ⟨_, ⟨by rw [hlt]; rfl, rfl⟩, Am.auto⟩
    · obtain ⟨N, hN⟩ : ∃ N, l.length = N + 1 := ⟨l.length - 1, by have := List.length_pos_iff.2 hl0; omega⟩
      have hdl : l.dropLast = l.take N := by rw [List.dropLast_eq_take, hN]; rfl
      have hgl : l.getLastD [] = l[N]'(by omega) := by
        have e1 : l[l.length - 1]? = some (l[N]'(by omega)) := by rw [show l.length - 1 = N from by omega]; exact List.getElem?_eq_getElem _
        rw [List.getLastD_eq_getLast?, List.getLast?_eq_getElem?, e1]; rfl
      obtain ⟨d, e, hw⟩ : ∃ d e, walkT T 0 (l.take N) = (d, e) := ⟨_, _, rfl⟩
      have hlt : parentT T path = if e = 0 then (match T d with | some (.dir _) => (d, l[N]'(by omega), 0) | _ => (0, [], 6)) else (0, [], e) := by unfold parentT; simp only [hpt]; rw [if_neg hl0, hdl, hgl, hw]; first | done | rfl
      have htl : (svs l).take N = svs (l.take N) := List.map_take.symm
      by_cases he : e = 0
      · subst he
        rw [if_pos rfl] at hlt
        cases hTi : T d with
        | none =>
          simp only [hTi] at hlt
          refine .sr (.assign (.assign (.assign (.x (.move ?_)))))
          refine .call (hc := Tryz.call154) (sp := fsParts hpl hpt) (h := ?_)
          rintro _ _ ⟨u, rfl, rfl⟩
          refine .fact (rowR_shape (el := 9) (size := 1) (v := u) (k := l.length) (xs := svs l)) (fun ⟨A, cc, hu, hR, hc1, hc2, hlen⟩ => ?_)
          subst hu
          rcases A with _ | ⟨ab, ao, asp⟩
          · exact absurd hR (fun h => by have h2 : svs l = [] := h; have hll := svs_length l; rw [h2] at hll; simp at hll; omega)
          have hsp : asp = none := hR.1
          subst hsp
          refine .move ?_
          refine .extract ?_
          refine .extract ?_
          refine .assign (.assign (.z (.seq (.sr (.move ?_)))))
          refine .nei ?_
          refine .z ?_
          refine .condF rfl (congrArg Value.bool (by first | (simp; done) | (simp; omega) | omega)) ?_
          refine .skip (.next (.seq (.sr (.move ?_))))
          refine .lenS ?_ sl92
          refine .eqi ?_
          refine .z ?_
          refine .condF rfl (congrArg Value.bool (by first | (simp; done) | (simp; omega) | omega)) ?_
          refine .skip (.next (.sr (.move ?_)))
          refine .lenS ?_ sl92
          refine .sub ?_
          refine .cast (d := 24) (u := .int .i64 (N : Int)) rfl (congrArg (Value.int .i64) (by omega)) ?_
          refine .assign (.z (.seq (.sr (.move (.move (.move ?_))))))
          refine .slcH ?_ so92
          refine .call (hc := Tryz.call155) (sp := fsWalk (f := f) (s := s) (a := a) (c := c) (mp := mp) (b := b) (ov := ov) (dead := dead) (p := p) (T := T) (F0 := F0) (W := W) (op := op) (l := l.take N) (R := rowR 9 1 (.slice (some ⟨ab, ao, none⟩) l.length cc) l.length (svs l)) ho hT (.inl (htl ▸ hR.take N)) (by rw [List.length_take]; omega) (by omega)) (h := ?_)
          rintro _ _ ⟨rfl, rfl⟩
          rw [hw]
          refine .move ?_
          refine .extract ?_
          refine .extract ?_
          refine .assign (.assign (.x (.move ?_)))
          refine .nei ?_
          refine .z ?_
          refine .condF rfl (congrArg Value.bool (by first | (simp; done) | (simp; omega) | omega)) ?_
          refine .skip (.next (.seq (.sr (.move ?_))))
          refine .nilCheck ?_
          refine .fa ?_ fo129_2
          refine .ld ?_ sc126
          refine .move ?_
          refine .call (hc := Tryz.call156) (sp := nStatTNo (s := s) (a := a) (c := c) (p := p) (F0 := F0) (T := T) (W := W) (op := op) (i := d) ho hTi) (h := ?_)
          rintro _ _ ⟨rfl, rfl⟩
          refine .move ?_
          refine .extract ?_
          refine .extract ?_
          refine .alloc z51 fun b9 => ?_
          refine .stV ?_ agg51
          refine .assign (.x (.move ?_))
          refine .nei ?_
          refine .move ?_
          refine .cast (d := 47) (u := .bool true) rfl (congrArg Value.bool (by first | (simp; done) | (simp; omega) | omega)) ?_
          refine .gF ?_
          refine .gF ?_
          refine .gF ?_
          refine .pickT ?_
          refine .z ?_
          refine .condT rfl rfl ?_
          refine .sr (.assign (.assign (.assign (.z ?_))))
          refine .ret (.thenRet (?_))
          exact .ret3 (h1 := .tmp (t := 4) rfl) (h2 := .tmp (t := 5) rfl) (h3 := .tmp (t := 6) rfl) ⟨_, ⟨by rw [hlt]; rfl, rfl⟩, Am.auto⟩
        | some x =>
          cases x with
          | file fb =>
            simp only [hTi] at hlt
            refine .sr (.assign (.assign (.assign (.x (.move ?_)))))
            refine .call (hc := Tryz.call154) (sp := fsParts hpl hpt) (h := ?_)
            rintro _ _ ⟨u, rfl, rfl⟩
            refine .fact (rowR_shape (el := 9) (size := 1) (v := u) (k := l.length) (xs := svs l)) (fun ⟨A, cc, hu, hR, hc1, hc2, hlen⟩ => ?_)
            subst hu
            rcases A with _ | ⟨ab, ao, asp⟩
            · exact absurd hR (fun h => by have h2 : svs l = [] := h; have hll := svs_length l; rw [h2] at hll; simp at hll; omega)
            have hsp : asp = none := hR.1
            subst hsp
            refine .move ?_
            refine .extract ?_
            refine .extract ?_
            refine .assign (.assign (.z (.seq (.sr (.move ?_)))))
            refine .nei ?_
            refine .z ?_
            refine .condF rfl (congrArg Value.bool (by first | (simp; done) | (simp; omega) | omega)) ?_
            refine .skip (.next (.seq (.sr (.move ?_))))
            refine .lenS ?_ sl92
            refine .eqi ?_
            refine .z ?_
            refine .condF rfl (congrArg Value.bool (by first | (simp; done) | (simp; omega) | omega)) ?_
            refine .skip (.next (.sr (.move ?_)))
            refine .lenS ?_ sl92
            refine .sub ?_
            refine .cast (d := 24) (u := .int .i64 (N : Int)) rfl (congrArg (Value.int .i64) (by omega)) ?_
            refine .assign (.z (.seq (.sr (.move (.move (.move ?_))))))
            refine .slcH ?_ so92
            refine .call (hc := Tryz.call155) (sp := fsWalk (f := f) (s := s) (a := a) (c := c) (mp := mp) (b := b) (ov := ov) (dead := dead) (p := p) (T := T) (F0 := F0) (W := W) (op := op) (l := l.take N) (R := rowR 9 1 (.slice (some ⟨ab, ao, none⟩) l.length cc) l.length (svs l)) ho hT (.inl (htl ▸ hR.take N)) (by rw [List.length_take]; omega) (by omega)) (h := ?_)
            rintro _ _ ⟨rfl, rfl⟩
            rw [hw]
            refine .move ?_
            refine .extract ?_
            refine .extract ?_
            refine .assign (.assign (.x (.move ?_)))
            refine .nei ?_
            refine .z ?_
            refine .condF rfl (congrArg Value.bool (by first | (simp; done) | (simp; omega) | omega)) ?_
            refine .skip (.next (.seq (.sr (.move ?_))))
            refine .nilCheck ?_
            refine .fa ?_ fo129_2
            refine .ld ?_ sc126
            refine .move ?_
            refine .call (hc := Tryz.call156) (sp := nStatT (s := s) (a := a) (c := c) (p := p) (F0 := F0) (T := T) (W := W) (op := op) (i := d) ho hTi) (h := ?_)
            rintro _ _ ⟨rfl, rfl⟩
            simp only [NodeT.kind, NodeT.size]
            refine .move ?_
            refine .extract ?_
            refine .extract ?_
            refine .alloc z51 fun b9 => ?_
            refine .stV ?_ agg51
            refine .assign (.x (.move ?_))
            refine .nei ?_
            refine .move ?_
            refine .cast (d := 47) (u := .bool false) rfl (congrArg Value.bool (by first | (simp; done) | (simp; omega) | omega)) ?_
            refine .gT ?_
            refine .fa ?_ fo51_0
            refine .gT ?_
            refine .ld ?_ sc3
            refine .gT ?_
            refine .nei ?_
            refine .pickF ?_
            refine .z ?_
            refine .condT rfl (congrArg Value.bool (by first | (simp; done) | (simp; omega) | omega)) ?_
            refine .sr (.assign (.assign (.assign (.z ?_))))
            refine .ret (.thenRet (?_))
            exact .ret3 (h1 := .tmp (t := 4) rfl) (h2 := .tmp (t := 5) rfl) (h3 := .tmp (t := 6) rfl) ⟨_, ⟨by rw [hlt]; rfl, rfl⟩, Am.auto⟩
          | dir sl =>
            simp only [hTi] at hlt
            have hgk : (svs l)[((N : Nat) : Int).toNat]? = some (sv (l[N]'(by omega))) := svs_get (by omega)
            refine .sr (.assign (.assign (.assign (.x (.move ?_)))))
            refine .call (hc := Tryz.call154) (sp := fsParts hpl hpt) (h := ?_)
            rintro _ _ ⟨u, rfl, rfl⟩
            refine .fact (rowR_shape (el := 9) (size := 1) (v := u) (k := l.length) (xs := svs l)) (fun ⟨A, cc, hu, hR, hc1, hc2, hlen⟩ => ?_)
            subst hu
            rcases A with _ | ⟨ab, ao, asp⟩
            · exact absurd hR (fun h => by have h2 : svs l = [] := h; have hll := svs_length l; rw [h2] at hll; simp at hll; omega)
            have hsp : asp = none := hR.1
            subst hsp
            refine .move ?_
            refine .extract ?_
            refine .extract ?_
            refine .assign (.assign (.z (.seq (.sr (.move ?_)))))
            refine .nei ?_
            refine .z ?_
            refine .condF rfl (congrArg Value.bool (by first | (simp; done) | (simp; omega) | omega)) ?_
            refine .skip (.next (.seq (.sr (.move ?_))))
            refine .lenS ?_ sl92
            refine .eqi ?_
            refine .z ?_
            refine .condF rfl (congrArg Value.bool (by first | (simp; done) | (simp; omega) | omega)) ?_
            refine .skip (.next (.sr (.move ?_)))
            refine .lenS ?_ sl92
            refine .sub ?_
            refine .cast (d := 24) (u := .int .i64 (N : Int)) rfl (congrArg (Value.int .i64) (by omega)) ?_
            refine .assign (.z (.seq (.sr (.move (.move (.move ?_))))))
            refine .slcH ?_ so92
            refine .call (hc := Tryz.call155) (sp := fsWalk (f := f) (s := s) (a := a) (c := c) (mp := mp) (b := b) (ov := ov) (dead := dead) (p := p) (T := T) (F0 := F0) (W := W) (op := op) (l := l.take N) (R := rowR 9 1 (.slice (some ⟨ab, ao, none⟩) l.length cc) l.length (svs l)) ho hT (.inl (htl ▸ hR.take N)) (by rw [List.length_take]; omega) (by omega)) (h := ?_)
            rintro _ _ ⟨rfl, rfl⟩
            rw [hw]
            refine .move ?_
            refine .extract ?_
            refine .extract ?_
            refine .assign (.assign (.x (.move ?_)))
            refine .nei ?_
            refine .z ?_
            refine .condF rfl (congrArg Value.bool (by first | (simp; done) | (simp; omega) | omega)) ?_
            refine .skip (.next (.seq (.sr (.move ?_))))
            refine .nilCheck ?_
            refine .fa ?_ fo129_2
            refine .ld ?_ sc126
            refine .move ?_
            refine .call (hc := Tryz.call156) (sp := nStatT (s := s) (a := a) (c := c) (p := p) (F0 := F0) (T := T) (W := W) (op := op) (i := d) ho hTi) (h := ?_)
            rintro _ _ ⟨rfl, rfl⟩
            simp only [NodeT.kind, NodeT.size]
            refine .move ?_
            refine .extract ?_
            refine .extract ?_
            refine .alloc z51 fun b9 => ?_
            refine .stV ?_ agg51
            refine .assign (.x (.move ?_))
            refine .nei ?_
            refine .move ?_
            refine .cast (d := 47) (u := .bool false) rfl (congrArg Value.bool (by first | (simp; done) | (simp; omega) | omega)) ?_
            refine .gT ?_
            refine .fa ?_ fo51_0
            refine .gT ?_
            refine .ld ?_ sc3
            refine .gT ?_
            refine .nei ?_
            refine .pickF ?_
            refine .z ?_
            refine .condF rfl (congrArg Value.bool (by first | (simp; done) | (simp; omega) | omega)) ?_
            refine .skip (.next (.seq ?_))
            refine .dr ([rowR 9 1 (.slice (some ⟨ab, ao, none⟩) l.length cc) l.length (svs l)]) [] 8 mixed .autoJ ?_
            refine .tk 0 rfl .move ?_
            refine .tk 1 rfl .move ?_
            refine .tk 2 rfl .move ?_
            refine .tk 3 rfl (.idx1 so92) ?_
            refine .tk 4 rfl (Qt.ldR (i := ((N : Nat) : Int).toNat) sc9 hR hgk) ?_
            refine .tk 5 rfl .assign ?_
            refine .tk 6 rfl .assign ?_
            refine .tk 7 rfl .assign ?_
            refine .fin ?_
            refine .next ?_
            refine .ret (?_)
            exact .ret3 (h1 := .tmp (t := 4) rfl) (h2 := .tmp (t := 5) rfl) (h3 := .tmp (t := 6) rfl) ⟨_, ⟨by rw [hlt]; rfl, rfl⟩, Am.auto⟩
      · rw [if_neg he] at hlt
        refine .sr (.assign (.assign (.assign (.x (.move ?_)))))
        refine .call (hc := Tryz.call154) (sp := fsParts hpl hpt) (h := ?_)
        rintro _ _ ⟨u, rfl, rfl⟩
        refine .fact (rowR_shape (el := 9) (size := 1) (v := u) (k := l.length) (xs := svs l)) (fun ⟨A, cc, hu, hR, hc1, hc2, hlen⟩ => ?_)
        subst hu
        rcases A with _ | ⟨ab, ao, asp⟩
        · exact absurd hR (fun h => by have h2 : svs l = [] := h; have hll := svs_length l; rw [h2] at hll; simp at hll; omega)
        have hsp : asp = none := hR.1
        subst hsp
        refine .move ?_
        refine .extract ?_
        refine .extract ?_
        refine .assign (.assign (.z (.seq (.sr (.move ?_)))))
        refine .nei ?_
        refine .z ?_
        refine .condF rfl (congrArg Value.bool (by first | (simp; done) | (simp; omega) | omega)) ?_
        refine .skip (.next (.seq (.sr (.move ?_))))
        refine .lenS ?_ sl92
        refine .eqi ?_
        refine .z ?_
        refine .condF rfl (congrArg Value.bool (by first | (simp; done) | (simp; omega) | omega)) ?_
        refine .skip (.next (.sr (.move ?_)))
        refine .lenS ?_ sl92
        refine .sub ?_
        refine .cast (d := 24) (u := .int .i64 (N : Int)) rfl (congrArg (Value.int .i64) (by omega)) ?_
        refine .assign (.z (.seq (.sr (.move (.move (.move ?_))))))
        refine .slcH ?_ so92
        refine .call (hc := Tryz.call155) (sp := fsWalk (f := f) (s := s) (a := a) (c := c) (mp := mp) (b := b) (ov := ov) (dead := dead) (p := p) (T := T) (F0 := F0) (W := W) (op := op) (l := l.take N) (R := rowR 9 1 (.slice (some ⟨ab, ao, none⟩) l.length cc) l.length (svs l)) ho hT (.inl (htl ▸ hR.take N)) (by rw [List.length_take]; omega) (by omega)) (h := ?_)
        rintro _ _ ⟨rfl, rfl⟩
        rw [hw]
        refine .move ?_
        refine .extract ?_
        refine .extract ?_
        refine .assign (.assign (.x (.move ?_)))
        refine .nei ?_
        refine .z ?_
        refine .condT rfl (congrArg Value.bool (by first | (simp; done) | (simp; omega) | omega)) ?_
        refine .sr (.move (.assign (.assign (.assign (.z ?_)))))
        refine .ret (.thenRet (?_))
        exact .ret3 (h1 := .tmp (t := 4) rfl) (h2 := .tmp (t := 5) rfl) (h3 := .tmp (t := 6) rfl) ⟨_, ⟨by rw [hlt]; rfl, rfl⟩, Am.auto⟩
end Go.Proofs.YtdmjkjeoamiedaaGreatDoor
end
section
namespace Go.Proofs.YtdmjkjeoamiedaaGreatDoor
open Go
theorem fo129_5 : fieldOk Tryz.prog 129 5 5 = true := by kernel_rfl
theorem fo129_3 : fieldOk Tryz.prog 129 3 3 = true := by kernel_rfl
def bun (Ls : List HP) : HP := fun h => ∃ _ : Unit, True ∧ star Ls h
theorem bun.opens (Ls : List HP) : Opens (bun Ls) (fun _ : Unit => True) (fun _ => Ls) := ⟨fun h hh => hh, fun x hp h hh => ⟨x, hp, hh⟩⟩
attribute [irreducible] bun
theorem fsGone {f s a c mp : Nat} {b ov dead : Bool} : Spec Tryz.prog 168 #[.pointer (some ⟨f, 0, none⟩)] [pt f (fO c a s b ov dead mp)] fun F v M => v = .bool dead ∧ M = pt f (fO c a s b ov dead mp) :: F := by
  refine Spec.intro Tryz.func168 rfl rfl fun B F => ?_
  simp only [Tryz.ntmps168, List.cons_append, List.nil_append, env0, Nat.reduceAdd]
  refine .sr (.assign (.x (.move ?_)))
  refine .eqNil ?_ ptr23
  refine .move ?_
  refine .gT ?_
  refine .move ?_
  refine .gT ?_
  refine .nilCheck ?_
  refine .gT ?_
  refine .fa ?_ fo129_0
  refine .gT ?_
  refine .ld ?_ sc124
  refine .gT ?_
  refine .eqNil ?_ ptr124
  refine .pickF ?_
  refine .move ?_
  refine .gT ?_
  refine .move ?_
  refine .gT ?_
  refine .nilCheck ?_
  refine .gT ?_
  refine .fa ?_ fo129_5
  refine .gT ?_
  refine .ld ?_ sc4
  refine .pickF ?_
  refine .assign (.z ?_)
  refine .ret (?_)
  exact .ret1 (h1 := .tmp (t := 2) rfl) ⟨_, ⟨rfl, rfl⟩, Am.auto⟩
theorem fsForget {f s a c mp : Nat} {b ov dead : Bool} {T S : FT} : Spec Tryz.prog 169 #[.pointer (some ⟨f, 0, none⟩)] [pt f (fO c a s b ov dead mp), LD mp S] fun F v M => v = .tuple #[] ∧ M = pt f (fO c a s b ov dead mp) :: LD mp T :: F := by
  refine Spec.intro Tryz.func169 rfl rfl fun B F => ?_
  simp only [Tryz.ntmps169, List.cons_append, List.nil_append, env0, Nat.reduceAdd]
  refine .openR (LD.opens mp S) fun y hy => ?_
  obtain ⟨es, cl, kv⟩ := y
  simp only [List.cons_append, List.nil_append]
  refine .region (.move ?_)
  refine .nilCheck ?_
  refine .fa ?_ fo129_6
  refine .ld ?_ sc127
  refine .clearM ?_ mp127
  refine .nil ?_
  refine .shutR (LD.opens mp T) (#[], cl, []) (LDP.empty T cl) ?_
  exact .ret0 ⟨_, ⟨rfl, rfl⟩, Am.auto⟩
theorem fsForgetD {f s a c mp : Nat} {b ov dead : Bool} {T S : FT} : SpecD Tryz.prog 169 #[.pointer (some ⟨f, 0, none⟩)] [pt f (fO c a s b ov dead mp), LD mp S] fun F v M => v = .tuple #[] ∧ M = pt f (fO c a s b ov dead mp) :: LD mp T :: F := by
  refine SpecD.intro Tryz.func169 rfl rfl fun B F => ?_
  simp only [Tryz.ntmps169, List.cons_append, List.nil_append, env0, Nat.reduceAdd]
  refine .openR (LD.opens mp S) fun y hy => ?_
  obtain ⟨es, cl, kv⟩ := y
  simp only [List.cons_append, List.nil_append]
  refine .region (.move ?_)
  refine .nilCheck ?_
  refine .fa ?_ fo129_6
  refine .ld ?_ sc127
  refine .clearM ?_ mp127
  refine .nil ?_
  refine .shutR (LD.opens mp T) (#[], cl, []) (LDP.empty T cl) ?_
  exact .ret0 ⟨_, ⟨rfl, rfl⟩, Am.auto⟩
theorem fsEnd {f s a c mp : Nat} {b ov dead : Bool} {T S : FT} {p : Pl} {F0 Fm : FM} {W : Nat} (ho : PlOk p) : Spec Tryz.prog 171 #[.pointer (some ⟨f, 0, none⟩)] [pt f (fO c a s b ov dead mp), LD mp S, IN s a c p F0 Fm W true] fun F v M => v = okV ∧ M = pt f (fO c a s b ov dead mp) :: LD mp T :: IN s a c p Fm Fm 0 false :: F := by
  refine Spec.intro Tryz.func171 rfl rfl fun B F => ?_
  simp only [Tryz.ntmps171, List.cons_append, List.nil_append, env0, Nat.reduceAdd]
  refine .sr (.assign (.x (.move ?_)))
  refine .call (hc := Tryz.call169) (sp := fsForget (f := f) (s := s) (a := a) (c := c) (mp := mp) (b := b) (ov := ov) (dead := dead) (S := S) (T := T)) (h := ?_)
  rintro _ _ ⟨rfl, rfl⟩
  refine .x (.move ?_)
  refine .nilCheck ?_
  refine .fa ?_ fo129_0
  refine .ld ?_ sc124
  refine .call (hc := Tryz.call139) (sp := nCommit (s := s) (a := a) (c := c) (p := p) (F0 := F0) (F := Fm) (W := W) ho) (h := ?_)
  rintro _ _ ⟨rfl, rfl⟩
  refine .assign (.z (.seq (.sr (.move ?_))))
  refine .eqi ?_
  refine .z ?_
  refine .condF rfl (congrArg Value.bool (by first | (simp; done) | (simp; omega) | omega)) ?_
  refine .skip (.next (.sr (.move (.assign (.z ?_)))))
  refine .ret (?_)
  exact .ret1 (h1 := .tmp (t := 2) rfl) ⟨_, ⟨rfl, rfl⟩, Am.auto⟩
theorem fsChange {f s a c mp : Nat} {p : Pl} {T S : FT} {F1 : FM} {W : Nat} {R R' : HP} {k : FuncId} {cap : Array Value} (ho : PlOk p) (hc : ∀ args w, (callFunc k args).run Tryz.prog w = .ok (.enter k args) w)
    (sp : Spec Tryz.prog k cap [pt f (fO c a s false false false mp), LD mp S, IN s a c p (fmT S) (fmT S) 0 true, R] fun F v M => v = okV ∧ M = pt f (fO c a s false false false mp) :: LD mp S :: IN s a c p (fmT S) F1 W true :: R' :: F) : Spec Tryz.prog 92 #[.pointer (some ⟨f, 0, none⟩), .func (.func k) #[] cap] [pt f (fO c a s false false false mp), LD mp S, IN s a c p (fmT S) (fmT S) 0 false, R] fun F v M => v = okV ∧ M = pt f (fO c a s false false false mp) :: LD mp T :: IN s a c p F1 F1 0 false :: R' :: F := by
  refine Spec.introD Tryz.func92 rfl rfl fun B F => ?_
  simp only [Tryz.ntmps92, List.cons_append, List.nil_append, env0, Nat.reduceAdd]
  have sp' := sp
  rw [show cap = (([] : List Value)).toArray ++ cap from by simp] at sp'
  refine .sr (.assign (.z (.seq (.sr (.move ?_)))))
  refine .call (hc := Tryz.call168) (sp := fsGone (f := f) (s := s) (a := a) (c := c) (mp := mp) (b := false) (ov := false) (dead := false)) (h := ?_)
  rintro _ _ ⟨rfl, rfl⟩
  refine .z ?_
  refine .condF rfl rfl ?_
  refine .skip (.next (.sr (.move ?_)))
  refine .call (hc := Tryz.call169) (sp := fsForget (f := f) (s := s) (a := a) (c := c) (mp := mp) (b := false) (ov := false) (dead := false) (S := S) (T := S)) (h := ?_)
  rintro _ _ ⟨rfl, rfl⟩
  refine .x (.move ?_)
  refine .defer ?_
  refine .z (.seq (.sr (.move ?_)))
  refine .nilCheck ?_
  refine .fa ?_ fo129_3
  refine .ld ?_ sc4
  refine .not ?_
  refine .z ?_
  refine .condT rfl rfl ?_
  refine .sr (.move ?_)
  refine .nilCheck ?_
  refine .fa ?_ fo129_0
  refine .ld ?_ sc124
  refine .call (hc := Tryz.call133) (sp := nBegin (s := s) (a := a) (c := c) (p := p) (F0 := fmT S) (F := fmT S) (W := 0)) (h := ?_)
  rintro _ _ ⟨rfl, rfl⟩
  refine .z (.seq (.sr (.move ?_)))
  refine .callV (hc := hc) (sp := sp') (h := ?_)
  rintro _ _ ⟨rfl, rfl⟩
  refine .assign (.x (.move ?_))
  refine .nei ?_
  refine .z ?_
  refine .condF rfl (congrArg Value.bool (by first | (simp; done) | (simp; omega) | omega)) ?_
  refine .skip (.next (.sr (.move ?_)))
  refine .call (hc := Tryz.call171) (sp := fsEnd (f := f) (s := s) (a := a) (c := c) (mp := mp) (b := false) (ov := false) (dead := false) (p := p) (S := S) (T := S) (F0 := fmT S) (Fm := F1) (W := W) ho) (h := ?_)
  rintro _ _ ⟨rfl, rfl⟩
  refine .assign (.z ?_)
  refine .ret (.thenRet (?_))
  refine .retD1 (t := 4) (hc := Tryz.call169) (sp := fsForgetD (f := f) (s := s) (a := a) (c := c) (mp := mp) (b := false) (ov := false) (dead := false) (S := S) (T := T)) (fun v' M' h => ?_)
  obtain ⟨_, rfl⟩ := h
  exact ⟨_, ⟨rfl, rfl⟩, Am.auto⟩
end Go.Proofs.YtdmjkjeoamiedaaGreatDoor
end
section
namespace Go.Proofs.YtdmjkjeoamiedaaGreatDoor
open Go
theorem sc23 : scalarOk Tryz.prog 23 = true := by kernel_rfl
theorem sc131 : scalarOk Tryz.prog 131 = true := by kernel_rfl
theorem findT_no {T : FT} {d : Nat} {nm : Bytes} {sl : List Slot} (h : (findT T d nm).2 = 4) (hd : T d = some (.dir sl)) : nameOk nm = true ∧ lookS nm sl = none := by
  unfold findT at h
  split at h
  · rename_i hn
    refine ⟨hn, ?_⟩
    simp only [hd] at h
    split at h
    · cases h
    · assumption
  · cases h
def NodeT.empty : NodeT → Prop
  | .file b => b = []
  | .dir sl => sl = []
theorem NodeT.empty_f {x : NodeT} (h : x.empty) : x.f = (x.kind, []) := by
  cases x with
  | file b => cases h; rfl
  | dir sl => cases h; rfl
def mkT (T : FT) (d : Nat) (sl : List Slot) (nm : Bytes) (i : Nat) (x : NodeT) : FT := updT (updT T i (some x)) d (some (.dir (setS sl (freeS sl) (some (nm, i)))))
theorem fsMakeC {f s a c mp : Nat} {p : Pl} {T : FT} {path : Bytes} {bp bf bk kind : Nat} (ho : PlOk p) (hT : TOk T) (hpl : path.length ≤ 1000000) {d i : Nat} {nm : Bytes} {sl : List Slot} {x : NodeT} (hp : path ≠ [47]) (hpar : parentT T path = (d, nm, 0)) (hfi : findT T d nm = (0, 4)) (hd : T d = some (.dir sl)) (hi : i < p.ino) (hTi : T i = none) (hb : ∀ j < i, T j ≠ none) (hx : x.empty) (hk : x.kind = kind) (hw : Rw p 0 14) (hfit : tot (fmT T) p.ino + has (max (64 * sl.length) (64 * freeS sl + 64)) ≤ p.dc + has (64 * sl.length)) : Spec Tryz.prog 144 #[.pointer (some ⟨bp, 0, none⟩), .pointer (some ⟨bf, 0, none⟩), .pointer (some ⟨bk, 0, none⟩)] [pt f (fO c a s false false false mp), LD mp T, IN s a c p (fmT T) (fmT T) 0 true, bun [pt bp (.cells #[sv path] 9 (0, 0)), pt bf (.cells #[.pointer (some ⟨f, 0, none⟩)] 23 (0, 0)), pt bk (.cells #[nI kind] 3 (0, 0))]] fun F v M => v = okV ∧ M = pt f (fO c a s false false false mp) :: LD mp T :: IN s a c p (fmT T) (fmT (mkT T d sl nm i x)) 9 true :: bun [pt bp (.cells #[sv path] 9 (0, 0)), pt bf (.cells #[.pointer (some ⟨f, 0, none⟩)] 23 (0, 0)), pt bk (.cells #[nI kind] 3 (0, 0))] :: F := by
  refine Spec.intro Tryz.func144 rfl rfl fun B F => ?_
  simp only [Tryz.ntmps144, List.cons_append, List.nil_append, env0, Nat.reduceAdd]
  refine .openR (bun.opens _) fun _ _ => ?_
  simp only [List.cons_append, List.nil_append]
  have hlk := findT_no (by rw [hfi]) hd
  have hto := hT d sl hd
  have hfl := freeS_le sl
  have hne : d ≠ i := fun h => by rw [h, hTi] at hd; cases hd
  have hx0 : x.f = (kind, []) := by rw [NodeT.empty_f hx, hk]
  have hk12 : kind = 1 ∨ kind = 2 := by
    rw [← hk]
    cases x with
    | file b => exact .inl rfl
    | dir sl => exact .inr rfl
  have hF1 : updM (fmT T) i (some (kind, [])) = fmT (updT T i (some x)) := by rw [← hx0, fmT_updS]
  have hi32 : i < 4294967296 := by have := ho.i2; omega
  have htot : tot (fmT (updT T i (some x))) p.ino = tot (fmT T) p.ino := by
    have h := tot_upd' (fmT T) hi (some (kind, []))
    rw [hF1, fmT_none hTi] at h
    have h1 : hasO none = 0 := rfl
    have h2 : hasO (some (kind, ([] : Bytes))) = 0 := by show has 0 = 0; rfl
    omega
  have hd1 : fmT (updT T i (some x)) d = some (2, dirB sl) := by
    have : updT T i (some x) d = some (.dir sl) := by rw [updT_other _ _ hne]; exact hd
    exact fmT_some this
  refine .sr (.assign (.z (.seq (.sr ?_))))
  refine .ld ?_ sc9
  refine .eqS path [47] ?_
  refine .cast (d := 11) (u := .bool false) rfl (congrArg Value.bool (decide_eq_false hp)) ?_
  refine .z ?_
  refine .condF rfl rfl ?_
  refine .skip (.next (.sr ?_))
  refine .ld ?_ sc23
  refine .ld ?_ sc9
  refine .call (hc := Tryz.call109) (sp := fsParent (f := f) (s := s) (a := a) (c := c) (mp := mp) (b := false) (ov := false) (dead := false) (p := p) (T := T) (F0 := fmT T) (W := 0) (op := true) (path := path) ho hT hpl) (h := ?_)
  rintro _ _ ⟨rfl, rfl⟩
  rw [hpar]
  refine .move ?_
  refine .extract ?_
  refine .extract ?_
  refine .extract ?_
  refine .assign (.assign (.assign (.z (.seq (.sr (.move ?_))))))
  refine .nei ?_
  refine .z ?_
  refine .condF rfl (congrArg Value.bool (by first | (simp; done) | (simp; omega) | omega)) ?_
  refine .skip (.next (.seq (.sr ?_)))
  refine .ld ?_ sc23
  refine .move (.move ?_)
  refine .call (hc := Tryz.call110) (sp := fsFind (f := f) (s := s) (a := a) (c := c) (mp := mp) (b := false) (ov := false) (dead := false) (p := p) (T := T) (F0 := fmT T) (W := 0) (op := true) (d := d) (nm := nm) ho hT) (h := ?_)
  rintro _ _ ⟨rfl, rfl⟩
  rw [hfi]
  refine .move ?_
  refine .extract ?_
  refine .extract ?_
  refine .assign (.assign (.x (.move ?_)))
  refine .nei ?_
  refine .z ?_
  refine .condF rfl (congrArg Value.bool (by first | (simp; done) | (simp; omega) | omega)) ?_
  refine .skip (.next (.seq ?_))
  refine .dr ([pt bf (.cells #[.pointer (some ⟨f, 0, none⟩)] 23 (0, 0)), pt bk (.cells #[nI kind] 3 (0, 0)), pt f (fO c a s false false false mp)]) [] 11 mixed .autoJ ?_
  refine .tk 0 rfl (.ld sc23) ?_
  refine .tk 1 rfl .nilCheck ?_
  refine .tk 2 rfl (.fa fo129_2) ?_
  refine .tk 3 rfl (.ld sc126) ?_
  refine .tk 4 rfl (.ld sc3) ?_
  refine .on 5 rfl fun hnp => ?_
  refine .call (hc := Tryz.call145) (sp := nMake (s := s) (a := a) (c := c) (p := p) (F0 := fmT T) (F := fmT T) (W := 0) (i := i) (k := kind) ho hk12 (hw.less (by omega)) hi (fmT_none hTi) (fun j hj h => by have := hb j hj; unfold fmT at h; cases hj2 : T j with | none => exact this hj2 | some y => rw [hj2] at h; cases h)) (h := ?_)
  rintro _ _ ⟨rfl, rfl⟩
  rw [hF1]
  refine .nil (.wa hnp ?_)
  refine .tk 6 rfl .move ?_
  refine .tk 7 rfl .extract ?_
  refine .tk 8 rfl .extract ?_
  refine .tk 9 rfl .assign ?_
  refine .tk 10 rfl .assign ?_
  refine .fin ?_
  refine .next (.seq (.sr (.move ?_)))
  refine .nei ?_
  refine .z ?_
  refine .condF rfl (congrArg Value.bool (by first | (simp; done) | (simp; omega) | omega)) ?_
  refine .skip (.next (.sr ?_))
  refine .ld ?_ sc23
  refine .nilCheck ?_
  refine .fa ?_ fo129_2
  refine .ld ?_ sc126
  refine .move (.move (.move ?_))
  refine .call (hc := Tryz.call98) (sp := dAdd (s := s) (a := a) (c := c) (p := p) (F0 := fmT T) (Fm := fmT (updT T i (some x))) (W := 0 + 1) (d := d) (nm := nm) (sl := sl) ho hlk.1 hd1 hto.1 (by omega) (lookS_none hlk.2) (i := i) hi32 (by unfold Rw at hw ⊢; omega) (by omega) (by rw [htot]; exact hfit)) (h := ?_)
  rintro _ _ ⟨rfl, rfl⟩
  rw [show updM (fmT (updT T i (some x))) d (some (2, dirB (setS sl (freeS sl) (some (nm, i))))) = (fmT (mkT T d sl nm i x)) from fmT_updS _ _ (.dir _)]
  refine .assign (.z ?_)
  refine .ret (?_)
  refine .shutR (bun.opens [pt bp (.cells #[sv path] 9 (0, 0)), pt bf (.cells #[.pointer (some ⟨f, 0, none⟩)] 23 (0, 0)), pt bk (.cells #[nI kind] 3 (0, 0))]) () trivial ?_
  exact .ret1 (h1 := .tmp (t := 3) rfl) ⟨_, ⟨rfl, rfl⟩, Am.auto⟩
def fsLs (f : Nat) (p : Pl) (T : FT) (y : Nat × Nat × Nat × Nat) : List HP := [pt f (fO y.1 y.2.1 y.2.2.1 false false false y.2.2.2), LD y.2.2.2 T, IN y.2.2.1 y.2.1 y.1 p (fmT T) (fmT T) 0 false]
def FSR (f : Nat) (p : Pl) (T : FT) : HP := fun h => ∃ y, True ∧ star (fsLs f p T y) h
theorem FSR.opens (f : Nat) (p : Pl) (T : FT) : Opens (FSR f p T) (fun _ => True) (fsLs f p T) := ⟨fun h hh => hh, fun x hp h hh => ⟨x, hp, hh⟩⟩
attribute [irreducible] FSR
theorem fsMake {f : Nat} {p : Pl} {T : FT} {kind : Nat} {path : Bytes} (ho : PlOk p) (hT : TOk T) (hpl : path.length ≤ 1000000) {d i : Nat} {nm : Bytes} {sl : List Slot} {x : NodeT} (hp : path ≠ [47]) (hpar : parentT T path = (d, nm, 0)) (hfi : findT T d nm = (0, 4)) (hd : T d = some (.dir sl)) (hi : i < p.ino) (hTi : T i = none) (hb : ∀ j < i, T j ≠ none) (hx : x.empty) (hk : x.kind = kind) (hw : Rw p 0 14) (hfit : tot (fmT T) p.ino + has (max (64 * sl.length) (64 * freeS sl + 64)) ≤ p.dc + has (64 * sl.length)) : Spec Tryz.prog 68 #[.pointer (some ⟨f, 0, none⟩), sv path, nI kind] [FSR f p T] fun F v M => v = okV ∧ M = FSR f p (mkT T d sl nm i x) :: F := by
  refine Spec.intro Tryz.func68 rfl rfl fun B F => ?_
  simp only [Tryz.ntmps68, List.cons_append, List.nil_append, env0, Nat.reduceAdd]
  refine .openR (FSR.opens f p T) fun y _ => ?_
  obtain ⟨c, a, s, mp⟩ := y
  simp only [fsLs, List.cons_append, List.nil_append]
  refine .sr ?_
  refine .box fun b3 => ?_
  refine .box fun b4 => ?_
  refine .box fun b5 => ?_
  refine .assign (.x ?_)
  refine .ld ?_ sc23
  refine .makeFuncB ?_
  refine .shutR (bun.opens [pt b4 (.cells #[sv path] 9 (0, 0)), pt b3 (.cells #[.pointer (some ⟨f, 0, none⟩)] 23 (0, 0)), pt b5 (.cells #[nI kind] 3 (0, 0))]) () trivial ?_
  refine .call (hc := Tryz.call92) (sp := fsChange (s := s) (a := a) (c := c) (p := p) (f := f) (mp := mp) (T := mkT T d sl nm i x) (S := T) ho (hc := Tryz.call144) (sp := (fsMakeC (bp := b4) (bf := b3) (bk := b5) ho hT hpl hp hpar hfi hd hi hTi hb hx hk hw hfit))) (h := ?_)
  rintro _ _ ⟨rfl, rfl⟩
  refine .assign (.z ?_)
  refine .ret (?_)
  refine .shutR (FSR.opens f p (mkT T d sl nm i x)) (c, a, s, mp) trivial ?_
  exact .ret1 (h1 := .tmp (t := 6) rfl) ⟨_, ⟨rfl, rfl⟩, Am.auto⟩
theorem fsCreate {f : Nat} {p : Pl} {T : FT} {path : Bytes} (ho : PlOk p) (hT : TOk T) (hpl : path.length ≤ 1000000) {d i : Nat} {nm : Bytes} {sl : List Slot} {x : NodeT} (hp : path ≠ [47]) (hpar : parentT T path = (d, nm, 0)) (hfi : findT T d nm = (0, 4)) (hd : T d = some (.dir sl)) (hi : i < p.ino) (hTi : T i = none) (hb : ∀ j < i, T j ≠ none) (hx : x.empty) (hk : x.kind = 1) (hw : Rw p 0 14) (hfit : tot (fmT T) p.ino + has (max (64 * sl.length) (64 * freeS sl + 64)) ≤ p.dc + has (64 * sl.length)) : Spec Tryz.prog 17 #[.pointer (some ⟨f, 0, none⟩), sv path] [FSR f p T] fun F v M => v = okV ∧ M = FSR f p (mkT T d sl nm i x) :: F := by
  refine Spec.intro Tryz.func17 rfl rfl fun B F => ?_
  simp only [Tryz.ntmps17, List.cons_append, List.nil_append, env0, Nat.reduceAdd]
  refine .sr (.assign (.x (.move (.move ?_))))
  refine .call (hc := Tryz.call68) (sp := fsMake (f := f) (p := p) (T := T) (kind := 1) ho hT hpl hp hpar hfi hd hi hTi hb hx hk hw hfit) (h := ?_)
  rintro _ _ ⟨rfl, rfl⟩
  refine .assign (.z ?_)
  refine .ret (?_)
  exact .ret1 (h1 := .tmp (t := 4) rfl) ⟨_, ⟨rfl, rfl⟩, Am.auto⟩
theorem fsStat {f : Nat} {p : Pl} {T : FT} {path : Bytes} (ho : PlOk p) (hT : TOk T) (hpl : path.length ≤ 1000000) : Spec Tryz.prog 25 #[.pointer (some ⟨f, 0, none⟩), sv path] [FSR f p T] fun F v M => v = .tuple #[.agg #[nI (leadsT T path).2.1, nI (leadsT T path).2.2.1], nI (leadsT T path).2.2.2] ∧ M = FSR f p T :: F := by
  refine Spec.intro Tryz.func25 rfl rfl fun B F => ?_
  simp only [Tryz.ntmps25, List.cons_append, List.nil_append, env0, Nat.reduceAdd]
  refine .openR (FSR.opens f p T) fun y _ => ?_
  obtain ⟨c, a, s, mp⟩ := y
  simp only [fsLs, List.cons_append, List.nil_append]
  refine .sr ?_
  refine .alloc z51 fun b4 => ?_
  refine .assign (.x (.move (.move ?_)))
  refine .call (hc := Tryz.call77) (sp := fsLeads (f := f) (s := s) (a := a) (c := c) (mp := mp) (b := false) (ov := false) (dead := false) (p := p) (T := T) (F0 := fmT T) (W := 0) (op := false) (path := path) ho hT hpl) (h := ?_)
  rintro _ _ ⟨rfl, rfl⟩
  refine .move ?_
  refine .extract ?_
  refine .extract ?_
  refine .extract ?_
  refine .alloc z51 fun b7 => ?_
  refine .assign ?_
  refine .stV ?_ agg51
  refine .assign (.x ?_)
  refine .ldA ?_ agg51
  refine .move ?_
  refine .stV ?_ agg51
  refine .assign (.z ?_)
  refine .ret (?_)
  refine .shutR (FSR.opens f p T) (c, a, s, mp) trivial ?_
  exact .ret2 (h2 := .tmp (t := 5) rfl) ⟨_, ⟨rfl, rfl⟩, Am.auto⟩
theorem fsRead {f : Nat} {p : Pl} {T : FT} {path : Bytes} (ho : PlOk p) (hT : TOk T) (hpl : path.length ≤ 1000000) {at' n i z : Nat} {fb : Bytes} (hft : fileT T path = (i, 1, z, 0)) (hTi : T i = some (.file fb)) (hat : at' ≤ 9223372036854775807) (hn : n ≤ 9223372036854775807) : Spec Tryz.prog 48 #[.pointer (some ⟨f, 0, none⟩), sv path, nI at', nI n] [FSR f p T] fun F v M => ∃ u, v = .tuple #[u, .int .i64 0] ∧ M = rowR 5 1 u ((fb.drop at').take n).length (bvs ((fb.drop at').take n)) :: FSR f p T :: F := by
  refine Spec.intro Tryz.func48 rfl rfl fun B F => ?_
  simp only [Tryz.ntmps48, List.cons_append, List.nil_append, env0, Nat.reduceAdd]
  refine .openR (FSR.opens f p T) fun y _ => ?_
  obtain ⟨c, a, s, mp⟩ := y
  simp only [fsLs, List.cons_append, List.nil_append]
  refine .sr (.assign (.assign (.x (.move (.move ?_)))))
  refine .call (hc := Tryz.call106) (sp := fsFileAt (f := f) (s := s) (a := a) (c := c) (mp := mp) (b := false) (ov := false) (dead := false) (p := p) (T := T) (F0 := fmT T) (W := 0) (op := false) (path := path) ho hT hpl) (h := ?_)
  rintro _ _ ⟨rfl, rfl⟩
  rw [hft]
  refine .move ?_
  refine .extract ?_
  refine .extract ?_
  refine .extract ?_
  refine .alloc z51 fun b11 => ?_
  refine .assign ?_
  refine .stV ?_ agg51
  refine .assign (.z (.seq (.sr (.move ?_))))
  refine .nei ?_
  refine .z ?_
  refine .condF rfl (congrArg Value.bool (by first | (simp; done) | (simp; omega) | omega)) ?_
  refine .skip (.next (.sr (.move ?_)))
  refine .nilCheck ?_
  refine .fa ?_ fo129_2
  refine .ld ?_ sc126
  refine .move (.move (.move ?_))
  refine .call (hc := Tryz.call107) (sp := nRead (s := s) (a := a) (c := c) (p := p) (F0 := fmT T) (F := fmT T) (W := 0) (op := false) (i := i) (at' := at') (k := n) (f := (1, fb)) ho (fmT_some hTi) hat hn) (h := ?_)
  rintro _ _ ⟨u, rfl, rfl⟩
  refine .extract ?_
  refine .extract ?_
  refine .assign (.assign (.z ?_))
  refine .ret (?_)
  refine .shutR (FSR.opens f p T) (c, a, s, mp) trivial ?_
  exact .ret2 (h1 := .tmp (t := 8) rfl) (h2 := .tmp (t := 9) rfl) ⟨_, ⟨u, rfl, rfl⟩, Am.auto⟩
theorem fsEditC {f s a c mp : Nat} {p : Pl} {T : FT} {k : FuncId} {cap : Array Value} {R R2 : HP} {path : Bytes} {bp bf bd : Nat} (ho : PlOk p) (hT : TOk T) (hpl : path.length ≤ 1000000) {i z e W : Nat} {F1 : FM} (hft : fileT T path = (i, 1, z, 0)) (hc : ∀ args w, (callFunc k args).run Tryz.prog w = .ok (.enter k args) w)
    (sp : Spec Tryz.prog k (#[nI i, .agg #[nI 1, nI z]] ++ cap) [pt f (fO c a s false false false mp), LD mp T, IN s a c p (fmT T) (fmT T) 0 true, R] fun F v M => v = nI e ∧ M = pt f (fO c a s false false false mp) :: LD mp T :: IN s a c p (fmT T) F1 W true :: R2 :: F) : Spec Tryz.prog 146 #[.pointer (some ⟨bf, 0, none⟩), .pointer (some ⟨bp, 0, none⟩), .pointer (some ⟨bd, 0, none⟩)] [pt f (fO c a s false false false mp), LD mp T, IN s a c p (fmT T) (fmT T) 0 true, bun [pt bf (.cells #[.pointer (some ⟨f, 0, none⟩)] 23 (0, 0)), pt bp (.cells #[sv path] 9 (0, 0)), pt bd (.cells #[.func (.func k) #[] cap] 131 (0, 0)), R]] fun F v M => v = nI e ∧ M = pt f (fO c a s false false false mp) :: LD mp T :: IN s a c p (fmT T) F1 W true :: bun [pt bf (.cells #[.pointer (some ⟨f, 0, none⟩)] 23 (0, 0)), pt bp (.cells #[sv path] 9 (0, 0)), pt bd (.cells #[.func (.func k) #[] cap] 131 (0, 0)), R2] :: F := by
  refine Spec.intro Tryz.func146 rfl rfl fun B F => ?_
  simp only [Tryz.ntmps146, List.cons_append, List.nil_append, env0, Nat.reduceAdd]
  refine .openR (bun.opens _) fun _ _ => ?_
  simp only [List.cons_append, List.nil_append]
  refine .sr (.assign (.x ?_))
  refine .ld ?_ sc23
  refine .ld ?_ sc9
  refine .call (hc := Tryz.call106) (sp := fsFileAt (f := f) (s := s) (a := a) (c := c) (mp := mp) (b := false) (ov := false) (dead := false) (p := p) (T := T) (F0 := fmT T) (W := 0) (op := true) (path := path) ho hT hpl) (h := ?_)
  rintro _ _ ⟨rfl, rfl⟩
  rw [hft]
  refine .move ?_
  refine .extract ?_
  refine .extract ?_
  refine .extract ?_
  refine .alloc z51 fun b5 => ?_
  refine .assign ?_
  refine .stV ?_ agg51
  refine .assign (.z (.seq (.sr (.move ?_))))
  refine .nei ?_
  refine .z ?_
  refine .condF rfl (congrArg Value.bool (by first | (simp; done) | (simp; omega) | omega)) ?_
  refine .skip (.next (.sr ?_))
  refine .ld ?_ sc131
  refine .move ?_
  refine .ldA ?_ agg51
  refine .callV (vs := [nI i, .agg #[nI 1, nI z]]) (hc := hc) (sp := sp) (h := ?_)
  rintro _ _ ⟨rfl, rfl⟩
  refine .assign (.z ?_)
  refine .ret (?_)
  refine .shutR (bun.opens [pt bf (.cells #[.pointer (some ⟨f, 0, none⟩)] 23 (0, 0)), pt bp (.cells #[sv path] 9 (0, 0)), pt bd (.cells #[.func (.func k) #[] cap] 131 (0, 0)), R2]) () trivial ?_
  exact .ret1 (h1 := .tmp (t := 3) rfl) ⟨_, ⟨rfl, rfl⟩, Am.auto⟩
theorem fsEdit {f s a c mp : Nat} {p : Pl} {T : FT} {k : FuncId} {cap : Array Value} {R R2 : HP} {path : Bytes} (ho : PlOk p) (hT : TOk T) (hpl : path.length ≤ 1000000) {i z W : Nat} {T2 : FT} (hft : fileT T path = (i, 1, z, 0)) (hc : ∀ args w, (callFunc k args).run Tryz.prog w = .ok (.enter k args) w)
    (sp : Spec Tryz.prog k (#[nI i, .agg #[nI 1, nI z]] ++ cap) [pt f (fO c a s false false false mp), LD mp T, IN s a c p (fmT T) (fmT T) 0 true, R] fun F v M => v = okV ∧ M = pt f (fO c a s false false false mp) :: LD mp T :: IN s a c p (fmT T) (fmT T2) W true :: R2 :: F) : Spec Tryz.prog 69 #[.pointer (some ⟨f, 0, none⟩), sv path, .func (.func k) #[] cap] [pt f (fO c a s false false false mp), LD mp T, IN s a c p (fmT T) (fmT T) 0 false, R] fun F v M => v = okV ∧ M = pt f (fO c a s false false false mp) :: LD mp T2 :: IN s a c p (fmT T2) (fmT T2) 0 false :: R2 :: F := by
  refine Spec.intro Tryz.func69 rfl rfl fun B F => ?_
  simp only [Tryz.ntmps69, List.cons_append, List.nil_append, env0, Nat.reduceAdd]
  refine .sr ?_
  refine .box fun b3 => ?_
  refine .box fun b4 => ?_
  refine .box fun b5 => ?_
  refine .assign (.x ?_)
  refine .ld ?_ sc23
  refine .makeFuncB ?_
  refine .shutR (bun.opens [pt b3 (.cells #[.pointer (some ⟨f, 0, none⟩)] 23 (0, 0)), pt b4 (.cells #[sv path] 9 (0, 0)), pt b5 (.cells #[.func (.func k) #[] cap] 131 (0, 0)), R]) () trivial ?_
  refine .call (hc := Tryz.call92) (sp := fsChange (s := s) (a := a) (c := c) (p := p) (f := f) (mp := mp) (T := T2) (S := T) ho (hc := Tryz.call146) (sp := (fsEditC (bf := b3) (bp := b4) (bd := b5) (k := k) (cap := cap) (R := R) ho hT hpl (e := 0) hft hc sp))) (h := ?_)
  rintro _ _ ⟨rfl, rfl⟩
  refine .assign (.z ?_)
  refine .ret (?_)
  refine .openR (bun.opens _) fun _ _ => ?_
  simp only [List.cons_append, List.nil_append]
  exact .ret1 (h1 := .tmp (t := 6) rfl) ⟨_, ⟨rfl, rfl⟩, Am.auto⟩
theorem fsWriteC {f s a c mp : Nat} {p : Pl} {T : FT} {x4 x6 x7 : Nat} {at' : Nat} {i m cc : Nat} {fb bs : Bytes} {R : HP} {A : Option Addr} (hTi : T i = some (.file fb)) (hR : bs = [] ∨ Reads R A (bvs bs)) (hm : bs.length = m) (hcc : m ≤ cc) (hcb : cc ≤ maxLen) (hw : Rw p 0 (has (max fb.length (at' + m)) - has fb.length + (m + 511) / 512 + 10)) (hat : at' ≤ fb.length) (hbg : at' + m ≤ 70656) (hfit : tot (fmT T) p.ino + has (max fb.length (at' + m)) ≤ p.dc + has fb.length) (ho : PlOk p) : Spec Tryz.prog 153 (#[nI i, .agg #[nI 1, nI fb.length]] ++ #[.pointer (some ⟨x4, 0, none⟩), .pointer (some ⟨x6, 0, none⟩), .pointer (some ⟨x7, 0, none⟩)]) [pt f (fO c a s false false false mp), LD mp T, IN s a c p (fmT T) (fmT T) 0 true, bun [pt x4 (.cells #[.pointer (some ⟨f, 0, none⟩)] 23 (0, 0)), pt x6 (.cells #[nI at'] 3 (0, 0)), pt x7 (.cells #[.slice A m cc] 33 (0, 0)), R]] fun F v M => v = okV ∧ M = pt f (fO c a s false false false mp) :: LD mp T :: IN s a c p (fmT T) (fmT (updT T i (some (.file (wrB fb at' bs))))) (0 + (has (max fb.length (at' + m)) - has fb.length) + (m + 511) / 512 + 5) true :: bun [pt x4 (.cells #[.pointer (some ⟨f, 0, none⟩)] 23 (0, 0)), pt x6 (.cells #[nI at'] 3 (0, 0)), pt x7 (.cells #[.slice A m cc] 33 (0, 0)), R] :: F := by
  refine Spec.intro Tryz.func153 rfl rfl fun B F => ?_
  simp only [Tryz.ntmps153, List.cons_append, List.nil_append, env0, Nat.reduceAdd]
  refine .openR (bun.opens _) fun _ _ => ?_
  simp only [List.cons_append, List.nil_append]
  refine .sr ?_
  refine .box fun b6 => ?_
  refine .assign (.z (.seq ?_))
  refine .dr ([pt x4 (.cells #[.pointer (some ⟨f, 0, none⟩)] 23 (0, 0)), pt x6 (.cells #[nI at'] 3 (0, 0)), pt x7 (.cells #[.slice A m cc] 33 (0, 0)), pt f (fO c a s false false false mp)]) [] 9 mixed .autoJ ?_
  refine .tk 0 rfl (.ld sc23) ?_
  refine .tk 1 rfl .nilCheck ?_
  refine .tk 2 rfl (.fa fo129_2) ?_
  refine .tk 3 rfl (.ld sc126) ?_
  refine .tk 4 rfl .move ?_
  refine .tk 5 rfl (.ld sc3) ?_
  refine .tk 6 rfl (.ld sc33) ?_
  refine .on 7 rfl fun hnp => ?_
  refine .call (hc := Tryz.call71) (sp := nWrite (s := s) (a := a) (c := c) (p := p) (F0 := fmT T) (F := fmT T) (W := 0) (i := i) (at' := at') (f := (1, fb)) (bs := bs) ho (fmT_some hTi) hw hR hm hcc hcb hat hbg hfit) (h := ?_)
  rintro _ _ ⟨rfl, rfl⟩
  rw [show updM (fmT T) i (some (1, wrB fb at' bs)) = fmT (updT T i (some (.file (wrB fb at' bs)))) from fmT_updS T i (.file _)]
  refine .nil (.wa hnp ?_)
  refine .tk 8 rfl .assign ?_
  refine .fin ?_
  refine .next ?_
  refine .ret (?_)
  refine .shutR (bun.opens [pt x4 (.cells #[.pointer (some ⟨f, 0, none⟩)] 23 (0, 0)), pt x6 (.cells #[nI at'] 3 (0, 0)), pt x7 (.cells #[.slice A m cc] 33 (0, 0)), R]) () trivial ?_
  exact .ret1 (h1 := .tmp (t := 7) rfl) ⟨_, ⟨rfl, rfl⟩, Am.auto⟩
theorem fsWrite {f : Nat} {p : Pl} {T : FT} {path : Bytes} (ho : PlOk p) (hT : TOk T) (hpl : path.length ≤ 1000000) {at' : Nat} {i m cc : Nat} {fb bs : Bytes} {R : HP} {A : Option Addr} (hft : fileT T path = (i, 1, fb.length, 0)) (hTi : T i = some (.file fb)) (hR : bs = [] ∨ Reads R A (bvs bs)) (hm : bs.length = m) (hcc : m ≤ cc) (hcb : cc ≤ maxLen) (hw : Rw p 0 (has (max fb.length (at' + m)) - has fb.length + (m + 511) / 512 + 10)) (hat : at' ≤ fb.length) (hbg : at' + m ≤ 70656) (hfit : tot (fmT T) p.ino + has (max fb.length (at' + m)) ≤ p.dc + has fb.length) : Spec Tryz.prog 75 #[.pointer (some ⟨f, 0, none⟩), sv path, nI at', .slice A m cc] [FSR f p T, R] fun F v M => v = okV ∧ M = FSR f p (updT T i (some (.file (wrB fb at' bs)))) :: R :: F := by
  refine Spec.intro Tryz.func75 rfl rfl fun B F => ?_
  simp only [Tryz.ntmps75, List.cons_append, List.nil_append, env0, Nat.reduceAdd]
  refine .openR (FSR.opens f p T) fun y _ => ?_
  obtain ⟨c, a, s, mp⟩ := y
  simp only [fsLs, List.cons_append, List.nil_append]
  refine .sr ?_
  refine .box fun b4 => ?_
  refine .box fun b6 => ?_
  refine .box fun b7 => ?_
  refine .assign (.x ?_)
  refine .ld ?_ sc23
  refine .move ?_
  refine .makeFuncB ?_
  refine .shutR (bun.opens [pt b4 (.cells #[.pointer (some ⟨f, 0, none⟩)] 23 (0, 0)), pt b6 (.cells #[nI at'] 3 (0, 0)), pt b7 (.cells #[.slice A m cc] 33 (0, 0)), R]) () trivial ?_
  refine .call (hc := Tryz.call69) (sp := fsEdit (s := s) (a := a) (c := c) (p := p) (f := f) (mp := mp) (T := T) (T2 := (updT T i (some (.file (wrB fb at' bs))))) (W := (0 + (has (max fb.length (at' + m)) - has fb.length) + (m + 511) / 512 + 5)) ho hT hpl hft (hc := Tryz.call153) (sp := fsWriteC (x4 := b4) (x6 := b6) (x7 := b7) hTi hR hm hcc hcb hw hat hbg hfit ho)) (h := ?_)
  rintro _ _ ⟨rfl, rfl⟩
  refine .assign (.z ?_)
  refine .ret (?_)
  refine .openR (bun.opens _) fun _ _ => ?_
  simp only [List.cons_append, List.nil_append]
  refine .shutR (FSR.opens f p (updT T i (some (.file (wrB fb at' bs))))) (c, a, s, mp) trivial ?_
  exact .ret1 (h1 := .tmp (t := 8) rfl) ⟨_, ⟨rfl, rfl⟩, Am.auto⟩
end Go.Proofs.YtdmjkjeoamiedaaGreatDoor
end
section
namespace Go.Proofs.YtdmjkjeoamiedaaGreatDoor
open Go
theorem un303 : Tryz.prog.underlying 303 = some (.int .u32) := by kernel_rfl
theorem fo199_0 : fieldOk Tryz.prog 199 0 0 = true := by kernel_rfl
def crcBit (c : Int) : Int := bxor .u32 (c.fdiv (2 ^ (min (1 : Int).toNat IntKind.u32.bits))) (band .u32 2197175160 (IntKind.u32.wrap (0 - band .u32 c 1)))
def crc8 (c : Int) : Nat → Int
  | 0 => c
  | j + 1 => crcBit (crc8 c j)
def crcK (xs : Bytes) (c : Int) : Nat → Int
  | 0 => c
  | k + 1 => crc8 (bxor .u32 (crcK xs c k) (IntKind.u32.wrap ((xs.getD k 0).toNat : Int))) 8
def crcI (xs : Bytes) : Int := icomp .u32 (crcK xs (icomp .u32 0) xs.length)
theorem crcI_range (xs : Bytes) : 0 ≤ crcI xs ∧ crcI xs < 4294967296 := by
  have : ∀ x, 0 ≤ IntKind.u32.wrap x ∧ IntKind.u32.wrap x < 4294967296 := fun x => by
    have : IntKind.u32.wrap x = x % 2 ^ 32 := by simp [IntKind.wrap, IntKind.bits, IntKind.signed]
    rw [this]; omega
  exact this _
theorem crcMore {R : HP} {A : Addr} {m c : Nat} {xs : Bytes} (hR : Reads R (some A) (bvs xs)) (hm : xs.length = m) (hl : m ≤ 1073741824) : Spec Tryz.prog 263 #[.int .u32 0, .slice (some A) m c] [R] fun F v M => v = .int .u32 (crcI xs) ∧ M = R :: F := by
  refine Spec.intro Tryz.func263 rfl rfl fun B F => ?_
  simp only [Tryz.ntmps263, List.cons_append, List.nil_append, env0, Nat.reduceAdd]
  subst hm
  obtain ⟨ab, ao, asp⟩ := A
  have hsp : asp = none := hR.1
  subst hsp
  refine .sr (.assign (.x (.move ?_)))
  refine .comp ?_
  refine .assign (.z (.seq (.sr (.move ?_))))
  refine .lenS ?_ sl33
  refine .move (.z (.block ?_))
  refine .loopA (σ := Nat) (fun k => [(0, .int .u32 (crcK xs (icomp .u32 0) k)), (9, .slice (some ⟨ab, ao, none⟩) xs.length c), (10, .int .i64 ((xs.length : Nat) : Int)), (11, .int .i64 ((k : Nat) : Int))]) (fun _ => R :: F) (fun k => k ≤ xs.length) (fun k => xs.length - k) 0 (Nat.zero_le _) ?_
  rintro k hk
  refine .sr ?_
  refine .lss ?_
  refine .z (.seq ?_)
  refine .cond rfl (fun hb => ?_) (fun hb => ?_)
  · have hlt : k < xs.length := by have h : (k : Int) < (xs.length : Int) := of_decide_eq_true hb; omega
    have hgk : (bvs xs)[((k : Nat) : Int).toNat]? = some (.int .u8 ((xs.getD k 0).toNat : Int)) := by rw [Int.toNat_natCast]; simp [bvs, hlt]; rfl
    refine .skip (.next (.seq (.block (.sr ?_))))
    refine .idx1 ?_ so33
    refine .ldR (i := ((k : Nat) : Int).toNat) ?_ sc5 hR hgk
    refine .assign (.x (.move (.move ?_)))
    refine .cvt ?_ un5 un303
    refine .xor ?_
    refine .assign (.x (.move (.z (.block ?_))))
    refine .loopA (σ := Nat) (fun j => [(0, .int .u32 (crc8 (bxor .u32 (crcK xs (icomp .u32 0) k) (IntKind.u32.wrap ((xs.getD k 0).toNat : Int))) j)), (9, .slice (some ⟨ab, ao, none⟩) xs.length c), (10, .int .i64 ((xs.length : Nat) : Int)), (11, .int .i64 ((k : Nat) : Int)), (19, .int .i64 ((j : Nat) : Int))]) (fun _ => R :: F) (fun j => j ≤ 8) (fun j => 8 - j) 0 (Nat.zero_le _) ?_
    rintro j hj
    refine .sr ?_
    refine .lss ?_
    refine .z (.seq ?_)
    refine .cond rfl (fun hb2 => ?_) (fun hb2 => ?_)
    · have hlt2 : j < 8 := by have h : (j : Int) < 8 := of_decide_eq_true hb2; omega
      refine .skip (.next (.seq (.block (.region (.move ?_)))))
      refine .shr ?_
      refine .move ?_
      refine .and ?_
      refine .negw ?_
      refine .and ?_
      refine .xor ?_
      refine .assign (.nil (.blockNormal (.next (.region ?_))))
      refine .add ?_
      refine .move (.nil ?_)
      refine .cast (d := 19) (u := .int .i64 ((j + 1 : Nat) : Int)) rfl (congrArg (Value.int .i64) (by omega)) ?_
      exact .back (j + 1) (by show j + 1 ≤ 8; omega) (by show 8 - (j + 1) < 8 - j; omega)
    · have hge2 : j = 8 := by have h : ¬ (j : Int) < 8 := of_decide_eq_false hb2; omega
      subst hge2
      refine .exit (.thenExit (.thenExit (.blockExit (?_))))
      refine .blockNormal (.next (.region ?_))
      refine .add ?_
      refine .move (.nil ?_)
      refine .cast (d := 11) (u := .int .i64 ((k + 1 : Nat) : Int)) rfl (congrArg (Value.int .i64) (by omega)) ?_
      exact .back (k + 1) (by show k + 1 ≤ xs.length; omega) (by show xs.length - (k + 1) < xs.length - k; omega)
  · have hge : k = xs.length := by have h : ¬ (k : Int) < (xs.length : Int) := of_decide_eq_false hb; omega
    subst hge
    refine .exit (.thenExit (.thenExit (.blockExit (?_))))
    refine .next (.sr (.move ?_))
    refine .comp ?_
    refine .assign (.z ?_)
    refine .ret (?_)
    exact .ret1 (h1 := .tmp (t := 4) rfl) ⟨_, ⟨rfl, rfl⟩, Am.auto⟩
theorem crcSum {R : HP} {A : Addr} {m c : Nat} {xs : Bytes} (hR : Reads R (some A) (bvs xs)) (hm : xs.length = m) (hl : m ≤ 1073741824) : Spec Tryz.prog 206 #[.slice (some A) m c] [R] fun F v M => v = .int .u32 (crcI xs) ∧ M = R :: F := by
  refine Spec.intro Tryz.func206 rfl rfl fun B F => ?_
  simp only [Tryz.ntmps206, List.cons_append, List.nil_append, env0, Nat.reduceAdd]
  refine .sr (.assign (.x (.move ?_)))
  refine .call (hc := Tryz.call263) (sp := crcMore hR hm hl) (h := ?_)
  rintro _ _ ⟨rfl, rfl⟩
  refine .assign (.z ?_)
  refine .ret (?_)
  exact .ret1 (h1 := .tmp (t := 2) rfl) ⟨_, ⟨rfl, rfl⟩, Am.auto⟩
theorem u64_wrap0 {a : Nat} (h : a < 2 ^ 64) : IntKind.u64.wrap ((a : Nat) : Int) = (a : Int) := by
  have : IntKind.u64.wrap ((a : Nat) : Int) = (a : Int) % 2 ^ 64 := by simp [IntKind.wrap, IntKind.bits, IntKind.signed]
  rw [this]; omega
theorem bsI7 (a b c d e f h : Int) : BuildSOk Tryz.prog 80 7 [(0, .int .i64 a), (1, .int .i64 b), (2, .int .i64 c), (3, .int .i64 d), (4, .int .i64 e), (5, .int .i64 f), (6, .int .i64 h)] 3 #[.int .i64 a, .int .i64 b, .int .i64 c, .int .i64 d, .int .i64 e, .int .i64 f, .int .i64 h] := fun w => by kernel_rfl
def plN (p : Pl) : List Nat := [p.n, p.ino, p.im, p.bm, p.tb, p.da, p.dc]
def magicS : Bytes := [66, 79, 76, 76, 65, 82, 68, 83]
def encN (nums : List Nat) : Nat → Bytes
  | 0 => magicS ++ List.replicate 504 0
  | i + 1 => put (encN nums i) (8 + 4 * i) 4 false (nums.getD i 0)
theorem encN_length (nums : List Nat) : ∀ i, (encN nums i).length = 512
  | 0 => by rw [encN, List.length_append, List.length_replicate]; rfl
  | i + 1 => by rw [encN, put_length]; exact encN_length nums i
theorem encN_seg (nums : List Nat) {k : Nat} (hk : k < 100) (hv : nums.getD k 0 < 2 ^ 32) : ∀ i, k < i → i ≤ 100 → beNat (seg (encN nums i) (8 + 4 * k) 4 false) = nums.getD k 0
  | i + 1, h1, h2 => by
    rw [encN]
    have hlen := encN_length nums i
    by_cases hki : k = i
    · subst hki
      exact seg_put (by omega) (by rw [show (256 : Nat) ^ 4 = 2 ^ 32 from by decide]; exact hv)
    · rw [seg_put_other (by omega)]
      exact encN_seg nums hk hv i (by omega) (by omega)
def supB (p : Pl) : Bytes := put (encN (plN p) 7) 36 4 false (crcI ((encN (plN p) 7).take 36)).toNat
theorem supB_length (p : Pl) : (supB p).length = 512 := by unfold supB; rw [put_length]; exact encN_length _ _
theorem plN_small {p : Pl} (h : PlIs p) : ∀ v ∈ plN p, v < 2 ^ 32 := by
  have h1 := h.im; have h2 := h.bm; have h3 := h.m1; have h4 := h.da; have h5 := h.dc; have h8 := h.n2; have h10 := h.i2
  intro v hv
  unfold plN at hv
  simp only [List.mem_cons, List.not_mem_nil, or_false] at hv
  rcases hv with rfl | rfl | rfl | rfl | rfl | rfl | rfl <;> omega
theorem supB_n {p : Pl} (h : PlIs p) : beNat (seg (supB p) 8 4 false) = p.n := by
  unfold supB
  rw [seg_put_other (by omega)]
  exact encN_seg (plN p) (k := 0) (by omega) (plN_small h _ (List.getElem_mem (l := plN p) (n := 0) (by show 0 < 7; decide))) 7 (by omega) (by omega)
theorem supB_ino {p : Pl} (h : PlIs p) : beNat (seg (supB p) 12 4 false) = p.ino := by
  unfold supB
  rw [seg_put_other (by omega)]
  exact encN_seg (plN p) (k := 1) (by omega) (plN_small h _ (List.getElem_mem (l := plN p) (n := 1) (by show 1 < 7; decide))) 7 (by omega) (by omega)
theorem layEnc {p : Pl} (h : PlIs p) : Spec Tryz.prog 136 #[.agg p.cells] [] fun F v M => ∃ g q, v = .slice (some ⟨g, 0, none⟩) 512 q ∧ (512 ≤ q ∧ q ≤ maxLen) ∧ M = buf g 5 q (bvs (supB p)) :: F := by
  refine Spec.intro Tryz.func136 rfl rfl fun B F => ?_
  simp only [Tryz.ntmps136, List.cons_append, List.nil_append, env0, Nat.reduceAdd]
  refine .sr ?_
  refine .box fun b1 => ?_
  refine .to (A := pt b1 (.cells p.cells 199 (0, 0))) (A' := pt b1 (.cells p.cells 199 (0, 0))) (fun h hh => hh) ?_
  refine .assign (.x ?_)
  refine .mkSN 512 z5 so33 (by decide) (by decide) fun b6 => ?_
  refine .assign (.x (.move ?_))
  refine .copyS magicS so33 ?_ (hdl := by rw [List.length_replicate]; decide)
  refine .to (r := .here) (A' := buf b6 5 512 (bvs (encN (plN p) 0))) (fun h hh => by
    have e1 : (List.replicate 512 (Value.int .u8 0)).take 0 ++ (bvs magicS).take (min magicS.length 512) ++ (List.replicate 512 (Value.int .u8 0)).drop (0 + min magicS.length 512) = bvs (encN (plN p) 0) := by
      rw [encN, bvs_append, bvs_replicate, List.take_zero, List.nil_append, List.drop_replicate]
      rfl
    rw [← e1]; exact hh) ?_
  refine .z (.seq (.sr ?_))
  refine .fa ?_ fo199_0
  refine .ld ?_ sc3
  refine .fa ?_ fo199_1
  refine .ld ?_ sc3
  refine .fa ?_ fo199_2
  refine .ld ?_ sc3
  refine .fa ?_ fo199_3
  refine .ld ?_ sc3
  refine .fa ?_ fo199_4
  refine .ld ?_ sc3
  refine .fa ?_ fo199_5
  refine .ld ?_ sc3
  refine .fa ?_ fo199_6
  refine .ld ?_ sc3
  refine .buildS (fun b23 => ?_) (bsI7 _ _ _ _ _ _ _)
  refine .lenS ?_ sl80
  refine .move (.z (.block ?_))
  refine .to (A := pt b23 (.cells #[.int .i64 (p.n : Int), .int .i64 (p.ino : Int), .int .i64 (p.im : Int), .int .i64 (p.bm : Int), .int .i64 (p.tb : Int), .int .i64 (p.da : Int), .int .i64 (p.dc : Int)] 3 (0, 0))) (A' := pt b23 (.cells (natsV (plN p)).toArray 3 (0, 0))) (fun h hh => hh) ?_
  refine .loopA (σ := Nat × Nat × Nat) (fun y => [(3, .slice (some ⟨y.2.1, 0, none⟩) 512 y.2.2), (23, .slice (some ⟨b23, 0, none⟩) 7 7), (24, .int .i64 7), (25, .int .i64 ((y.1 : Nat) : Int))]) (fun y => buf y.2.1 5 y.2.2 (bvs (encN (plN p) y.1)) :: pt b23 (.cells (natsV (plN p)).toArray 3 (0, 0)) :: F) (fun y => y.1 ≤ 7 ∧ 512 ≤ y.2.2 ∧ y.2.2 ≤ maxLen) (fun y => 7 - y.1) (0, b6, 512) ⟨Nat.zero_le _, Nat.le_refl _, by show 512 ≤ maxLen; decide⟩ ?_
  rintro y hy
  obtain ⟨k, gb, q⟩ := y
  obtain ⟨hk, hq1, hq2⟩ := hy
  simp only at hk hq1 hq2 ⊢
  refine .sr ?_
  refine .lss ?_
  refine .z (.seq ?_)
  refine .cond rfl (fun hb => ?_) (fun hb => ?_)
  · have hlt : k < 7 := by have h : (k : Int) < 7 := of_decide_eq_true hb; omega
    have hgk : (natsV (plN p))[((k : Nat) : Int).toNat]? = some (.int .i64 (((plN p).getD k 0 : Nat) : Int)) := by
      have hl7 : k < (plN p).length := hlt
      rw [Int.toNat_natCast, List.getD_eq_getElem?_getD, List.getElem?_eq_getElem hl7]
      unfold natsV ints
      simp [hl7]
    have hv : (plN p).getD k 0 < 2 ^ 32 := by
      have hl7 : k < (plN p).length := hlt
      rw [List.getD_eq_getElem?_getD, List.getElem?_eq_getElem hl7]
      exact plN_small h _ (List.getElem_mem hl7)
    have hlen := encN_length (plN p) k
    refine .skip (.next (.seq (.block (.sr (.move ?_)))))
    refine .idx1 ?_ so80
    refine .ldR (i := ((k : Nat) : Int).toNat) (R := pt b23 (.cells (natsV (plN p)).toArray 3 (0, 0))) ?_ sc3 Reads.pt hgk
    refine .assign (.assign (.y (.move (.move ?_))))
    refine .mul ?_
    refine .add ?_
    refine .move ?_
    refine .cvt ?_ un3 un134
    refine .cast (d := 36) (u := .int .u64 (((plN p).getD k 0 : Nat) : Int)) rfl (congrArg (Value.int .u64) (u64_wrap0 (by omega))) ?_
    refine .call (hc := Tryz.call74) (sp := bitsPut (xs := encN (plN p) k) (v := (plN p).getD k 0) Reads.buf hlen (by decide) (by omega) (by omega) (by omega) (by omega)) (h := ?_)
    rintro _ _ ⟨g', q', ⟨rfl, h1, h2⟩, rfl⟩
    refine .move ?_
    refine .extract ?_
    refine .extract ?_
    refine .assign (.nil (.blockNormal (.next (.region ?_))))
    refine .add ?_
    refine .move (.nil ?_)
    refine .to (r := .here) (A' := buf g' 5 q' (bvs (encN (plN p) (k + 1)))) (fun h hh => by
      rw [encN, show 8 + 4 * k = (8 + 4 * ((k : Nat) : Int)).toNat from by omega]; exact hh) ?_
    refine .cast (d := 25) (u := .int .i64 ((k + 1 : Nat) : Int)) rfl (congrArg (Value.int .i64) (by omega)) ?_
    exact .back (k + 1, g', q') ⟨by show k + 1 ≤ 7; omega, h1, h2⟩ (by show 7 - (k + 1) < 7 - k; omega)
  · have hge : k = 7 := by have h : ¬ (k : Int) < 7 := of_decide_eq_false hb; omega
    subst hge
    have hlen := encN_length (plN p) 7
    have hcr := crcI_range ((encN (plN p) 7).take 36)
    refine .exit (.thenExit (.thenExit (.blockExit (?_))))
    refine .next (.sr (.move (.move ?_)))
    refine .slcH ?_ so33
    refine .call (hc := Tryz.call206) (sp := crcSum (R := buf gb 5 q (bvs (encN (plN p) 7))) (xs := (encN (plN p) 7).take 36) (by rw [bvs_take]; exact Reads.buf.take 36) (by rw [List.length_take, hlen]; rfl) (by decide)) (h := ?_)
    rintro _ _ ⟨rfl, rfl⟩
    refine .cvt ?_ un303 un134
    refine .cast (d := 46) (u := .int .u64 (((crcI ((encN (plN p) 7).take 36)).toNat : Nat) : Int)) rfl (congrArg (Value.int .u64) (by rw [← u64_wrap0 (a := (crcI ((encN (plN p) 7).take 36)).toNat) (by omega)]; first | (congr 1; omega) | congr 1)) ?_
    refine .call (hc := Tryz.call74) (sp := bitsPut (xs := encN (plN p) 7) (v := (crcI ((encN (plN p) 7).take 36)).toNat) Reads.buf hlen (by decide) (by omega) (by omega) (by omega) (by omega)) (h := ?_)
    rintro _ _ ⟨g', q', ⟨rfl, h1, h2⟩, rfl⟩
    refine .move ?_
    refine .extract ?_
    refine .extract ?_
    refine .assign (.x (.move (.assign (.z ?_))))
    refine .ret (?_)
    exact .ret1 (h1 := .tmp (t := 2) rfl) ⟨_, ⟨g', q', rfl, ⟨h1, h2⟩, rfl⟩, Am.auto⟩
theorem bytesEq {R R2 : HP} {A A2 : Option Addr} {m c m2 c2 : Nat} {xs ys : Bytes} (hR : Reads R A (bvs xs)) (hm : xs.length = m) (hR2 : Reads R2 A2 (bvs ys)) (hm2 : ys.length = m2) : Spec Tryz.prog 225 #[.slice A m c, .slice A2 m2 c2] [R, R2] fun F v M => v = .bool (decide (xs = ys)) ∧ M = R :: R2 :: F := by
  refine Spec.intro Tryz.func225 rfl rfl fun B F => ?_
  simp only [Tryz.ntmps225, List.cons_append, List.nil_append, env0, Nat.reduceAdd]
  refine .sr (.assign (.x (.move ?_)))
  refine .cvtBS (R := R) (xs := xs) ?_ by33 st9 hR hm
  refine .move ?_
  refine .cvtBS (R := R2) (xs := ys) ?_ by33 st9 hR2 hm2
  refine .eqS xs ys ?_
  refine .assign (.z ?_)
  refine .ret (?_)
  exact .ret1 (h1 := .tmp (t := 4) rfl) ⟨_, ⟨rfl, rfl⟩, Am.auto⟩
theorem layDec {R : HP} {A : Addr} {cc : Nat} {p : Pl} (h : PlIs p) (hR : Reads R (some A) (bvs (supB p))) : Spec Tryz.prog 142 #[.slice (some A) 512 cc] [R] fun F v M => v = .tuple #[.agg p.cells, .int .i64 0] ∧ M = R :: F := by
  refine Spec.intro Tryz.func142 rfl rfl fun B F => ?_
  simp only [Tryz.ntmps142, List.cons_append, List.nil_append, env0, Nat.reduceAdd]
  have hl := supB_length p
  have h8 := h.n2
  have h10 := h.i2
  refine .sr ?_
  refine .alloc z199 fun b2 => ?_
  refine .assign (.x (.move ?_))
  refine .call (hc := Tryz.call143) (sp := bitsGet (p := 8) (size := 4) (big := false) hR hl (by decide) (by decide) (by decide) (by decide)) (h := ?_)
  rintro _ _ ⟨rfl, rfl⟩
  rw [show beNat (seg (supB p) (8 : Int).toNat (4 : Int).toNat false) = p.n from supB_n h]
  refine .move ?_
  refine .extract ?_
  refine .extract ?_
  refine .assign (.assign (.x (.move ?_)))
  refine .call (hc := Tryz.call143) (sp := bitsGet (p := 12) (size := 4) (big := false) hR hl (by decide) (by decide) (by decide) (by decide)) (h := ?_)
  rintro _ _ ⟨rfl, rfl⟩
  rw [show beNat (seg (supB p) (12 : Int).toNat (4 : Int).toNat false) = p.ino from supB_ino h]
  refine .move ?_
  refine .extract ?_
  refine .extract ?_
  refine .assign (.assign (.x (.move ?_)))
  refine .cvt ?_ un134 un3
  refine .cast (d := 22) (u := .int .i64 (p.n : Int)) rfl (congrArg (Value.int .i64) (IntWalk.i64_in _ (by omega))) ?_
  refine .move ?_
  refine .cvt ?_ un134 un3
  refine .cast (d := 24) (u := .int .i64 (p.ino : Int)) rfl (congrArg (Value.int .i64) (IntWalk.i64_in _ (by omega))) ?_
  refine .call (hc := Tryz.call129) (sp := layMake h) (h := ?_)
  rintro _ _ ⟨rfl, rfl⟩
  refine .move ?_
  refine .extract ?_
  refine .extract ?_
  refine .alloc z199 fun b8 => ?_
  refine .stV ?_ agg199
  refine .to (A := pt b8 (.cells p.cells 199 (0, 0))) (A' := pt b8 (.cells p.cells 199 (0, 0))) (fun h hh => hh) ?_
  refine .assign (.z (.seq (.sr (.move ?_))))
  refine .nei ?_
  refine .move ?_
  refine .cast (d := 30) (u := .bool false) rfl (congrArg Value.bool (by first | (simp; done) | (simp; omega) | omega)) ?_
  refine .gT ?_
  refine .ldA ?_ agg199
  refine .gT ?_
  refine .call (hc := Tryz.call136) (sp := layEnc h) (h := ?_)
  rintro _ _ ⟨gb, q, rfl, ⟨hq1, hq2⟩, rfl⟩
  refine .gT ?_
  refine .move ?_
  refine .gT ?_
  refine .call (hc := Tryz.call225) (sp := bytesEq (R := buf gb 5 q (bvs (supB p))) (R2 := R) (xs := supB p) (ys := supB p) Reads.buf hl hR hl) (h := ?_)
  rintro _ _ ⟨rfl, rfl⟩
  rw [decide_eq_true rfl]
  refine .gT ?_
  refine .not ?_
  refine .pickF ?_
  refine .z ?_
  refine .condF rfl rfl ?_
  refine .skip (.next (.sr ?_))
  refine .ldA ?_ agg199
  refine .stV ?_ agg199
  refine .assign (.z ?_)
  refine .ret (?_)
  exact .ret2 (h2 := .tmp (t := 3) rfl) ⟨_, ⟨rfl, rfl⟩, Am.auto⟩
structure DevOk (n : Nat) (V : Nat → Bytes) (J : JS) : Prop where
  ok : HeadsOk n J
  last : J.last < 2 ^ 64
  gen : J.gen < 2 ^ 64
  n1 : 246 ≤ n
  n2 : n ≤ 65536
  fit : Fit n J.ch
  home : ∀ k, 245 ≤ k → k < n → J.view k = V k
theorem DevOk.settled {n : Nat} {V : Nat → Bytes} {J : JS} (h : DevOk n V J) : DevOk n V J.settled := by
  refine ⟨h.ok.settled h.fit, h.last, h.gen, h.n1, h.n2, Fit.nil n, fun k h1 h2 => ?_⟩
  rw [← h.home k h1 h2]
  show (kget [] k).getD (lay J.cur J.ch k) = _
  rw [lay_view _ _ h.fit.apart]
  rfl
theorem tCommitD {c n d : Nat} {V0 V : Nat → Bytes} {D : List Nat} (ht : tagN (V0 1) = some d) (hn1 : 246 ≤ n) : Spec Tryz.prog 139 #[.pointer (some ⟨c, 0, none⟩)] [TR c n V0 V D true] fun F v M => ∃ J, v = okV ∧ DevOk n V J ∧ M = DevR d n J.cur 0 :: F := by
  refine Spec.opens (TR.opens c n V0 V D true) fun y hy => (cCommitF (c := c) (j := y.1) (d := y.2.1) (n := n) (S := y.2.2) hy.hop).post ?_
  rintro F v M ⟨L, hL, hW, hJ, rfl, rfl⟩
  obtain ⟨hdev, hok, hlast, hgen, hn2⟩ := hy.tg _ ht
  have hLf := hW.perm hL
  have hv : ∀ k, 245 ≤ k → k < n → (y.2.2.J.commits L).view k = V k := fun k h1 h2 => by
    rw [JS.view_commits hJ (hW.perm hL) k h1, kget_perm hL hW.apart]
    exact hy.h1 k h1 h2
  have hD : DevOk n V (y.2.2.J.commits L) := by
    unfold JS.commits at hv ⊢
    by_cases h0 : L = []
    · rw [if_pos h0] at hv ⊢
      exact ⟨hok, by omega, hgen, hn1, hn2, hJ, hv⟩
    · rw [if_neg h0] at hv ⊢
      have hnx : (y.2.2.J.commit L).last < 2 ^ 64 := Nat.mod_lt _ (by decide)
      exact ⟨hok.commit hgen hn2 hJ hLf hlast, hnx, hgen, hn1, hn2, hLf, hv⟩
  refine ⟨_, ⟨_, rfl, hD, rfl⟩, fun B w hs => ?_⟩
  subst hdev
  obtain ⟨x, hx, h1⟩ := Sat.opens hs (CR.opens c y.1 y.2.1 n _)
  have h2 := Sat.front (.there (.there .here)) h1
  obtain ⟨z, hz, h3⟩ := Sat.opens h2 (JR.opens y.1 y.2.1 n _)
  exact Sat.front (.there (.there (.there (.there .here)))) h3 |> fun h => Am.wk Am.auto B w h
theorem bdFS (c a s m : Nat) : BuildOk Tryz.prog 129 [(0, .pointer (some ⟨c, 0, none⟩)), (1, .pointer (some ⟨a, 0, none⟩)), (2, .pointer (some ⟨s, 0, none⟩)), (6, .map (some m))] #[.pointer (some ⟨c, 0, none⟩), .pointer (some ⟨a, 0, none⟩), .pointer (some ⟨s, 0, none⟩), .bool false, .bool false, .bool false, .map (some m)] := fun w => by kernel_rfl
theorem fsStand {j d : Nat} {p : Pl} {J : JS} {T : FT} (hn1 : 246 ≤ p.n) (hn2 : p.n ≤ 65536) : Spec Tryz.prog 132 #[.pointer (some ⟨j, 0, none⟩), .agg p.cells] [JR j d p.n J] fun F v M => ∃ f c a s mp, v = .pointer (some ⟨f, 0, none⟩) ∧ M = [pt f (fO c a s false false false mp), LD mp T, pt s (stO c a p), pt a (alO c p), CR c j d p.n ⟨J, [], false, false⟩] ++ F := by
  refine Spec.intro Tryz.func132 rfl rfl fun B F => ?_
  simp only [Tryz.ntmps132, List.cons_append, List.nil_append, env0, Nat.reduceAdd]
  refine .sr ?_
  refine .box fun b3 => ?_
  refine .to (A := pt b3 (.cells p.cells 199 (0, 0))) (A' := pt b3 (.cells p.cells 199 (0, 0))) (fun h hh => hh) ?_
  refine .assign (.x (.move ?_))
  refine .call (hc := Tryz.call201) (sp := cNew (n := p.n) hn1 hn2) (h := ?_)
  rintro _ _ ⟨c, rfl, rfl⟩
  refine .assign (.x (.move ?_))
  refine .ldA ?_ agg199
  refine .call (hc := Tryz.call202) (sp := alNew (p := p)) (h := ?_)
  rintro _ _ ⟨a, rfl, rfl⟩
  refine .assign (.x (.move (.move (.move (.move ?_)))))
  refine .ldA ?_ agg199
  refine .call (hc := Tryz.call203) (sp := inNew (p := p)) (h := ?_)
  rintro _ _ ⟨s, rfl, rfl⟩
  refine .mkMap fun m18 => ?_
  refine .build ?_ (bdFS _ _ _ _)
  refine .box fun b20 => ?_
  refine .assign (.z ?_)
  refine .ret (?_)
  refine .shutR (LD.opens m18 T) (#[], 0, []) (LDP.empty T 0) ?_
  exact .ret1 (h1 := .tmp (t := 4) rfl) ⟨_, ⟨b20, c, a, s, m18, rfl, rfl⟩, Am.auto⟩
def mkW (p : Pl) : Nat → Bytes := svV p (fmtA p (wr zeroD 245 (supB p))) 0 ⟨2, 0, List.replicate 11 0⟩
theorem fmtA_at (p : Pl) (V : Nat → Bytes) (k : Nat) : fmtA p V k = if p.bm ≤ k ∧ k < p.bm + (p.dc + 4095) / 4096 then fmtZ p p.bm p.dc else if p.im ≤ k ∧ k < p.im + (p.ino + 4095) / 4096 then fmtZ p p.im p.ino else V k := by
  unfold fmtA; rw [fmtV_at, fmtV_at]
theorem svV_other {p : Pl} {V : Nat → Bytes} {x : Nd} {k : Nat} (h : k ≠ p.tb) : svV p V 0 x k = V k := wr_other _ _ (by omega)
theorem mkW_sup {p : Pl} (h : PlIs p) : mkW p 245 = supB p := by
  have h1 := h.im; have h2 := h.bm; have h3 := h.m1
  unfold mkW
  rw [svV_other (by omega), fmtA_at, if_neg (by omega), if_neg (by omega)]
  unfold wr
  rw [if_pos rfl]
theorem mkW_home {p : Pl} (h : PlIs p) {k : Nat} (hk : 246 ≤ k) : mkW p k = freshW p k := by
  have h1 := h.im; have h2 := h.bm; have h3 := h.m1
  have key : ∀ v, 246 ≤ v → fmtA p (wr zeroD 245 (supB p)) v = freshV p v := fun v hv => by
    unfold freshV
    rw [fmtA_at, fmtA_at]
    split
    · rfl
    · split
      · rfl
      · unfold wr; rw [if_neg (by omega)]
  unfold mkW freshW svV
  generalize fmtA p (wr zeroD 245 (supB p)) = X at key ⊢
  unfold wr
  by_cases ht : k = p.tb + 0 / 8
  · rw [if_pos ht, if_pos ht, key _ (by omega)]
  · rw [if_neg ht, if_neg ht]; exact key k hk
theorem mkW_len {p : Pl} (h : PlIs p) : Len5 (mkW p) := by
  have h0 : Len5 (wr zeroD 245 (supB p)) := fun k => by unfold wr; split; exact supB_length p; exact zeros_length
  have h1 : Len5 (fmtA p (wr zeroD 245 (supB p))) := fun k => by
    rw [fmtA_at]
    split
    · exact fmtZ_length _ _ _
    · split
      · exact fmtZ_length _ _ _
      · exact h0 k
  exact svV_len h1 _ _
theorem mkW_rep {p : Pl} (h : PlIs p) : Rep p (cm0 (mkW p)) rootM := by
  have h1 := (fresh_rep h).mono h.ok (V' := mkW p) (mkW_len h) (fun v hv => mkW_home h (by have := h.im; omega))
  exact h1.cm h.ok
def tagV (d : Nat) : Nat → Bytes := fun k => if k = 1 then List.replicate (513 + d) 0 else zeros
theorem tagV_tag (d : Nat) : tagN (tagV d 1) = some d := by
  have hl : (tagV d 1).length = 513 + d := by
    show (List.replicate (513 + d) (0 : UInt8)).length = _
    rw [List.length_replicate]
  unfold tagN
  rw [hl, if_pos (Nat.le_add_right _ _), Nat.add_sub_cancel_left]
theorem tagV_home {d k : Nat} (h : 245 ≤ k) : tagV d k = zeros := if_neg (by omega)
end Go.Proofs.YtdmjkjeoamiedaaGreatDoor
end
section
namespace Go.Proofs.YtdmjkjeoamiedaaGreatDoor
open Go
theorem z23 : zeroOf Tryz.prog 23 = some (#[.pointer none]) := by kernel_rfl
theorem fo129_1 : fieldOk Tryz.prog 129 1 1 = true := by kernel_rfl
theorem fmtB_room {p : Pl} (h : PlIs p) : Room (fmtB p [245]) := by
  have h1 := fmtD_length (fmtD [245] p.im ((p.ino + 4095) / 4096)) p.bm ((p.dc + 4095) / 4096)
  have h2 := fmtD_length [245] p.im ((p.ino + 4095) / 4096)
  have h3 := h.i2
  have h4 := h.n2
  have h5 := h.dc
  have h6 := h.i1
  have h7 := h.da
  have h8 := h.m1
  have h9 := h.bm
  unfold fmtB Room
  have : ([245] : List Nat).length = 1 := rfl
  omega
theorem bsF5 (f0 f1 f2 f3 f4 : Fn) (u0 u1 u2 u3 u4 c0 c1 c2 c3 c4 : Array Value) : BuildSOk Tryz.prog 220 5 [(0, .func f0 u0 c0), (1, .func f1 u1 c1), (2, .func f2 u2 c2), (3, .func f3 u3 c3), (4, .func f4 u4 c4)] 183 #[.func f0 u0 c0, .func f1 u1 c1, .func f2 u2 c2, .func f3 u3 c3, .func f4 u4 c4] := fun w => by kernel_rfl
def J0 : JS := ⟨beNat (seg (formatted zeroD 0) 8 8 false), 0, [], formatted zeroD⟩
theorem J0_ok {n : Nat} : HeadsOk n J0 := ⟨formatted0, rfl, fun i _ => .inl (formattedH _ i), fun _ => rfl, fun h => absurd rfl h⟩
theorem J0_gen : J0.gen < 2 ^ 64 := le8_lt _ _ _
theorem J0_view {k : Nat} (h : 245 ≤ k) : J0.view k = zeros := formattedK (by omega)
theorem J0_tag {n d : Nat} (hn : n ≤ 65536) : Tagged n d d J0 := ⟨rfl, J0_ok, Nat.lt_of_le_of_lt (Nat.le_refl 1) (by decide), J0_gen, hn⟩
theorem jOpenBad {d n t : Nat} {cur : Nat → Bytes} (hn : 246 ≤ n) (hmg : (cur 0).take 8 ≠ magicJ) : Spec Tryz.prog 140 #[.pointer (some ⟨d, 0, none⟩)] [DevR d n cur t] fun F v M => v = .tuple #[.pointer none, .int .i64 10] ∧ M = DevR d n cur t :: F := by
  refine Spec.intro Tryz.func140 rfl rfl fun B F => ?_
  simp only [Tryz.ntmps140, List.cons_append, List.nil_append, env0, Nat.reduceAdd]
  refine .sr (.assign (.assign (.z (.seq (.sr (.move ?_))))))
  refine .call (hc := Tryz.call130) (sp := devBlocksR (n := n) (t := t) (cur := cur)) (h := ?_)
  rintro _ _ ⟨rfl, rfl⟩
  refine .lss ?_
  refine .z ?_
  refine .condF rfl (congrArg Value.bool (by first | (simp; done) | (simp; omega) | omega)) ?_
  refine .skip (.next (.sr (.move ?_)))
  refine .call (hc := Tryz.call215) (sp := jFirst (n := n) (t := t) (cur := cur) (by omega)) (h := ?_)
  rintro _ _ ⟨rfl, rfl⟩
  refine .move ?_
  refine .extract ?_
  refine .extract ?_
  refine .cast (d := 20) (u := .bool false) rfl (congrArg Value.bool (decide_eq_false hmg)) ?_
  refine .assign (.assign (.z (.seq (.sr (.move ?_)))))
  refine .not ?_
  refine .z ?_
  refine .condT rfl rfl ?_
  refine .sr (.assign (.assign (.z ?_)))
  refine .ret (.thenRet (?_))
  exact .ret2 (h1 := .tmp (t := 2) rfl) (h2 := .tmp (t := 3) rfl) ⟨_, ⟨rfl, rfl⟩, Am.auto⟩
theorem zeroD_bad : (zeroD 0).take 8 ≠ magicJ := by
  show zeros.take 8 ≠ magicJ
  rw [zeros_take]; decide
theorem fsOpened {d n : Nat} (hn : 246 ≤ n) (hn2 : n ≤ 65536) : Spec Tryz.prog 131 #[.pointer (some ⟨d, 0, none⟩)] [DevR d n zeroD 0] fun F v M => ∃ j, v = .tuple #[.pointer (some ⟨j, 0, none⟩), .int .i64 0] ∧ M = JR j d n J0 :: F := by
  refine Spec.intro Tryz.func131 rfl rfl fun B F => ?_
  simp only [Tryz.ntmps131, List.cons_append, List.nil_append, env0, Nat.reduceAdd]
  refine .sr (.assign (.assign (.x (.move ?_))))
  refine .call (hc := Tryz.call140) (sp := jOpenBad (n := n) (t := 0) (cur := zeroD) hn zeroD_bad) (h := ?_)
  rintro _ _ ⟨rfl, rfl⟩
  refine .move ?_
  refine .extract ?_
  refine .extract ?_
  refine .assign (.assign (.z (.seq (.sr (.move ?_)))))
  refine .nei ?_
  refine .z ?_
  refine .condF rfl (congrArg Value.bool (by first | (simp; done) | (simp; omega) | omega)) ?_
  refine .skip (.next (.seq (.sr (.move ?_))))
  refine .call (hc := Tryz.call200) (sp := jFormat (n := n) (t := 0) (cur := zeroD) hn (by decide)) (h := ?_)
  rintro _ _ ⟨rfl, rfl⟩
  refine .assign (.x (.move ?_))
  refine .nei ?_
  refine .z ?_
  refine .condF rfl (congrArg Value.bool (by first | (simp; done) | (simp; omega) | omega)) ?_
  refine .skip (.next (.sr (.move ?_)))
  refine .call (hc := Tryz.call140) (sp := jOpen (n := n) (cur := formatted zeroD) hn hn2 formatted0 (fun i _ => formattedH _ i)) (h := ?_)
  rintro _ _ ⟨j, rfl, rfl⟩
  refine .extract ?_
  refine .extract ?_
  refine .assign (.assign (.z ?_))
  refine .ret (?_)
  exact .ret2 (h1 := .tmp (t := 2) rfl) (h2 := .tmp (t := 3) rfl) ⟨_, ⟨j, rfl, rfl⟩, Am.auto⟩
theorem fsMk1 {f s a c mp b8 b5 : Nat} {p : Pl} {V0 V : Nat → Bytes} (h : PlIs p) (hn : 246 ≤ p.n) : Spec Tryz.prog 134 #[.pointer (some ⟨b8, 0, none⟩), .pointer (some ⟨b5, 0, none⟩)] [pt b8 (.cells #[.pointer (some ⟨f, 0, none⟩)] 23 (0, 0)), pt f (fO c a s false false false mp), pt b5 (.cells p.cells 199 (0, 0)), TR c p.n V0 V [] true] fun F v M => v = okV ∧ M = pt b8 (.cells #[.pointer (some ⟨f, 0, none⟩)] 23 (0, 0)) :: pt f (fO c a s false false false mp) :: pt b5 (.cells p.cells 199 (0, 0)) :: TR c p.n V0 (wr V 245 (supB p)) [245] true :: F := by
  refine Spec.intro Tryz.func134 rfl rfl fun B F => ?_
  simp only [Tryz.ntmps134, List.cons_append, List.nil_append, env0, Nat.reduceAdd]
  refine .sr (.assign (.z (.seq ?_)))
  refine .dr ([pt b8 (.cells #[.pointer (some ⟨f, 0, none⟩)] 23 (0, 0)), pt f (fO c a s false false false mp), pt b5 (.cells p.cells 199 (0, 0))]) [] 8 mixed .autoJ ?_
  refine .tk 0 rfl (.ld sc23) ?_
  refine .tk 1 rfl .nilCheck ?_
  refine .tk 2 rfl (.fa fo129_0) ?_
  refine .tk 3 rfl (.ld sc124) ?_
  refine .tk 4 rfl (.ldA agg199) ?_
  refine .on 5 rfl fun hnp => ?_
  refine .call (hc := Tryz.call136) (sp := layEnc h) (h := ?_)
  rintro _ _ ⟨gb, q, rfl, ⟨hq1, hq2⟩, rfl⟩
  refine .nil (.wa hnp ?_)
  refine .on 6 rfl fun hnp => ?_
  refine .call (hc := Tryz.call135) (sp := tWrite (c := c) (n := p.n) (k := 245) (V0 := V0) (V := V) (D := []) (R := buf gb 5 q (bvs (supB p))) (xs := supB p) (by decide) (by omega) Reads.buf (supB_length p) rfl (.inr (by decide))) (h := ?_)
  rintro _ _ ⟨rfl, rfl⟩
  refine .nil (.wa hnp ?_)
  refine .tk 7 rfl .assign ?_
  refine .fin ?_
  refine .next ?_
  refine .ret (?_)
  exact .ret1 (h1 := .tmp (t := 2) rfl) ⟨_, ⟨rfl, rfl⟩, Am.auto⟩
theorem fsMkfs {d : Nat} {p : Pl} (h : PlIs p) : Spec Tryz.prog 63 #[.pointer (some ⟨d, 0, none⟩), .int .i64 (p.ino : Int)] [DevR d p.n zeroD 0] fun F v M => ∃ J, v = okV ∧ DevOk p.n (mkW p) J ∧ M = DevR d p.n J.cur 0 :: F := by
  refine Spec.intro Tryz.func63 rfl rfl fun B F => ?_
  simp only [Tryz.ntmps63, List.cons_append, List.nil_append, env0, Nat.reduceAdd]
  have hn2 := h.n2
  have h246 : 246 ≤ p.n := by have := h.bm; have := h.m1; have := h.da; have := h.dc; have := h.d1; omega
  refine .sr (.assign (.x (.move ?_)))
  refine .call (hc := Tryz.call130) (sp := devBlocksR (n := p.n) (t := 0) (cur := zeroD)) (h := ?_)
  rintro _ _ ⟨rfl, rfl⟩
  refine .move ?_
  refine .call (hc := Tryz.call129) (sp := layMake h) (h := ?_)
  rintro _ _ ⟨rfl, rfl⟩
  refine .move ?_
  refine .extract ?_
  refine .extract ?_
  refine .alloc z199 fun b5 => ?_
  refine .stV ?_ agg199
  refine .to (A := pt b5 (.cells p.cells 199 (0, 0))) (A' := pt b5 (.cells p.cells 199 (0, 0))) (fun h hh => hh) ?_
  refine .assign (.z (.seq (.sr (.move ?_))))
  refine .nei ?_
  refine .z ?_
  refine .condF rfl (congrArg Value.bool (by first | (simp; done) | (simp; omega) | omega)) ?_
  refine .skip (.next (.sr (.move ?_)))
  refine .call (hc := Tryz.call131) (sp := fsOpened (n := p.n) h246 hn2) (h := ?_)
  rintro _ _ ⟨j, rfl, rfl⟩
  refine .move ?_
  refine .extract ?_
  refine .extract ?_
  refine .assign (.assign (.z (.seq (.sr (.move ?_)))))
  refine .nei ?_
  refine .z ?_
  refine .condF rfl (congrArg Value.bool (by first | (simp; done) | (simp; omega) | omega)) ?_
  refine .skip (.next (.sr (.move ?_)))
  refine .ldA ?_ agg199
  refine .call (hc := Tryz.call132) (sp := fsStand (p := p) (T := fun _ => none) h246 hn2) (h := ?_)
  rintro _ _ ⟨f, c, a, s, mp, rfl, rfl⟩
  simp only [List.cons_append, List.nil_append]
  refine .shutR (TR.opens c p.n (tagV d) zeroD [] false) (j, d, ⟨J0, [], false, false⟩) ⟨rfl, (fun k h1 h2 => (J0_view h1).trans (tagV_home h1).symm), (fun k h1 h2 => J0_view h1), rfl, fun r hr => by rw [tagV_tag] at hr; injection hr with hr; subst hr; exact J0_tag hn2⟩ ?_
  refine .alloc z23 fun b8 => ?_
  refine .st ?_ sc23
  refine .z (.seq (.seq ?_))
  refine .dr ([pt b8 (.cells #[.pointer (some ⟨f, 0, none⟩)] 23 (0, 0)), pt f (fO c a s false false false mp)]) [] 24 mixed .autoJ ?_
  refine .tk 0 rfl (.ld sc23) ?_
  refine .tk 1 rfl .nilCheck ?_
  refine .tk 2 rfl (.fa fo129_0) ?_
  refine .tk 3 rfl (.ld sc124) ?_
  refine .tk 4 rfl .makeFuncB ?_
  refine .tk 5 rfl .makeFuncB ?_
  refine .tk 6 rfl (.ld sc23) ?_
  refine .tk 7 rfl .nilCheck ?_
  refine .tk 8 rfl (.fa fo129_1) ?_
  refine .tk 9 rfl (.ld sc125) ?_
  refine .tk 10 rfl .makeFuncB ?_
  refine .tk 11 rfl (.ld sc23) ?_
  refine .tk 12 rfl .nilCheck ?_
  refine .tk 13 rfl (.fa fo129_2) ?_
  refine .tk 14 rfl (.ld sc126) ?_
  refine .tk 15 rfl .makeFuncB ?_
  refine .tk 16 rfl (.ld sc23) ?_
  refine .tk 17 rfl .nilCheck ?_
  refine .tk 18 rfl (.fa fo129_0) ?_
  refine .tk 19 rfl (.ld sc124) ?_
  refine .tk 20 rfl .makeFuncB ?_
  refine .tk 23 rfl .move ?_
  refine .on 21 rfl fun hnp => ?_
  refine .buildS (fun b54 => ?_) (bsF5 _ _ _ _ _ _ _ _ _ _ _ _ _ _ _)
  refine .nil (.wa hnp ?_)
  refine .tk 22 rfl (.lenS sl220) ?_
  refine .fin ?_
  refine .next (.block ?_)
  refine .loopN 6 (RC.succ ?_)
  refine .sr ?_
  refine .lss ?_
  refine .z (.seq ?_)
  refine .condT rfl (congrArg Value.bool (by first | (simp; done) | (simp; omega) | omega)) ?_
  refine .skip (.next (.seq (.block (.sr ?_))))
  refine .idx1 ?_ so220
  refine .ld ?_ sc183
  refine .assign (.x (.move ?_))
  refine .callF (us := #[.pointer (some ⟨c, 0, none⟩)]) (cap := #[]) (vs := []) rfl rfl Tryz.call133 (Spec.bound (tBegin (n := p.n) (V0 := tagV d) (V := zeroD) (D := []))) ?_ (by repeat (first | exact .nil | (apply Tk.cons; focus ((repeat (first | exact .here | apply Rem.there)); done))))
  rintro _ _ ⟨rfl, rfl⟩
  refine .assign (.x (.move ?_))
  refine .nei ?_
  refine .z ?_
  refine .condF rfl (congrArg Value.bool (by first | (simp; done) | (simp; omega) | omega)) ?_
  refine .skip (.blockNormal (.next (.region ?_)))
  refine .add ?_
  refine .move (.nil ?_)
  refine .again (RC.succ ?_)
  refine .sr ?_
  refine .lss ?_
  refine .z (.seq ?_)
  refine .condT rfl (congrArg Value.bool (by first | (simp; done) | (simp; omega) | omega)) ?_
  refine .skip (.next (.seq (.block (.sr ?_))))
  refine .idx1 ?_ so220
  refine .ld ?_ sc183
  refine .assign (.x (.move ?_))
  refine .callF (us := #[]) (cap := #[.pointer (some ⟨b8, 0, none⟩), .pointer (some ⟨b5, 0, none⟩)]) (vs := []) rfl rfl Tryz.call134 (Spec.capt (fsMk1 (c := c) (f := f) (a := a) (s := s) (mp := mp) (V0 := tagV d) (V := zeroD) h h246)) ?_ (by repeat (first | exact .nil | (apply Tk.cons; focus ((repeat (first | exact .here | apply Rem.there)); done))))
  rintro _ _ ⟨rfl, rfl⟩
  refine .assign (.x (.move ?_))
  refine .nei ?_
  refine .z ?_
  refine .condF rfl (congrArg Value.bool (by first | (simp; done) | (simp; omega) | omega)) ?_
  refine .skip (.blockNormal (.next (.region ?_)))
  refine .add ?_
  refine .move (.nil ?_)
  refine .again (RC.succ ?_)
  refine .sr ?_
  refine .lss ?_
  refine .z (.seq ?_)
  refine .condT rfl (congrArg Value.bool (by first | (simp; done) | (simp; omega) | omega)) ?_
  refine .skip (.next (.seq (.block (.sr ?_))))
  refine .idx1 ?_ so220
  refine .ld ?_ sc183
  refine .assign (.x (.move ?_))
  refine .callF (us := #[.pointer (some ⟨a, 0, none⟩)]) (cap := #[]) (vs := []) rfl rfl Tryz.call137 (Spec.bound (alFormat (c := c) (V0 := tagV d) (V := wr zeroD 245 (supB p)) (D := [245]) h.ok (Nat.le_refl _))) ?_ (by repeat (first | exact .nil | (apply Tk.cons; focus ((repeat (first | exact .here | apply Rem.there)); done))))
  rintro _ _ ⟨rfl, rfl⟩
  simp only [List.cons_append, List.nil_append]
  refine .assign (.x (.move ?_))
  refine .nei ?_
  refine .z ?_
  refine .condF rfl (congrArg Value.bool (by first | (simp; done) | (simp; omega) | omega)) ?_
  refine .skip (.blockNormal (.next (.region ?_)))
  refine .add ?_
  refine .move (.nil ?_)
  refine .again (RC.succ ?_)
  refine .sr ?_
  refine .lss ?_
  refine .z (.seq ?_)
  refine .condT rfl (congrArg Value.bool (by first | (simp; done) | (simp; omega) | omega)) ?_
  refine .skip (.next (.seq (.block (.sr ?_))))
  refine .idx1 ?_ so220
  refine .ld ?_ sc183
  refine .assign (.x (.move ?_))
  refine .callF (us := #[.pointer (some ⟨s, 0, none⟩)]) (cap := #[]) (vs := []) rfl rfl Tryz.call138 (Spec.bound (inFormat (c := c) (a := a) (V0 := tagV d) (V := (fmtA p (wr zeroD 245 (supB p)))) (D := fmtB p [245]) h.ok (fmtB_room h))) ?_ (by repeat (first | exact .nil | (apply Tk.cons; focus ((repeat (first | exact .here | apply Rem.there)); done))))
  rintro _ _ ⟨rfl, rfl⟩
  simp only [List.cons_append, List.nil_append]
  refine .assign (.x (.move ?_))
  refine .nei ?_
  refine .z ?_
  refine .condF rfl (congrArg Value.bool (by first | (simp; done) | (simp; omega) | omega)) ?_
  refine .skip (.blockNormal (.next (.region ?_)))
  refine .add ?_
  refine .move (.nil ?_)
  refine .again (RC.succ ?_)
  refine .sr ?_
  refine .lss ?_
  refine .z (.seq ?_)
  refine .condT rfl (congrArg Value.bool (by first | (simp; done) | (simp; omega) | omega)) ?_
  refine .skip (.next (.seq (.block (.sr ?_))))
  refine .idx1 ?_ so220
  refine .ld ?_ sc183
  refine .assign (.x (.move ?_))
  refine .callF (us := #[.pointer (some ⟨c, 0, none⟩)]) (cap := #[]) (vs := []) rfl rfl Tryz.call139 (Spec.bound (tCommitD (n := p.n) (d := d) (V0 := tagV d) (V := mkW p) (D := insD (fmtB p [245]) (p.tb + 0 / 8)) (tagV_tag d) h246)) ?_ (by repeat (first | exact .nil | (apply Tk.cons; focus ((repeat (first | exact .here | apply Rem.there)); done))))
  rintro _ _ ⟨J, rfl, hJ, rfl⟩
  refine .assign (.x (.move ?_))
  refine .nei ?_
  refine .z ?_
  refine .condF rfl (congrArg Value.bool (by first | (simp; done) | (simp; omega) | omega)) ?_
  refine .skip (.blockNormal (.next (.region ?_)))
  refine .add ?_
  refine .move (.nil ?_)
  refine .again (RC.succ ?_)
  refine .sr ?_
  refine .lss ?_
  refine .z (.seq ?_)
  refine .condF rfl (congrArg Value.bool (by first | (simp; done) | (simp; omega) | omega)) ?_
  refine .exit (.thenExit (.thenExit (.blockExit (?_))))
  refine .next (.sr (.assign (.z ?_)))
  refine .ret (?_)
  exact .ret1 (h1 := .tmp (t := 4) rfl) ⟨_, ⟨J, rfl, hJ, rfl⟩, Am.auto⟩
theorem fsMount {d : Nat} {p : Pl} {J : JS} {V : Nat → Bytes} {T : FT} (h : PlIs p) (hJ : DevOk p.n V J) (hsup : V 245 = supB p) (hr : Rep p (cm0 V) (fmT T)) : Spec Tryz.prog 64 #[.pointer (some ⟨d, 0, none⟩)] [DevR d p.n J.cur 0] fun F v M => ∃ f, v = .tuple #[.pointer (some ⟨f, 0, none⟩), .int .i64 0] ∧ M = FSR f p T :: F := by
  refine Spec.intro Tryz.func64 rfl rfl fun B F => ?_
  simp only [Tryz.ntmps64, List.cons_append, List.nil_append, env0, Nat.reduceAdd]
  have hS := hJ.settled
  have hn1 := hJ.n1
  have hn2 := hJ.n2
  have hv := (hS.home 245 (by decide) (by omega)).trans hsup
  refine .sr (.assign (.assign (.x (.move ?_))))
  refine .call (hc := Tryz.call140) (sp := jOpenG (n := p.n) (J := J) hn1 hn2 hJ.ok hJ.last) (h := ?_)
  rintro _ _ ⟨j, rfl, rfl⟩
  refine .move ?_
  refine .extract ?_
  refine .extract ?_
  refine .assign (.assign (.z (.seq (.sr (.move ?_)))))
  refine .nei ?_
  refine .z ?_
  refine .condF rfl (congrArg Value.bool (by first | (simp; done) | (simp; omega) | omega)) ?_
  refine .skip (.next (.sr (.move ?_)))
  refine .call (hc := Tryz.call141) (sp := jRead (d := d) (n := p.n) (J := J.settled) (k := 245) (by decide) (by omega)) (h := ?_)
  rintro _ _ ⟨gb, q, rfl, ⟨hq1, hq2, hq3⟩, rfl⟩
  rw [hv]
  refine .move ?_
  refine .extract ?_
  refine .extract ?_
  refine .assign (.assign (.z (.seq (.sr (.move ?_)))))
  refine .nei ?_
  refine .z ?_
  refine .condF rfl (congrArg Value.bool (by first | (simp; done) | (simp; omega) | omega)) ?_
  refine .skip (.next (.sr (.move ?_)))
  refine .call (hc := Tryz.call142) (sp := layDec (R := buf gb 5 q (bvs (supB p))) h Reads.buf) (h := ?_)
  rintro _ _ ⟨rfl, rfl⟩
  refine .move ?_
  refine .extract ?_
  refine .extract ?_
  refine .alloc z199 fun b7 => ?_
  refine .stV ?_ agg199
  refine .to (A := pt b7 (.cells p.cells 199 (0, 0))) (A' := pt b7 (.cells p.cells 199 (0, 0))) (fun h hh => hh) ?_
  refine .assign (.z (.seq (.seq ?_)))
  refine .openR (JR.opens j d p.n J.settled) fun x hx => ?_
  simp only [jL, List.cons_append, List.nil_append]
  refine .dr ([pt b7 (.cells p.cells 199 (0, 0))]) [] 9 mixed .autoJ ?_
  refine .tk 0 rfl .move ?_
  refine .tk 1 rfl .nei ?_
  refine .tk 2 rfl .move ?_
  refine .tn 3 rfl (.fa fo199_0) ?_
  refine .tn 4 rfl (.ld sc3) ?_
  refine .tn 5 rfl .move ?_
  refine .on 6 rfl fun hnp => ?_
  refine .gT ?_
  refine .call (hc := Tryz.call130) (sp := devBlocksR (n := p.n) (t := 0) (cur := J.settled.cur)) (h := ?_)
  rintro _ _ ⟨rfl, rfl⟩
  refine .nil (.wa hnp ?_)
  refine .tn 7 rfl .nei ?_
  refine .tk 8 rfl .pickF ?_
  refine .fin ?_
  refine .next ?_
  refine .condF rfl (congrArg Value.bool (by first | (simp; done) | (simp; omega) | omega)) ?_
  refine .skip (.next (.sr ?_))
  refine .shutR (JR.opens j d p.n J.settled) x hx ?_
  refine .move ?_
  refine .ldA ?_ agg199
  refine .call (hc := Tryz.call132) (sp := fsStand (p := p) (T := T) hn1 hn2) (h := ?_)
  rintro _ _ ⟨f, c, a, s, mp, rfl, rfl⟩
  simp only [List.cons_append, List.nil_append]
  refine .shutR (TR.opens c p.n (cm0 V) (cm0 V) [] false) (j, d, ⟨J.settled, [], false, false⟩) ⟨rfl, (fun k h1 h2 => (hS.home k h1 h2).trans (cm0_home V (by omega)).symm), (fun k h1 h2 => (hS.home k h1 h2).trans (cm0_home V (by omega)).symm), rfl, fun r hr => by rw [cm0_tag] at hr; cases hr⟩ ?_
  refine .shutR (IN.opens s a c p (fmT T) (fmT T) 0 false) (cm0 V, cm0 V, []) ⟨hr, hr, Dk.nil p, Nat.zero_le _⟩ ?_
  refine .shutR (FSR.opens f p T) (c, a, s, mp) trivial ?_
  refine .assign (.assign (.z ?_))
  refine .ret (?_)
  exact .ret2 (h1 := .tmp (t := 2) rfl) (h2 := .tmp (t := 3) rfl) ⟨_, ⟨f, rfl, rfl⟩, Am.auto⟩
def rootT : FT := fun i => if i = 0 then some (.dir []) else none
theorem fmT_root : fmT rootT = rootM := by
  funext i
  unfold fmT rootT rootM
  by_cases h : i = 0
  · rw [if_pos h, if_pos h]; rfl
  · rw [if_neg h, if_neg h]; rfl
theorem rootT_ok : TOk rootT := by
  intro d sl h
  unfold rootT at h
  split at h
  · injection h with h; injection h with h; subst h; exact ⟨DirOk.nil, Nat.zero_le _⟩
  · cases h
theorem fsMountNew {d : Nat} {p : Pl} {J : JS} (h : PlIs p) (hJ : DevOk p.n (mkW p) J) : Spec Tryz.prog 64 #[.pointer (some ⟨d, 0, none⟩)] [DevR d p.n J.cur 0] fun F v M => ∃ f, v = .tuple #[.pointer (some ⟨f, 0, none⟩), .int .i64 0] ∧ M = FSR f p rootT :: F :=
  fsMount h hJ (mkW_sup h) (by rw [fmT_root]; exact mkW_rep h)
end Go.Proofs.YtdmjkjeoamiedaaGreatDoor
end
section
namespace Go.Proofs.YtdmjkjeoamiedaaGreatDoor
open Go
abbrev Prd := Nat × Nat × Nat
def rowP (nums : List Nat) : Nat → Bytes
  | 0 => List.replicate 24 0
  | k + 1 => put (rowP nums k) (8 * k) 8 true (nums.getD k 0)
def rowN (r : Prd) : List Nat := [r.1, r.2.1, r.2.2]
def rowB (r : Prd) : Bytes := rowP (rowN r) 3
theorem rowP_length (nums : List Nat) : ∀ k, (rowP nums k).length = 24
  | 0 => List.length_replicate
  | k + 1 => by rw [rowP, put_length]; exact rowP_length nums k
theorem rowB_length (r : Prd) : (rowB r).length = 24 := rowP_length _ 3
theorem rowP_seg (nums : List Nat) {k : Nat} (hk : k < 3) (hv : nums.getD k 0 < 2 ^ 64) : ∀ i, k < i → i ≤ 3 → beNat (seg (rowP nums i) (8 * k) 8 true) = nums.getD k 0
  | i + 1, h1, h2 => by
    rw [rowP]
    have hlen := rowP_length nums i
    by_cases hki : k = i
    · subst hki
      exact seg_put (by omega) (by rw [show (256 : Nat) ^ 8 = 2 ^ 64 from by decide]; exact hv)
    · rw [seg_put_other (by omega)]
      exact rowP_seg nums hk hv i (by omega) (by omega)
def rowsB (L : List Prd) : Bytes := L.flatMap rowB
theorem rowsB_nil : rowsB [] = [] := rfl
theorem rowsB_append (L M : List Prd) : rowsB (L ++ M) = rowsB L ++ rowsB M := by unfold rowsB; rw [List.flatMap_append]
theorem rowsB_cons (r : Prd) (L : List Prd) : rowsB (r :: L) = rowB r ++ rowsB L := by unfold rowsB; rw [List.flatMap_cons]
theorem rowsB_length : ∀ L : List Prd, (rowsB L).length = 24 * L.length
  | [] => rfl
  | r :: L => by rw [rowsB_cons, List.length_append, rowB_length, rowsB_length L, List.length_cons]; omega
theorem rowsB_split {L : List Prd} {q : Nat} (h : q < L.length) : rowsB L = rowsB (L.take q) ++ (rowB L[q] ++ rowsB (L.drop (q + 1))) := by
  conv => lhs; rw [← List.take_append_drop q L, List.drop_eq_getElem_cons h]
  rw [rowsB_append, rowsB_cons]
theorem rowsB_drop {L : List Prd} {q : Nat} (h : q < L.length) : (rowsB L).drop (24 * q) = rowB L[q] ++ rowsB (L.drop (q + 1)) := by
  have ht : (rowsB (L.take q)).length = 24 * q := by rw [rowsB_length, List.length_take]; omega
  rw [rowsB_split h, List.drop_left' ht]
def PrdOk (r : Prd) : Prop := 1 ≤ r.1 ∧ r.1 < 2 ^ 63 ∧ r.2.1 < 2 ^ 63 ∧ r.2.2 ≤ 2 ^ 50
theorem seg_front {xs ys : Bytes} {p size : Nat} {big : Bool} (h : p + size ≤ xs.length) : seg (xs ++ ys) p size big = seg xs p size big :=
  seg_same fun j _ h2 => List.getElem?_append_left (by omega)
theorem rowB_get {r : Prd} (h : PrdOk r) : beNat (seg (rowB r) 0 8 true) = r.1 ∧ beNat (seg (rowB r) 8 8 true) = r.2.1 ∧ beNat (seg (rowB r) 16 8 true) = r.2.2 := by
  obtain ⟨_, h2, h3, h4⟩ := h
  exact ⟨rowP_seg (rowN r) (k := 0) (by omega) (by show r.1 < _; omega) 3 (by omega) (by omega), rowP_seg (rowN r) (k := 1) (by omega) (by show r.2.1 < _; omega) 3 (by omega) (by omega), rowP_seg (rowN r) (k := 2) (by omega) (by show r.2.2 < _; omega) 3 (by omega) (by omega)⟩
def setP (L : List Prd) (q : Nat) (r : Prd) : List Prd := L.take q ++ r :: L.drop (q + 1)
theorem setP_length {L : List Prd} {q : Nat} (h : q ≤ L.length) (r : Prd) : (setP L q r).length = max L.length (q + 1) := by
  unfold setP
  rw [List.length_append, List.length_take, List.length_cons, List.length_drop]; omega
theorem setP_same {L : List Prd} {q : Nat} (h : q ≤ L.length) (r : Prd) : (setP L q r)[q]? = some r := by
  unfold setP
  rw [List.getElem?_append_right (by rw [List.length_take]; omega), List.length_take, Nat.min_eq_left h, Nat.sub_self]
  rfl
theorem setP_other {L : List Prd} {q j : Nat} (h : q ≤ L.length) (hj : j ≠ q) (r : Prd) : (setP L q r)[j]? = L[j]? := by
  unfold setP
  rcases Nat.lt_or_gt_of_ne hj with hlt | hgt
  · rw [List.getElem?_append_left (by rw [List.length_take]; omega), List.getElem?_take, if_pos hlt]
  · rw [List.getElem?_append_right (by rw [List.length_take]; omega), List.length_take, Nat.min_eq_left h, show j - q = (j - q - 1) + 1 from by omega, List.getElem?_cons_succ, List.getElem?_drop]
    congr 1; omega
theorem setP_wr {L : List Prd} {q : Nat} (h : q ≤ L.length) (r : Prd) : wrB (rowsB L) (24 * q) (rowB r) = rowsB (setP L q r) := by
  have hl := rowsB_length L
  have ht : (rowsB (L.take q)).length = 24 * q := by rw [rowsB_length, List.length_take]; omega
  unfold setP
  rw [rowsB_append, rowsB_cons]
  unfold wrB splice
  by_cases hq : q < L.length
  · have hx : ext (rowsB L) (24 * q + (rowB r).length) = rowsB L := by
      unfold ext
      rw [rowB_length, show 24 * q + 24 - (rowsB L).length = 0 from by omega, List.replicate_zero, List.append_nil]
    have e1 : (rowsB L).take (24 * q) = rowsB (L.take q) := by
      rw [rowsB_split hq, List.take_left' ht]
    have e2 : (rowsB L).drop (24 * q + (rowB r).length) = rowsB (L.drop (q + 1)) := by
      rw [rowsB_split hq, ← List.append_assoc, List.drop_left' (by rw [List.length_append, ht, rowB_length, rowB_length])]
    simp only [hx, e1, e2, List.append_assoc]
  · have hqe : q = L.length := by omega
    have e0 : L.take q = L := by rw [hqe, List.take_length]
    have e3 : L.drop (q + 1) = [] := List.drop_eq_nil_of_le (by omega)
    have e4 : (ext (rowsB L) (24 * q + (rowB r).length)).take (24 * q) = rowsB L := by
      unfold ext
      rw [List.take_left' (by omega)]
    have e5 : (ext (rowsB L) (24 * q + (rowB r).length)).drop (24 * q + (rowB r).length) = [] := List.drop_eq_nil_of_le (by rw [ext_length, rowB_length]; omega)
    rw [e0, e3, rowsB_nil, List.append_nil, e4, e5, List.append_nil]
def lookP : List Prd → Int → Option Nat
  | [], _ => none
  | r :: L, id => if (r.1 : Int) = id then some 0 else (lookP L id).map (· + 1)
theorem lookP_some : ∀ {L : List Prd} {id : Int} {q : Nat}, lookP L id = some q → ∃ h : q < L.length, (L[q].1 : Int) = id
  | r :: L, id, q, h => by
    unfold lookP at h
    split at h
    · rename_i hr; injection h with h; subst h; exact ⟨Nat.zero_lt_succ _, hr⟩
    · obtain ⟨x, hx, rfl⟩ := Option.map_eq_some_iff.1 h
      obtain ⟨h1, h2⟩ := lookP_some hx
      exact ⟨Nat.succ_lt_succ h1, h2⟩
theorem lookP_none : ∀ {L : List Prd} {id : Int}, lookP L id = none → ∀ q (h : q < L.length), (L[q].1 : Int) ≠ id
  | r :: L, id, h, q, hq => by
    unfold lookP at h
    split at h
    · cases h
    · rename_i hr
      cases q with
      | zero => exact hr
      | succ q => exact lookP_none (Option.map_eq_none_iff.1 h) q (Nat.lt_of_succ_lt_succ hq)
structure POk (L : List Prd) : Prop where
  each : ∀ r ∈ L, PrdOk r
  one : ∀ q r (hq : q < L.length) (hr : r < L.length), L[q].1 = L[r].1 → q = r
  few : L.length ≤ 60
theorem POk.nil : POk [] := ⟨fun r h => (by cases h), fun q r h => absurd h (Nat.not_lt_zero _), Nat.zero_le _⟩
theorem POk.look {L : List Prd} (h : POk L) {q : Nat} (hq : q < L.length) : lookP L (L[q].1 : Int) = some q := by
  cases hl : lookP L (L[q].1 : Int) with
  | none => exact absurd rfl (lookP_none hl q hq)
  | some r =>
    obtain ⟨hr, he⟩ := lookP_some hl
    rw [h.one r q hr hq (by omega)]
def accP (L : List Prd) (r : Prd) : List Prd := setP L ((lookP L (r.1 : Int)).getD L.length) r
theorem rowOf_le {L : List Prd} (id : Int) : (lookP L id).getD L.length ≤ L.length := by
  cases h : lookP L id with
  | none => exact Nat.le_refl _
  | some q => exact Nat.le_of_lt (lookP_some h).1
theorem rowOf_lt {L : List Prd} (id : Int) (h : lookP L id ≠ none ∨ L.length < 60) (hL : L.length ≤ 60) : (lookP L id).getD L.length < 60 := by
  cases hl : lookP L id with
  | none =>
    rcases h with h | h
    · exact absurd hl h
    · exact h
  | some q => exact Nat.lt_of_lt_of_le (lookP_some hl).1 hL
theorem setP_mem {L : List Prd} {q : Nat} (h : q ≤ L.length) {r x : Prd} (hx : x ∈ setP L q r) : x = r ∨ x ∈ L := by
  unfold setP at hx
  rcases List.mem_append.1 hx with h1 | h1
  · exact .inr (List.mem_of_mem_take h1)
  · rcases List.mem_cons.1 h1 with h1 | h1
    · exact .inl h1
    · exact .inr (List.mem_of_mem_drop h1)
theorem getElem_of? {α : Type} {l : List α} {q : Nat} {x : α} (hq : q < l.length) (h : l[q]? = some x) : l[q] = x := by
  rw [List.getElem?_eq_getElem hq] at h
  injection h
theorem accP_ok {L : List Prd} (h : POk L) {r : Prd} (hr : PrdOk r) (hf : lookP L (r.1 : Int) ≠ none ∨ L.length < 60) : POk (accP L r) := by
  obtain ⟨q, hq⟩ : ∃ q, (lookP L (r.1 : Int)).getD L.length = q := ⟨_, rfl⟩
  have hle : q ≤ L.length := hq ▸ rowOf_le _
  have hlt : q < 60 := hq ▸ rowOf_lt _ hf h.few
  have hlen := setP_length hle r
  unfold accP
  rw [hq]
  have key : ∀ j (hj : j < L.length), j ≠ q → L[j].1 ≠ r.1 := by
    intro j hj hjq he
    cases hl : lookP L (r.1 : Int) with
    | none => exact lookP_none hl j hj (by omega)
    | some i =>
      rw [hl] at hq
      have hq : i = q := hq
      subst hq
      obtain ⟨h1, h2⟩ := lookP_some hl
      exact hjq (h.one j i hj h1 (by omega))
  refine ⟨fun x hx => ?_, fun i j hi hj he => ?_, by have := h.few; omega⟩
  · rcases setP_mem hle hx with rfl | hx
    · exact hr
    · exact h.each x hx
  · by_cases hiq : i = q
    · by_cases hjq : j = q
      · omega
      · exfalso
        have hjl : j < L.length := by omega
        have e1 : (setP L q r)[i] = r := getElem_of? hi (by rw [hiq]; exact setP_same hle r)
        have e2 : (setP L q r)[j] = L[j] := getElem_of? hj (by rw [setP_other hle hjq]; exact List.getElem?_eq_getElem hjl)
        rw [e1, e2] at he
        exact key j hjl hjq he.symm
    · have hil : i < L.length := by omega
      have e1 : (setP L q r)[i] = L[i] := getElem_of? hi (by rw [setP_other hle hiq]; exact List.getElem?_eq_getElem hil)
      by_cases hjq : j = q
      · exfalso
        have e2 : (setP L q r)[j] = r := getElem_of? hj (by rw [hjq]; exact setP_same hle r)
        rw [e1, e2] at he
        exact key i hil hiq he
      · have hjl : j < L.length := by omega
        have e2 : (setP L q r)[j] = L[j] := getElem_of? hj (by rw [setP_other hle hjq]; exact List.getElem?_eq_getElem hjl)
        rw [e1, e2] at he
        exact h.one i j hil hjl he
def knV (r : Prd) (q : Nat) : Value := .agg #[nI r.2.1, nI r.2.2, nI q]
structure PMap (L : List Prd) (kv : List (Int × Value)) : Prop where
  len : kv.length = L.length
  get : ∀ id, kget kv id = (lookP L id).map fun q => knV (L.getD q (0, 0, 0)) q
theorem PMap.nil : PMap [] [] := ⟨rfl, fun id => rfl⟩
theorem PMap.acc {L : List Prd} {kv : List (Int × Value)} (h : PMap L kv) (hL : POk L) {r : Prd} (hok : POk (accP L r)) : PMap (accP L r) (kput kv (r.1 : Int) (knV r ((lookP L (r.1 : Int)).getD L.length))) := by
  obtain ⟨q, hq⟩ : ∃ q, (lookP L (r.1 : Int)).getD L.length = q := ⟨_, rfl⟩
  have hle : q ≤ L.length := hq ▸ rowOf_le _
  have hlen := setP_length hle r
  have hacc : accP L r = setP L q r := by unfold accP; rw [hq]
  rw [hacc] at hok ⊢
  rw [hq]
  have hql : q < (setP L q r).length := by omega
  have hqe : (setP L q r)[q] = r := getElem_of? hql (setP_same hle r)
  refine ⟨?_, fun id => ?_⟩
  · rw [kput_length, h.get, h.len, hlen]
    cases hl : lookP L (r.1 : Int) with
    | none => rw [hl] at hq; have hq : L.length = q := hq; simp; omega
    | some i =>
      rw [hl] at hq
      have hq : i = q := hq
      have := (lookP_some hl).1
      simp; omega
  · rw [kget_put]
    split
    · rename_i hid
      subst hid
      have := hok.look hql
      rw [hqe] at this
      rw [this]
      show some (knV r q) = some (knV ((setP L q r).getD q (0, 0, 0)) q)
      rw [List.getD_eq_getElem?_getD, setP_same hle]; rfl
    · rename_i hid
      rw [h.get]
      cases hl : lookP L id with
      | none =>
        cases hl2 : lookP (setP L q r) id with
        | none => rfl
        | some j =>
          obtain ⟨h1, h2⟩ := lookP_some hl2
          by_cases hjq : j = q
          · subst hjq; rw [hqe] at h2; exact absurd h2.symm hid
          · have hjl : j < L.length := by omega
            have e2 : (setP L q r)[j] = L[j] := getElem_of? h1 (by rw [setP_other hle hjq]; exact List.getElem?_eq_getElem hjl)
            rw [e2] at h2
            exact absurd h2 (lookP_none hl j hjl)
      | some j =>
        obtain ⟨h1, h2⟩ := lookP_some hl
        have hjq : j ≠ q := by
          intro hjq
          subst hjq
          cases hl3 : lookP L (r.1 : Int) with
          | none => rw [hl3] at hq; have hq : L.length = j := hq; omega
          | some i =>
            rw [hl3] at hq
            have hq : i = j := hq
            subst hq
            obtain ⟨_, h4⟩ := lookP_some hl3
            exact hid (h2.symm.trans h4)
        have hjl : j < (setP L q r).length := by omega
        have e2 : (setP L q r)[j] = L[j] := getElem_of? hjl (by rw [setP_other hle hjq]; exact List.getElem?_eq_getElem h1)
        have := hok.look hjl
        rw [e2, h2] at this
        rw [this]
        show some (knV (L.getD j (0, 0, 0)) j) = some (knV ((setP L q r).getD j (0, 0, 0)) j)
        rw [List.getD_eq_getElem?_getD, List.getD_eq_getElem?_getD, setP_other hle hjq]
def chkP (L : List Prd) (id seq : Int) : Int × Bool × Int :=
  if id < 1 ∨ seq < 0 then (0, false, 1) else match lookP L id with
  | none => if 60 ≤ L.length then (0, false, 2) else if seq = 0 then (0, false, 0) else (0, false, 11)
  | some q => if seq = ((L.getD q (0, 0, 0)).2.1 : Int) then (((L.getD q (0, 0, 0)).2.2 : Int), true, 0) else if seq - 1 = ((L.getD q (0, 0, 0)).2.1 : Int) then (0, false, 0) else (0, false, 11)
def accE (L : List Prd) (id seq base : Int) : Nat :=
  if 1 ≤ id ∧ 0 ≤ seq ∧ 0 ≤ base ∧ base ≤ 1125899906842624 then (if lookP L id = none ∧ 60 ≤ L.length then 2 else 0) else 1
end Go.Proofs.YtdmjkjeoamiedaaGreatDoor
end
