/- Walks of dir: a name's key, a slot, what a directory has. -/
import Derived.Test.YtedmihapieleaaaGreatFa
import Derived.Test.YtedmihapieleaaaGreatWab
import Derived.Test.YtedmihapieleaaaGreatSo
import Derived.Test.YtedmihapieleaaaGreatWbb
import Derived.Test.YtedmihapieleaaaGreatPm
import Derived.KernelRfl
set_option linter.unusedVariables false
set_option linter.unusedSimpArgs false
namespace Go.Proofs.YtedmihapieleaaaGreat
open Go
theorem agg124 : aggOk Tryz.prog 124 51 = true := by kernel_rfl
theorem ar124 : arrOk Tryz.prog 124 5 51 1 = true := by kernel_rfl
theorem un124 : Tryz.prog.underlying 124 = some (.array 51 5) := by kernel_rfl
theorem fo55_0 : fieldOk Tryz.prog 55 0 0 = true := by kernel_rfl
theorem fo55_1 : fieldOk Tryz.prog 55 1 1 = true := by kernel_rfl
theorem mp117 : mapOk Tryz.prog 117 124 121 = true := by kernel_rfl

theorem key0 : zeroOf Tryz.prog 124 = some (bvs (List.replicate 51 0)).toArray := by kernel_rfl
theorem keyB_single (nm : Bytes) : ∀ v ∈ bvs (keyB nm), Value.single v = true := bvs_single _
theorem bvsK_length (nm : Bytes) : (bvs (keyB nm)).length = 51 := by rw [bvs_length, keyB_length]

theorem dOf {nm : Bytes} (hn : nm.length ≤ 50) : Spec Tryz.prog 71 #[sv nm] [] fun F v M => v = arrV (keyB nm) ∧ M = F := by
  refine Spec.intro Tryz.func71 rfl rfl fun B F => ?_
  simp only [Tryz.ntmps71, List.cons_append, List.nil_append, env0, Nat.reduceAdd]
  refine WC.seq ?_
  refine WC.region ?_
  refine WL.allocL (us := bvs (List.replicate 51 0)) key0 rfl fun b2 => ?_
  refine WL.nil ?_
  refine WQ.next ?_
  refine WC.seq ?_
  refine WC.region ?_
  refine WL.move ?_
  refine WL.lenT _ ?_ st9
  refine WL.cvt ?_ un3 un5
  refine WL.cast (d := 5) (u := bv (UInt8.ofNat nm.length)) rfl (congrArg (Value.int .u8) (by rw [UInt8.toNat_ofNat', IntWalk.u8_in _ (by omega)]; omega)) ?_
  refine WL.idxA ?_ ar124
  refine WL.stL (xs := bvs (List.replicate 51 0)) (i := 0) ?_ sc5 (by rw [bvs_length, List.length_replicate]; decide)
  refine WL.to (A := row b2 124 ((bvs (List.replicate 51 0)).set 0 (bv (UInt8.ofNat nm.length)))) (A' := buf b2 124 51 (bvs (UInt8.ofNat nm.length :: List.replicate 50 0))) (fun h hh => buf_of_row (by rw [bvs_length]; rfl) h hh) ?_
  refine WL.nil ?_
  refine WQ.next ?_
  refine WC.seq ?_
  refine WC.region ?_
  refine WL.slcArrL ?_ ar124
  refine WL.move ?_
  refine WL.copyS nm so33 ?_ (hdl := by rw [bvs_length]; exact Nat.le_refl _)
  refine WL.to (A := buf b2 124 51 ((bvs (UInt8.ofNat nm.length :: List.replicate 50 0)).take 1 ++ (bvs nm).take (min nm.length 50) ++ (bvs (UInt8.ofNat nm.length :: List.replicate 50 0)).drop (1 + min nm.length 50))) (A' := row b2 124 (bvs (keyB nm))) (fun h hh => row_of_buf (bvsK_length nm) h (by rw [← keyB_made hn, bvs_append, bvs_append, bvs_take, bvs_take, bvs_drop]; exact hh)) ?_
  refine WL.nil ?_
  refine WQ.next ?_
  refine WC.seq ?_
  refine WC.region ?_
  refine WL.ldW (xs := bvs (keyB nm)) ?_ agg124 (bvsK_length nm)
  refine WL.stLA (xs := bvs (keyB nm)) (us := bvs (keyB nm)) ?_ agg124 (bvsK_length nm) (bvsK_length nm) (keyB_single nm)
  refine WL.nil ?_
  refine WQ.next ?_
  refine WC.ret (?_)
  exact WQ.ret1 (h1 := RV.aggL rfl agg124 (by repeat (first | exact .here | apply Rem.there | apply Repl.there | apply Mem.there)) (bvsK_length nm)) ⟨_, ⟨rfl, rfl⟩, Am.auto⟩


theorem IN.more {s a c : Nat} {p : Pl} {F0 F : FM} {W W' : Nat} {op : Bool} (h : W ≤ W') : ∀ k, IN s a c p F0 F W op k → IN s a c p F0 F W' op k := by
  intro k hk
  obtain ⟨y, hy, hs⟩ := (IN.opens s a c p F0 F W op).to k hk
  exact (IN.opens s a c p F0 F W' op).of y ⟨hy.r0, hy.r, hy.dk, Nat.le_trans hy.wt h⟩ k hs
theorem Rw.less {p : Pl} {W c c' : Nat} (h : Rw p W c) (hc : c' ≤ c) : Rw p W c' := by
  unfold Rw at h ⊢
  omega
theorem has_slot (n q : Nat) (h : 64 * q ≤ 64 * n) : has (max (64 * n) (64 * q + 64)) - has (64 * n) ≤ 2 := by
  have h1 : dat (max (64 * n) (64 * q + 64)) ≤ dat (64 * n) + 1 := by unfold dat; omega
  unfold has
  split <;> split <;> omega
theorem slotP {nm : Bytes} (i : Nat) : (bvs (put4 (List.replicate 64 0) 0 i)).take 4 ++ (bvs (keyB nm)).take 51 ++ (bvs (put4 (List.replicate 64 0) 0 i)).drop 55 = bvs (slotB (some (nm, i))) := by
  rw [← slotB_made, bvs_append, bvs_append, bvs_take, bvs_drop, List.take_of_length_le (Nat.le_of_eq (bvsK_length nm))]
theorem bdFound (v0 v1 : Int) : BuildOk Tryz.prog 121 [(0, .int .i64 v0), (1, .int .i64 v1)] #[.int .i64 v0, .int .i64 v1] := fun w => by kernel_rfl
theorem arrOkK : arrIntOk Tryz.prog 124 5 51 = true := by kernel_rfl
def encK : K51 → Value := fun k => Value.agg (bvs k.1).toArray
theorem klN : KeyLaw Tryz.prog 124 encK := arrKeys (fun k : K51 => k.1) arrOkK (fun k => k.2) (fun a b h => Subtype.ext h)
def freeI (sl : List Slot) (q : Nat) : Int := match freeF sl q with
  | some r => ((64 * r : Nat) : Int)
  | none => -1

theorem dLay {s a c : Nat} {p : Pl} {F0 Fm : FM} {W d q i : Nat} {nm : Bytes} {sl : List Slot} (ho : PlOk p) (hF : Fm d = some (2, dirB sl)) (hq : q ≤ sl.length) (hq2 : q < 1104) (hn : nm.length ≤ 50) (hi : i < 4294967296) (hw : Rw p W 13) (hfit : tot Fm p.ino + has (max (64 * sl.length) (64 * q + 64)) ≤ p.dc + has (64 * sl.length)) :
    Spec Tryz.prog 72 #[.pointer (some ⟨s, 0, none⟩), nI d, nI (64 * q), sv nm, nI i] [IN s a c p F0 Fm W true] fun G v M => v = okV ∧ M = IN s a c p F0 (updM Fm d (some (2, dirB (setS sl q (some (nm, i)))))) (W + 8) true :: G := by
  refine Spec.intro Tryz.func72 rfl rfl fun B F => ?_
  simp only [Tryz.ntmps72, List.cons_append, List.nil_append, env0, Nat.reduceAdd]
  have hdl := dirB_length sl
  have hsl := slotB_length (some (nm, i))
  have hhs := has_slot sl.length q (by omega)
  refine WC.seq ?_
  refine WC.region ?_
  refine WL.assign ?_
  refine WL.nil ?_
  refine WQ.next ?_
  refine WC.seq ?_
  refine WC.region ?_
  refine WL.mkSN 64 z5 so33 (by decide) (by decide) fun b15 => ?_
  refine WL.to (A' := buf b15 5 64 (bvs (List.replicate 64 0))) (fun h hh => by rw [bvs_replicate]; exact hh) ?_
  refine WL.move ?_
  refine WL.cvt ?_ un3 un138
  refine WL.cast (d := 17) (u := .int .u64 (i : Int)) rfl (congrArg (Value.int .u64) (IntWalk.u64_in _ (by omega))) ?_
  refine WL.call (hc := Tryz.call116) (sp := bitsPut (n := 64) (xs := List.replicate 64 0) (p := 0) (size := 4) (big := false) (v := i) Reads.buf List.length_replicate (by decide) (by decide) (by decide) (by decide) (by omega)) (h := ?_)
  rintro _ _ ⟨gb, qq, ⟨rfl, h1, h2⟩, rfl⟩
  refine WL.move ?_
  refine WL.extract ?_
  refine WL.extract ?_
  refine WL.assign ?_
  refine WL.assign ?_
  refine WL.nil ?_
  refine WQ.next ?_
  refine WC.seq ?_
  refine WC.region ?_
  refine WL.move ?_
  refine WL.call (hc := Tryz.call71) (sp := dOf hn) (h := ?_)
  rintro _ _ ⟨rfl, rfl⟩
  refine WL.allocL (us := bvs (List.replicate 51 0)) key0 rfl fun b13 => ?_
  refine WL.stLA (xs := bvs (List.replicate 51 0)) (us := bvs (keyB nm)) ?_ agg124 (bvsK_length nm) rfl (keyB_single nm)
  refine WL.to (A := row b13 124 (bvs (keyB nm))) (A' := buf b13 124 51 (bvs (keyB nm))) (fun h hh => buf_of_row (bvsK_length nm) h hh) ?_
  refine WL.nil ?_
  refine WQ.next ?_
  refine WC.seq ?_
  refine WC.draw ([]) [] 4 #[false, false, false, false] mixed (by kernel_rfl) NoPanic.autoJ ?_
  refine WD.take (i := 0) #[true, false, false, false] rfl (by kernel_rfl) (Qt.move ) ?_
  refine WD.take (i := 1) #[true, true, false, false] rfl (by kernel_rfl) ((Qt.slcL so33).eq (v' := .slice (some ⟨gb, 4, none⟩) 60 (qq - 4)) (by rw [if_neg (by show ¬ qq = 4; omega)]; rfl)) ?_
  refine WD.take (i := 2) #[true, true, true, false] rfl (by kernel_rfl) (Qt.slcArr un124 (by kernel_rfl)) ?_
  refine WD.one (i := 3) #[true, true, true, true] rfl (by kernel_rfl) fun hnp => ?_
  refine WL.copy (R := buf b13 124 51 (bvs (keyB nm))) (m := 51) (g := gb) (off := 4) (dl := 60) (k := qq) (xs := bvs (put4 (List.replicate 64 0) 0 i)) (ys := bvs (keyB nm)) so33 Reads.buf (bvsK_length nm) (bvs_single _) ?_ (hdl := by rw [bvs_length, put4_length, List.length_replicate]; decide)
  refine WL.to (A' := buf gb 5 qq (bvs (slotB (some (nm, i))))) (fun h hh => by rw [← slotP]; exact hh) ?_
  refine WL.nil (WQ.wd hnp (.inl Am.auto) ?_)
  refine WD.done (by kernel_rfl) ?_
  refine WQ.next ?_
  refine WC.seq ?_
  refine WC.region ?_
  refine WL.move ?_
  refine WL.move ?_
  refine WL.move ?_
  refine WL.move ?_
  refine WL.call (hc := Tryz.call20) (sp := nWrite (s := s) (a := a) (c := c) (p := p) (F0 := F0) (F := Fm) (W := W) (i := d) (at' := 64 * q) (f := (2, dirB sl)) (bs := slotB (some (nm, i))) (m := 64) ho hF (hw.less (by show has (max (dirB sl).length (64 * q + 64)) - has (dirB sl).length + (64 + 511) / 512 + 10 ≤ 13; rw [hdl]; omega)) (.inr Reads.buf) hsl (by omega) h2 (by show 64 * q ≤ (dirB sl).length; omega) (by omega) (by show tot Fm p.ino + has (max (dirB sl).length (64 * q + 64)) ≤ p.dc + has (dirB sl).length; rw [hdl]; exact hfit)) (h := ?_)
  rintro _ _ ⟨rfl, rfl⟩
  refine WL.assign ?_
  refine WL.nil ?_
  refine WQ.next ?_
  refine WC.ret (?_)
  simp only [setS_wr hq]
  refine WQ.to (A' := IN s a c p F0 (updM Fm d (some (2, dirB (setS sl q (some (nm, i)))))) (W + 8) true) (fun h hh => IN.more (by show W + (has (max (dirB sl).length (64 * q + 64)) - has (dirB sl).length) + (64 + 511) / 512 + 5 ≤ W + 8; rw [hdl]; omega) h hh) ?_
  exact WQ.ret1 (h1 := .tmp (t := 10) rfl) ⟨_, ⟨rfl, rfl⟩, Am.auto⟩


theorem freeI_pos {sl : List Slot} {q r : Nat} (h : freeF sl q = some r) : freeI sl q = ((64 * r : Nat) : Int) := by unfold freeI; rw [h]
theorem freeI_neg {sl : List Slot} {q : Nat} (h : freeF sl q = none) : freeI sl q = -1 := by unfold freeI; rw [h]
theorem freeI_keep {sl : List Slot} {q r : Nat} (h : freeF sl q = some r) : freeI sl (q + 1) = ((64 * r : Nat) : Int) := freeI_pos (by rw [freeF, h])
theorem freeI_new {sl : List Slot} {q : Nat} (h : freeF sl q = none) (hs : sl[q]? = some none) : freeI sl (q + 1) = ((64 * q : Nat) : Int) := freeI_pos (by rw [freeF, h]; simp [hs])
theorem freeI_full {sl : List Slot} {q : Nat} {x : Bytes × Nat} (hs : sl[q]? = some (some x)) : freeI sl (q + 1) = freeI sl q := by
  unfold freeI
  rw [freeF]
  cases h : freeF sl q with
  | some r => rfl
  | none => simp [hs]
theorem keyOf_single (s : Slot) : ∀ v ∈ bvs (keyOf s), Value.single v = true := bvs_single _
theorem bvsO_length (s : Slot) : (bvs (keyOf s)).length = 51 := by rw [bvs_length, keyOf_length]

theorem dNames {s a c : Nat} {p : Pl} {F0 Fm : FM} {W d : Nat} {op : Bool} {sl : List Slot} (ho : PlOk p) (hF : Fm d = some (2, dirB sl)) (hd : DirOk sl) (hsz : sl.length ≤ 1104) :
    Spec Tryz.prog 73 #[.pointer (some ⟨s, 0, none⟩), nI d] [IN s a c p F0 Fm W op] fun G v M => ∃ mp es cl, v = .tuple #[.map (some mp), nI (64 * freeS sl), .int .i64 0] ∧ MapIs encK es cl (kvF sl sl.length) ∧ M = pt mp (.map es cl) :: IN s a c p F0 Fm W op :: G := by
  refine Spec.intro Tryz.func73 rfl rfl fun B F => ?_
  simp only [Tryz.ntmps73, List.cons_append, List.nil_append, env0, Nat.reduceAdd]
  have hdl := dirB_length sl
  refine WC.seq ?_
  refine WC.region ?_
  refine WL.assign ?_
  refine WL.assign ?_
  refine WL.assign ?_
  refine WL.nil ?_
  refine WQ.next ?_
  refine WC.seq ?_
  refine WC.region ?_
  refine WL.move ?_
  refine WL.move ?_
  refine WL.call (hc := Tryz.call29) (sp := nStat (s := s) (a := a) (c := c) (p := p) (F0 := F0) (F := Fm) (W := W) (op := op) (i := d) (f := (2, dirB sl)) ho hF) (h := ?_)
  rintro _ _ ⟨rfl, rfl⟩
  refine WL.move ?_
  refine WL.extract ?_
  refine WL.extract ?_
  refine WL.alloc z55 fun b7 => ?_
  refine WL.stV ?_ agg55
  refine WL.assign ?_
  refine WL.nil ?_
  refine WQ.next ?_
  refine WC.seq ?_
  refine WC.seq ?_
  refine WC.region ?_
  refine WL.move ?_
  refine WL.nei ?_
  refine WL.nil ?_
  refine WQ.next ?_
  refine WC.condF rfl rfl ?_
  refine WC.skip ?_
  refine WQ.next ?_
  refine WC.seq ?_
  refine WC.seq ?_
  refine WC.region ?_
  refine WL.fa ?_ fo55_0
  refine WL.ld ?_ sc3
  refine WL.nei ?_
  refine WL.nil ?_
  refine WQ.next ?_
  refine WC.condF rfl rfl ?_
  refine WC.skip ?_
  refine WQ.next ?_
  refine WC.seq ?_
  refine WC.region ?_
  refine WL.move ?_
  refine WL.move ?_
  refine WL.fa ?_ fo55_1
  refine WL.ld ?_ sc3
  refine WL.call (hc := Tryz.call23) (sp := nRead (s := s) (a := a) (c := c) (p := p) (F0 := F0) (F := Fm) (W := W) (op := op) (i := d) (at' := 0) (k := (dirB sl).length) (f := (2, dirB sl)) ho hF (by decide) (by omega)) (h := ?_)
  rintro _ _ ⟨u, rfl, rfl⟩
  simp only [List.drop_zero, List.take_length]
  refine WL.move ?_
  refine WL.extract ?_
  refine WL.extract ?_
  refine WL.assign ?_
  refine WL.assign ?_
  refine WL.nil ?_
  refine WQ.next ?_
  refine WC.seq ?_
  refine WC.seq ?_
  refine WC.region ?_
  refine WL.move ?_
  refine WL.nei ?_
  refine WL.nil ?_
  refine WQ.next ?_
  refine WC.condF rfl rfl ?_
  refine WC.skip ?_
  refine WQ.next ?_
  refine WC.seq ?_
  refine WC.region ?_
  refine WL.mkMap fun m36 => ?_
  refine WL.assign ?_
  refine WL.assign ?_
  refine WL.nil ?_
  refine WQ.next ?_
  refine WC.seq ?_
  refine WC.seq ?_
  refine WC.region ?_
  refine WL.assign ?_
  refine WL.nil ?_
  refine WQ.next ?_
  refine WC.block ?_
  refine WC.fact (rowR_shape (el := 5) (size := 1) (v := u) (k := (dirB sl).length) (xs := bvs (dirB sl))) (fun ⟨A2, c2, hv2, hR2, hk2, hc2, hl2⟩ => ?_)
  subst hv2
  refine WC.loopA (σ := Nat × Array MapEntry × Nat) (fun y => [(4, .map (some m36)), (5, .int .i64 (freeI sl y.1)), (8, .slice A2 (dirB sl).length c2), (9, nI (64 * y.1))]) (fun y => [pt m36 (.map y.2.1 y.2.2), rowR 5 1 (.slice A2 (dirB sl).length c2) (dirB sl).length (bvs (dirB sl)), IN s a c p F0 Fm W op] ++ F) (fun y => y.1 ≤ sl.length ∧ MapIs encK y.2.1 y.2.2 (kvF sl y.1)) (fun y => sl.length - y.1) (0, #[], 0) ⟨Nat.zero_le _, MapIs.empty _ _⟩ ?_
  rintro y hy
  obtain ⟨q, es, cl⟩ := y
  obtain ⟨hq, hm⟩ := hy
  simp only at hq hm
  refine WC.seq ?_
  refine WC.seq ?_
  refine WC.region ?_
  refine WL.move ?_
  refine WL.move ?_
  refine WL.lenS ?_ sl33
  refine WL.lss ?_
  refine WL.nil ?_
  refine WQ.next ?_
  refine WC.cond rfl (fun hb => ?_) (fun hb => ?_)
  · have hlt : q < sl.length := by have h : ((64 * q : Nat) : Int) < ((dirB sl).length : Int) := of_decide_eq_true hb; omega
    rcases A2 with _ | ⟨ab, ao, asp⟩
    · exact absurd hR2 (fun h => by have h2 : bvs (dirB sl) = [] := h; have h3 : (dirB sl).length = 0 := (by have := congrArg List.length h2; rwa [bvs_length] at this); omega)
    have hsp : asp = none := hR2.1
    subst hsp
    have hp1 : (((64 * q : Nat) : Int) + 4).toNat = 64 * q + 4 := by omega
    have hp2 : (((64 * q : Nat) : Int) + 4 + 51).toNat = 64 * q + 55 := by omega
    have hgs : sl[q]? = some sl[q] := List.getElem?_eq_getElem hlt
    obtain ⟨sq, hsq⟩ : ∃ sq, sl[q] = sq := ⟨_, rfl⟩
    have hkq := dirB_key hlt
    rw [hsq] at hgs hkq
    have hkv : kvF sl (q + 1) = stepK (kvF sl q) q sq := by rw [kvF, hgs]
    refine WC.skip ?_
    refine WQ.next ?_
    refine WC.seq ?_
    refine WC.block ?_
    refine WC.seq ?_
    refine WC.region ?_
    refine WL.move ?_
    refine WL.move ?_
    refine WL.add ?_
    refine WL.move ?_
    refine WL.add ?_
    refine WL.add ?_
    refine WL.slcLH ?_ so33
    refine WL.cast (d := 49) (u := .slice (some ⟨ab, ao + (64 * q + 4), none⟩) 51 (c2 - (64 * q + 4))) rfl (by rw [hp1, hp2, if_neg (show ¬ c2 = 64 * q + 4 by omega), Nat.mul_one, show 64 * q + 55 - (64 * q + 4) = 51 from by omega]) ?_
    refine WL.toArr ?_ un124
    refine WL.ldAR (i := 64 * q + 4) (xs := bvs (dirB sl)) (us := bvs (keyOf sq)) ?_ agg124 hR2 (by rw [← bvs_drop, ← bvs_take, hkq]) (by rw [bvs_length]; omega)
    refine WL.allocL (us := bvs (List.replicate 51 0)) key0 rfl fun b10 => ?_
    refine WL.stLA (xs := bvs (List.replicate 51 0)) (us := bvs (keyOf sq)) ?_ agg124 (bvsO_length sq) rfl (keyOf_single sq)
    refine WL.nil ?_
    refine WQ.next ?_
    refine WC.seq ?_
    refine WC.seq ?_
    refine WC.region ?_
    refine WL.idxA ?_ ar124
    cases sq
    · refine WL.ldL (xs := bvs (keyOf none)) (i := 0) (v := .int .u8 0) ?_ sc5 rfl
      refine WL.eqi ?_
      refine WL.nil ?_
      refine WQ.next ?_
      refine WC.condT rfl rfl ?_
      refine WC.seq ?_
      refine WC.seq ?_
      refine WC.region ?_
      refine WL.move ?_
      refine WL.lss ?_
      refine WL.nil ?_
      refine WQ.next ?_
      cases hfr : freeF sl q
      · rw [freeI_neg hfr]
        refine WC.condT rfl rfl ?_
        refine WC.region ?_
        refine WL.move ?_
        refine WL.assign ?_
        refine WL.nil ?_
        refine WQ.next ?_
        refine WC.exit (WQ.thenExit (WQ.blockExit (?_)))
        refine WQ.next ?_
        refine WC.region ?_
        refine WL.move ?_
        refine WL.add ?_
        refine WL.assign ?_
        refine WL.nil ?_
        refine WQ.cast (d := 9) (u := nI (64 * (q + 1))) rfl (congrArg (Value.int .i64) (by omega)) ?_
        refine WQ.cast (d := 5) (u := .int .i64 (freeI sl (q + 1))) rfl (congrArg (Value.int .i64) (by rw [freeI_new hfr hgs])) ?_
        exact WQ.back (q + 1, es, cl) ⟨by show q + 1 ≤ sl.length; omega, (by rw [hkv]; exact hm)⟩ (by show sl.length - (q + 1) < sl.length - q; omega)
      · rename_i r
        rw [freeI_pos hfr]
        refine WC.condF rfl (congrArg Value.bool (by first | (simp; done) | (simp; omega) | omega)) ?_
        refine WC.skip ?_
        refine WQ.next ?_
        refine WC.exit (WQ.thenExit (WQ.blockExit (?_)))
        refine WQ.next ?_
        refine WC.region ?_
        refine WL.move ?_
        refine WL.add ?_
        refine WL.assign ?_
        refine WL.nil ?_
        refine WQ.cast (d := 9) (u := nI (64 * (q + 1))) rfl (congrArg (Value.int .i64) (by omega)) ?_
        refine WQ.cast (d := 5) (u := .int .i64 (freeI sl (q + 1))) rfl (congrArg (Value.int .i64) (by rw [freeI_keep hfr])) ?_
        exact WQ.back (q + 1, es, cl) ⟨by show q + 1 ≤ sl.length; omega, (by rw [hkv]; exact hm)⟩ (by show sl.length - (q + 1) < sl.length - q; omega)
    · rename_i x
      obtain ⟨nm, i⟩ := x
      have hnm := hd.nm q nm i hgs
      have hnum := dirB_num hlt hsq hnm.2
      have hx0 : (bvs (keyOf (some (nm, i))))[0]? = some (bv (UInt8.ofNat nm.length)) := by show (bvs (keyB nm))[0]? = _; unfold bvs; rw [List.getElem?_map, keyB_head]; rfl
      have hxn : ((UInt8.ofNat nm.length).toNat : Int) ≠ 0 := by rw [UInt8.toNat_ofNat']; omega
      refine WL.ldL (xs := bvs (keyOf (some (nm, i)))) (i := 0) (v := bv (UInt8.ofNat nm.length)) ?_ sc5 hx0
      refine WL.eqi ?_
      refine WL.cast (d := 54) (u := .bool false) rfl (congrArg Value.bool (decide_eq_false hxn)) ?_
      refine WL.nil ?_
      refine WQ.next ?_
      refine WC.condF rfl rfl ?_
      refine WC.skip ?_
      refine WQ.next ?_
      refine WC.seq ?_
      refine WC.region ?_
      refine WL.move ?_
      refine WL.move ?_
      refine WL.call (hc := Tryz.call117) (sp := bitsGet (A := ⟨ab, ao, none⟩) (n := (dirB sl).length) (c := c2) (xs := dirB sl) (p := ((64 * q : Nat) : Int)) (size := 4) (big := false) hR2 rfl (by omega) (by decide) (by omega) (by omega)) (h := ?_)
      rintro _ _ ⟨rfl, rfl⟩
      refine WL.cast (d := 61) (u := .tuple #[.int .u64 (i : Int), .bool true]) rfl (by rw [show (((64 * q : Nat) : Int)).toNat = 64 * q from by omega, show (4 : Int).toNat = 4 from rfl, num_seg (by omega), hnum]) ?_
      refine WL.move ?_
      refine WL.extract ?_
      refine WL.extract ?_
      refine WL.assign ?_
      refine WL.assign ?_
      refine WL.nil ?_
      refine WQ.next ?_
      refine WC.region ?_
      refine WL.move ?_
      refine WL.ldW (xs := bvs (keyOf (some (nm, i)))) ?_ agg124 (bvsO_length _)
      refine WL.move ?_
      refine WL.move ?_
      refine WL.cvt ?_ un138 un3
      refine WL.cast (d := 68) (u := nI i) rfl (congrArg (Value.int .i64) (IntWalk.i64_in _ (by omega))) ?_
      refine WL.build ?_ (bdFound _ _)
      refine WL.upd (k := keyK nm) (v := foundV (64 * q) i) klN hm mp117 fun es_1 c_1 hm_1 => ?_
      refine WL.nil ?_
      refine WQ.blockNormal ?_
      refine WQ.next ?_
      refine WC.region ?_
      refine WL.move ?_
      refine WL.add ?_
      refine WL.assign ?_
      refine WL.nil ?_
      refine WQ.cast (d := 9) (u := nI (64 * (q + 1))) rfl (congrArg (Value.int .i64) (by omega)) ?_
      refine WQ.cast (d := 5) (u := .int .i64 (freeI sl (q + 1))) rfl (congrArg (Value.int .i64) (by rw [freeI_full hgs])) ?_
      exact WQ.back (q + 1, es_1, c_1) ⟨by show q + 1 ≤ sl.length; omega, (by rw [hkv]; exact hm_1)⟩ (by show sl.length - (q + 1) < sl.length - q; omega)
  · have hge : ¬ q < sl.length := by have h : ¬ ((64 * q : Nat) : Int) < ((dirB sl).length : Int) := of_decide_eq_false hb; omega
    have hqe : q = sl.length := by omega
    subst hqe
    refine WC.exit (WQ.thenExit (WQ.thenExit (WQ.blockExit (?_))))
    refine WQ.next ?_
    refine WC.seq ?_
    refine WC.seq ?_
    refine WC.region ?_
    refine WL.move ?_
    refine WL.lss ?_
    refine WL.nil ?_
    refine WQ.next ?_
    cases hfr : freeF sl sl.length
    · have hfs : freeS sl = sl.length := by unfold freeS; rw [hfr]; rfl
      rw [freeI_neg hfr]
      refine WC.condT rfl rfl ?_
      refine WC.region ?_
      refine WL.move ?_
      refine WL.lenS ?_ sl33
      refine WL.assign ?_
      refine WL.nil ?_
      refine WQ.next ?_
      refine WC.seq ?_
      refine WC.region ?_
      refine WL.move ?_
      refine WL.move ?_
      refine WL.assign ?_
      refine WL.assign ?_
      refine WL.assign ?_
      refine WL.nil ?_
      refine WQ.next ?_
      refine WC.ret (?_)
      exact WQ.ret3 (h1 := .tmp (t := 4) rfl) (h2 := .tmp (t := 5) rfl) (h3 := .tmp (t := 6) rfl) ⟨_, ⟨m36, es, cl, by rw [hfs, ← hdl]; rfl, hm, rfl⟩, Am.auto⟩
    · rename_i r
      have hfs : freeS sl = r := by unfold freeS; rw [hfr]; rfl
      rw [freeI_pos hfr]
      refine WC.condF rfl (congrArg Value.bool (by first | (simp; done) | (simp; omega) | omega)) ?_
      refine WC.skip ?_
      refine WQ.next ?_
      refine WC.seq ?_
      refine WC.region ?_
      refine WL.move ?_
      refine WL.move ?_
      refine WL.assign ?_
      refine WL.assign ?_
      refine WL.assign ?_
      refine WL.nil ?_
      refine WQ.next ?_
      refine WC.ret (?_)
      exact WQ.ret3 (h1 := .tmp (t := 4) rfl) (h2 := .tmp (t := 5) rfl) (h3 := .tmp (t := 6) rfl) ⟨_, ⟨m36, es, cl, by rw [hfs]; rfl, hm, rfl⟩, Am.auto⟩

end Go.Proofs.YtedmihapieleaaaGreat
