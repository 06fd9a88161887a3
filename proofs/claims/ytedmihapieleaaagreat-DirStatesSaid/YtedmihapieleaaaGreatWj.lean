/- Walks of package cache: Commit; transactions as two views. -/
import Derived.Test.YtedmihapieleaaaGreatFa
import Derived.Test.YtedmihapieleaaaGreatWi
import Derived.KernelRfl
set_option linter.unusedVariables false
set_option linter.unusedSimpArgs false
namespace Go.Proofs.YtedmihapieleaaaGreat
open Go

theorem bdCh (k : Int) (b : Nat) : BuildOk Tryz.prog 108 [(0, .int .i64 k), (1, .slice (some ⟨b, 0, none⟩) 512 512)] #[.int .i64 k, .slice (some ⟨b, 0, none⟩) 512 512] := fun w => by kernel_rfl
theorem bsCh (k : Int) (b : Nat) : BuildSOk Tryz.prog 98 1 [(0, .agg #[.int .i64 k, .slice (some ⟨b, 0, none⟩) 512 512])] 108 #[.int .i64 k, .slice (some ⟨b, 0, none⟩) 512 512] := fun w => by kernel_rfl
theorem chCells_append : ∀ (a b : List CV), chCells (a ++ b) = chCells a ++ chCells b
  | [], b => rfl
  | c :: a, b => by simp only [List.cons_append, chCells, chCells_append a b]
/-- A round of Commit. -/
structure KI (W : List (Nat × Bytes)) (ss : List Int) (i : Int) (cvs : List CV) (bl : List (Value × Bytes)) : Prop where
  lo : 0 ≤ i
  hi : i ≤ ss.length
  keys : cvs.map (fun c => (c.k : Int)) = ss.take i.toNat
  are : ∀ c ∈ cvs, kget W c.k = some c.xs
  lie : Lie bl cvs
theorem KI.len {W : List (Nat × Bytes)} {ss : List Int} {i : Int} {cvs : List CV} {bl : List (Value × Bytes)} (h : KI W ss i cvs bl) : cvs.length = i.toNat := by
  have := congrArg List.length h.keys
  have := h.lo
  have := h.hi
  simp at *
  omega
theorem KI.step {W : List (Nat × Bytes)} {ss : List Int} {i : Int} {cvs : List CV} {bl : List (Value × Bytes)} (h : KI W ss i cvs bl) (hlt : i.toNat < ss.length) {k b : Nat} {xs : Bytes} (hk : ss[i.toNat] = (k : Int)) (hx : kget W k = some xs) (h5 : xs.length = 512) :
    KI W ss (i + 1) (cvs ++ [⟨k, b, 512, xs⟩]) ((.slice (some ⟨b, 0, none⟩) xs.length 512, xs) :: bl) := by
  have h0 := h.lo
  refine ⟨by omega, by omega, ?_, fun c hc => ?_, fun c hc => ?_⟩
  · rw [List.map_append, h.keys, show (i + 1).toNat = i.toNat + 1 from by omega, List.take_succ_eq_append_getElem hlt, hk]; rfl
  · rcases List.mem_append.1 hc with hc | hc
    · exact h.are c hc
    · rw [List.mem_singleton] at hc; subst hc; exact hx
  · rcases List.mem_append.1 hc with hc | hc
    · exact List.mem_cons_of_mem _ (h.lie c hc)
    · rw [List.mem_singleton] at hc; subst hc; rw [h5]; exact List.mem_cons_self ..
theorem nodup_self {W : List (Nat × Bytes)} (h : (W.map (·.1)).Nodup) : W = (W.map (·.1)).map fun k => (k, (kget W k).getD []) := by
  rw [List.map_map]
  conv => lhs; rw [← List.map_id W]
  apply List.map_congr_left
  intro p hp
  have := (kget_mem h).2 (show (p.1, p.2) ∈ W from hp)
  simp [this]
theorem KI.perm {W : List (Nat × Bytes)} {ss : List Int} {i : Int} {cvs : List CV} {bl : List (Value × Bytes)} (h : KI W ss i cvs bl) (hi : i = ss.length) (hs : ss.Perm ((wkv W).map (·.1))) (hn : (W.map (·.1)).Nodup) : (cvs.map CV.pair).Perm W := by
  have h1 : (cvs.map CV.pair).map (·.1) = (ss.map Int.toNat) := by
    have h2 := h.keys
    rw [hi, Int.toNat_natCast, List.take_length] at h2
    rw [← h2, List.map_map, List.map_map]
    apply List.map_congr_left
    intro c _
    simp [CV.pair]
  have h3 : (ss.map Int.toNat).Perm (W.map (·.1)) := by
    refine (hs.map Int.toNat).trans (List.Perm.of_eq ?_)
    rw [List.map_map, wkv, List.map_map]
    apply List.map_congr_left
    intro p _
    simp
  have h4 : (cvs.map CV.pair) = ((cvs.map CV.pair).map (·.1)).map fun k => (k, (kget W k).getD []) := by
    rw [List.map_map, List.map_map]
    apply List.map_congr_left
    intro c hc
    simp [CV.pair, h.are c hc]
  rw [h4, nodup_self hn, ← nodup_self hn, h1]
  refine (h3.map _).trans (List.Perm.of_eq ?_)
  exact (nodup_self hn).symm
theorem Fit.perm {n : Nat} {a b : List (Nat × Bytes)} (h : Fit n b) (hp : a.Perm b) : Fit n a := ⟨fun p hp' => h.home p (hp.mem_iff.1 hp'), by rw [hp.length_eq]; exact h.few, (hp.map _).nodup_iff.2 h.apart⟩

theorem cCommitF {c j d n : Nat} {S : CS} (hop : S.op = true) : Spec Tryz.prog 21 #[.pointer (some ⟨c, 0, none⟩)] [CR c j d n S] fun F v M => ∃ L : List (Nat × Bytes), L.Perm S.W ∧ Fit n S.W ∧ Fit n S.J.ch ∧ v = okV ∧ M = CR c j d n ⟨S.J.commits L, [], false, S.ov⟩ :: F := by
  refine Spec.intro Tryz.func21 rfl rfl fun B F => ?_
  simp only [Tryz.ntmps21, List.cons_append, List.nil_append, env0, Nat.reduceAdd]
  refine WC.openR (CR.opens c j d n S) fun x hp => ?_
  simp only [cL, List.cons_append, List.nil_append]
  have hfew := hp.hf.few
  refine WC.fact (A := JR j d n S.J) (fun h hh => ((JR.opens j d n S.J).to h hh).elim fun x hx => hx.1.hf) fun hjf => ?_
  have hwl := wkv_length S.W
  have hn2 := hp.n2
  have hrange : ∀ p ∈ wkv S.W, -9223372036854775808 ≤ p.1 ∧ p.1 ≤ 9223372036854775807 := by
    intro p hp'
    obtain ⟨q, hq, rfl⟩ := List.mem_map.1 hp'
    have := (hp.hf.home q hq).2.1
    constructor <;> simp only <;> omega
  refine WC.seq ?_
  refine WC.region ?_
  refine WL.assign ?_
  refine WL.nil ?_
  refine WQ.next ?_
  refine WC.seq ?_
  refine WC.seq ?_
  refine WC.region ?_
  refine WL.move ?_
  refine WL.call (hc := Tryz.call55) (sp := cacheOpen) (h := ?_)
  rintro _ _ ⟨rfl, rfl⟩
  refine WL.cast (d := 8) (u := .bool true) rfl (congrArg Value.bool hop) ?_
  refine WL.not ?_
  refine WL.nil ?_
  refine WQ.next ?_
  refine WC.condF rfl rfl ?_
  refine WC.skip ?_
  refine WQ.next ?_
  refine WC.seq ?_
  refine WC.region ?_
  refine WL.assign ?_
  refine WL.nil ?_
  refine WQ.next ?_
  refine WC.seq ?_
  refine WC.seq ?_
  refine WC.region ?_
  refine WL.move ?_
  refine WL.nilCheck ?_
  refine WL.fa ?_ fo106_3
  refine WL.ld ?_ sc103
  refine WL.call (hc := Tryz.call57) (sp := mapsKeys) (h := ?_)
  rintro _ _ ⟨bm, rfl, rfl⟩
  refine WL.call (hc := Tryz.call56) (sp := sortedKeys (c := x.c) hp.hm (by omega) hrange) (h := ?_)
  rintro vs _ ⟨ss, hss, rfl⟩
  refine WL.fact (rowR_shape (el := 3) (size := 1) (v := vs) (k := ss.length) (xs := ints ss)) (fun ⟨A, ca, hva, hR, hA1, hA2, hA3⟩ => ?_)
  subst hva
  have hsl : ss.length = S.W.length := by rw [hss.length_eq, List.length_map, hwl]
  refine WL.lenS ?_ sl22
  refine WL.move ?_
  refine WL.nil ?_
  refine WQ.next ?_
  refine WC.block ?_
  refine WC.blobsNil ?_
  refine WC.emp (rowR.nil (e := 108) (size := 2) _) ?_
  refine WC.loopA (σ := Int × Value × List CV × List (Value × Bytes)) (fun s => [(0, .pointer (some ⟨c, 0, none⟩)), (3, s.2.1), (15, .slice A ss.length ca), (16, .int .i64 (ss.length : Int)), (17, .int .i64 s.1)]) (fun s => [rowR 108 2 s.2.1 s.1.toNat (chCells s.2.2.1), blobs s.2.2.2, rowR 3 1 (.slice A ss.length ca) ss.length (ints ss), pt c (cacheO (some j) S.op S.ov x.m), pt x.m (.map x.es x.c), JR j d n S.J] ++ F) (fun s => KI S.W ss s.1 s.2.2.1 s.2.2.2) (fun s => ((ss.length : Int) - s.1).toNat) (0, .slice none 0 0, [], []) ⟨by omega, by omega, rfl, (fun c hc => by cases hc), (fun c hc => by cases hc)⟩ ?_
  rintro ⟨i, v, cvs, bl⟩ hi
  refine WC.seq ?_
  refine WC.region ?_
  refine WL.lss ?_
  refine WL.nil ?_
  refine WQ.next ?_
  refine WC.seq ?_
  refine WC.cond rfl (fun hb => ?_) (fun hb => ?_)
  · have hlt : i < (ss.length : Int) := of_decide_eq_true hb
    have hlo := hi.lo
    have hil : i.toNat < ss.length := by omega
    rcases A with _ | ⟨ab, ao, asp⟩
    · exact absurd hR (fun h => by have h2 : ints ss = [] := h; simp [ints] at h2; subst h2; simp at hil)
    have hsp : asp = none := hR.1
    subst hsp
    obtain ⟨k, hk, xs, hx⟩ : ∃ k : Nat, ss[i.toNat] = (k : Int) ∧ ∃ xs, kget S.W k = some xs := by
      have h1 := hss.mem_iff.1 (List.getElem_mem hil)
      obtain ⟨q, hq, hqs⟩ := List.mem_map.1 h1
      obtain ⟨p, hp', rfl⟩ := List.mem_map.1 hq
      exact ⟨p.1, hqs.symm, p.2, (kget_mem hp.hf.apart).2 hp'⟩
    have hhome := hp.hf.home _ ((kget_mem hp.hf.apart).1 hx)
    have hx5 : xs.length = 512 := hhome.2.2
    have hgx : (kget (wkv S.W) (k : Int)).getD (.agg (Array.replicate 512 (.int .u8 0))) = arrV xs := by rw [wkv_get, hx]; rfl
    refine WC.skip ?_
    refine WQ.next ?_
    refine WC.seq ?_
    refine WC.block ?_
    refine WC.seq ?_
    refine WC.region ?_
    refine WL.idx1 ?_ so22
    refine WL.ldR ?_ sc3 hR (ints_get hil)
    refine WL.cast (d := 20) rfl (congrArg (Value.int .i64) hk) ?_
    refine WL.assign ?_
    refine WL.nil ?_
    refine WQ.next ?_
    refine WC.seq ?_
    refine WC.region ?_
    refine WL.move ?_
    refine WL.nilCheck ?_
    refine WL.fa ?_ fo106_3
    refine WL.ld ?_ sc103
    refine WL.move ?_
    refine WL.look klI hp.hm mp103 zv104 ?_
    refine WL.cast (d := 26) rfl hgx ?_
    refine WL.alloc z104 fun b6 => ?_
    refine WL.stArr (cs := Array.replicate 512 (.int .u8 0)) ?_ agg104 hx5 (by decide) Array.size_replicate
    refine WL.nil ?_
    refine WQ.next ?_
    refine WC.region ?_
    refine WL.move ?_
    refine WL.move ?_
    refine WL.slcArr ?_ un104 (by kernel_rfl)
    refine WL.build ?_ (bdCh _ _)
    refine WL.buildS (fun b31 => ?_) (bsCh _ _)
    refine WL.append (m := 1) so98 (by decide) (by repeat (first | exact .here | apply Rem.there | apply Repl.there | apply Mem.there)) Reads.pt (by repeat (first | exact .here | apply Rem.there | apply Repl.there | apply Mem.there)) rfl (by simp [Value.single]) (by unfold maxLen; omega) (by omega) ⟨_, z108, rfl⟩ (fun v' hv' => ?_)
    refine WL.assign ?_
    refine WL.nil ?_
    refine WQ.blockNormal ?_
    refine WQ.next ?_
    refine WC.region ?_
    refine WL.add ?_
    refine WL.move ?_
    refine WL.nil ?_
    refine WQ.blobsAdd (bl := bl) (g := b6) (k := 512) (xs := xs) (by rw [hx5]; exact Nat.le_refl _) ?_
    refine WQ.to (A := rowR 108 2 v' (i.toNat + 1) (chCells cvs ++ [.int .i64 (k : Int), .slice (some ⟨b6, 0, none⟩) 512 512])) (A' := rowR 108 2 v' (i + 1).toNat (chCells (cvs ++ [⟨k, b6, 512, xs⟩]))) (fun h hh => by rw [show (i + 1).toNat = i.toNat + 1 from by omega, chCells_append]; exact hh) ?_
    exact WQ.back (i + 1, v', cvs ++ [⟨k, b6, 512, xs⟩], (.slice (some ⟨b6, 0, none⟩) xs.length 512, xs) :: bl) (hi.step hil hk hx hx5) (by show ((ss.length : Int) - (i + 1)).toNat < ((ss.length : Int) - i).toNat; omega)
  · have hge : ¬ i < (ss.length : Int) := of_decide_eq_false hb
    have hlo := hi.lo
    have hhi := hi.hi
    have hie : i = (ss.length : Int) := by omega
    have hper := hi.perm hie hss hp.hf.apart
    have hfit := hp.hf.perm hper
    have hcl : cvs.length = i.toNat := hi.len
    have hlie := hi.lie
    rw [← hcl]
    refine WC.fact (rowR_shape (el := 108) (size := 2) (v := v) (k := cvs.length) (xs := chCells cvs)) (fun ⟨A2, c2, hv2, hR2, hk2, hc2, hl2⟩ => ?_)
    subst hv2
    refine WC.exit (WQ.thenExit (WQ.thenExit (WQ.blockExit (?_))))
    refine WQ.next ?_
    refine WC.seq ?_
    refine WC.region ?_
    refine WL.move ?_
    refine WL.call (hc := Tryz.call58) (sp := cDone) (h := ?_)
    rintro _ _ ⟨rfl, rfl⟩
    refine WL.nil ?_
    refine WQ.next ?_
    refine WC.seq ?_
    refine WC.region ?_
    refine WL.move ?_
    refine WL.nilCheck ?_
    refine WL.fa ?_ fo106_0
    refine WL.ld ?_ sc80
    refine WL.move ?_
    refine WL.call (hc := Tryz.call59) (sp := jCommit (n := n) (J := S.J) hR2 rfl hlie hfit) (h := ?_)
    rintro _ _ ⟨rfl, rfl⟩
    simp only [List.cons_append, List.nil_append]
    refine WL.assign ?_
    refine WL.nil ?_
    refine WQ.next ?_
    refine WC.ret (?_)
    refine WQ.shutR (CR.opens c j d n ⟨S.J.commits (cvs.map CV.pair), [], false, S.ov⟩) ⟨x.m, #[], x.c⟩ ⟨MapIs.empty _ _, Fit.nil n, hp.n1, hp.n2⟩ ?_
    exact WQ.ret1 (h1 := .tmp (t := 2) rfl) ⟨_, ⟨_, hper, hp.hf, hjf, rfl, rfl⟩, Am.auto⟩

end Go.Proofs.YtedmihapieleaaaGreat
