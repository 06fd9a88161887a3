/- Walks of package cache. -/
import Derived.Test.YtedmihapieleaaaGreatFa
import Derived.Test.YtedmihapieleaaaGreatWa
import Derived.Test.YtedmihapieleaaaGreatWg
import Derived.Test.YtedmihapieleaaaGreatSg
import Derived.KernelRfl
set_option linter.unusedVariables false
set_option linter.unusedSimpArgs false
namespace Go.Proofs.YtedmihapieleaaaGreat
open Go

theorem bdC (j : Nat) (m : Nat) : BuildOk Tryz.prog 106 [(0, .pointer (some ⟨j, 0, none⟩)), (3, .map (some m))] #[.pointer (some ⟨j, 0, none⟩), .bool false, .bool false, .map (some m)] := fun w => by kernel_rfl
theorem klI : KeyLaw Tryz.prog 3 intE := klInt (by kernel_rfl)
/-- What a transaction wrote, as it lies in the map. -/
def wkv (l : List (Nat × Bytes)) : List (Int × Value) := l.map fun p => ((p.1 : Int), arrV p.2)
theorem wkv_length (l : List (Nat × Bytes)) : (wkv l).length = l.length := by simp [wkv]
theorem wkv_get (l : List (Nat × Bytes)) (k : Nat) : kget (wkv l) (k : Int) = (kget l k).map arrV := by
  induction l with
  | nil => rfl
  | cons p l ih =>
    obtain ⟨a, xs⟩ := p
    simp only [wkv, List.map_cons, kget]
    by_cases h : k = a
    · subst h; simp
    · rw [if_neg (by omega), if_neg h]; exact ih
theorem wkv_put (l : List (Nat × Bytes)) (k : Nat) (xs : Bytes) : kput (wkv l) (k : Int) (arrV xs) = wkv (kput l k xs) := by
  induction l with
  | nil => rfl
  | cons p l ih =>
    obtain ⟨a, ys⟩ := p
    simp only [wkv, List.map_cons, kput]
    by_cases h : k = a
    · subst h; simp
    · rw [if_neg (by omega), if_neg h, List.map_cons]; congr 1
structure CS where
  J : JS
  W : List (Nat × Bytes)
  op : Bool
  ov : Bool
/-- What is read of block k. -/
def CS.view (S : CS) (k : Nat) : Bytes := (kget S.W k).getD (S.J.view k)
structure CX where
  m : Nat
  es : Array MapEntry
  c : Nat
structure CP (n : Nat) (S : CS) (x : CX) : Prop where
  hm : MapIs intE x.es x.c (wkv S.W)
  hf : Fit n S.W
  n1 : 246 ≤ n
  n2 : n ≤ 65536
def cL (c j d n : Nat) (S : CS) (x : CX) : List HP := [pt c (cacheO (some j) S.op S.ov x.m), pt x.m (.map x.es x.c), JR j d n S.J]
/-- A cache over a journal. -/
def CR (c j d n : Nat) (S : CS) : HP := fun h => ∃ x, CP n S x ∧ star (cL c j d n S x) h
theorem CR.opens (c j d n : Nat) (S : CS) : Opens (CR c j d n S) (CP n S) (cL c j d n S) := ⟨fun h hh => hh, fun x hp h hh => ⟨x, hp, hh⟩⟩
attribute [irreducible] CR
theorem CP.get {n : Nat} {S : CS} {x : CX} (hp : CP n S x) (k : Nat) : ∃ ys : Bytes, (kget (wkv S.W) (k : Int)).getD (.agg (Array.replicate 512 (.int .u8 0))) = arrV ys ∧ ys.length = 512 ∧ ((kget S.W k = some ys ∧ (kget (wkv S.W) (k : Int)).isSome = true) ∨ (kget S.W k = none ∧ (kget (wkv S.W) (k : Int)).isSome = false)) := by
  rw [wkv_get]
  cases h : kget S.W k with
  | none => exact ⟨List.replicate 512 0, zeros_arr, List.length_replicate, .inr ⟨rfl, rfl⟩⟩
  | some ys => exact ⟨ys, rfl, (hp.hf.home _ ((kget_mem hp.hf.apart).1 h)).2.2, .inl ⟨rfl, rfl⟩⟩
theorem Fit.put {n : Nat} {l : List (Nat × Bytes)} (h : Fit n l) {k : Nat} {xs : Bytes} (h1 : 245 ≤ k) (h2 : k < n) (h3 : xs.length = 512) (h4 : (kget l k).isSome = true ∨ l.length < 60) : Fit n (kput l k xs) := by
  refine ⟨?_, ?_, kput_nodup h.apart _ _⟩
  · have key : ∀ l : List (Nat × Bytes), (∀ p ∈ l, 245 ≤ p.1 ∧ p.1 < n ∧ p.2.length = 512) → ∀ p ∈ kput l k xs, 245 ≤ p.1 ∧ p.1 < n ∧ p.2.length = 512 := by
      intro l
      induction l with
      | nil => intro _ p hp; simp only [kput, List.mem_singleton] at hp; subst hp; exact ⟨h1, h2, h3⟩
      | cons q l ih =>
        intro hq p hp
        obtain ⟨a, ys⟩ := q
        simp only [kput] at hp
        split at hp
        · rcases List.mem_cons.1 hp with rfl | hp
          · have := hq (a, ys) (List.mem_cons_self ..)
            exact ⟨this.1, this.2.1, h3⟩
          · exact hq p (List.mem_cons_of_mem _ hp)
        · rcases List.mem_cons.1 hp with rfl | hp
          · exact hq _ (List.mem_cons_self ..)
          · exact ih (fun p hp => hq p (List.mem_cons_of_mem _ hp)) p hp
    exact key l h.home
  · rw [kput_length]
    have := h.few
    rcases h4 with h4 | h4
    · rw [if_pos h4]; exact this
    · split <;> omega

theorem cNew {j d n : Nat} {J : JS} (hn : 246 ≤ n) (hn2 : n ≤ 65536) : Spec Tryz.prog 44 #[.pointer (some ⟨j, 0, none⟩)] [JR j d n J] fun F v M => ∃ c, v = .pointer (some ⟨c, 0, none⟩) ∧ M = CR c j d n ⟨J, [], false, false⟩ :: F := by
  refine Spec.intro Tryz.func44 rfl rfl fun B F => ?_
  simp only [Tryz.ntmps44, List.cons_append, List.nil_append, env0, Nat.reduceAdd]
  refine WC.seq ?_
  refine WC.region ?_
  refine WL.assign ?_
  refine WL.nil ?_
  refine WQ.next ?_
  refine WC.seq ?_
  refine WC.region ?_
  refine WL.move ?_
  refine WL.mkMap fun m4 => ?_
  refine WL.build ?_ (bdC _ _)
  refine WL.box fun b6 => ?_
  refine WL.assign ?_
  refine WL.nil ?_
  refine WQ.next ?_
  refine WC.ret (?_)
  refine WQ.shutR (CR.opens b6 j d n ⟨J, [], false, false⟩) ⟨m4, #[], 0⟩ ⟨MapIs.empty _ _, Fit.nil n, hn, hn2⟩ ?_
  exact WQ.ret1 (h1 := .tmp (t := 2) rfl) ⟨_, ⟨_, rfl, rfl⟩, Am.auto⟩

theorem cReady {c j m : Nat} {op ov : Bool} : Spec Tryz.prog 60 #[.pointer (some ⟨c, 0, none⟩)] [pt c (cacheO (some j) op ov m)] fun F v M => v = .bool true ∧ M = pt c (cacheO (some j) op ov m) :: F := by
  refine Spec.intro Tryz.func60 rfl rfl fun B F => ?_
  simp only [Tryz.ntmps60, List.cons_append, List.nil_append, env0, Nat.reduceAdd]
  refine WC.seq ?_
  refine WC.region ?_
  refine WL.assign ?_
  refine WL.nil ?_
  refine WQ.next ?_
  refine WC.seq ?_
  refine WC.region ?_
  refine WL.move ?_
  refine WL.neNil ?_ ptr24
  refine WL.move ?_
  refine WL.gT ?_
  refine WL.move ?_
  refine WL.gT ?_
  refine WL.nilCheck ?_
  refine WL.gT ?_
  refine WL.fa ?_ fo106_0
  refine WL.gT ?_
  refine WL.ld ?_ sc80
  refine WL.gT ?_
  refine WL.neNil ?_ ptr80
  refine WL.pickT ?_
  refine WL.assign ?_
  refine WL.nil ?_
  refine WQ.next ?_
  refine WC.ret (?_)
  exact WQ.ret1 (h1 := .tmp (t := 2) rfl) ⟨_, ⟨rfl, rfl⟩, Am.auto⟩

theorem cOpenR {c j d n : Nat} {S : CS} : Spec Tryz.prog 55 #[.pointer (some ⟨c, 0, none⟩)] [CR c j d n S] fun F v M => v = .bool S.op ∧ M = CR c j d n S :: F := by
  refine Spec.intro Tryz.func55 rfl rfl fun B F => ?_
  simp only [Tryz.ntmps55, List.cons_append, List.nil_append, env0, Nat.reduceAdd]
  refine WC.openR (CR.opens c j d n S) fun x hp => ?_
  simp only [cL, List.cons_append, List.nil_append]
  refine WC.seq ?_
  refine WC.region ?_
  refine WL.assign ?_
  refine WL.nil ?_
  refine WQ.next ?_
  refine WC.seq ?_
  refine WC.region ?_
  refine WL.move ?_
  refine WL.neNil ?_ ptr24
  refine WL.move ?_
  refine WL.gT ?_
  refine WL.move ?_
  refine WL.gT ?_
  refine WL.nilCheck ?_
  refine WL.gT ?_
  refine WL.fa ?_ fo106_1
  refine WL.gT ?_
  refine WL.ld ?_ sc4
  refine WL.pickT ?_
  refine WL.assign ?_
  refine WL.nil ?_
  refine WQ.next ?_
  refine WC.ret (?_)
  refine WQ.shutR (CR.opens c j d n S) x hp ?_
  exact WQ.ret1 (h1 := .tmp (t := 2) rfl) ⟨_, ⟨rfl, rfl⟩, Am.auto⟩

theorem cBegin {c j d n : Nat} {S : CS} (hop : S.op = false) : Spec Tryz.prog 22 #[.pointer (some ⟨c, 0, none⟩)] [CR c j d n S] fun F v M => v = okV ∧ M = CR c j d n ⟨S.J, S.W, true, false⟩ :: F := by
  refine Spec.intro Tryz.func22 rfl rfl fun B F => ?_
  simp only [Tryz.ntmps22, List.cons_append, List.nil_append, env0, Nat.reduceAdd]
  refine WC.openR (CR.opens c j d n S) fun x hp => ?_
  simp only [cL, List.cons_append, List.nil_append]
  refine WC.seq ?_
  refine WC.region ?_
  refine WL.assign ?_
  refine WL.nil ?_
  refine WQ.next ?_
  refine WC.seq ?_
  refine WC.seq ?_
  refine WC.region ?_
  refine WL.move ?_
  refine WL.call (hc := Tryz.call60) (sp := cReady) (h := ?_)
  rintro _ _ ⟨rfl, rfl⟩
  refine WL.not ?_
  refine WL.move ?_
  refine WL.gT ?_
  refine WL.move ?_
  refine WL.gT ?_
  refine WL.nilCheck ?_
  refine WL.gT ?_
  refine WL.fa ?_ fo106_1
  refine WL.gT ?_
  refine WL.ld ?_ sc4
  refine WL.cast (d := 10) (u := .bool false) rfl (congrArg Value.bool hop) ?_
  refine WL.pickF ?_
  refine WL.nil ?_
  refine WQ.next ?_
  refine WC.condF rfl rfl ?_
  refine WC.skip ?_
  refine WQ.next ?_
  refine WC.seq ?_
  refine WC.region ?_
  refine WL.move ?_
  refine WL.move ?_
  refine WL.nilCheck ?_
  refine WL.fa ?_ fo106_1
  refine WL.st ?_ sc4
  refine WL.nilCheck ?_
  refine WL.fa ?_ fo106_2
  refine WL.st ?_ sc4
  refine WL.nil ?_
  refine WQ.next ?_
  refine WC.seq ?_
  refine WC.region ?_
  refine WL.assign ?_
  refine WL.nil ?_
  refine WQ.next ?_
  refine WC.ret (?_)
  refine WQ.shutR (CR.opens c j d n ⟨S.J, S.W, true, false⟩) x ⟨hp.hm, hp.hf, hp.n1, hp.n2⟩ ?_
  exact WQ.ret1 (h1 := .tmp (t := 2) rfl) ⟨_, ⟨rfl, rfl⟩, Am.auto⟩

theorem cDone {c j m cc : Nat} {op ov : Bool} {es : Array MapEntry} : Spec Tryz.prog 58 #[.pointer (some ⟨c, 0, none⟩)] [pt c (cacheO (some j) op ov m), pt m (.map es cc)] fun F v M => v = .tuple #[] ∧ M = pt c (cacheO (some j) false ov m) :: pt m (.map #[] cc) :: F := by
  refine Spec.intro Tryz.func58 rfl rfl fun B F => ?_
  simp only [Tryz.ntmps58, List.cons_append, List.nil_append, env0, Nat.reduceAdd]
  refine WC.seq ?_
  refine WC.region ?_
  refine WL.move ?_
  refine WL.nilCheck ?_
  refine WL.fa ?_ fo106_1
  refine WL.st ?_ sc4
  refine WL.nil ?_
  refine WQ.next ?_
  refine WC.region ?_
  refine WL.move ?_
  refine WL.nilCheck ?_
  refine WL.fa ?_ fo106_3
  refine WL.ld ?_ sc103
  refine WL.clearM ?_ mp103
  refine WL.nil ?_
  exact WQ.ret0 ⟨_, ⟨rfl, rfl⟩, Am.auto⟩

theorem cAbort {c j d n : Nat} {S : CS} (hop : S.op = true) : Spec Tryz.prog 28 #[.pointer (some ⟨c, 0, none⟩)] [CR c j d n S] fun F v M => v = okV ∧ M = CR c j d n ⟨S.J, [], false, S.ov⟩ :: F := by
  refine Spec.intro Tryz.func28 rfl rfl fun B F => ?_
  simp only [Tryz.ntmps28, List.cons_append, List.nil_append, env0, Nat.reduceAdd]
  refine WC.openR (CR.opens c j d n S) fun x hp => ?_
  simp only [cL, List.cons_append, List.nil_append]
  refine WC.seq ?_
  refine WC.region ?_
  refine WL.assign ?_
  refine WL.nil ?_
  refine WQ.next ?_
  refine WC.seq ?_
  refine WC.seq ?_
  refine WC.region ?_
  refine WL.move ?_
  refine WL.call (hc := Tryz.call55) (sp := cacheOpen) (h := ?_)
  rintro _ _ ⟨rfl, rfl⟩
  refine WL.cast (d := 4) (u := .bool true) rfl (congrArg Value.bool hop) ?_
  refine WL.not ?_
  refine WL.nil ?_
  refine WQ.next ?_
  refine WC.condF rfl rfl ?_
  refine WC.skip ?_
  refine WQ.next ?_
  refine WC.seq ?_
  refine WC.region ?_
  refine WL.move ?_
  refine WL.call (hc := Tryz.call58) (sp := cDone) (h := ?_)
  rintro _ _ ⟨rfl, rfl⟩
  refine WL.nil ?_
  refine WQ.next ?_
  refine WC.seq ?_
  refine WC.region ?_
  refine WL.assign ?_
  refine WL.nil ?_
  refine WQ.next ?_
  refine WC.ret (?_)
  refine WQ.shutR (CR.opens c j d n ⟨S.J, [], false, S.ov⟩) ⟨x.m, #[], x.c⟩ ⟨MapIs.empty _ _, Fit.nil n, hp.n1, hp.n2⟩ ?_
  exact WQ.ret1 (h1 := .tmp (t := 2) rfl) ⟨_, ⟨rfl, rfl⟩, Am.auto⟩

theorem cRead {c j d n k : Nat} {S : CS} (h5 : 245 ≤ k) (hkn : k < n) : Spec Tryz.prog 63 #[.pointer (some ⟨c, 0, none⟩), .int .i64 (k : Int)] [CR c j d n S] fun F v M => ∃ g q el, v = .tuple #[.slice (some ⟨g, 0, none⟩) 512 q, .int .i64 0] ∧ (512 ≤ q ∧ q ≤ maxLen ∧ (S.view k).length = 512) ∧ M = buf g el q (bvs (S.view k)) :: CR c j d n S :: F := by
  refine Spec.intro Tryz.func63 rfl rfl fun B F => ?_
  simp only [Tryz.ntmps63, List.cons_append, List.nil_append, env0, Nat.reduceAdd]
  refine WC.openR (CR.opens c j d n S) fun x hp => ?_
  simp only [cL, List.cons_append, List.nil_append]
  obtain ⟨ys, hys, hy5, hcase⟩ := hp.get k
  refine WC.seq ?_
  refine WC.region ?_
  refine WL.assign ?_
  refine WL.assign ?_
  refine WL.nil ?_
  refine WQ.next ?_
  refine WC.seq ?_
  refine WC.seq ?_
  refine WC.region ?_
  refine WL.move ?_
  refine WL.call (hc := Tryz.call60) (sp := cReady) (h := ?_)
  rintro _ _ ⟨rfl, rfl⟩
  refine WL.not ?_
  refine WL.nil ?_
  refine WQ.next ?_
  refine WC.condF rfl rfl ?_
  refine WC.skip ?_
  refine WQ.next ?_
  refine WC.seq ?_
  refine WC.seq ?_
  refine WC.region ?_
  refine WL.move ?_
  refine WL.nilCheck ?_
  refine WL.fa ?_ fo106_3
  refine WL.ld ?_ sc103
  refine WL.move ?_
  refine WL.lookOk klI hp.hm mp103 zv104 ?_
  refine WL.move ?_
  refine WL.extract ?_
  refine WL.cast (d := 18) rfl hys ?_
  refine WL.extract ?_
  refine WL.alloc z104 fun b6 => ?_
  refine WL.stArr (cs := Array.replicate 512 (.int .u8 0)) ?_ agg104 hy5 (by decide) Array.size_replicate
  refine WL.assign ?_
  refine WL.nil ?_
  refine WQ.next ?_
  refine WC.seq ?_
  refine WC.region ?_
  refine WL.move ?_
  refine WL.nil ?_
  refine WQ.next ?_
  refine WC.cond rfl (fun hb => ?_) (fun hb => ?_)
  · have hview : S.view k = ys := by rcases hcase with ⟨h1, h2⟩ | ⟨h1, h2⟩; (unfold CS.view; rw [h1]; rfl); (rw [h2] at hb; cases hb)
    refine WC.seq ?_
    refine WC.region ?_
    refine WL.slcArr ?_ un104 (by kernel_rfl)
    refine WL.assign ?_
    refine WL.assign ?_
    refine WL.nil ?_
    refine WQ.next ?_
    refine WC.ret (WQ.thenRet (?_))
    refine WQ.shutR (CR.opens c j d n S) x hp ?_
    rw [← hview] at hy5 ⊢
    exact WQ.ret2 (h1 := .tmp (t := 4) rfl) (h2 := .tmp (t := 5) rfl) ⟨_, ⟨_, _, _, rfl, ⟨Nat.le_refl 512, (by decide : 512 ≤ maxLen), hy5⟩, rfl⟩, Am.auto⟩
  · have hview : S.view k = S.J.view k := by rcases hcase with ⟨h1, h2⟩ | ⟨h1, h2⟩; (rw [h2] at hb; cases hb); (unfold CS.view; rw [h1]; rfl)
    refine WC.skip ?_
    refine WQ.next ?_
    refine WC.seq ?_
    refine WC.region ?_
    refine WL.move ?_
    refine WL.nilCheck ?_
    refine WL.fa ?_ fo106_0
    refine WL.ld ?_ sc80
    refine WL.move ?_
    refine WL.call (hc := Tryz.call110) (sp := jRead (J := S.J) (n := n) h5 hkn) (h := ?_)
    rintro _ _ ⟨gb, q, rfl, ⟨hq1, hq2, hl5⟩, rfl⟩
    refine WL.extract ?_
    refine WL.extract ?_
    refine WL.assign ?_
    refine WL.assign ?_
    refine WL.nil ?_
    refine WQ.next ?_
    refine WC.ret (?_)
    rw [← hview] at hl5 ⊢
    refine WQ.shutR (CR.opens c j d n S) x hp ?_
    exact WQ.ret2 (h1 := .tmp (t := 4) rfl) (h2 := .tmp (t := 5) rfl) ⟨_, ⟨_, _, _, rfl, ⟨hq1, hq2, hl5⟩, rfl⟩, Am.auto⟩

theorem cWrite {c j d n k m cc : Nat} {S : CS} {R : HP} {A : Addr} {xs : Bytes} (hop : S.op = true) (h5 : 245 ≤ k) (hkn : k < n) (hR : Reads R (some A) (bvs xs)) (hx : xs.length = m) (hm5 : m = 512) (hroom : (kget S.W k).isSome = true ∨ S.W.length < 60) : Spec Tryz.prog 96 #[.pointer (some ⟨c, 0, none⟩), .int .i64 (k : Int), .slice (some A) m cc] [CR c j d n S, R] fun F v M => v = okV ∧ M = CR c j d n ⟨S.J, kput S.W k xs, true, S.ov⟩ :: R :: F := by
  refine Spec.intro Tryz.func96 rfl rfl fun B F => ?_
  simp only [Tryz.ntmps96, List.cons_append, List.nil_append, env0, Nat.reduceAdd]
  subst hm5
  obtain ⟨ab, ao, asp⟩ := A
  have hsp : asp = none := hR.1
  subst hsp
  refine WC.openR (CR.opens c j d n S) fun x hp => ?_
  simp only [cL, List.cons_append, List.nil_append]
  obtain ⟨ys, hys, hy5, hcase⟩ := hp.get k
  have hes : x.es.size = S.W.length := by rw [hp.hm.length, wkv_length]
  refine WC.seq ?_
  refine WC.region ?_
  refine WL.assign ?_
  refine WL.nil ?_
  refine WQ.next ?_
  refine WC.seq ?_
  refine WC.seq ?_
  refine WC.region ?_
  refine WL.move ?_
  refine WL.call (hc := Tryz.call55) (sp := cacheOpen) (h := ?_)
  rintro _ _ ⟨rfl, rfl⟩
  refine WL.cast (d := 12) (u := .bool true) rfl (congrArg Value.bool hop) ?_
  refine WL.not ?_
  refine WL.nil ?_
  refine WQ.next ?_
  refine WC.condF rfl rfl ?_
  refine WC.skip ?_
  refine WQ.next ?_
  refine WC.seq ?_
  refine WC.seq ?_
  refine WC.region ?_
  refine WL.move ?_
  refine WL.nilCheck ?_
  refine WL.fa ?_ fo106_0
  refine WL.ld ?_ sc80
  refine WL.move ?_
  refine WL.call (hc := Tryz.call110) (sp := jRead (J := S.J) (n := n) h5 hkn) (h := ?_)
  rintro _ _ ⟨gb, q, rfl, ⟨hq1, hq2, hl5⟩, rfl⟩
  refine WL.move ?_
  refine WL.extract ?_
  refine WL.extract ?_
  refine WL.assign ?_
  refine WL.assign ?_
  refine WL.nil ?_
  refine WQ.next ?_
  refine WC.seq ?_
  refine WC.region ?_
  refine WL.move ?_
  refine WL.nei ?_
  refine WL.move ?_
  refine WL.gT ?_
  refine WL.move ?_
  refine WL.gT ?_
  refine WL.lenS ?_ sl33
  refine WL.gT ?_
  refine WL.nei ?_
  refine WL.pickF ?_
  refine WL.nil ?_
  refine WQ.next ?_
  refine WC.condF rfl rfl ?_
  refine WC.skip ?_
  refine WQ.next ?_
  refine WC.seq ?_
  refine WC.seq ?_
  refine WC.region ?_
  refine WL.move ?_
  refine WL.nilCheck ?_
  refine WL.fa ?_ fo106_3
  refine WL.ld ?_ sc103
  refine WL.move ?_
  refine WL.lookOk klI hp.hm mp103 zv104 ?_
  refine WL.move ?_
  refine WL.extract ?_
  refine WL.cast (d := 37) rfl hys ?_
  refine WL.extract ?_
  refine WL.alloc z104 fun b9 => ?_
  refine WL.stArr (cs := Array.replicate 512 (.int .u8 0)) ?_ agg104 hy5 (by decide) Array.size_replicate
  refine WL.assign ?_
  refine WL.nil ?_
  refine WQ.next ?_
  refine WC.seq ?_
  refine WC.region ?_
  refine WL.move ?_
  refine WL.not ?_
  refine WL.move ?_
  rcases hcase with ⟨hno, hss⟩ | ⟨hno, hss⟩
  · refine WL.cast (d := 41) (u := .bool false) rfl (congrArg (fun b => Value.bool (!b)) hss) ?_
    refine WL.gF ?_
    refine WL.gF ?_
    refine WL.gF ?_
    refine WL.gF ?_
    refine WL.gF ?_
    refine WL.gF ?_
    refine WL.pickF ?_
    refine WL.nil ?_
    refine WQ.next ?_
    refine WC.condF rfl rfl ?_
    refine WC.skip ?_
    refine WQ.next ?_
    refine WC.seq ?_
    refine WC.draw ([pt c (cacheO (some j) S.op S.ov x.m), R]) [8] 9 #[false, false, false, false, false, false, false, false, false] mixed (by kernel_rfl) NoPanic.autoJ ?_
    refine WD.take (i := 0) #[true, false, false, false, false, false, false, false, false] rfl (by kernel_rfl) (Qt.move ) ?_
    refine WD.take (i := 1) #[true, true, false, false, false, false, false, false, false] rfl (by kernel_rfl) (Qt.nilCheck ) ?_
    refine WD.take (i := 2) #[true, true, true, false, false, false, false, false, false] rfl (by kernel_rfl) (Qt.fa fo106_3) ?_
    refine WD.take (i := 3) #[true, true, true, true, false, false, false, false, false] rfl (by kernel_rfl) (Qt.ld sc103) ?_
    refine WD.take (i := 4) #[true, true, true, true, true, false, false, false, false] rfl (by kernel_rfl) (Qt.move ) ?_
    refine WD.take (i := 5) #[true, true, true, true, true, true, false, false, false] rfl (by kernel_rfl) (Qt.move ) ?_
    refine WD.take (i := 6) #[true, true, true, true, true, true, true, false, false] rfl (by kernel_rfl) (Qt.toArr un104) ?_
    refine WD.take (i := 7) #[true, true, true, true, true, true, true, true, false] rfl (by kernel_rfl) (Qt.ldAR (i := 0) (us := bvs xs) agg104 hR (by rw [List.drop_zero]; exact List.take_of_length_le (by rw [bvs_length, hx]; exact Nat.le_refl _)) (by rw [bvs_length, hx]; exact Nat.le_refl _)) ?_
    refine WD.one (i := 8) #[true, true, true, true, true, true, true, true, true] rfl (by kernel_rfl) fun hnp => ?_
    refine WL.upd (k := (k : Int)) klI hp.hm mp103 fun es_1 c_1 hm_1 => ?_
    rw [show Value.agg (bvs xs).toArray = arrV xs from rfl, wkv_put] at hm_1
    refine WL.nil (WQ.wd hnp (.inr rfl) ?_)
    refine WD.done (by kernel_rfl) ?_
    refine WQ.next ?_
    refine WC.seq ?_
    refine WC.region ?_
    refine WL.assign ?_
    refine WL.nil ?_
    refine WQ.next ?_
    refine WC.ret (?_)
    refine WQ.to (A := pt c (cacheO (some j) S.op S.ov x.m)) (A' := pt c (cacheO (some j) true S.ov x.m)) (fun h hh => by rw [← hop]; exact hh) ?_
    refine WQ.shutR (CR.opens c j d n ⟨S.J, kput S.W k xs, true, S.ov⟩) ⟨x.m, es_1, c_1⟩ ⟨hm_1, hp.hf.put h5 hkn hx hroom, hp.n1, hp.n2⟩ ?_
    exact WQ.ret1 (h1 := .tmp (t := 6) rfl) ⟨_, ⟨rfl, rfl⟩, Am.auto⟩
  · refine WL.cast (d := 41) (u := .bool true) rfl (congrArg (fun b => Value.bool (!b)) hss) ?_
    have hlt : S.W.length < 60 := by rcases hroom with h | h; (rw [hno] at h; cases h); exact h
    refine WL.gT ?_
    refine WL.move ?_
    refine WL.gT ?_
    refine WL.nilCheck ?_
    refine WL.gT ?_
    refine WL.fa ?_ fo106_3
    refine WL.gT ?_
    refine WL.ld ?_ sc103
    refine WL.gT ?_
    refine WL.lenM ?_ mp103
    refine WL.gT ?_
    refine WL.geq ?_
    refine WL.pickT ?_
    refine WL.nil ?_
    refine WQ.next ?_
    refine WC.condF rfl (congrArg Value.bool (by first | (simp; done) | (simp; omega) | omega)) ?_
    refine WC.skip ?_
    refine WQ.next ?_
    refine WC.seq ?_
    refine WC.draw ([pt c (cacheO (some j) S.op S.ov x.m), R]) [8] 9 #[false, false, false, false, false, false, false, false, false] mixed (by kernel_rfl) NoPanic.autoJ ?_
    refine WD.take (i := 0) #[true, false, false, false, false, false, false, false, false] rfl (by kernel_rfl) (Qt.move ) ?_
    refine WD.take (i := 1) #[true, true, false, false, false, false, false, false, false] rfl (by kernel_rfl) (Qt.nilCheck ) ?_
    refine WD.take (i := 2) #[true, true, true, false, false, false, false, false, false] rfl (by kernel_rfl) (Qt.fa fo106_3) ?_
    refine WD.take (i := 3) #[true, true, true, true, false, false, false, false, false] rfl (by kernel_rfl) (Qt.ld sc103) ?_
    refine WD.take (i := 4) #[true, true, true, true, true, false, false, false, false] rfl (by kernel_rfl) (Qt.move ) ?_
    refine WD.take (i := 5) #[true, true, true, true, true, true, false, false, false] rfl (by kernel_rfl) (Qt.move ) ?_
    refine WD.take (i := 6) #[true, true, true, true, true, true, true, false, false] rfl (by kernel_rfl) (Qt.toArr un104) ?_
    refine WD.take (i := 7) #[true, true, true, true, true, true, true, true, false] rfl (by kernel_rfl) (Qt.ldAR (i := 0) (us := bvs xs) agg104 hR (by rw [List.drop_zero]; exact List.take_of_length_le (by rw [bvs_length, hx]; exact Nat.le_refl _)) (by rw [bvs_length, hx]; exact Nat.le_refl _)) ?_
    refine WD.one (i := 8) #[true, true, true, true, true, true, true, true, true] rfl (by kernel_rfl) fun hnp => ?_
    refine WL.upd (k := (k : Int)) klI hp.hm mp103 fun es_1 c_1 hm_1 => ?_
    rw [show Value.agg (bvs xs).toArray = arrV xs from rfl, wkv_put] at hm_1
    refine WL.nil (WQ.wd hnp (.inr rfl) ?_)
    refine WD.done (by kernel_rfl) ?_
    refine WQ.next ?_
    refine WC.seq ?_
    refine WC.region ?_
    refine WL.assign ?_
    refine WL.nil ?_
    refine WQ.next ?_
    refine WC.ret (?_)
    refine WQ.to (A := pt c (cacheO (some j) S.op S.ov x.m)) (A' := pt c (cacheO (some j) true S.ov x.m)) (fun h hh => by rw [← hop]; exact hh) ?_
    refine WQ.shutR (CR.opens c j d n ⟨S.J, kput S.W k xs, true, S.ov⟩) ⟨x.m, es_1, c_1⟩ ⟨hm_1, hp.hf.put h5 hkn hx hroom, hp.n1, hp.n2⟩ ?_
    exact WQ.ret1 (h1 := .tmp (t := 6) rfl) ⟨_, ⟨rfl, rfl⟩, Am.auto⟩

end Go.Proofs.YtedmihapieleaaaGreat
