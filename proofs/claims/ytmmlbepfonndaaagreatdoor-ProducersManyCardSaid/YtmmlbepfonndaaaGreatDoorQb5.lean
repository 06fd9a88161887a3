/- A part of the proof of lawMany: texts of this work put together. -/
import Derived.Test.YtmmlbepfonndaaaGreatDoorQb4
import Derived.KernelRfl
set_option linter.unusedVariables false
set_option linter.unusedSimpArgs false
set_option linter.unusedSectionVars false
section
namespace Go.Proofs.YtmmlbepfonndaaaGreatDoor
open Go
def pD (n ino : Nat) : Pl := ⟨n, ino, 246, 247, 248, 248 + (ino + 7) / 8, n - (248 + (ino + 7) / 8)⟩
theorem pD_is {n ino : Nat} (h1 : 1 ≤ ino) (h2 : ino ≤ 4096) (hn : 249 + (ino + 7) / 8 ≤ n) (hn2 : n ≤ 4000) : PlIs (pD n ino) := by
  refine ⟨?_, ?_, ?_, ?_, ?_, ?_, ?_, ?_, ?_, ?_, ?_⟩
  all_goals (simp only [pD]; try first | omega | (left; omega))
def wT (b : Bytes) : FT := fun i => if i = 0 then some (.dir [some ([119], 1)]) else if i = 1 then some (.file b) else none
theorem wT_ok (b : Bytes) : TOk (wT b) := by
  intro d sl h
  unfold wT at h
  split at h
  · injection h with h; injection h with h; subst h
    refine ⟨⟨fun q n i h => ?_, fun q r n i j h1 h2 => ?_⟩, by decide⟩
    · rcases q with _ | q
      · injection h with h; injection h with h; injection h with h1 h2; subst h1; subst h2; exact ⟨by decide, by decide⟩
      · simp at h
    · rcases q with _ | q
      · rcases r with _ | r
        · rfl
        · simp at h2
      · simp at h1
  · split at h
    · injection h with h; cases h
    · cases h
theorem wT_file (b : Bytes) : fileT (wT b) [47, 119] = (1, 1, b.length, 0) := rfl
theorem wT_1 (b : Bytes) : wT b 1 = some (.file b) := rfl
theorem wT_upd (b b' : Bytes) : updT (wT b) 1 (some (.file b')) = wT b' := by
  funext i
  unfold updT wT
  by_cases h : i = 1
  · subst h; rfl
  · rw [if_neg h]
    by_cases h0 : i = 0
    · rw [if_pos h0, if_pos h0]
    · rw [if_neg h0, if_neg h0, if_neg h, if_neg h]
theorem mkT_root : mkT rootT 0 [] [119] 1 (.file []) = wT [] := by
  funext i
  unfold mkT updT rootT wT
  by_cases h0 : i = 0
  · rw [if_pos h0, if_pos h0]; rfl
  · rw [if_neg h0, if_neg h0]
    by_cases h1 : i = 1
    · rw [if_pos h1, if_neg h0]
    · rw [if_neg h1, if_neg h0]
theorem tot_rootT (n : Nat) : tot (fmT rootT) n = 0 := by rw [fmT_root]; exact tot_root n
theorem has_64 : has 64 = 1 := rfl
theorem tot_wT (b : Bytes) {n : Nat} (h : 2 ≤ n) : tot (fmT (wT b)) n = 1 + has b.length := by
  obtain ⟨k, rfl⟩ : ∃ k, n = k + 2 := ⟨n - 2, by omega⟩
  clear h
  induction k with
  | zero =>
    show 0 + has 64 + has b.length = _
    rw [has_64]
  | succ k ih =>
    show tot (fmT (wT b)) (k + 2) + hasO (fmT (wT b) (k + 2)) = _
    rw [ih]
    have : fmT (wT b) (k + 2) = none := fmT_none (by unfold wT; rw [if_neg (by omega), if_neg (by omega)])
    rw [this]; rfl
theorem root_least {T : FT} (h : T 0 ≠ none) : ∀ j < 1, T j ≠ none := fun j hj => by rw [show j = 0 from by omega]; exact h
theorem p16_is : PlIs (pD 500 20) := pD_is (by decide) (by decide) (by decide) (by decide)
theorem prAccept16 {pr f : Nat} {L : List Prd} {r : Prd} (hL : POk L) (hr : PrdOk r) (hfu : lookP L (r.1 : Int) ≠ none ∨ L.length < 60) : Spec Tryz.prog 18 #[.pointer (some ⟨pr, 0, none⟩), nI r.1, nI r.2.1, nI r.2.2] [PD pr f [47, 119] L, FSR f (pD 500 20) (wT (rowsB L))] fun F v M => v = okV ∧ M = PD pr f [47, 119] (accP L r) :: FSR f (pD 500 20) (wT (rowsB (accP L r))) :: F := by
  have hl := rowsB_length L
  have hf := hL.few
  have := prAccept (pr := pr) (f := f) (i := 1) (p := pD 500 20) (T := wT (rowsB L)) (path := [47, 119]) (L := L) (r := r) p16_is.ok (wT_ok _) (by decide) (wT_file _) (wT_1 _) hr hfu (.inr (by decide)) (by
    rw [tot_wT _ (by decide)]
    have : (pD 500 20).dc = 249 := rfl
    omega)
  rwa [wT_upd] at this
theorem prOpen16 {f : Nat} {L : List Prd} (hL : POk L) : Spec Tryz.prog 19 #[.pointer (some ⟨f, 0, none⟩), sv [47, 119]] [FSR f (pD 500 20) (wT (rowsB L))] fun F v M => ∃ pr, v = .tuple #[.pointer (some ⟨pr, 0, none⟩), .int .i64 0] ∧ M = PD pr f [47, 119] L :: FSR f (pD 500 20) (wT (rowsB L)) :: F :=
  prOpen p16_is.ok (wT_ok _) (by decide) (wT_file _) (wT_1 _) hL
theorem prMake16 {f : Nat} : Spec Tryz.prog 52 #[.pointer (some ⟨f, 0, none⟩), sv [47, 119]] [FSR f (pD 500 20) rootT] fun F v M => v = okV ∧ M = FSR f (pD 500 20) (wT []) :: F := by
  refine Spec.intro Tryz.func52 rfl rfl fun B F => ?_
  simp only [Tryz.ntmps52, List.cons_append, List.nil_append, env0, Nat.reduceAdd]
  refine .sr (.assign (.x (.move (.move ?_))))
  refine .call (hc := Tryz.call22) (sp := fsCreate (f := f) (p := pD 500 20) (T := rootT) (path := [47, 119]) (d := 0) (i := 1) (nm := [119]) (sl := []) (x := .file []) p16_is.ok rootT_ok (by decide) (by decide) rfl rfl rfl (by decide) rfl (root_least (by decide)) rfl rfl (.inr (by decide)) (by rw [tot_rootT]; decide)) (h := ?_)
  rintro _ _ ⟨rfl, rfl⟩
  rw [mkT_root]
  refine .assign (.z ?_)
  refine .ret (?_)
  exact .ret1 (h1 := .tmp (t := 4) rfl) ⟨_, ⟨rfl, rfl⟩, Am.auto⟩
theorem l16Fresh : Spec Tryz.prog 16 #[] [] fun F v M => ∃ d f pr, v = .tuple #[.pointer (some ⟨d, 0, none⟩), .pointer (some ⟨f, 0, none⟩), .pointer (some ⟨pr, 0, none⟩), .bool true] ∧ M = PD pr f [47, 119] ([]) :: FSR f (pD 500 20) (wT (rowsB ([]))) :: F := by
  refine Spec.intro Tryz.func16 rfl rfl fun B F => ?_
  simp only [Tryz.ntmps16, List.cons_append, List.nil_append, env0, Nat.reduceAdd]
  refine .sr (.assign (.assign (.assign (.assign (.x ?_)))))
  refine .call (hc := Tryz.call45) (sp := devNew (n := 500) (by decide) (by decide)) (h := ?_)
  rintro _ _ ⟨d, rfl, rfl⟩
  refine .move ?_
  refine .extract ?_
  refine .extract ?_
  refine .assign (.assign (.z (.seq (.sr (.move ?_)))))
  refine .nei ?_
  refine .move ?_
  refine .gT ?_
  refine .move ?_
  refine .gT ?_
  refine .eqNil ?_ ptr24
  refine .pickF ?_
  refine .move ?_
  refine .gT ?_
  refine .move ?_
  refine .gT ?_
  refine .call (hc := Tryz.call47) (sp := fsMkfs p16_is) (h := ?_)
  rintro _ _ ⟨J, rfl, hJ, rfl⟩
  refine .gT ?_
  refine .nei ?_
  refine .pickF ?_
  refine .z ?_
  refine .condF rfl (congrArg Value.bool (by first | (simp; done) | (simp; omega) | omega)) ?_
  refine .skip (.next (.sr (.move ?_)))
  refine .call (hc := Tryz.call48) (sp := fsMountNew p16_is hJ) (h := ?_)
  rintro _ _ ⟨f, rfl, rfl⟩
  refine .move ?_
  refine .extract ?_
  refine .extract ?_
  refine .assign (.assign (.z (.seq (.sr (.move ?_)))))
  refine .nei ?_
  refine .move ?_
  refine .gT ?_
  refine .move ?_
  refine .gT ?_
  refine .eqNil ?_ ptr25
  refine .pickF ?_
  refine .move ?_
  refine .gT ?_
  refine .move ?_
  refine .gT ?_
  refine .call (hc := Tryz.call52) (sp := prMake16 (f := f)) (h := ?_)
  rintro _ _ ⟨rfl, rfl⟩
  refine .gT ?_
  refine .nei ?_
  refine .pickF ?_
  refine .z ?_
  refine .condF rfl (congrArg Value.bool (by first | (simp; done) | (simp; omega) | omega)) ?_
  refine .skip (.next (.sr (.move ?_)))
  refine .call (hc := Tryz.call19) (sp := prOpen16 (f := f) POk.nil) (h := ?_)
  rintro _ _ ⟨pr, rfl, rfl⟩
  refine .move ?_
  refine .extract ?_
  refine .extract ?_
  refine .assign (.assign (.x (.move (.move (.move (.move ?_))))))
  refine .eqi ?_
  refine .move ?_
  refine .gT ?_
  refine .move ?_
  refine .gT ?_
  refine .neNil ?_ ptr26
  refine .pickT ?_
  refine .assign (.assign (.assign (.assign (.z ?_))))
  refine .ret (?_)
  exact .ret4 (h1 := .tmp (t := 0) rfl) (h2 := .tmp (t := 1) rfl) (h3 := .tmp (t := 2) rfl) (h4 := .tmp (t := 3) rfl) ⟨_, ⟨d, f, pr, rfl, rfl⟩, Am.auto⟩
theorem l16Awake : Spec Tryz.prog 15 #[] [] fun F v M => v = .bool true ∧ M = F := by
  refine Spec.intro Tryz.func15 rfl rfl fun B F => ?_
  simp only [Tryz.ntmps15, List.cons_append, List.nil_append, env0, Nat.reduceAdd]
  refine .sr (.assign (.x ?_))
  refine .call (hc := Tryz.call16) (sp := l16Fresh) (h := ?_)
  rintro _ _ ⟨d, f, pr, rfl, rfl⟩
  refine .move ?_
  refine .extract ?_
  refine .extract ?_
  refine .extract ?_
  refine .extract ?_
  refine .assign (.assign (.assign (.assign (.z (.seq (.sr (.move ?_)))))))
  refine .not ?_
  refine .move ?_
  refine .gT ?_
  refine .move ?_
  refine .gT ?_
  refine .call (hc := Tryz.call18) (sp := prAccept16 (L := []) (r := (7, 0, 100)) POk.nil ⟨by decide, by decide, by decide, by decide⟩ (.inr (by decide))) (h := ?_)
  rintro _ _ ⟨rfl, rfl⟩
  refine .gT ?_
  refine .nei ?_
  refine .pickF ?_
  refine .z ?_
  refine .condF rfl (congrArg Value.bool (by first | (simp; done) | (simp; omega) | omega)) ?_
  refine .skip (.next (.sr (.move ?_)))
  refine .call (hc := Tryz.call20) (sp := prCheck (pr := pr) (f := f) (path := [47, 119]) (L := [(7, 0, 100)]) (id := 7) (seq := 0) (by decide)) (h := ?_)
  rintro _ _ ⟨rfl, rfl⟩
  rw [show chkP [(7, 0, 100)] 7 0 = (100, true, 0) from rfl]
  refine .move ?_
  refine .extract ?_
  refine .extract ?_
  refine .extract ?_
  refine .assign (.assign (.assign (.x (.move ?_))))
  refine .call (hc := Tryz.call20) (sp := prCheck (pr := pr) (f := f) (path := [47, 119]) (L := [(7, 0, 100)]) (id := 7) (seq := 2) (by decide)) (h := ?_)
  rintro _ _ ⟨rfl, rfl⟩
  rw [show chkP [(7, 0, 100)] 7 2 = (0, false, 11) from rfl]
  refine .move ?_
  refine .extract ?_
  refine .extract ?_
  refine .extract ?_
  refine .assign (.assign (.assign (.x (.move ?_))))
  refine .call (hc := Tryz.call20) (sp := prCheck (pr := pr) (f := f) (path := [47, 119]) (L := [(7, 0, 100)]) (id := 8) (seq := 1) (by decide)) (h := ?_)
  rintro _ _ ⟨rfl, rfl⟩
  rw [show chkP [(7, 0, 100)] 8 1 = (0, false, 11) from rfl]
  refine .move ?_
  refine .extract ?_
  refine .extract ?_
  refine .extract ?_
  refine .assign (.assign (.assign (.x (.move ?_))))
  refine .eqi ?_
  refine .move ?_
  refine .gT ?_
  refine .move ?_
  refine .pickT ?_
  refine .move ?_
  refine .gT ?_
  refine .move ?_
  refine .gT ?_
  refine .eqi ?_
  refine .pickT ?_
  refine .move ?_
  refine .gT ?_
  refine .move ?_
  refine .gT ?_
  refine .eqi ?_
  refine .pickT ?_
  refine .move ?_
  refine .gT ?_
  refine .move ?_
  refine .gT ?_
  refine .eqi ?_
  refine .pickT ?_
  refine .assign (.z ?_)
  refine .ret (?_)
  exact .ret1 (h1 := .tmp (t := 0) rfl) ⟨_, ⟨rfl, rfl⟩, Am.auto⟩
end Go.Proofs.YtmmlbepfonndaaaGreatDoor
end
section
namespace Go.Proofs.YtmmlbepfonndaaaGreatDoor
open Go
theorem bk4 : boolOk Tryz.prog 4 = true := by kernel_rfl
def rangeP (m : Nat) : List Prd := (List.range m).map fun j => (j + 1, (j + 1) % 5, (j + 1) * 10)
theorem rangeP_length (m : Nat) : (rangeP m).length = m := by unfold rangeP; rw [List.length_map, List.length_range]
theorem rangeP_get {m j : Nat} (h : j < (rangeP m).length) : (rangeP m)[j] = (j + 1, (j + 1) % 5, (j + 1) * 10) :=
  getElem_of? h (by unfold rangeP; rw [List.getElem?_map, List.getElem?_range (rangeP_length m ▸ h)]; rfl)
theorem rangeP_ok {m : Nat} (h : m ≤ 60) : POk (rangeP m) := by
  refine ⟨fun r hr => ?_, fun q r hq hr he => ?_, by rw [rangeP_length]; exact h⟩
  · obtain ⟨j, hj, rfl⟩ := List.mem_iff_getElem.1 hr
    rw [rangeP_get hj]
    rw [rangeP_length] at hj
    exact ⟨by show 1 ≤ j + 1; omega, by show j + 1 < _; omega, by show (j + 1) % 5 < _; omega, by show (j + 1) * 10 ≤ _; omega⟩
  · rw [rangeP_get hq, rangeP_get hr] at he
    have he : q + 1 = r + 1 := he
    omega
theorem rangeP_no {m : Nat} {id : Int} (h : id < 1 ∨ m < id) : lookP (rangeP m) id = none := by
  cases hl : lookP (rangeP m) id with
  | none => rfl
  | some q =>
    obtain ⟨h1, h2⟩ := lookP_some hl
    rw [rangeP_get h1] at h2
    rw [rangeP_length] at h1
    have h2 : ((q + 1 : Nat) : Int) = id := h2
    omega
theorem rangeP_at {m k : Nat} (hm : m ≤ 60) (h1 : 1 ≤ k) (h2 : k ≤ m) : lookP (rangeP m) (k : Int) = some (k - 1) := by
  have hq : k - 1 < (rangeP m).length := by rw [rangeP_length]; omega
  have := (rangeP_ok hm).look hq
  rw [rangeP_get hq] at this
  rwa [show ((k - 1 + 1 : Nat) : Int) = (k : Int) from by omega] at this
theorem rangeP_acc {m : Nat} : accP (rangeP m) (m + 1, (m + 1) % 5, (m + 1) * 10) = rangeP (m + 1) := by
  unfold accP
  rw [rangeP_no (.inr (by show (m : Int) < ((m + 1 : Nat) : Int); omega))]
  show setP (rangeP m) (rangeP m).length _ = _
  unfold setP
  rw [List.take_length, List.drop_eq_nil_of_le (by omega)]
  unfold rangeP
  rw [List.range_succ, List.map_append]
  rfl
theorem rangeP_full {m : Nat} (h : 60 ≤ m) : accE (rangeP 60) ((m + 1 : Nat) : Int) (((m + 1) % 5 : Nat) : Int) (((m + 1) * 10 : Nat) : Int) = if (m + 1) * 10 ≤ 1125899906842624 then 2 else 1 := by
  unfold accE
  rw [rangeP_no (.inr (by omega)), rangeP_length]
  by_cases hb : (m + 1) * 10 ≤ 1125899906842624
  · rw [if_pos hb, if_pos (by omega), if_pos ⟨rfl, Nat.le_refl _⟩]
  · rw [if_neg hb, if_neg (by omega)]
theorem chk_known {m k : Nat} (hm : m ≤ 60) (h1 : 1 ≤ k) (h2 : k ≤ m) : chkP (rangeP m) (k : Int) ((k % 5 : Nat) : Int) = (((k * 10 : Nat) : Int), true, 0) := by
  unfold chkP
  rw [if_neg (by omega), rangeP_at hm h1 h2]
  have hq : k - 1 < (rangeP m).length := by rw [rangeP_length]; omega
  have hg : (rangeP m).getD (k - 1) (0, 0, 0) = (k, k % 5, k * 10) := by
    rw [List.getD_eq_getElem?_getD, List.getElem?_eq_getElem hq, rangeP_get hq, show k - 1 + 1 = k from by omega]; rfl
  simp only [hg]
  rw [if_pos trivial]
theorem chk_many {k : Nat} (h1 : 60 < k) : chkP (rangeP 60) (k : Int) ((k % 5 : Nat) : Int) = (0, false, 2) := by
  unfold chkP
  rw [if_neg (by omega), rangeP_no (.inr (by omega))]
  simp only [rangeP_length]
  rfl
theorem chk_free {m k : Nat} (hm : m < 60) (h1 : m < k) : chkP (rangeP m) (k : Int) ((k % 5 : Nat) : Int) = (0, false, if k % 5 = 0 then 0 else 11) := by
  unfold chkP
  rw [if_neg (by omega), rangeP_no (.inr (by omega))]
  simp only [rangeP_length]
  rw [if_neg (by omega)]
  by_cases h : k % 5 = 0
  · rw [if_pos (by omega), if_pos h]
  · rw [if_neg (by omega), if_neg h]
theorem lawMany {n id : Int} (hn : -9223372036854775808 ≤ n ∧ n ≤ 9223372036854775807) (hi : -9223372036854775808 ≤ id ∧ id ≤ 9223372036854775807) : Spec Tryz.prog 4 #[.int .i64 n, .int .i64 id] [] fun F v M => v = .bool true ∧ M = F := by
  refine Spec.intro Tryz.func4 rfl rfl fun B F => ?_
  simp only [Tryz.ntmps4, List.cons_append, List.nil_append, env0, Nat.reduceAdd]
  by_cases h1 : n < 0
  · refine .sr (.assign (.z (.seq (.sr (.move ?_)))))
    refine .lss ?_
    refine .move ?_
    refine .cast (d := 18) (u := .bool true) rfl (congrArg Value.bool (by first | (simp; done) | (simp; omega) | omega)) ?_
    refine .gF ?_
    refine .gF ?_
    refine .pickT ?_
    refine .move ?_
    refine .gF ?_
    refine .gF ?_
    refine .pickT ?_
    refine .move ?_
    refine .gF ?_
    refine .gF ?_
    refine .pickT ?_
    refine .z ?_
    refine .condT rfl rfl ?_
    refine .sr ?_
    refine .call (hc := Tryz.call15) (sp := l16Awake) (h := ?_)
    rintro _ _ ⟨rfl, rfl⟩
    refine .assign (.z ?_)
    refine .ret (.thenRet (?_))
    exact .ret1 (h1 := .tmp (t := 4) rfl) ⟨_, ⟨rfl, rfl⟩, Am.auto⟩
  · by_cases h2 : 70 < n
    · refine .sr (.assign (.z (.seq (.sr (.move ?_)))))
      refine .lss ?_
      refine .move ?_
      refine .cast (d := 18) (u := .bool false) rfl (congrArg Value.bool (by first | (simp; done) | (simp; omega) | omega)) ?_
      refine .gT ?_
      refine .move ?_
      refine .gT ?_
      refine .gtr ?_
      refine .pickF ?_
      refine .move ?_
      refine .cast (d := 22) (u := .bool true) rfl (congrArg Value.bool (by first | (simp; done) | (simp; omega) | omega)) ?_
      refine .gF ?_
      refine .gF ?_
      refine .pickT ?_
      refine .move ?_
      refine .gF ?_
      refine .gF ?_
      refine .pickT ?_
      refine .z ?_
      refine .condT rfl rfl ?_
      refine .sr ?_
      refine .call (hc := Tryz.call15) (sp := l16Awake) (h := ?_)
      rintro _ _ ⟨rfl, rfl⟩
      refine .assign (.z ?_)
      refine .ret (.thenRet (?_))
      exact .ret1 (h1 := .tmp (t := 4) rfl) ⟨_, ⟨rfl, rfl⟩, Am.auto⟩
    · by_cases h3 : id < 1
      · refine .sr (.assign (.z (.seq (.sr (.move ?_)))))
        refine .lss ?_
        refine .move ?_
        refine .cast (d := 18) (u := .bool false) rfl (congrArg Value.bool (by first | (simp; done) | (simp; omega) | omega)) ?_
        refine .gT ?_
        refine .move ?_
        refine .gT ?_
        refine .gtr ?_
        refine .pickF ?_
        refine .move ?_
        refine .cast (d := 22) (u := .bool false) rfl (congrArg Value.bool (by first | (simp; done) | (simp; omega) | omega)) ?_
        refine .gT ?_
        refine .move ?_
        refine .gT ?_
        refine .lss ?_
        refine .pickF ?_
        refine .move ?_
        refine .cast (d := 26) (u := .bool true) rfl (congrArg Value.bool (by first | (simp; done) | (simp; omega) | omega)) ?_
        refine .gF ?_
        refine .gF ?_
        refine .pickT ?_
        refine .z ?_
        refine .condT rfl rfl ?_
        refine .sr ?_
        refine .call (hc := Tryz.call15) (sp := l16Awake) (h := ?_)
        rintro _ _ ⟨rfl, rfl⟩
        refine .assign (.z ?_)
        refine .ret (.thenRet (?_))
        exact .ret1 (h1 := .tmp (t := 4) rfl) ⟨_, ⟨rfl, rfl⟩, Am.auto⟩
      · by_cases h4 : 70 < id
        · refine .sr (.assign (.z (.seq (.sr (.move ?_)))))
          refine .lss ?_
          refine .move ?_
          refine .cast (d := 18) (u := .bool false) rfl (congrArg Value.bool (by first | (simp; done) | (simp; omega) | omega)) ?_
          refine .gT ?_
          refine .move ?_
          refine .gT ?_
          refine .gtr ?_
          refine .pickF ?_
          refine .move ?_
          refine .cast (d := 22) (u := .bool false) rfl (congrArg Value.bool (by first | (simp; done) | (simp; omega) | omega)) ?_
          refine .gT ?_
          refine .move ?_
          refine .gT ?_
          refine .lss ?_
          refine .pickF ?_
          refine .move ?_
          refine .cast (d := 26) (u := .bool false) rfl (congrArg Value.bool (by first | (simp; done) | (simp; omega) | omega)) ?_
          refine .gT ?_
          refine .move ?_
          refine .gT ?_
          refine .gtr ?_
          refine .pickF ?_
          refine .z ?_
          refine .condT rfl (congrArg Value.bool (by first | (simp; done) | (simp; omega) | omega)) ?_
          refine .sr ?_
          refine .call (hc := Tryz.call15) (sp := l16Awake) (h := ?_)
          rintro _ _ ⟨rfl, rfl⟩
          refine .assign (.z ?_)
          refine .ret (.thenRet (?_))
          exact .ret1 (h1 := .tmp (t := 4) rfl) ⟨_, ⟨rfl, rfl⟩, Am.auto⟩
        · obtain ⟨N, rfl⟩ : ∃ N : Nat, n = N := ⟨n.toNat, by omega⟩
          obtain ⟨K, rfl⟩ : ∃ I : Nat, id = I := ⟨id.toNat, by omega⟩
          refine .sr (.assign (.z (.seq (.sr (.move ?_)))))
          refine .lss ?_
          refine .move ?_
          refine .cast (d := 18) (u := .bool false) rfl (congrArg Value.bool (by first | (simp; done) | (simp; omega) | omega)) ?_
          refine .gT ?_
          refine .move ?_
          refine .gT ?_
          refine .gtr ?_
          refine .pickF ?_
          refine .move ?_
          refine .cast (d := 22) (u := .bool false) rfl (congrArg Value.bool (by first | (simp; done) | (simp; omega) | omega)) ?_
          refine .gT ?_
          refine .move ?_
          refine .gT ?_
          refine .lss ?_
          refine .pickF ?_
          refine .move ?_
          refine .cast (d := 26) (u := .bool false) rfl (congrArg Value.bool (by first | (simp; done) | (simp; omega) | omega)) ?_
          refine .gT ?_
          refine .move ?_
          refine .gT ?_
          refine .gtr ?_
          refine .pickF ?_
          refine .z ?_
          refine .condF rfl (congrArg Value.bool (by first | (simp; done) | (simp; omega) | omega)) ?_
          refine .skip (.next (.sr ?_))
          refine .call (hc := Tryz.call16) (sp := l16Fresh) (h := ?_)
          rintro _ _ ⟨d, f, pr, rfl, rfl⟩
          refine .move ?_
          refine .extract ?_
          refine .extract ?_
          refine .extract ?_
          refine .extract ?_
          refine .assign (.assign (.assign (.assign (.z (.seq (.sr (.move ?_)))))))
          refine .not ?_
          refine .z ?_
          refine .condF rfl rfl ?_
          refine .skip (.next (.seq (.sr (.assign (.z (.block ?_))))))
          refine .to (A := PD pr f [47, 119] []) (A' := PD pr f [47, 119] (rangeP (min 0 60))) (fun h hh => hh) ?_
          refine .to (A := FSR f (pD 500 20) (wT (rowsB []))) (A' := FSR f (pD 500 20) (wT (rowsB (rangeP (min 0 60))))) (fun h hh => hh) ?_
          refine .loopA (σ := Nat) (fun k => [(0, .int .i64 (N : Int)), (1, .int .i64 (K : Int)), (6, .pointer (some ⟨f, 0, none⟩)), (7, .pointer (some ⟨pr, 0, none⟩)), (9, .int .i64 ((k : Nat) + 1 : Int))]) (fun k => PD pr f [47, 119] (rangeP (min k 60)) :: FSR f (pD 500 20) (wT (rowsB (rangeP (min k 60)))) :: F) (fun k => k ≤ N) (fun k => N - k) 0 (Nat.zero_le _) ?_
          rintro k hk
          refine .seq (.sr (.move (.move ?_)))
          refine .leq ?_
          refine .z ?_
          refine .cond rfl (fun hb => ?_) (fun hb => ?_)
          · have hlt : k < N := by have h : (k : Int) + 1 ≤ (N : Int) := of_decide_eq_true hb; omega
            by_cases h60 : k < 60
            · rw [show min k 60 = k from by omega]
              have hmk : min (k + 1) 60 = k + 1 := by omega
              refine .skip (.next (.seq (.block (.sr (.move (.move ?_))))))
              refine .cast (d := 45) (u := nI (k + 1)) rfl (congrArg (Value.int .i64) (by omega)) ?_
              refine .move ?_
              refine .rem ?_
              refine .cast (d := 47) (u := nI ((k + 1) % 5)) rfl (congrArg (Value.int .i64) (by omega)) ?_
              refine .move ?_
              refine .mul ?_
              refine .cast (d := 49) (u := nI ((k + 1) * 10)) rfl (congrArg (Value.int .i64) (by omega)) ?_
              refine .call (hc := Tryz.call18) (sp := prAccept16 (pr := pr) (f := f) (L := rangeP k) (r := (k + 1, (k + 1) % 5, (k + 1) * 10)) (rangeP_ok (by omega)) ⟨by show 1 ≤ k + 1; omega, by show k + 1 < _; omega, by show (k + 1) % 5 < _; omega, by show (k + 1) * 10 ≤ _; omega⟩ (.inr (by rw [rangeP_length]; exact h60))) (h := ?_)
              rintro _ _ ⟨rfl, rfl⟩
              rw [rangeP_acc, show rangeP (k + 1) = rangeP (min (k + 1) 60) from by rw [hmk]]
              refine .assign (.x (.move ?_))
              refine .leq ?_
              refine .move ?_
              refine .cast (d := 53) (u := .bool true) rfl (congrArg Value.bool (by first | (simp; done) | (simp; omega) | omega)) ?_
              refine .gT ?_
              refine .move ?_
              refine .gT ?_
              refine .nei ?_
              refine .pickT ?_
              refine .move ?_
              refine .cast (d := 57) (u := .bool false) rfl (congrArg Value.bool (by first | (simp; done) | (simp; omega) | omega)) ?_
              refine .gT ?_
              refine .move ?_
              refine .gT ?_
              refine .gtr ?_
              refine .gT ?_
              refine .move ?_
              refine .cast (d := 60) (u := .bool false) rfl (congrArg Value.bool (by first | (simp; done) | (simp; omega) | omega)) ?_
              refine .gF ?_
              refine .gF ?_
              refine .gT ?_
              refine .pickF ?_
              refine .pickF ?_
              refine .z ?_
              refine .condF rfl rfl ?_
              refine .skip (.blockNormal (.next (.region (.move ?_))))
              refine .add ?_
              refine .assign (.nil ?_)
              refine .cast (d := 9) (u := .int .i64 ((k + 1 : Nat) + 1 : Int)) rfl (congrArg (Value.int .i64) (by omega)) ?_
              exact .back (k + 1) (by show k + 1 ≤ N; omega) (by show N - (k + 1) < N - k; omega)
            · rw [show min k 60 = 60 from by omega]
              have hmk : min (k + 1) 60 = 60 := by omega
              refine .skip (.next (.seq (.block (.sr (.move (.move ?_))))))
              refine .cast (d := 45) (u := nI (k + 1)) rfl (congrArg (Value.int .i64) (by omega)) ?_
              refine .move ?_
              refine .rem ?_
              refine .cast (d := 47) (u := nI ((k + 1) % 5)) rfl (congrArg (Value.int .i64) (by omega)) ?_
              refine .move ?_
              refine .mul ?_
              refine .cast (d := 49) (u := nI ((k + 1) * 10)) rfl (congrArg (Value.int .i64) (by omega)) ?_
              refine .call (hc := Tryz.call18) (sp := prAcceptE (pr := pr) (f := f) (path := [47, 119]) (L := rangeP 60) (e := 2) (by rw [rangeP_full (by omega), if_pos (by omega)]) (by decide)) (h := ?_)
              rintro _ _ ⟨rfl, rfl⟩
              rw [show rangeP 60 = rangeP (min (k + 1) 60) from by rw [hmk]]
              refine .assign (.x (.move ?_))
              refine .leq ?_
              refine .move ?_
              refine .cast (d := 53) (u := .bool false) rfl (congrArg Value.bool (by first | (simp; done) | (simp; omega) | omega)) ?_
              refine .gF ?_
              refine .gF ?_
              refine .pickF ?_
              refine .move ?_
              refine .gT ?_
              refine .move ?_
              refine .gT ?_
              refine .gtr ?_
              refine .gT ?_
              refine .move ?_
              refine .cast (d := 60) (u := .bool true) rfl (congrArg Value.bool (by first | (simp; done) | (simp; omega) | omega)) ?_
              refine .gT ?_
              refine .move ?_
              refine .gT ?_
              refine .nei ?_
              refine .gT ?_
              refine .pickT ?_
              refine .pickF ?_
              refine .z ?_
              refine .condF rfl (congrArg Value.bool (by first | (simp; done) | (simp; omega) | omega)) ?_
              refine .skip (.blockNormal (.next (.region (.move ?_))))
              refine .add ?_
              refine .assign (.nil ?_)
              refine .cast (d := 9) (u := .int .i64 ((k + 1 : Nat) + 1 : Int)) rfl (congrArg (Value.int .i64) (by omega)) ?_
              exact .back (k + 1) (by show k + 1 ≤ N; omega) (by show N - (k + 1) < N - k; omega)
          · have hge : k = N := by have h : ¬ (k : Int) + 1 ≤ (N : Int) := of_decide_eq_false hb; omega
            subst hge
            have hm60 : min k 60 ≤ 60 := by omega
            by_cases hk : K ≤ min k 60
            · refine .exit (.thenExit (.thenExit (.blockExit (?_))))
              refine .next (.sr (.move ?_))
              refine .call (hc := Tryz.call19) (sp := prOpen16 (f := f) (rangeP_ok hm60)) (h := ?_)
              rintro _ _ ⟨q, rfl, rfl⟩
              refine .move ?_
              refine .extract ?_
              refine .extract ?_
              refine .assign (.assign (.z (.seq (.sr (.move ?_)))))
              refine .nei ?_
              refine .move ?_
              refine .gT ?_
              refine .move ?_
              refine .gT ?_
              refine .eqNil ?_ ptr26
              refine .pickF ?_
              refine .move ?_
              refine .gT ?_
              refine .move ?_
              refine .gT ?_
              refine .call (hc := Tryz.call21) (sp := prLen (pr := q) (f := f) (path := [47, 119]) (L := rangeP (min k 60))) (h := ?_)
              rintro _ _ ⟨rfl, rfl⟩
              rw [rangeP_length]
              refine .gT ?_
              refine .move ?_
              refine .gT ?_
              refine .minI ?_
              refine .gT ?_
              refine .nei ?_
              refine .cast (d := 81) (u := .bool false) rfl (congrArg Value.bool (by rw [decide_eq_true (by split <;> omega)]; rfl)) ?_
              refine .pickF ?_
              refine .z ?_
              refine .condF rfl rfl ?_
              refine .skip (.next (.sr (.move (.move (.move ?_)))))
              refine .rem ?_
              refine .cast (d := 87) (u := nI (K % 5)) rfl (congrArg (Value.int .i64) (by omega)) ?_
              refine .call (hc := Tryz.call20) (sp := prCheck (pr := q) (f := f) (path := [47, 119]) (L := rangeP (min k 60)) (id := (K : Int)) (seq := ((K % 5 : Nat) : Int)) (by omega)) (h := ?_)
              rintro _ _ ⟨rfl, rfl⟩
              rw [chk_known hm60 (by omega) hk]
              refine .move ?_
              refine .extract ?_
              refine .extract ?_
              refine .extract ?_
              refine .assign (.assign (.assign (.z (.seq (.sr (.move (.move ?_)))))))
              refine .minI ?_
              refine .leq ?_
              refine .cast (d := 95) (u := .bool true) rfl (congrArg Value.bool (decide_eq_true (by split <;> omega))) ?_
              refine .z ?_
              refine .condT rfl rfl ?_
              refine .sr (.move ?_)
              refine .eqi ?_
              refine .move ?_
              refine .gT ?_
              refine .move ?_
              refine .pickT ?_
              refine .move ?_
              refine .gT ?_
              refine .move ?_
              refine .gT ?_
              refine .move ?_
              refine .gT ?_
              refine .mul ?_
              refine .gT ?_
              refine .eqi ?_
              refine .cast (d := 105) (u := .bool true) rfl (congrArg Value.bool (decide_eq_true (by omega))) ?_
              refine .pickT ?_
              refine .move ?_
              refine .gT ?_
              refine .call (hc := Tryz.call15) (sp := l16Awake) (h := ?_)
              rintro _ _ ⟨rfl, rfl⟩
              refine .pickT ?_
              refine .assign (.z ?_)
              refine .ret (.thenRet (?_))
              exact .ret1 (h1 := .tmp (t := 4) rfl) ⟨_, ⟨rfl, rfl⟩, Am.auto⟩
            · by_cases h6 : 60 ≤ k
              · rw [show min k 60 = 60 from by omega] at hk ⊢
                refine .exit (.thenExit (.thenExit (.blockExit (?_))))
                refine .next (.sr (.move ?_))
                refine .call (hc := Tryz.call19) (sp := prOpen16 (f := f) (rangeP_ok (Nat.le_refl 60))) (h := ?_)
                rintro _ _ ⟨q, rfl, rfl⟩
                refine .move ?_
                refine .extract ?_
                refine .extract ?_
                refine .assign (.assign (.z (.seq (.sr (.move ?_)))))
                refine .nei ?_
                refine .move ?_
                refine .gT ?_
                refine .move ?_
                refine .gT ?_
                refine .eqNil ?_ ptr26
                refine .pickF ?_
                refine .move ?_
                refine .gT ?_
                refine .move ?_
                refine .gT ?_
                refine .call (hc := Tryz.call21) (sp := prLen (pr := q) (f := f) (path := [47, 119]) (L := rangeP 60)) (h := ?_)
                rintro _ _ ⟨rfl, rfl⟩
                rw [rangeP_length]
                refine .gT ?_
                refine .move ?_
                refine .gT ?_
                refine .minI ?_
                refine .gT ?_
                refine .nei ?_
                refine .cast (d := 81) (u := .bool false) rfl (congrArg Value.bool (by rw [decide_eq_true (by split <;> omega)]; rfl)) ?_
                refine .pickF ?_
                refine .z ?_
                refine .condF rfl rfl ?_
                refine .skip (.next (.sr (.move (.move (.move ?_)))))
                refine .rem ?_
                refine .cast (d := 87) (u := nI (K % 5)) rfl (congrArg (Value.int .i64) (by omega)) ?_
                refine .call (hc := Tryz.call20) (sp := prCheck (pr := q) (f := f) (path := [47, 119]) (L := rangeP 60) (id := (K : Int)) (seq := ((K % 5 : Nat) : Int)) (by omega)) (h := ?_)
                rintro _ _ ⟨rfl, rfl⟩
                rw [chk_many (by omega)]
                refine .move ?_
                refine .extract ?_
                refine .extract ?_
                refine .extract ?_
                refine .assign (.assign (.assign (.z (.seq (.sr (.move (.move ?_)))))))
                refine .minI ?_
                refine .leq ?_
                refine .cast (d := 95) (u := .bool false) rfl (congrArg Value.bool (decide_eq_false (by split <;> omega))) ?_
                refine .z ?_
                refine .condF rfl rfl ?_
                refine .skip (.next (.seq (.sr (.move ?_))))
                refine .geq ?_
                refine .z ?_
                refine .condT rfl (congrArg Value.bool (by first | (simp; done) | (simp; omega) | omega | (split <;> simp <;> omega))) ?_
                refine .sr (.move ?_)
                refine .eqi ?_
                refine .move ?_
                refine .gT ?_
                refine .call (hc := Tryz.call15) (sp := l16Awake) (h := ?_)
                rintro _ _ ⟨rfl, rfl⟩
                refine .pickT ?_
                refine .assign (.z ?_)
                refine .ret (.thenRet (?_))
                exact .ret1 (h1 := .tmp (t := 4) rfl) ⟨_, ⟨rfl, rfl⟩, Am.auto⟩
              · refine .exit (.thenExit (.thenExit (.blockExit (?_))))
                refine .next (.sr (.move ?_))
                refine .call (hc := Tryz.call19) (sp := prOpen16 (f := f) (rangeP_ok hm60)) (h := ?_)
                rintro _ _ ⟨q, rfl, rfl⟩
                refine .move ?_
                refine .extract ?_
                refine .extract ?_
                refine .assign (.assign (.z (.seq (.sr (.move ?_)))))
                refine .nei ?_
                refine .move ?_
                refine .gT ?_
                refine .move ?_
                refine .gT ?_
                refine .eqNil ?_ ptr26
                refine .pickF ?_
                refine .move ?_
                refine .gT ?_
                refine .move ?_
                refine .gT ?_
                refine .call (hc := Tryz.call21) (sp := prLen (pr := q) (f := f) (path := [47, 119]) (L := rangeP (min k 60))) (h := ?_)
                rintro _ _ ⟨rfl, rfl⟩
                rw [rangeP_length]
                refine .gT ?_
                refine .move ?_
                refine .gT ?_
                refine .minI ?_
                refine .gT ?_
                refine .nei ?_
                refine .cast (d := 81) (u := .bool false) rfl (congrArg Value.bool (by rw [decide_eq_true (by split <;> omega)]; rfl)) ?_
                refine .pickF ?_
                refine .z ?_
                refine .condF rfl rfl ?_
                refine .skip (.next (.sr (.move (.move (.move ?_)))))
                refine .rem ?_
                refine .cast (d := 87) (u := nI (K % 5)) rfl (congrArg (Value.int .i64) (by omega)) ?_
                refine .call (hc := Tryz.call20) (sp := prCheck (pr := q) (f := f) (path := [47, 119]) (L := rangeP (min k 60)) (id := (K : Int)) (seq := ((K % 5 : Nat) : Int)) (by omega)) (h := ?_)
                rintro _ _ ⟨rfl, rfl⟩
                rw [chk_free (by omega) (by omega)]
                refine .move ?_
                refine .extract ?_
                refine .extract ?_
                refine .extract ?_
                refine .assign (.assign (.assign (.z (.seq (.sr (.move (.move ?_)))))))
                refine .minI ?_
                refine .leq ?_
                refine .cast (d := 95) (u := .bool false) rfl (congrArg Value.bool (decide_eq_false (by split <;> omega))) ?_
                refine .z ?_
                refine .condF rfl rfl ?_
                refine .skip (.next (.seq (.sr (.move ?_))))
                refine .geq ?_
                refine .z ?_
                refine .condF rfl (congrArg Value.bool (by first | (simp; done) | (simp; omega) | omega | (split <;> simp <;> omega))) ?_
                refine .skip (.next (.sr (.move ?_)))
                refine .not ?_
                refine .move ?_
                refine .gT ?_
                refine .move ?_
                refine .gT ?_
                refine .eqi ?_
                refine .gT ?_
                refine .move ?_
                refine .gT ?_
                refine .rem ?_
                refine .gT ?_
                refine .eqi ?_
                refine .gT ?_
                refine .eqB ?_ bk4
                refine .cast (d := 125) (u := .bool true) rfl (congrArg Value.bool (by by_cases h5 : K % 5 = 0 <;> simp [h5] <;> omega)) ?_
                refine .pickT ?_
                refine .move ?_
                refine .gT ?_
                refine .call (hc := Tryz.call15) (sp := l16Awake) (h := ?_)
                rintro _ _ ⟨rfl, rfl⟩
                refine .pickT ?_
                refine .assign (.z ?_)
                refine .ret (?_)
                exact .ret1 (h1 := .tmp (t := 4) rfl) ⟨_, ⟨rfl, rfl⟩, Am.auto⟩
end Go.Proofs.YtmmlbepfonndaaaGreatDoor
end
