/- A part of the proof of lawRows: texts of this work put together. -/
import Derived.Test.YtmmlbepfonndaaaGreatDoorQa4
import Derived.KernelRfl
set_option linter.unusedVariables false
set_option linter.unusedSimpArgs false
set_option linter.unusedSectionVars false
section
namespace Go.Proofs.YtmmlbepfonndaaaGreatDoor
open Go
def pD (n ino : Nat) : Pl := ⟨n, ino, 246, 247, 248, 248 + (ino + 7) / 8, n - (248 + (ino + 7) / 8)⟩
theorem pD_is {n ino : Nat} (h1 : 1 ≤ ino) (h2 : ino ≤ 4096) (hn : 249 + (ino + 7) / 8 ≤ n) (hn2 : n ≤ 4000) : PlIs (pD n ino) := by
  refine ⟨?_, ?_, ?_, ?_, ?_, ?_, ?_, ?_, ?_, ?_, ?_⟩
  all_goals (simp only [pD]; try first | omega | (left; omega))
def wT (b : Bytes) : FT := fun i => if i = 0 then some (.dir [some ([119], 1)]) else if i = 1 then some (.file b) else none
theorem wT_ok (b : Bytes) : TOk (wT b) := by
  intro d sl h
  unfold wT at h
  split at h
  · injection h with h; injection h with h; subst h
    refine ⟨⟨fun q n i h => ?_, fun q r n i j h1 h2 => ?_⟩, by decide⟩
    · rcases q with _ | q
      · injection h with h; injection h with h; injection h with h1 h2; subst h1; subst h2; exact ⟨by decide, by decide⟩
      · simp at h
    · rcases q with _ | q
      · rcases r with _ | r
        · rfl
        · simp at h2
      · simp at h1
  · split at h
    · injection h with h; cases h
    · cases h
theorem wT_file (b : Bytes) : fileT (wT b) [47, 119] = (1, 1, b.length, 0) := rfl
theorem wT_1 (b : Bytes) : wT b 1 = some (.file b) := rfl
theorem wT_upd (b b' : Bytes) : updT (wT b) 1 (some (.file b')) = wT b' := by
  funext i
  unfold updT wT
  by_cases h : i = 1
  · subst h; rfl
  · rw [if_neg h]
    by_cases h0 : i = 0
    · rw [if_pos h0, if_pos h0]
    · rw [if_neg h0, if_neg h0, if_neg h, if_neg h]
theorem mkT_root : mkT rootT 0 [] [119] 1 (.file []) = wT [] := by
  funext i
  unfold mkT updT rootT wT
  by_cases h0 : i = 0
  · rw [if_pos h0, if_pos h0]; rfl
  · rw [if_neg h0, if_neg h0]
    by_cases h1 : i = 1
    · rw [if_pos h1, if_neg h0]
    · rw [if_neg h1, if_neg h0]
theorem tot_rootT (n : Nat) : tot (fmT rootT) n = 0 := by rw [fmT_root]; exact tot_root n
theorem has_64 : has 64 = 1 := rfl
theorem tot_wT (b : Bytes) {n : Nat} (h : 2 ≤ n) : tot (fmT (wT b)) n = 1 + has b.length := by
  obtain ⟨k, rfl⟩ : ∃ k, n = k + 2 := ⟨n - 2, by omega⟩
  clear h
  induction k with
  | zero =>
    show 0 + has 64 + has b.length = _
    rw [has_64]
  | succ k ih =>
    show tot (fmT (wT b)) (k + 2) + hasO (fmT (wT b) (k + 2)) = _
    rw [ih]
    have : fmT (wT b) (k + 2) = none := fmT_none (by unfold wT; rw [if_neg (by omega), if_neg (by omega)])
    rw [this]; rfl
theorem root_least {T : FT} (h : T 0 ≠ none) : ∀ j < 1, T j ≠ none := fun j hj => by rw [show j = 0 from by omega]; exact h
theorem p16_is : PlIs (pD 500 20) := pD_is (by decide) (by decide) (by decide) (by decide)
theorem prAccept16 {pr f : Nat} {L : List Prd} {r : Prd} (hL : POk L) (hr : PrdOk r) (hfu : lookP L (r.1 : Int) ≠ none ∨ L.length < 60) : Spec Tryz.prog 18 #[.pointer (some ⟨pr, 0, none⟩), nI r.1, nI r.2.1, nI r.2.2] [PD pr f [47, 119] L, FSR f (pD 500 20) (wT (rowsB L))] fun F v M => v = okV ∧ M = PD pr f [47, 119] (accP L r) :: FSR f (pD 500 20) (wT (rowsB (accP L r))) :: F := by
  have hl := rowsB_length L
  have hf := hL.few
  have := prAccept (pr := pr) (f := f) (i := 1) (p := pD 500 20) (T := wT (rowsB L)) (path := [47, 119]) (L := L) (r := r) p16_is.ok (wT_ok _) (by decide) (wT_file _) (wT_1 _) hr hfu (.inr (by decide)) (by
    rw [tot_wT _ (by decide)]
    have : (pD 500 20).dc = 249 := rfl
    omega)
  rwa [wT_upd] at this
theorem prOpen16 {f : Nat} {L : List Prd} (hL : POk L) : Spec Tryz.prog 19 #[.pointer (some ⟨f, 0, none⟩), sv [47, 119]] [FSR f (pD 500 20) (wT (rowsB L))] fun F v M => ∃ pr, v = .tuple #[.pointer (some ⟨pr, 0, none⟩), .int .i64 0] ∧ M = PD pr f [47, 119] L :: FSR f (pD 500 20) (wT (rowsB L)) :: F :=
  prOpen p16_is.ok (wT_ok _) (by decide) (wT_file _) (wT_1 _) hL
theorem prMake16 {f : Nat} : Spec Tryz.prog 52 #[.pointer (some ⟨f, 0, none⟩), sv [47, 119]] [FSR f (pD 500 20) rootT] fun F v M => v = okV ∧ M = FSR f (pD 500 20) (wT []) :: F := by
  refine Spec.intro Tryz.func52 rfl rfl fun B F => ?_
  simp only [Tryz.ntmps52, List.cons_append, List.nil_append, env0, Nat.reduceAdd]
  refine .sr (.assign (.x (.move (.move ?_))))
  refine .call (hc := Tryz.call22) (sp := fsCreate (f := f) (p := pD 500 20) (T := rootT) (path := [47, 119]) (d := 0) (i := 1) (nm := [119]) (sl := []) (x := .file []) p16_is.ok rootT_ok (by decide) (by decide) rfl rfl rfl (by decide) rfl (root_least (by decide)) rfl rfl (.inr (by decide)) (by rw [tot_rootT]; decide)) (h := ?_)
  rintro _ _ ⟨rfl, rfl⟩
  rw [mkT_root]
  refine .assign (.z ?_)
  refine .ret (?_)
  exact .ret1 (h1 := .tmp (t := 4) rfl) ⟨_, ⟨rfl, rfl⟩, Am.auto⟩
theorem l16Fresh : Spec Tryz.prog 16 #[] [] fun F v M => ∃ d f pr, v = .tuple #[.pointer (some ⟨d, 0, none⟩), .pointer (some ⟨f, 0, none⟩), .pointer (some ⟨pr, 0, none⟩), .bool true] ∧ M = PD pr f [47, 119] ([]) :: FSR f (pD 500 20) (wT (rowsB ([]))) :: F := by
  refine Spec.intro Tryz.func16 rfl rfl fun B F => ?_
  simp only [Tryz.ntmps16, List.cons_append, List.nil_append, env0, Nat.reduceAdd]
  refine .sr (.assign (.assign (.assign (.assign (.x ?_)))))
  refine .call (hc := Tryz.call45) (sp := devNew (n := 500) (by decide) (by decide)) (h := ?_)
  rintro _ _ ⟨d, rfl, rfl⟩
  refine .move ?_
  refine .extract ?_
  refine .extract ?_
  refine .assign (.assign (.z (.seq (.sr (.move ?_)))))
  refine .nei ?_
  refine .move ?_
  refine .gT ?_
  refine .move ?_
  refine .gT ?_
  refine .eqNil ?_ ptr24
  refine .pickF ?_
  refine .move ?_
  refine .gT ?_
  refine .move ?_
  refine .gT ?_
  refine .call (hc := Tryz.call47) (sp := fsMkfs p16_is) (h := ?_)
  rintro _ _ ⟨J, rfl, hJ, rfl⟩
  refine .gT ?_
  refine .nei ?_
  refine .pickF ?_
  refine .z ?_
  refine .condF rfl (congrArg Value.bool (by first | (simp; done) | (simp; omega) | omega)) ?_
  refine .skip (.next (.sr (.move ?_)))
  refine .call (hc := Tryz.call48) (sp := fsMountNew p16_is hJ) (h := ?_)
  rintro _ _ ⟨f, rfl, rfl⟩
  refine .move ?_
  refine .extract ?_
  refine .extract ?_
  refine .assign (.assign (.z (.seq (.sr (.move ?_)))))
  refine .nei ?_
  refine .move ?_
  refine .gT ?_
  refine .move ?_
  refine .gT ?_
  refine .eqNil ?_ ptr25
  refine .pickF ?_
  refine .move ?_
  refine .gT ?_
  refine .move ?_
  refine .gT ?_
  refine .call (hc := Tryz.call52) (sp := prMake16 (f := f)) (h := ?_)
  rintro _ _ ⟨rfl, rfl⟩
  refine .gT ?_
  refine .nei ?_
  refine .pickF ?_
  refine .z ?_
  refine .condF rfl (congrArg Value.bool (by first | (simp; done) | (simp; omega) | omega)) ?_
  refine .skip (.next (.sr (.move ?_)))
  refine .call (hc := Tryz.call19) (sp := prOpen16 (f := f) POk.nil) (h := ?_)
  rintro _ _ ⟨pr, rfl, rfl⟩
  refine .move ?_
  refine .extract ?_
  refine .extract ?_
  refine .assign (.assign (.x (.move (.move (.move (.move ?_))))))
  refine .eqi ?_
  refine .move ?_
  refine .gT ?_
  refine .move ?_
  refine .gT ?_
  refine .neNil ?_ ptr26
  refine .pickT ?_
  refine .assign (.assign (.assign (.assign (.z ?_))))
  refine .ret (?_)
  exact .ret4 (h1 := .tmp (t := 0) rfl) (h2 := .tmp (t := 1) rfl) (h3 := .tmp (t := 2) rfl) (h4 := .tmp (t := 3) rfl) ⟨_, ⟨d, f, pr, rfl, rfl⟩, Am.auto⟩
theorem l16Awake : Spec Tryz.prog 15 #[] [] fun F v M => v = .bool true ∧ M = F := by
  refine Spec.intro Tryz.func15 rfl rfl fun B F => ?_
  simp only [Tryz.ntmps15, List.cons_append, List.nil_append, env0, Nat.reduceAdd]
  refine .sr (.assign (.x ?_))
  refine .call (hc := Tryz.call16) (sp := l16Fresh) (h := ?_)
  rintro _ _ ⟨d, f, pr, rfl, rfl⟩
  refine .move ?_
  refine .extract ?_
  refine .extract ?_
  refine .extract ?_
  refine .extract ?_
  refine .assign (.assign (.assign (.assign (.z (.seq (.sr (.move ?_)))))))
  refine .not ?_
  refine .move ?_
  refine .gT ?_
  refine .move ?_
  refine .gT ?_
  refine .call (hc := Tryz.call18) (sp := prAccept16 (L := []) (r := (7, 0, 100)) POk.nil ⟨by decide, by decide, by decide, by decide⟩ (.inr (by decide))) (h := ?_)
  rintro _ _ ⟨rfl, rfl⟩
  refine .gT ?_
  refine .nei ?_
  refine .pickF ?_
  refine .z ?_
  refine .condF rfl (congrArg Value.bool (by first | (simp; done) | (simp; omega) | omega)) ?_
  refine .skip (.next (.sr (.move ?_)))
  refine .call (hc := Tryz.call20) (sp := prCheck (pr := pr) (f := f) (path := [47, 119]) (L := [(7, 0, 100)]) (id := 7) (seq := 0) (by decide)) (h := ?_)
  rintro _ _ ⟨rfl, rfl⟩
  rw [show chkP [(7, 0, 100)] 7 0 = (100, true, 0) from rfl]
  refine .move ?_
  refine .extract ?_
  refine .extract ?_
  refine .extract ?_
  refine .assign (.assign (.assign (.x (.move ?_))))
  refine .call (hc := Tryz.call20) (sp := prCheck (pr := pr) (f := f) (path := [47, 119]) (L := [(7, 0, 100)]) (id := 7) (seq := 2) (by decide)) (h := ?_)
  rintro _ _ ⟨rfl, rfl⟩
  rw [show chkP [(7, 0, 100)] 7 2 = (0, false, 11) from rfl]
  refine .move ?_
  refine .extract ?_
  refine .extract ?_
  refine .extract ?_
  refine .assign (.assign (.assign (.x (.move ?_))))
  refine .call (hc := Tryz.call20) (sp := prCheck (pr := pr) (f := f) (path := [47, 119]) (L := [(7, 0, 100)]) (id := 8) (seq := 1) (by decide)) (h := ?_)
  rintro _ _ ⟨rfl, rfl⟩
  rw [show chkP [(7, 0, 100)] 8 1 = (0, false, 11) from rfl]
  refine .move ?_
  refine .extract ?_
  refine .extract ?_
  refine .extract ?_
  refine .assign (.assign (.assign (.x (.move ?_))))
  refine .eqi ?_
  refine .move ?_
  refine .gT ?_
  refine .move ?_
  refine .pickT ?_
  refine .move ?_
  refine .gT ?_
  refine .move ?_
  refine .gT ?_
  refine .eqi ?_
  refine .pickT ?_
  refine .move ?_
  refine .gT ?_
  refine .move ?_
  refine .gT ?_
  refine .eqi ?_
  refine .pickT ?_
  refine .move ?_
  refine .gT ?_
  refine .move ?_
  refine .gT ?_
  refine .eqi ?_
  refine .pickT ?_
  refine .assign (.z ?_)
  refine .ret (?_)
  exact .ret1 (h1 := .tmp (t := 0) rfl) ⟨_, ⟨rfl, rfl⟩, Am.auto⟩
end Go.Proofs.YtmmlbepfonndaaaGreatDoor
end
section
namespace Go.Proofs.YtmmlbepfonndaaaGreatDoor
open Go
def oneP (id k : Nat) : List Prd := if k = 0 then [] else [(id, k - 1, 10 * (k - 1))]
theorem lookP_one (id s b : Nat) : lookP [(id, s, b)] (id : Int) = some 0 := by unfold lookP; rw [if_pos rfl]
theorem oneP_ok {id k : Nat} (h1 : 1 ≤ id) (h2 : id < 2 ^ 63) (hk : k ≤ 1000) : POk (oneP id k) := by
  unfold oneP
  split
  · exact POk.nil
  · refine ⟨fun r hr => ?_, fun q r hq hr _ => ?_, by show 1 ≤ 60; decide⟩
    · simp only [List.mem_cons, List.not_mem_nil, or_false] at hr
      subst hr
      exact ⟨h1, h2, by show k - 1 < _; omega, by show 10 * (k - 1) ≤ _; omega⟩
    · simp only [List.length_cons, List.length_nil] at hq hr; omega
theorem oneP_acc (id k : Nat) : accP (oneP id k) (id, k, 10 * k) = oneP id (k + 1) := by
  unfold accP oneP
  rw [if_neg (Nat.succ_ne_zero k)]
  by_cases h : k = 0
  · subst h; rfl
  · rw [if_neg h]
    simp only [lookP_one]
    rfl
theorem oneP_full (id k : Nat) : lookP (oneP id k) ((id, k, 10 * k) : Prd).1 ≠ none ∨ (oneP id k).length < 60 := by
  right
  unfold oneP
  split <;> simp
theorem chk_new {id k : Nat} (h1 : 1 ≤ id) : chkP (oneP id k) (id : Int) (k : Int) = (0, false, 0) := by
  unfold chkP
  rw [if_neg (by omega)]
  unfold oneP
  by_cases h : k = 0
  · subst h; rfl
  · rw [if_neg h, lookP_one]
    simp only [List.getD_cons_zero]
    rw [if_neg (by omega), if_pos (by omega)]
theorem chk_at {id k : Nat} (h1 : 1 ≤ id) : chkP (oneP id (k + 1)) (id : Int) (k : Int) = (10 * (k : Int), true, 0) := by
  unfold chkP
  rw [if_neg (by omega)]
  unfold oneP
  rw [if_neg (Nat.succ_ne_zero k), lookP_one]
  simp only [List.getD_cons_zero, Nat.add_sub_cancel]
  simp
theorem chk_far {id k : Nat} (h1 : 1 ≤ id) {j : Int} (h0 : 0 ≤ j) (hj : j ≠ k ∧ j - 1 ≠ k) : chkP (oneP id (k + 1)) (id : Int) j = (0, false, 11) := by
  unfold chkP
  rw [if_neg (by omega)]
  unfold oneP
  rw [if_neg (Nat.succ_ne_zero k), lookP_one]
  simp only [List.getD_cons_zero, Nat.add_sub_cancel]
  rw [if_neg hj.1, if_neg hj.2]
theorem oneP_length (id k : Nat) : (oneP id k).length = min k 1 := by
  unfold oneP
  split
  · rename_i h; subst h; rfl
  · show 1 = _; omega
theorem lawRows {n id : Int} (hn : -9223372036854775808 ≤ n ∧ n ≤ 9223372036854775807) (hi : -9223372036854775808 ≤ id ∧ id ≤ 9223372036854775807) : Spec Tryz.prog 5 #[.int .i64 n, .int .i64 id] [] fun F v M => v = .bool true ∧ M = F := by
  refine Spec.intro Tryz.func5 rfl rfl fun B F => ?_
  simp only [Tryz.ntmps5, List.cons_append, List.nil_append, env0, Nat.reduceAdd]
  by_cases h1 : n < 0
  · refine .sr (.assign (.z (.seq (.sr (.move ?_)))))
    refine .lss ?_
    refine .move ?_
    refine .cast (d := 23) (u := .bool true) rfl (congrArg Value.bool (by first | (simp; done) | (simp; omega) | omega)) ?_
    refine .gF ?_
    refine .gF ?_
    refine .pickT ?_
    refine .move ?_
    refine .gF ?_
    refine .gF ?_
    refine .pickT ?_
    refine .z ?_
    refine .condT rfl rfl ?_
    refine .sr ?_
    refine .call (hc := Tryz.call15) (sp := l16Awake) (h := ?_)
    rintro _ _ ⟨rfl, rfl⟩
    refine .assign (.z ?_)
    refine .ret (.thenRet (?_))
    exact .ret1 (h1 := .tmp (t := 4) rfl) ⟨_, ⟨rfl, rfl⟩, Am.auto⟩
  · by_cases h2 : 40 < n
    · refine .sr (.assign (.z (.seq (.sr (.move ?_)))))
      refine .lss ?_
      refine .move ?_
      refine .cast (d := 23) (u := .bool false) rfl (congrArg Value.bool (by first | (simp; done) | (simp; omega) | omega)) ?_
      refine .gT ?_
      refine .move ?_
      refine .gT ?_
      refine .gtr ?_
      refine .pickF ?_
      refine .move ?_
      refine .cast (d := 27) (u := .bool true) rfl (congrArg Value.bool (by first | (simp; done) | (simp; omega) | omega)) ?_
      refine .gF ?_
      refine .gF ?_
      refine .pickT ?_
      refine .z ?_
      refine .condT rfl rfl ?_
      refine .sr ?_
      refine .call (hc := Tryz.call15) (sp := l16Awake) (h := ?_)
      rintro _ _ ⟨rfl, rfl⟩
      refine .assign (.z ?_)
      refine .ret (.thenRet (?_))
      exact .ret1 (h1 := .tmp (t := 4) rfl) ⟨_, ⟨rfl, rfl⟩, Am.auto⟩
    · by_cases h3 : id < 1
      · refine .sr (.assign (.z (.seq (.sr (.move ?_)))))
        refine .lss ?_
        refine .move ?_
        refine .cast (d := 23) (u := .bool false) rfl (congrArg Value.bool (by first | (simp; done) | (simp; omega) | omega)) ?_
        refine .gT ?_
        refine .move ?_
        refine .gT ?_
        refine .gtr ?_
        refine .pickF ?_
        refine .move ?_
        refine .cast (d := 27) (u := .bool false) rfl (congrArg Value.bool (by first | (simp; done) | (simp; omega) | omega)) ?_
        refine .gT ?_
        refine .move ?_
        refine .gT ?_
        refine .lss ?_
        refine .pickF ?_
        refine .z ?_
        refine .condT rfl (congrArg Value.bool (by first | (simp; done) | (simp; omega) | omega)) ?_
        refine .sr ?_
        refine .call (hc := Tryz.call15) (sp := l16Awake) (h := ?_)
        rintro _ _ ⟨rfl, rfl⟩
        refine .assign (.z ?_)
        refine .ret (.thenRet (?_))
        exact .ret1 (h1 := .tmp (t := 4) rfl) ⟨_, ⟨rfl, rfl⟩, Am.auto⟩
      · obtain ⟨N, rfl⟩ : ∃ N : Nat, n = N := ⟨n.toNat, by omega⟩
        obtain ⟨ID, rfl⟩ : ∃ I : Nat, id = I := ⟨id.toNat, by omega⟩
        refine .sr (.assign (.z (.seq (.sr (.move ?_)))))
        refine .lss ?_
        refine .move ?_
        refine .cast (d := 23) (u := .bool false) rfl (congrArg Value.bool (by first | (simp; done) | (simp; omega) | omega)) ?_
        refine .gT ?_
        refine .move ?_
        refine .gT ?_
        refine .gtr ?_
        refine .pickF ?_
        refine .move ?_
        refine .cast (d := 27) (u := .bool false) rfl (congrArg Value.bool (by first | (simp; done) | (simp; omega) | omega)) ?_
        refine .gT ?_
        refine .move ?_
        refine .gT ?_
        refine .lss ?_
        refine .pickF ?_
        refine .z ?_
        refine .condF rfl (congrArg Value.bool (by first | (simp; done) | (simp; omega) | omega)) ?_
        refine .skip (.next (.sr ?_))
        refine .call (hc := Tryz.call16) (sp := l16Fresh) (h := ?_)
        rintro _ _ ⟨d, f, pr, rfl, rfl⟩
        refine .move ?_
        refine .extract ?_
        refine .extract ?_
        refine .extract ?_
        refine .extract ?_
        refine .assign (.assign (.assign (.assign (.z (.seq (.sr (.move ?_)))))))
        refine .not ?_
        refine .z ?_
        refine .condF rfl rfl ?_
        refine .skip (.next (.seq (.sr (.assign (.z (.block ?_))))))
        refine .to (A := PD pr f [47, 119] []) (A' := PD pr f [47, 119] (oneP ID 0)) (fun h hh => hh) ?_
        refine .to (A := FSR f (pD 500 20) (wT (rowsB []))) (A' := FSR f (pD 500 20) (wT (rowsB (oneP ID 0)))) (fun h hh => hh) ?_
        refine .loopA (σ := Nat) (fun k => [(0, .int .i64 (N : Int)), (1, .int .i64 (ID : Int)), (7, .pointer (some ⟨pr, 0, none⟩)), (9, .int .i64 ((k : Nat) : Int))]) (fun k => PD pr f [47, 119] (oneP ID k) :: FSR f (pD 500 20) (wT (rowsB (oneP ID k))) :: F) (fun k => k ≤ N) (fun k => N - k) 0 (Nat.zero_le _) ?_
        rintro k hk
        refine .seq (.sr (.move (.move ?_)))
        refine .lss ?_
        refine .z ?_
        refine .cond rfl (fun hb => ?_) (fun hb => ?_)
        · have hlt : k < N := by have h : (k : Int) < (N : Int) := of_decide_eq_true hb; omega
          have hok := oneP_ok (id := ID) (k := k) (by omega) (by omega) (by omega)
          by_cases hk0 : k = 0
          · refine .skip (.next (.seq (.block (.sr (.move (.move (.move ?_)))))))
            refine .call (hc := Tryz.call20) (sp := prCheck (pr := pr) (f := f) (path := [47, 119]) (L := (oneP ID k)) (id := (ID : Int)) (seq := (k : Int)) (by omega)) (h := ?_)
            rintro _ _ ⟨rfl, rfl⟩
            rw [chk_new (by omega)]
            refine .move ?_
            refine .extract ?_
            refine .extract ?_
            refine .extract ?_
            refine .assign (.assign (.assign (.z (.seq (.sr (.move (.move ?_)))))))
            refine .gT ?_
            refine .move ?_
            refine .gT ?_
            refine .nei ?_
            refine .pickF ?_
            refine .move ?_
            refine .cast (d := 58) (u := .bool false) rfl (congrArg Value.bool (by first | (simp; done) | (simp; omega) | omega)) ?_
            refine .gT ?_
            refine .move ?_
            refine .gT ?_
            refine .move ?_
            refine .gT ?_
            refine .move ?_
            refine .gT ?_
            refine .move ?_
            refine .gT ?_
            refine .mul ?_
            refine .cast (d := 63) (u := nI (10 * k)) rfl (congrArg (Value.int .i64) (by omega)) ?_
            refine .gT ?_
            refine .call (hc := Tryz.call18) (sp := prAccept16 (pr := pr) (f := f) (L := oneP ID k) (r := (ID, k, 10 * k)) hok ⟨by omega, by omega, by show k < _; omega, by show 10 * k ≤ _; omega⟩ (oneP_full ID k)) (h := ?_)
            rintro _ _ ⟨rfl, rfl⟩
            rw [oneP_acc]
            refine .gT ?_
            refine .nei ?_
            refine .pickF ?_
            refine .z ?_
            refine .condF rfl (congrArg Value.bool (by first | (simp; done) | (simp; omega) | omega)) ?_
            refine .skip (.next (.sr (.move (.move (.move ?_)))))
            refine .call (hc := Tryz.call20) (sp := prCheck (pr := pr) (f := f) (path := [47, 119]) (L := (oneP ID (k + 1))) (id := (ID : Int)) (seq := (k : Int)) (by omega)) (h := ?_)
            rintro _ _ ⟨rfl, rfl⟩
            rw [chk_at (by omega)]
            refine .move ?_
            refine .extract ?_
            refine .extract ?_
            refine .extract ?_
            refine .assign (.assign (.assign (.x (.move (.move (.move ?_))))))
            refine .add ?_
            refine .call (hc := Tryz.call20) (sp := prCheck (pr := pr) (f := f) (path := [47, 119]) (L := (oneP ID (k + 1))) (id := (ID : Int)) (seq := ((k : Int) + 2)) (by omega)) (h := ?_)
            rintro _ _ ⟨rfl, rfl⟩
            rw [chk_far (by omega) (j := (k : Int) + 2) (by omega) ⟨by omega, by omega⟩]
            refine .move ?_
            refine .extract ?_
            refine .extract ?_
            refine .extract ?_
            refine .assign (.assign (.assign (.z (.seq (.sr (.move ?_))))))
            refine .not ?_
            refine .move ?_
            refine .gT ?_
            refine .move ?_
            refine .gT ?_
            refine .nei ?_
            refine .pickF ?_
            refine .move ?_
            refine .cast (d := 90) (u := .bool false) rfl (congrArg Value.bool (by first | (simp; done) | (simp; omega) | omega)) ?_
            refine .gT ?_
            refine .move ?_
            refine .gT ?_
            refine .move ?_
            refine .gT ?_
            refine .mul ?_
            refine .gT ?_
            refine .nei ?_
            refine .pickF ?_
            refine .move ?_
            refine .cast (d := 96) (u := .bool false) rfl (congrArg Value.bool (by first | (simp; done) | (simp; omega) | omega)) ?_
            refine .gT ?_
            refine .move ?_
            refine .gT ?_
            refine .nei ?_
            refine .pickF ?_
            refine .z ?_
            refine .condF rfl (congrArg Value.bool (by first | (simp; done) | (simp; omega) | omega)) ?_
            refine .skip (.next (.sr (.move ?_)))
            refine .gtr ?_
            refine .z ?_
            refine .condF rfl (congrArg Value.bool (by first | (simp; done) | (simp; omega) | omega)) ?_
            refine .skip (.blockNormal (.next (.region (.move ?_))))
            refine .add ?_
            refine .assign (.nil ?_)
            refine .cast (d := 9) (u := .int .i64 ((k + 1 : Nat) : Int)) rfl (congrArg (Value.int .i64) (by omega)) ?_
            exact .back (k + 1) (by show k + 1 ≤ N; omega) (by show N - (k + 1) < N - k; omega)
          · refine .skip (.next (.seq (.block (.sr (.move (.move (.move ?_)))))))
            refine .call (hc := Tryz.call20) (sp := prCheck (pr := pr) (f := f) (path := [47, 119]) (L := (oneP ID k)) (id := (ID : Int)) (seq := (k : Int)) (by omega)) (h := ?_)
            rintro _ _ ⟨rfl, rfl⟩
            rw [chk_new (by omega)]
            refine .move ?_
            refine .extract ?_
            refine .extract ?_
            refine .extract ?_
            refine .assign (.assign (.assign (.z (.seq (.sr (.move (.move ?_)))))))
            refine .gT ?_
            refine .move ?_
            refine .gT ?_
            refine .nei ?_
            refine .pickF ?_
            refine .move ?_
            refine .cast (d := 58) (u := .bool false) rfl (congrArg Value.bool (by first | (simp; done) | (simp; omega) | omega)) ?_
            refine .gT ?_
            refine .move ?_
            refine .gT ?_
            refine .move ?_
            refine .gT ?_
            refine .move ?_
            refine .gT ?_
            refine .move ?_
            refine .gT ?_
            refine .mul ?_
            refine .cast (d := 63) (u := nI (10 * k)) rfl (congrArg (Value.int .i64) (by omega)) ?_
            refine .gT ?_
            refine .call (hc := Tryz.call18) (sp := prAccept16 (pr := pr) (f := f) (L := oneP ID k) (r := (ID, k, 10 * k)) hok ⟨by omega, by omega, by show k < _; omega, by show 10 * k ≤ _; omega⟩ (oneP_full ID k)) (h := ?_)
            rintro _ _ ⟨rfl, rfl⟩
            rw [oneP_acc]
            refine .gT ?_
            refine .nei ?_
            refine .pickF ?_
            refine .z ?_
            refine .condF rfl (congrArg Value.bool (by first | (simp; done) | (simp; omega) | omega)) ?_
            refine .skip (.next (.sr (.move (.move (.move ?_)))))
            refine .call (hc := Tryz.call20) (sp := prCheck (pr := pr) (f := f) (path := [47, 119]) (L := (oneP ID (k + 1))) (id := (ID : Int)) (seq := (k : Int)) (by omega)) (h := ?_)
            rintro _ _ ⟨rfl, rfl⟩
            rw [chk_at (by omega)]
            refine .move ?_
            refine .extract ?_
            refine .extract ?_
            refine .extract ?_
            refine .assign (.assign (.assign (.x (.move (.move (.move ?_))))))
            refine .add ?_
            refine .call (hc := Tryz.call20) (sp := prCheck (pr := pr) (f := f) (path := [47, 119]) (L := (oneP ID (k + 1))) (id := (ID : Int)) (seq := ((k : Int) + 2)) (by omega)) (h := ?_)
            rintro _ _ ⟨rfl, rfl⟩
            rw [chk_far (by omega) (j := (k : Int) + 2) (by omega) ⟨by omega, by omega⟩]
            refine .move ?_
            refine .extract ?_
            refine .extract ?_
            refine .extract ?_
            refine .assign (.assign (.assign (.z (.seq (.sr (.move ?_))))))
            refine .not ?_
            refine .move ?_
            refine .gT ?_
            refine .move ?_
            refine .gT ?_
            refine .nei ?_
            refine .pickF ?_
            refine .move ?_
            refine .cast (d := 90) (u := .bool false) rfl (congrArg Value.bool (by first | (simp; done) | (simp; omega) | omega)) ?_
            refine .gT ?_
            refine .move ?_
            refine .gT ?_
            refine .move ?_
            refine .gT ?_
            refine .mul ?_
            refine .gT ?_
            refine .nei ?_
            refine .pickF ?_
            refine .move ?_
            refine .cast (d := 96) (u := .bool false) rfl (congrArg Value.bool (by first | (simp; done) | (simp; omega) | omega)) ?_
            refine .gT ?_
            refine .move ?_
            refine .gT ?_
            refine .nei ?_
            refine .pickF ?_
            refine .z ?_
            refine .condF rfl (congrArg Value.bool (by first | (simp; done) | (simp; omega) | omega)) ?_
            refine .skip (.next (.sr (.move ?_)))
            refine .gtr ?_
            refine .z ?_
            refine .condT rfl (congrArg Value.bool (by first | (simp; done) | (simp; omega) | omega)) ?_
            refine .sr (.move (.move (.move ?_)))
            refine .sub ?_
            refine .call (hc := Tryz.call20) (sp := prCheck (pr := pr) (f := f) (path := [47, 119]) (L := (oneP ID (k + 1))) (id := (ID : Int)) (seq := ((k : Int) - 1)) (by omega)) (h := ?_)
            rintro _ _ ⟨rfl, rfl⟩
            rw [chk_far (by omega) (j := (k : Int) - 1) (by omega) ⟨by omega, by omega⟩]
            refine .move ?_
            refine .extract ?_
            refine .extract ?_
            refine .extract ?_
            refine .assign (.assign (.assign (.x (.move ?_))))
            refine .nei ?_
            refine .z ?_
            refine .condF rfl (congrArg Value.bool (by first | (simp; done) | (simp; omega) | omega)) ?_
            refine .skip (.blockNormal (.next (.region (.move ?_))))
            refine .add ?_
            refine .assign (.nil ?_)
            refine .cast (d := 9) (u := .int .i64 ((k + 1 : Nat) : Int)) rfl (congrArg (Value.int .i64) (by omega)) ?_
            exact .back (k + 1) (by show k + 1 ≤ N; omega) (by show N - (k + 1) < N - k; omega)
        · have hge : k = N := by have h : ¬ (k : Int) < (N : Int) := of_decide_eq_false hb; omega
          subst hge
          refine .exit (.thenExit (.thenExit (.blockExit (?_))))
          refine .next (.sr (.move ?_))
          refine .call (hc := Tryz.call21) (sp := prLen (pr := pr) (f := f) (path := [47, 119]) (L := oneP ID k)) (h := ?_)
          rintro _ _ ⟨rfl, rfl⟩
          rw [oneP_length]
          refine .move ?_
          refine .minI ?_
          refine .eqi ?_
          refine .cast (d := 117) (u := .bool true) rfl (congrArg Value.bool (decide_eq_true (by split <;> omega))) ?_
          refine .move ?_
          refine .gT ?_
          refine .call (hc := Tryz.call15) (sp := l16Awake) (h := ?_)
          rintro _ _ ⟨rfl, rfl⟩
          refine .pickT ?_
          refine .assign (.z ?_)
          refine .ret (?_)
          exact .ret1 (h1 := .tmp (t := 4) rfl) ⟨_, ⟨rfl, rfl⟩, Am.auto⟩
end Go.Proofs.YtmmlbepfonndaaaGreatDoor
end
