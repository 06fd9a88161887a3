/- A part of the proof of lawKept: texts of this work put together. -/
import Derived.Test.YtmmlbepfonndaaaGreatDoorQc4
import Derived.KernelRfl
set_option linter.unusedVariables false
set_option linter.unusedSimpArgs false
set_option linter.unusedSectionVars false
section
namespace Go.Proofs.YtmmlbepfonndaaaGreatDoor
open Go
def pD (n ino : Nat) : Pl := ⟨n, ino, 246, 247, 248, 248 + (ino + 7) / 8, n - (248 + (ino + 7) / 8)⟩
theorem pD_is {n ino : Nat} (h1 : 1 ≤ ino) (h2 : ino ≤ 4096) (hn : 249 + (ino + 7) / 8 ≤ n) (hn2 : n ≤ 4000) : PlIs (pD n ino) := by
  refine ⟨?_, ?_, ?_, ?_, ?_, ?_, ?_, ?_, ?_, ?_, ?_⟩
  all_goals (simp only [pD]; try first | omega | (left; omega))
def wT (b : Bytes) : FT := fun i => if i = 0 then some (.dir [some ([119], 1)]) else if i = 1 then some (.file b) else none
theorem wT_ok (b : Bytes) : TOk (wT b) := by
  intro d sl h
  unfold wT at h
  split at h
  · injection h with h; injection h with h; subst h
    refine ⟨⟨fun q n i h => ?_, fun q r n i j h1 h2 => ?_⟩, by decide⟩
    · rcases q with _ | q
      · injection h with h; injection h with h; injection h with h1 h2; subst h1; subst h2; exact ⟨by decide, by decide⟩
      · simp at h
    · rcases q with _ | q
      · rcases r with _ | r
        · rfl
        · simp at h2
      · simp at h1
  · split at h
    · injection h with h; cases h
    · cases h
theorem wT_file (b : Bytes) : fileT (wT b) [47, 119] = (1, 1, b.length, 0) := rfl
theorem wT_1 (b : Bytes) : wT b 1 = some (.file b) := rfl
theorem wT_upd (b b' : Bytes) : updT (wT b) 1 (some (.file b')) = wT b' := by
  funext i
  unfold updT wT
  by_cases h : i = 1
  · subst h; rfl
  · rw [if_neg h]
    by_cases h0 : i = 0
    · rw [if_pos h0, if_pos h0]
    · rw [if_neg h0, if_neg h0, if_neg h, if_neg h]
theorem mkT_root : mkT rootT 0 [] [119] 1 (.file []) = wT [] := by
  funext i
  unfold mkT updT rootT wT
  by_cases h0 : i = 0
  · rw [if_pos h0, if_pos h0]; rfl
  · rw [if_neg h0, if_neg h0]
    by_cases h1 : i = 1
    · rw [if_pos h1, if_neg h0]
    · rw [if_neg h1, if_neg h0]
theorem tot_rootT (n : Nat) : tot (fmT rootT) n = 0 := by rw [fmT_root]; exact tot_root n
theorem has_64 : has 64 = 1 := rfl
theorem tot_wT (b : Bytes) {n : Nat} (h : 2 ≤ n) : tot (fmT (wT b)) n = 1 + has b.length := by
  obtain ⟨k, rfl⟩ : ∃ k, n = k + 2 := ⟨n - 2, by omega⟩
  clear h
  induction k with
  | zero =>
    show 0 + has 64 + has b.length = _
    rw [has_64]
  | succ k ih =>
    show tot (fmT (wT b)) (k + 2) + hasO (fmT (wT b) (k + 2)) = _
    rw [ih]
    have : fmT (wT b) (k + 2) = none := fmT_none (by unfold wT; rw [if_neg (by omega), if_neg (by omega)])
    rw [this]; rfl
theorem root_least {T : FT} (h : T 0 ≠ none) : ∀ j < 1, T j ≠ none := fun j hj => by rw [show j = 0 from by omega]; exact h
theorem p16_is : PlIs (pD 500 20) := pD_is (by decide) (by decide) (by decide) (by decide)
theorem prAccept16 {pr f : Nat} {L : List Prd} {r : Prd} (hL : POk L) (hr : PrdOk r) (hfu : lookP L (r.1 : Int) ≠ none ∨ L.length < 60) : Spec Tryz.prog 18 #[.pointer (some ⟨pr, 0, none⟩), nI r.1, nI r.2.1, nI r.2.2] [PD pr f [47, 119] L, FSR f (pD 500 20) (wT (rowsB L))] fun F v M => v = okV ∧ M = PD pr f [47, 119] (accP L r) :: FSR f (pD 500 20) (wT (rowsB (accP L r))) :: F := by
  have hl := rowsB_length L
  have hf := hL.few
  have := prAccept (pr := pr) (f := f) (i := 1) (p := pD 500 20) (T := wT (rowsB L)) (path := [47, 119]) (L := L) (r := r) p16_is.ok (wT_ok _) (by decide) (wT_file _) (wT_1 _) hr hfu (.inr (by decide)) (by
    rw [tot_wT _ (by decide)]
    have : (pD 500 20).dc = 249 := rfl
    omega)
  rwa [wT_upd] at this
theorem prOpen16 {f : Nat} {L : List Prd} (hL : POk L) : Spec Tryz.prog 19 #[.pointer (some ⟨f, 0, none⟩), sv [47, 119]] [FSR f (pD 500 20) (wT (rowsB L))] fun F v M => ∃ pr, v = .tuple #[.pointer (some ⟨pr, 0, none⟩), .int .i64 0] ∧ M = PD pr f [47, 119] L :: FSR f (pD 500 20) (wT (rowsB L)) :: F :=
  prOpen p16_is.ok (wT_ok _) (by decide) (wT_file _) (wT_1 _) hL
theorem prMake16 {f : Nat} : Spec Tryz.prog 52 #[.pointer (some ⟨f, 0, none⟩), sv [47, 119]] [FSR f (pD 500 20) rootT] fun F v M => v = okV ∧ M = FSR f (pD 500 20) (wT []) :: F := by
  refine Spec.intro Tryz.func52 rfl rfl fun B F => ?_
  simp only [Tryz.ntmps52, List.cons_append, List.nil_append, env0, Nat.reduceAdd]
  refine .sr (.assign (.x (.move (.move ?_))))
  refine .call (hc := Tryz.call22) (sp := fsCreate (f := f) (p := pD 500 20) (T := rootT) (path := [47, 119]) (d := 0) (i := 1) (nm := [119]) (sl := []) (x := .file []) p16_is.ok rootT_ok (by decide) (by decide) rfl rfl rfl (by decide) rfl (root_least (by decide)) rfl rfl (.inr (by decide)) (by rw [tot_rootT]; decide)) (h := ?_)
  rintro _ _ ⟨rfl, rfl⟩
  rw [mkT_root]
  refine .assign (.z ?_)
  refine .ret (?_)
  exact .ret1 (h1 := .tmp (t := 4) rfl) ⟨_, ⟨rfl, rfl⟩, Am.auto⟩
theorem l16Fresh : Spec Tryz.prog 16 #[] [] fun F v M => ∃ d f pr, v = .tuple #[.pointer (some ⟨d, 0, none⟩), .pointer (some ⟨f, 0, none⟩), .pointer (some ⟨pr, 0, none⟩), .bool true] ∧ M = PD pr f [47, 119] ([]) :: FSR f (pD 500 20) (wT (rowsB ([]))) :: F := by
  refine Spec.intro Tryz.func16 rfl rfl fun B F => ?_
  simp only [Tryz.ntmps16, List.cons_append, List.nil_append, env0, Nat.reduceAdd]
  refine .sr (.assign (.assign (.assign (.assign (.x ?_)))))
  refine .call (hc := Tryz.call45) (sp := devNew (n := 500) (by decide) (by decide)) (h := ?_)
  rintro _ _ ⟨d, rfl, rfl⟩
  refine .move ?_
  refine .extract ?_
  refine .extract ?_
  refine .assign (.assign (.z (.seq (.sr (.move ?_)))))
  refine .nei ?_
  refine .move ?_
  refine .gT ?_
  refine .move ?_
  refine .gT ?_
  refine .eqNil ?_ ptr24
  refine .pickF ?_
  refine .move ?_
  refine .gT ?_
  refine .move ?_
  refine .gT ?_
  refine .call (hc := Tryz.call47) (sp := fsMkfs p16_is) (h := ?_)
  rintro _ _ ⟨J, rfl, hJ, rfl⟩
  refine .gT ?_
  refine .nei ?_
  refine .pickF ?_
  refine .z ?_
  refine .condF rfl (congrArg Value.bool (by first | (simp; done) | (simp; omega) | omega)) ?_
  refine .skip (.next (.sr (.move ?_)))
  refine .call (hc := Tryz.call48) (sp := fsMountNew p16_is hJ) (h := ?_)
  rintro _ _ ⟨f, rfl, rfl⟩
  refine .move ?_
  refine .extract ?_
  refine .extract ?_
  refine .assign (.assign (.z (.seq (.sr (.move ?_)))))
  refine .nei ?_
  refine .move ?_
  refine .gT ?_
  refine .move ?_
  refine .gT ?_
  refine .eqNil ?_ ptr25
  refine .pickF ?_
  refine .move ?_
  refine .gT ?_
  refine .move ?_
  refine .gT ?_
  refine .call (hc := Tryz.call52) (sp := prMake16 (f := f)) (h := ?_)
  rintro _ _ ⟨rfl, rfl⟩
  refine .gT ?_
  refine .nei ?_
  refine .pickF ?_
  refine .z ?_
  refine .condF rfl (congrArg Value.bool (by first | (simp; done) | (simp; omega) | omega)) ?_
  refine .skip (.next (.sr (.move ?_)))
  refine .call (hc := Tryz.call19) (sp := prOpen16 (f := f) POk.nil) (h := ?_)
  rintro _ _ ⟨pr, rfl, rfl⟩
  refine .move ?_
  refine .extract ?_
  refine .extract ?_
  refine .assign (.assign (.x (.move (.move (.move (.move ?_))))))
  refine .eqi ?_
  refine .move ?_
  refine .gT ?_
  refine .move ?_
  refine .gT ?_
  refine .neNil ?_ ptr26
  refine .pickT ?_
  refine .assign (.assign (.assign (.assign (.z ?_))))
  refine .ret (?_)
  exact .ret4 (h1 := .tmp (t := 0) rfl) (h2 := .tmp (t := 1) rfl) (h3 := .tmp (t := 2) rfl) (h4 := .tmp (t := 3) rfl) ⟨_, ⟨d, f, pr, rfl, rfl⟩, Am.auto⟩
theorem l16Awake : Spec Tryz.prog 15 #[] [] fun F v M => v = .bool true ∧ M = F := by
  refine Spec.intro Tryz.func15 rfl rfl fun B F => ?_
  simp only [Tryz.ntmps15, List.cons_append, List.nil_append, env0, Nat.reduceAdd]
  refine .sr (.assign (.x ?_))
  refine .call (hc := Tryz.call16) (sp := l16Fresh) (h := ?_)
  rintro _ _ ⟨d, f, pr, rfl, rfl⟩
  refine .move ?_
  refine .extract ?_
  refine .extract ?_
  refine .extract ?_
  refine .extract ?_
  refine .assign (.assign (.assign (.assign (.z (.seq (.sr (.move ?_)))))))
  refine .not ?_
  refine .move ?_
  refine .gT ?_
  refine .move ?_
  refine .gT ?_
  refine .call (hc := Tryz.call18) (sp := prAccept16 (L := []) (r := (7, 0, 100)) POk.nil ⟨by decide, by decide, by decide, by decide⟩ (.inr (by decide))) (h := ?_)
  rintro _ _ ⟨rfl, rfl⟩
  refine .gT ?_
  refine .nei ?_
  refine .pickF ?_
  refine .z ?_
  refine .condF rfl (congrArg Value.bool (by first | (simp; done) | (simp; omega) | omega)) ?_
  refine .skip (.next (.sr (.move ?_)))
  refine .call (hc := Tryz.call20) (sp := prCheck (pr := pr) (f := f) (path := [47, 119]) (L := [(7, 0, 100)]) (id := 7) (seq := 0) (by decide)) (h := ?_)
  rintro _ _ ⟨rfl, rfl⟩
  rw [show chkP [(7, 0, 100)] 7 0 = (100, true, 0) from rfl]
  refine .move ?_
  refine .extract ?_
  refine .extract ?_
  refine .extract ?_
  refine .assign (.assign (.assign (.x (.move ?_))))
  refine .call (hc := Tryz.call20) (sp := prCheck (pr := pr) (f := f) (path := [47, 119]) (L := [(7, 0, 100)]) (id := 7) (seq := 2) (by decide)) (h := ?_)
  rintro _ _ ⟨rfl, rfl⟩
  rw [show chkP [(7, 0, 100)] 7 2 = (0, false, 11) from rfl]
  refine .move ?_
  refine .extract ?_
  refine .extract ?_
  refine .extract ?_
  refine .assign (.assign (.assign (.x (.move ?_))))
  refine .call (hc := Tryz.call20) (sp := prCheck (pr := pr) (f := f) (path := [47, 119]) (L := [(7, 0, 100)]) (id := 8) (seq := 1) (by decide)) (h := ?_)
  rintro _ _ ⟨rfl, rfl⟩
  rw [show chkP [(7, 0, 100)] 8 1 = (0, false, 11) from rfl]
  refine .move ?_
  refine .extract ?_
  refine .extract ?_
  refine .extract ?_
  refine .assign (.assign (.assign (.x (.move ?_))))
  refine .eqi ?_
  refine .move ?_
  refine .gT ?_
  refine .move ?_
  refine .pickT ?_
  refine .move ?_
  refine .gT ?_
  refine .move ?_
  refine .gT ?_
  refine .eqi ?_
  refine .pickT ?_
  refine .move ?_
  refine .gT ?_
  refine .move ?_
  refine .gT ?_
  refine .eqi ?_
  refine .pickT ?_
  refine .move ?_
  refine .gT ?_
  refine .move ?_
  refine .gT ?_
  refine .eqi ?_
  refine .pickT ?_
  refine .assign (.z ?_)
  refine .ret (?_)
  exact .ret1 (h1 := .tmp (t := 0) rfl) ⟨_, ⟨rfl, rfl⟩, Am.auto⟩
end Go.Proofs.YtmmlbepfonndaaaGreatDoor
end
section
namespace Go.Proofs.YtmmlbepfonndaaaGreatDoor
open Go
theorem ar29 : arrOk Tryz.prog 29 3 5 1 = true := by kernel_rfl
theorem z29 : zeroOf Tryz.prog 29 = some (#[.int .i64 0, .int .i64 0, .int .i64 0, .int .i64 0, .int .i64 0]) := by kernel_rfl
theorem round_pos {k : Int} {n : Nat} (h0 : 0 < n) (h : 0 ≤ k ∨ (n : Int) ∣ k) : k.tmod (n : Int) = k % (n : Int) := by
  rw [Int.tmod_eq_emod, if_pos h]; omega
theorem round_neg {k : Int} {n : Nat} (h0 : 0 < n) (h : ¬ (0 ≤ k ∨ (n : Int) ∣ k)) : k.tmod (n : Int) = k % (n : Int) - n := by
  rw [Int.tmod_eq_emod, if_neg h]
  omega
theorem alRound {k : Int} {n : Nat} (h0 : 0 < n) (h1 : n ≤ 1073741824) (hk : -9223372036854775808 ≤ k ∧ k ≤ 9223372036854775807) : Spec Tryz.prog 17 #[.int .i64 k, nI n] [] fun F v M => v = .int .i64 (k % (n : Int)) ∧ M = F := by
  refine Spec.intro Tryz.func17 rfl rfl fun B F => ?_
  simp only [Tryz.ntmps17, List.cons_append, List.nil_append, env0, Nat.reduceAdd]
  have hp := Int.emod_nonneg k (show (n : Int) ≠ 0 by omega)
  have hl := Int.emod_lt_of_pos k (show (0 : Int) < n by omega)
  by_cases h : 0 ≤ k ∨ (n : Int) ∣ k
  · have ht := round_pos h0 h
    refine .sr (.assign (.x (.move (.move ?_))))
    refine .bin (r := .int .i64 (k.tmod (n : Int))) ?_ (run_ints fun w => by simp [binOp_ints, Op.intDiv, show (n : Int) ≠ 0 by omega, show n ≠ 0 by omega]) rfl rfl rfl
    refine .cast (d := 7) (u := .int .i64 (k % (n : Int))) rfl (congrArg (Value.int .i64) ht) ?_
    refine .assign (.z (.seq (.sr (.move ?_))))
    refine .lss ?_
    refine .z ?_
    refine .condF rfl (congrArg Value.bool (by first | (simp; done) | (simp; omega) | omega)) ?_
    refine .skip (.next (.sr (.move (.assign (.z ?_)))))
    refine .ret (?_)
    exact .ret1 (h1 := .tmp (t := 4) rfl) ⟨_, ⟨rfl, rfl⟩, Am.auto⟩
  · have ht := round_neg h0 h
    refine .sr (.assign (.x (.move (.move ?_))))
    refine .bin (r := .int .i64 (k.tmod (n : Int))) ?_ (run_ints fun w => by simp [binOp_ints, Op.intDiv, show (n : Int) ≠ 0 by omega, show n ≠ 0 by omega]) rfl rfl rfl
    refine .cast (d := 7) (u := .int .i64 (k % (n : Int) - n)) rfl (congrArg (Value.int .i64) ht) ?_
    refine .assign (.z (.seq (.sr (.move ?_))))
    refine .lss ?_
    refine .z ?_
    refine .condT rfl (congrArg Value.bool (by first | (simp; done) | (simp; omega) | omega)) ?_
    refine .region (.move (.move ?_))
    refine .add ?_
    refine .assign (.x (.move (.assign (.z ?_))))
    refine .ret (?_)
    exact .ret1 (h1 := .tmp (t := 4) rfl) ⟨_, ⟨congrArg (Value.int .i64) (by omega), rfl⟩, Am.auto⟩
def nz : List Nat → Nat
  | [] => 0
  | x :: l => (if x = 0 then 0 else 1) + nz l
theorem nz_le : ∀ l : List Nat, nz l ≤ l.length
  | [] => Nat.le_refl _
  | x :: l => by
    have := nz_le l
    unfold nz
    rw [List.length_cons]
    split <;> omega
theorem nz_set : ∀ {l : List Nat} {k v : Nat}, k < l.length → v ≠ 0 → nz (l.set k v) = nz l + if l.getD k 0 = 0 then 1 else 0
  | x :: l, 0, v, _, hv => by
    show (if v = 0 then 0 else 1) + nz l = (if x = 0 then 0 else 1) + nz l + if x = 0 then 1 else 0
    rw [if_neg hv]
    split <;> omega
  | x :: l, k + 1, v, h, hv => by
    have := nz_set (l := l) (k := k) (v := v) (by simpa using h) hv
    show (if x = 0 then 0 else 1) + nz (l.set k v) = (if x = 0 then 0 else 1) + nz l + if l.getD k 0 = 0 then 1 else 0
    omega
structure KpI (S Bl : List Nat) (L : List Prd) (i : Nat) : Prop where
  sl : S.length = 5
  bl : Bl.length = 5
  ok : POk L
  few : L.length ≤ nz S
  sm : ∀ k, k < 5 → S.getD k 0 ≤ i
  zero : ∀ k, k < 5 → S.getD k 0 = 0 → lookP L ((k + 1 : Nat) : Int) = none
  pos : ∀ k, k < 5 → S.getD k 0 ≠ 0 → ∃ q, lookP L ((k + 1 : Nat) : Int) = some q ∧ L.getD q (0, 0, 0) = (k + 1, S.getD k 0 - 1, Bl.getD k 0)
theorem KpI.start : KpI [0, 0, 0, 0, 0] [0, 0, 0, 0, 0] [] 0 := by
  refine ⟨rfl, rfl, POk.nil, Nat.le_refl _, fun k hk => ?_, fun k hk _ => rfl, fun k hk h => absurd ?_ h⟩
  all_goals (rcases k with _ | _ | _ | _ | _ | k <;> first | rfl | decide | omega)
theorem look_acc {L : List Prd} (h : POk L) {r : Prd} (hok : POk (accP L r)) (id : Int) : (lookP (accP L r) id).map (fun q => (accP L r).getD q (0, 0, 0)) = if id = (r.1 : Int) then some r else (lookP L id).map (fun q => L.getD q (0, 0, 0)) := by
  obtain ⟨q, hq⟩ : ∃ q, (lookP L (r.1 : Int)).getD L.length = q := ⟨_, rfl⟩
  have hle : q ≤ L.length := hq ▸ rowOf_le _
  have hlen := setP_length hle r
  have hacc : accP L r = setP L q r := by unfold accP; rw [hq]
  rw [hacc] at hok ⊢
  have hql : q < (setP L q r).length := by omega
  have hqe : (setP L q r)[q] = r := getElem_of? hql (setP_same hle r)
  split
  · rename_i hid
    subst hid
    have := hok.look hql
    rw [hqe] at this
    rw [this]
    show some ((setP L q r).getD q (0, 0, 0)) = _
    rw [List.getD_eq_getElem?_getD, setP_same hle]; rfl
  · rename_i hid
    cases hl : lookP L id with
    | none =>
      cases hl2 : lookP (setP L q r) id with
      | none => rfl
      | some j =>
        obtain ⟨h1, h2⟩ := lookP_some hl2
        by_cases hjq : j = q
        · subst hjq; rw [hqe] at h2; exact absurd h2.symm hid
        · have hjl : j < L.length := by omega
          have e2 : (setP L q r)[j] = L[j] := getElem_of? h1 (by rw [setP_other hle hjq]; exact List.getElem?_eq_getElem hjl)
          rw [e2] at h2
          exact absurd h2 (lookP_none hl j hjl)
    | some j =>
      obtain ⟨h1, h2⟩ := lookP_some hl
      have hjq : j ≠ q := by
        intro hjq
        subst hjq
        cases hl3 : lookP L (r.1 : Int) with
        | none => rw [hl3] at hq; have hq : L.length = j := hq; omega
        | some i =>
          rw [hl3] at hq
          have hq : i = j := hq
          subst hq
          obtain ⟨_, h4⟩ := lookP_some hl3
          exact hid (h2.symm.trans h4)
      have hjl : j < (setP L q r).length := by omega
      have e2 : (setP L q r)[j] = L[j] := getElem_of? hjl (by rw [setP_other hle hjq]; exact List.getElem?_eq_getElem h1)
      have := hok.look hjl
      rw [e2, h2] at this
      rw [this]
      show some ((setP L q r).getD j (0, 0, 0)) = some (L.getD j (0, 0, 0))
      rw [List.getD_eq_getElem?_getD, List.getD_eq_getElem?_getD, setP_other hle hjq]
theorem getD_set {l : List Nat} {i j v : Nat} (h : i < l.length) : (l.set i v).getD j 0 = if j = i then v else l.getD j 0 := by
  rw [List.getD_eq_getElem?_getD, List.getElem?_set, List.getD_eq_getElem?_getD]
  by_cases hij : i = j
  · subst hij; rw [if_pos rfl, if_pos rfl, if_pos h]; rfl
  · rw [if_neg hij, if_neg (fun h => hij h.symm)]
theorem KpI.step {S Bl : List Nat} {L : List Prd} {i k : Nat} (h : KpI S Bl L i) (hk : k < 5) (hi : i < 60) : POk (accP L (k + 1, S.getD k 0, i)) ∧ KpI (S.set k (S.getD k 0 + 1)) (Bl.set k i) (accP L (k + 1, S.getD k 0, i)) (i + 1) := by
  have hsk := h.sm k hk
  have hro : PrdOk (k + 1, S.getD k 0, i) := ⟨by show 1 ≤ k + 1; omega, by show k + 1 < _; omega, by show S.getD k 0 < _; omega, by show i ≤ _; omega⟩
  have hn5 := nz_le S
  have hsl := h.sl
  have hfew := h.few
  have hfu : lookP L ((k + 1 : Nat) : Int) ≠ none ∨ L.length < 60 := .inr (by omega)
  have hok := accP_ok h.ok hro hfu
  have hla := look_acc h.ok hok
  have hbl := h.bl
  refine ⟨hok, ⟨by rw [List.length_set]; exact hsl, by rw [List.length_set]; exact hbl, hok, ?_, fun j hj => ?_, fun j hj h0 => ?_, fun j hj h0 => ?_⟩⟩
  · unfold accP
    rw [setP_length (rowOf_le _)]
    rw [nz_set (by omega) (by omega)]
    show max L.length ((lookP L ((k + 1 : Nat) : Int)).getD L.length + 1) ≤ _
    cases hl : lookP L ((k + 1 : Nat) : Int) with
    | none =>
      have h0 : S.getD k 0 = 0 := by
        by_cases h0 : S.getD k 0 = 0
        · exact h0
        · obtain ⟨q, hq, _⟩ := h.pos k hk h0
          rw [hl] at hq; cases hq
      rw [if_pos h0]
      show max L.length (L.length + 1) ≤ _
      omega
    | some q =>
      have := (lookP_some hl).1
      show max L.length (q + 1) ≤ _
      omega
  · rw [getD_set (by omega)]
    have := h.sm j hj
    split <;> omega
  · rw [getD_set (by omega)] at h0
    split at h0
    · omega
    · rename_i hjk
      have h1 := hla ((j + 1 : Nat) : Int)
      rw [if_neg (by show ((j + 1 : Nat) : Int) ≠ ((k + 1 : Nat) : Int); omega), h.zero j hj h0] at h1
      exact Option.map_eq_none_iff.1 h1
  · rw [getD_set (by omega)] at h0 ⊢
    rw [getD_set (by omega)]
    have h1 := hla ((j + 1 : Nat) : Int)
    split at h0
    · rename_i hjk
      subst hjk
      rw [if_pos rfl, if_pos rfl]
      rw [if_pos rfl] at h1
      obtain ⟨q, hq, he⟩ := Option.map_eq_some_iff.1 h1
      exact ⟨q, hq, by rw [he]; simp⟩
    · rename_i hjk
      rw [if_neg hjk, if_neg hjk]
      obtain ⟨q, hq, he⟩ := h.pos j hj h0
      rw [if_neg (by show ((j + 1 : Nat) : Int) ≠ ((k + 1 : Nat) : Int); omega), hq] at h1
      obtain ⟨q2, hq2, he2⟩ := Option.map_eq_some_iff.1 h1
      exact ⟨q2, hq2, he2.trans he⟩
theorem KpI.chk0 {S Bl : List Nat} {L : List Prd} {i k : Nat} (h : KpI S Bl L i) (hk : k < 5) (h0 : S.getD k 0 = 0) (hL : L.length < 60) : chkP L ((k + 1 : Nat) : Int) 1 = (0, false, 11) := by
  unfold chkP
  rw [if_neg (by omega), h.zero k hk h0]
  simp only
  rw [if_neg (by omega), if_neg (by omega)]
theorem KpI.chk1 {S Bl : List Nat} {L : List Prd} {i k : Nat} (h : KpI S Bl L i) (hk : k < 5) (h0 : S.getD k 0 ≠ 0) : chkP L ((k + 1 : Nat) : Int) ((S.getD k 0 - 1 : Nat) : Int) = ((Bl.getD k 0 : Int), true, 0) := by
  obtain ⟨q, hq, he⟩ := h.pos k hk h0
  unfold chkP
  rw [if_neg (by omega), hq]
  simp only [he]
  rw [if_pos trivial]
theorem natsV_get {l : List Nat} {k : Nat} (h : k < l.length) : (natsV l)[k]? = some (nI (l.getD k 0)) := by
  rw [List.getD_eq_getElem?_getD, List.getElem?_eq_getElem h]
  unfold natsV ints
  simp [h]; rfl
theorem natsV_set {l : List Nat} {k v : Nat} : (natsV l).set k (nI v) = natsV (l.set k v) := by
  unfold natsV ints
  rw [List.map_set, List.map_set]; rfl
theorem natsV_length (l : List Nat) : (natsV l).length = l.length := by unfold natsV ints; rw [List.length_map, List.length_map]
theorem lawKept {R : HP} {A : Option Addr} {m c0 : Nat} {xs : List Int} (hR0 : xs = [] ∨ Reads R A (ints xs)) (hm : xs.length = m) (hxs : ∀ x ∈ xs, -9223372036854775808 ≤ x ∧ x ≤ 9223372036854775807) (hbig : m ≤ 9223372036854775807) : Spec Tryz.prog 3 #[.slice A m c0] [R] fun F v M => v = .bool true ∧ M = R :: F := by
  refine Spec.intro Tryz.func3 rfl rfl fun B F => ?_
  simp only [Tryz.ntmps3, List.cons_append, List.nil_append, env0, Nat.reduceAdd]
  refine .sr (.assign (.z (.seq (.sr (.move ?_)))))
  refine .lenS ?_ sl22
  refine .gtr ?_
  refine .z ?_
  refine .cond rfl (fun hb => ?_) (fun hb => ?_)
  · refine .sr ?_
    refine .call (hc := Tryz.call15) (sp := l16Awake) (h := ?_)
    rintro _ _ ⟨rfl, rfl⟩
    refine .assign (.z ?_)
    refine .ret (.thenRet (?_))
    exact .ret1 (h1 := .tmp (t := 2) rfl) ⟨_, ⟨rfl, rfl⟩, Am.auto⟩
  · have hm60 : m ≤ 60 := by have := of_decide_eq_false hb; omega
    refine .skip (.next (.sr ?_))
    refine .call (hc := Tryz.call16) (sp := l16Fresh) (h := ?_)
    rintro _ _ ⟨d, f, pr, rfl, rfl⟩
    refine .move ?_
    refine .extract ?_
    refine .extract ?_
    refine .extract ?_
    refine .extract ?_
    refine .assign (.assign (.assign (.assign (.z (.seq (.sr (.move ?_)))))))
    refine .not ?_
    refine .z ?_
    refine .condF rfl rfl ?_
    refine .skip (.next (.sr ?_))
    refine .allocL (us := natsV [0, 0, 0, 0, 0]) z29 rfl fun b7 => ?_
    refine .x ?_
    refine .allocL (us := natsV [0, 0, 0, 0, 0]) z29 rfl fun b8 => ?_
    refine .z (.seq (.sr (.assign (.z (.block ?_)))))
    refine .loopA (σ := Nat × List Nat × List Nat × List Prd) (fun y => [(0, .slice A m c0), (4, .pointer (some ⟨f, 0, none⟩)), (5, .pointer (some ⟨pr, 0, none⟩)), (7, .pointer (some ⟨b7, 0, none⟩)), (8, .pointer (some ⟨b8, 0, none⟩)), (9, .int .i64 ((y.1 : Nat) : Int))]) (fun y => [row b7 29 (natsV y.2.1), row b8 29 (natsV y.2.2.1), PD pr f [47, 119] y.2.2.2, FSR f (pD 500 20) (wT (rowsB y.2.2.2)), R] ++ F) (fun y => y.1 ≤ m ∧ KpI y.2.1 y.2.2.1 y.2.2.2 y.1) (fun y => m - y.1) (0, [0, 0, 0, 0, 0], [0, 0, 0, 0, 0], []) ⟨Nat.zero_le _, KpI.start⟩ ?_
    rintro y hy
    obtain ⟨i, S, Bl, L⟩ := y
    obtain ⟨hi, hk⟩ := hy
    simp only at hi hk ⊢
    refine .seq (.sr (.move (.move ?_)))
    refine .lenS ?_ sl22
    refine .lss ?_
    refine .z ?_
    refine .cond rfl (fun hb2 => ?_) (fun hb2 => ?_)
    · have hlt : i < m := by have h : (i : Int) < (m : Int) := of_decide_eq_true hb2; omega
      have hil : ((i : Nat) : Int).toNat < xs.length := by omega
      have hR := hR0.resolve_left (by intro h; subst h; simp at hil)
      rcases A with _ | ⟨ab, ao, asp⟩
      · exact absurd hR (fun h => by have h2 : ints xs = [] := h; simp [ints] at h2; subst h2; simp at hil)
      have hsp : asp = none := hR.1
      subst hsp
      have hxr := hxs _ (List.getElem_mem hil)
      obtain ⟨x, hx⟩ : ∃ x, xs[((i : Nat) : Int).toNat] = x := ⟨_, rfl⟩
      rw [hx] at hxr
      have hp := Int.emod_nonneg x (show ((5 : Nat) : Int) ≠ 0 by decide)
      have hl := Int.emod_lt_of_pos x (show (0 : Int) < ((5 : Nat) : Int) by decide)
      obtain ⟨k, hkk⟩ : ∃ k : Nat, x % ((5 : Nat) : Int) = (k : Int) := ⟨(x % ((5 : Nat) : Int)).toNat, by omega⟩
      have hk5 : k < 5 := by omega
      obtain ⟨hok, hk2⟩ := hk.step hk5 (show i < 60 by omega)
      have hgx : (ints xs)[((i : Nat) : Int).toNat]? = some (.int .i64 x) := by unfold ints; rw [List.getElem?_map, List.getElem?_eq_getElem hil, hx]; rfl
      have hsl := hk.sl
      have hbl := hk.bl
      have hgs : (natsV S)[0 + ((k : Nat) : Int).toNat * 1]? = some (nI (S.getD k 0)) := by rw [show 0 + ((k : Nat) : Int).toNat * 1 = k from by omega]; exact natsV_get (by omega)
      have hsk := hk.sm k hk5
      have hfew := hk.few
      have hn5 := nz_le S
      refine .skip (.next (.seq (.block (.sr (.move (.move ?_))))))
      refine .idx1 ?_ so22
      refine .ldR ?_ sc3 hR hgx
      refine .call (hc := Tryz.call17) (sp := alRound (k := x) (n := 5) (by decide) (by decide) hxr) (h := ?_)
      rintro _ _ ⟨rfl, rfl⟩
      rw [hkk]
      refine .assign (.z (.seq (.sr (.move (.move ?_)))))
      refine .add ?_
      refine .cast (d := 45) (u := nI (k + 1)) rfl (congrArg (Value.int .i64) (by omega)) ?_
      refine .move ?_
      refine .idxA ?_ ar29
      refine .ldL ?_ sc3 hgs
      refine .move ?_
      refine .call (hc := Tryz.call18) (sp := prAccept16 (pr := pr) (f := f) (L := L) (r := (k + 1, S.getD k 0, i)) hk.ok ⟨by show 1 ≤ k + 1; omega, by show k + 1 < _; omega, by show S.getD k 0 < _; omega, by show i ≤ _; omega⟩ (.inr (by omega))) (h := ?_)
      rintro _ _ ⟨rfl, rfl⟩
      refine .nei ?_
      refine .z ?_
      refine .condF rfl (congrArg Value.bool (by first | (simp; done) | (simp; omega) | omega)) ?_
      refine .skip (.next (.sr (.move (.move ?_))))
      refine .idxA ?_ ar29
      refine .stL (xs := natsV Bl) (i := 0 + ((k : Nat) : Int).toNat * 1) ?_ sc3 (by rw [natsV_length]; omega)
      refine .to (A := row b8 29 ((natsV Bl).set (0 + ((k : Nat) : Int).toNat * 1) (nI i))) (A' := row b8 29 (natsV (Bl.set k i))) (fun h hh => by rw [show 0 + ((k : Nat) : Int).toNat * 1 = k from by omega, natsV_set] at hh; exact hh) ?_
      refine .y (.move ?_)
      refine .idxA ?_ ar29
      refine .ldL ?_ sc3 hgs
      refine .add ?_
      refine .cast (d := 58) (u := nI (S.getD k 0 + 1)) rfl (congrArg (Value.int .i64) (by omega)) ?_
      refine .idxA ?_ ar29
      refine .stL (xs := natsV S) (i := 0 + ((k : Nat) : Int).toNat * 1) ?_ sc3 (by rw [natsV_length]; omega)
      refine .to (A := row b7 29 ((natsV S).set (0 + ((k : Nat) : Int).toNat * 1) (nI (S.getD k 0 + 1)))) (A' := row b7 29 (natsV (S.set k (S.getD k 0 + 1)))) (fun h hh => by rw [show 0 + ((k : Nat) : Int).toNat * 1 = k from by omega, natsV_set] at hh; exact hh) ?_
      refine .nil (.blockNormal (.next (.region (.move ?_))))
      refine .add ?_
      refine .assign (.nil ?_)
      refine .cast (d := 9) (u := .int .i64 ((i + 1 : Nat) : Int)) rfl (congrArg (Value.int .i64) (by omega)) ?_
      exact .back (i + 1, S.set k (S.getD k 0 + 1), Bl.set k i, accP L (k + 1, S.getD k 0, i)) ⟨by show i + 1 ≤ m; omega, hk2⟩ (by show m - (i + 1) < m - i; omega)
    · have hge : i = m := by have h : ¬ (i : Int) < (m : Int) := of_decide_eq_false hb2; omega
      subst hge
      have hsl := hk.sl
      have hbl := hk.bl
      refine .exit (.thenExit (.thenExit (.blockExit (?_))))
      refine .next (.sr (.move ?_))
      refine .call (hc := Tryz.call19) (sp := prOpen16 (f := f) hk.ok) (h := ?_)
      rintro _ _ ⟨q, rfl, rfl⟩
      refine .move ?_
      refine .extract ?_
      refine .extract ?_
      refine .assign (.assign (.z (.seq (.sr (.move ?_)))))
      refine .nei ?_
      refine .move ?_
      refine .gT ?_
      refine .move ?_
      refine .gT ?_
      refine .eqNil ?_ ptr26
      refine .pickF ?_
      refine .z ?_
      refine .condF rfl rfl ?_
      refine .skip (.next (.seq (.sr (.assign (.z (.block ?_))))))
      refine .loopA (σ := Nat) (fun k => [(7, .pointer (some ⟨b7, 0, none⟩)), (8, .pointer (some ⟨b8, 0, none⟩)), (11, .pointer (some ⟨q, 0, none⟩)), (13, .int .i64 ((k : Nat) : Int))]) (fun _ => [row b7 29 (natsV S), row b8 29 (natsV Bl), PD q f [47, 119] L, FSR f (pD 500 20) (wT (rowsB L)), R] ++ F) (fun k => k ≤ 5) (fun k => 5 - k) 0 (Nat.zero_le _) ?_
      rintro k hk5
      refine .seq (.sr (.move ?_))
      refine .lss ?_
      refine .z ?_
      refine .cond rfl (fun hb3 => ?_) (fun hb3 => ?_)
      · have hlt : k < 5 := by have h : (k : Int) < 5 := of_decide_eq_true hb3; omega
        have hgs : (natsV S)[0 + ((k : Nat) : Int).toNat * 1]? = some (nI (S.getD k 0)) := by rw [show 0 + ((k : Nat) : Int).toNat * 1 = k from by omega]; exact natsV_get (by omega)
        have hgb : (natsV Bl)[0 + ((k : Nat) : Int).toNat * 1]? = some (nI (Bl.getD k 0)) := by rw [show 0 + ((k : Nat) : Int).toNat * 1 = k from by omega]; exact natsV_get (by omega)
        have hsk := hk.sm k hlt
        have hfew := hk.few
        by_cases hs0 : S.getD k 0 = 0
        · have h60 : L.length < 60 := by have := hk.few; have := nz_le S; omega
          refine .skip (.next (.seq (.block (.seq (.sr (.move ?_))))))
          refine .idxA ?_ ar29
          refine .ldL ?_ sc3 hgs
          refine .eqi ?_
          refine .z ?_
          refine .condT rfl (congrArg Value.bool (by first | (exact decide_eq_true (by omega)) | (exact decide_eq_false (by omega)) | (simp; done) | (simp; omega) | omega)) ?_
          refine .sr (.move (.move ?_))
          refine .add ?_
          refine .cast (d := 82) (u := nI (k + 1)) rfl (congrArg (Value.int .i64) (by omega)) ?_
          refine .call (hc := Tryz.call20) (sp := prCheck (pr := q) (f := f) (path := [47, 119]) (L := L) (id := ((k + 1 : Nat) : Int)) (seq := 1) (by omega)) (h := ?_)
          rintro _ _ ⟨rfl, rfl⟩
          rw [hk.chk0 hlt hs0 h60]
          refine .move ?_
          refine .extract ?_
          refine .extract ?_
          refine .extract ?_
          refine .assign (.assign (.assign (.z (.seq (.sr (.move ?_))))))
          refine .nei ?_
          refine .z ?_
          refine .condF rfl (congrArg Value.bool (by first | (exact decide_eq_true (by omega)) | (exact decide_eq_false (by omega)) | (simp; done) | (simp; omega) | omega)) ?_
          refine .skip (.next ?_)
          refine .exit (.thenExit (.blockExit (?_)))
          refine .next (.region (.move ?_))
          refine .add ?_
          refine .assign (.nil ?_)
          refine .cast (d := 13) (u := .int .i64 ((k + 1 : Nat) : Int)) rfl (congrArg (Value.int .i64) (by omega)) ?_
          exact .back (k + 1) (by show k + 1 ≤ 5; omega) (by show 5 - (k + 1) < 5 - k; exact Nat.sub_lt_sub_left hlt (Nat.lt_succ_self k))
        · refine .skip (.next (.seq (.block (.seq (.sr (.move ?_))))))
          refine .idxA ?_ ar29
          refine .ldL ?_ sc3 hgs
          refine .eqi ?_
          refine .z ?_
          refine .condF rfl (congrArg Value.bool (by first | (exact decide_eq_true (by omega)) | (exact decide_eq_false (by omega)) | (simp; done) | (simp; omega) | omega)) ?_
          refine .skip (.next (.sr (.move (.move ?_))))
          refine .add ?_
          refine .cast (d := 92) (u := nI (k + 1)) rfl (congrArg (Value.int .i64) (by omega)) ?_
          refine .move ?_
          refine .idxA ?_ ar29
          refine .ldL ?_ sc3 hgs
          refine .sub ?_
          refine .cast (d := 96) (u := nI (S.getD k 0 - 1)) rfl (congrArg (Value.int .i64) (by omega)) ?_
          refine .call (hc := Tryz.call20) (sp := prCheck (pr := q) (f := f) (path := [47, 119]) (L := L) (id := ((k + 1 : Nat) : Int)) (seq := ((S.getD k 0 - 1 : Nat) : Int)) (by omega)) (h := ?_)
          rintro _ _ ⟨rfl, rfl⟩
          rw [hk.chk1 hlt hs0]
          refine .move ?_
          refine .extract ?_
          refine .extract ?_
          refine .extract ?_
          refine .assign (.assign (.assign (.x (.move ?_))))
          refine .nei ?_
          refine .move ?_
          refine .gT ?_
          refine .move ?_
          refine .gT ?_
          refine .not ?_
          refine .pickF ?_
          refine .move ?_
          refine .gT ?_
          refine .move ?_
          refine .gT ?_
          refine .move ?_
          refine .gT ?_
          refine .idxA ?_ ar29
          refine .gT ?_
          refine .ldL ?_ sc3 hgb
          refine .gT ?_
          refine .nei ?_
          refine .pickF ?_
          refine .z ?_
          refine .condF rfl (congrArg Value.bool (by first | (exact decide_eq_true (by omega)) | (exact decide_eq_false (by omega)) | (simp; done) | (simp; omega) | omega)) ?_
          refine .skip (.blockNormal (.next (.region (.move ?_))))
          refine .add ?_
          refine .assign (.nil ?_)
          refine .cast (d := 13) (u := .int .i64 ((k + 1 : Nat) : Int)) rfl (congrArg (Value.int .i64) (by omega)) ?_
          exact .back (k + 1) (by show k + 1 ≤ 5; omega) (by show 5 - (k + 1) < 5 - k; exact Nat.sub_lt_sub_left hlt (Nat.lt_succ_self k))
      · refine .exit (.thenExit (.thenExit (.blockExit (?_))))
        refine .next (.sr ?_)
        refine .call (hc := Tryz.call15) (sp := l16Awake) (h := ?_)
        rintro _ _ ⟨rfl, rfl⟩
        refine .assign (.z ?_)
        refine .ret (?_)
        exact .ret1 (h1 := .tmp (t := 2) rfl) ⟨_, ⟨rfl, rfl⟩, Am.auto⟩
end Go.Proofs.YtmmlbepfonndaaaGreatDoor
end
