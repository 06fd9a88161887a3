/- A part of the proof of lawFMany: texts of this work put together. -/
import Derived.Test.YtmmlbepfonndaaaGreatDoorQd4
import Derived.KernelRfl
set_option linter.unusedVariables false
set_option linter.unusedSimpArgs false
set_option linter.unusedSectionVars false
section
namespace Go.Proofs.YtmmlbepfonndaaaGreatDoor
open Go
def kvs : Nat → List (Int × Value)
  | 0 => []
  | n + 1 => if n < 32 then kput (kvs n) (n : Int) (opV [47, 97] 0) else kvs n
theorem kvs_few {n : Nat} (h : n < 32) : kvs (n + 1) = kput (kvs n) (n : Int) (opV [47, 97] 0) := by rw [kvs, if_pos h]
theorem kvs_full {n : Nat} (h : ¬ n < 32) : kvs (n + 1) = kvs n := by rw [kvs, if_neg h]
theorem kvs_get (n j : Nat) : kget (kvs n) (j : Int) = if j < n ∧ j < 32 then some (opV [47, 97] 0) else none := by
  induction n with
  | zero => rw [if_neg (by omega)]; rfl
  | succ n ih =>
    by_cases h : n < 32
    · rw [kvs_few h, kget_put, ih]
      by_cases hj : (j : Int) = (n : Int)
      · rw [if_pos hj, if_pos (by omega)]
      · rw [if_neg hj]
        by_cases h2 : j < n ∧ j < 32
        · rw [if_pos h2, if_pos (by omega)]
        · rw [if_neg h2, if_neg (by omega)]
    · rw [kvs_full h, ih]
      by_cases h2 : j < n ∧ j < 32
      · rw [if_pos h2, if_pos (by omega)]
      · rw [if_neg h2, if_neg (by omega)]
theorem kvs_length (n : Nat) : (kvs n).length = min n 32 := by
  induction n with
  | zero => rfl
  | succ n ih =>
    by_cases h : n < 32
    · have hk : kget (kvs n) (n : Int) = none := by rw [kvs_get, if_neg (by omega)]
      rw [kvs_few h, kput_length, hk, ih]
      show min n 32 + 1 = min (n + 1) 32
      omega
    · rw [kvs_full h, ih]; omega
theorem kvs_nodup (n : Nat) : ((kvs n).map (·.1)).Nodup := by
  induction n with
  | zero => exact List.nodup_nil
  | succ n ih =>
    by_cases h : n < 32
    · rw [kvs_few h]; exact kput_nodup ih _ _
    · rw [kvs_full h]; exact ih
theorem kdel_length {l : List (Int × Value)} (hn : (l.map (·.1)).Nodup) {k : Int} {v : Value} (h : kget l k = some v) : (kdel l k).length + 1 = l.length := by
  have hm : k ∈ l.map (·.1) := Classical.byContradiction fun hc => by rw [kget_none.2 hc] at h; cases h
  obtain ⟨j, hj, hk⟩ := List.mem_iff_getElem.1 hm
  have hj2 : j < l.length := by rw [List.length_map] at hj; exact hj
  rw [kdel_at hn (j := j) (by rw [List.getElem?_eq_getElem hj, hk]), List.length_eraseIdx_of_lt hj2]
  omega
def manyT (n : Nat) : FT := if n = 0 then rootT else aT []
theorem manyT_succ (n : Nat) : manyT (n + 1) = aT [] := if_neg (Nat.succ_ne_zero n)
theorem tbOpenStep {t f n : Nat} (hn : n ≤ 40) : Spec Tryz.prog 30 #[.pointer (some ⟨t, 0, none⟩), sv [47, 97], .bool true] [TB t f (kvs n), FSR f (pD 500 40) (manyT n)] fun F v M => v = (if n < 32 then .tuple #[nI n, .int .i64 0] else .tuple #[.int .i64 0, .int .i64 2]) ∧ M = TB t f (kvs (n + 1)) :: FSR f (pD 500 40) (manyT (n + 1)) :: F := by
  rw [manyT_succ]
  by_cases h0 : n = 0
  · subst h0
    exact tbOpenMk
  · have hT : manyT n = aT [] := if_neg h0
    rw [hT]
    by_cases h : n < 32
    · rw [if_pos h, kvs_few h]
      exact tbOpenA (by rw [kvs_length]; omega) (by rw [kvs_get, if_neg (by omega)]) (fun j hj => ⟨_, by rw [kvs_get, if_pos (by omega)], _, _, rfl⟩) (by omega)
    · rw [if_neg h, kvs_full h]
      exact fun B F w hs => tOpenBig (by rw [kvs_length]; omega) B (FSR f (pD 500 40) (aT []) :: F) w hs
theorem lawFMany {n gone : Int} (hn : -9223372036854775808 ≤ n ∧ n ≤ 9223372036854775807) (hg : -9223372036854775808 ≤ gone ∧ gone ≤ 9223372036854775807) : Spec Tryz.prog 8 #[.int .i64 n, .int .i64 gone] [] fun F v M => v = .bool true ∧ M = F := by
  refine Spec.intro Tryz.func8 rfl rfl fun B F => ?_
  simp only [Tryz.ntmps8, List.cons_append, List.nil_append, env0, Nat.reduceAdd]
  by_cases h1 : n < 1
  · refine .sr (.assign (.z (.seq (.sr (.move ?_)))))
    refine .lss ?_
    refine .move ?_
    refine .cast (d := 17) (u := .bool true) rfl (congrArg Value.bool (by first | (simp; done) | (simp; omega) | omega)) ?_
    refine .gF ?_
    refine .gF ?_
    refine .pickT ?_
    refine .move ?_
    refine .gF ?_
    refine .gF ?_
    refine .pickT ?_
    refine .move ?_
    refine .gF ?_
    refine .gF ?_
    refine .gF ?_
    refine .pickT ?_
    refine .move ?_
    refine .gF ?_
    refine .gF ?_
    refine .pickT ?_
    refine .z ?_
    refine .condT rfl rfl ?_
    refine .sr ?_
    refine .call (hc := Tryz.call28) (sp := l11Awake) (h := ?_)
    rintro _ _ ⟨rfl, rfl⟩
    refine .assign (.z ?_)
    refine .ret (.thenRet (?_))
    exact .ret1 (h1 := .tmp (t := 4) rfl) ⟨_, ⟨rfl, rfl⟩, Am.auto⟩
  · by_cases h2 : 40 < n
    · refine .sr (.assign (.z (.seq (.sr (.move ?_)))))
      refine .lss ?_
      refine .move ?_
      refine .cast (d := 17) (u := .bool false) rfl (congrArg Value.bool (by first | (simp; done) | (simp; omega) | omega)) ?_
      refine .gT ?_
      refine .move ?_
      refine .gT ?_
      refine .gtr ?_
      refine .pickF ?_
      refine .move ?_
      refine .cast (d := 21) (u := .bool true) rfl (congrArg Value.bool (by first | (simp; done) | (simp; omega) | omega)) ?_
      refine .gF ?_
      refine .gF ?_
      refine .pickT ?_
      refine .move ?_
      refine .gF ?_
      refine .gF ?_
      refine .gF ?_
      refine .pickT ?_
      refine .move ?_
      refine .gF ?_
      refine .gF ?_
      refine .pickT ?_
      refine .z ?_
      refine .condT rfl rfl ?_
      refine .sr ?_
      refine .call (hc := Tryz.call28) (sp := l11Awake) (h := ?_)
      rintro _ _ ⟨rfl, rfl⟩
      refine .assign (.z ?_)
      refine .ret (.thenRet (?_))
      exact .ret1 (h1 := .tmp (t := 4) rfl) ⟨_, ⟨rfl, rfl⟩, Am.auto⟩
    · by_cases h3 : gone < 0
      · refine .sr (.assign (.z (.seq (.sr (.move ?_)))))
        refine .lss ?_
        refine .move ?_
        refine .cast (d := 17) (u := .bool false) rfl (congrArg Value.bool (by first | (simp; done) | (simp; omega) | omega)) ?_
        refine .gT ?_
        refine .move ?_
        refine .gT ?_
        refine .gtr ?_
        refine .pickF ?_
        refine .move ?_
        refine .cast (d := 21) (u := .bool false) rfl (congrArg Value.bool (by first | (simp; done) | (simp; omega) | omega)) ?_
        refine .gT ?_
        refine .move ?_
        refine .gT ?_
        refine .lss ?_
        refine .pickF ?_
        refine .move ?_
        refine .cast (d := 25) (u := .bool true) rfl (congrArg Value.bool (by first | (simp; done) | (simp; omega) | omega)) ?_
        refine .gF ?_
        refine .gF ?_
        refine .gF ?_
        refine .pickT ?_
        refine .move ?_
        refine .gF ?_
        refine .gF ?_
        refine .pickT ?_
        refine .z ?_
        refine .condT rfl rfl ?_
        refine .sr ?_
        refine .call (hc := Tryz.call28) (sp := l11Awake) (h := ?_)
        rintro _ _ ⟨rfl, rfl⟩
        refine .assign (.z ?_)
        refine .ret (.thenRet (?_))
        exact .ret1 (h1 := .tmp (t := 4) rfl) ⟨_, ⟨rfl, rfl⟩, Am.auto⟩
      · by_cases h4 : n ≤ gone
        · refine .sr (.assign (.z (.seq (.sr (.move ?_)))))
          refine .lss ?_
          refine .move ?_
          refine .cast (d := 17) (u := .bool false) rfl (congrArg Value.bool (by first | (simp; done) | (simp; omega) | omega)) ?_
          refine .gT ?_
          refine .move ?_
          refine .gT ?_
          refine .gtr ?_
          refine .pickF ?_
          refine .move ?_
          refine .cast (d := 21) (u := .bool false) rfl (congrArg Value.bool (by first | (simp; done) | (simp; omega) | omega)) ?_
          refine .gT ?_
          refine .move ?_
          refine .gT ?_
          refine .lss ?_
          refine .pickF ?_
          refine .move ?_
          refine .cast (d := 25) (u := .bool false) rfl (congrArg Value.bool (by first | (simp; done) | (simp; omega) | omega)) ?_
          refine .gT ?_
          refine .move ?_
          refine .gT ?_
          refine .move ?_
          refine .gT ?_
          refine .geq ?_
          refine .pickF ?_
          refine .move ?_
          refine .cast (d := 30) (u := .bool true) rfl (congrArg Value.bool (by first | (simp; done) | (simp; omega) | omega)) ?_
          refine .gF ?_
          refine .gF ?_
          refine .pickT ?_
          refine .z ?_
          refine .condT rfl rfl ?_
          refine .sr ?_
          refine .call (hc := Tryz.call28) (sp := l11Awake) (h := ?_)
          rintro _ _ ⟨rfl, rfl⟩
          refine .assign (.z ?_)
          refine .ret (.thenRet (?_))
          exact .ret1 (h1 := .tmp (t := 4) rfl) ⟨_, ⟨rfl, rfl⟩, Am.auto⟩
        · by_cases h5 : 32 ≤ gone
          · refine .sr (.assign (.z (.seq (.sr (.move ?_)))))
            refine .lss ?_
            refine .move ?_
            refine .cast (d := 17) (u := .bool false) rfl (congrArg Value.bool (by first | (simp; done) | (simp; omega) | omega)) ?_
            refine .gT ?_
            refine .move ?_
            refine .gT ?_
            refine .gtr ?_
            refine .pickF ?_
            refine .move ?_
            refine .cast (d := 21) (u := .bool false) rfl (congrArg Value.bool (by first | (simp; done) | (simp; omega) | omega)) ?_
            refine .gT ?_
            refine .move ?_
            refine .gT ?_
            refine .lss ?_
            refine .pickF ?_
            refine .move ?_
            refine .cast (d := 25) (u := .bool false) rfl (congrArg Value.bool (by first | (simp; done) | (simp; omega) | omega)) ?_
            refine .gT ?_
            refine .move ?_
            refine .gT ?_
            refine .move ?_
            refine .gT ?_
            refine .geq ?_
            refine .pickF ?_
            refine .move ?_
            refine .cast (d := 30) (u := .bool false) rfl (congrArg Value.bool (by first | (simp; done) | (simp; omega) | omega)) ?_
            refine .gT ?_
            refine .move ?_
            refine .gT ?_
            refine .geq ?_
            refine .pickF ?_
            refine .z ?_
            refine .condT rfl (congrArg Value.bool (by first | (simp; done) | (simp; omega) | omega)) ?_
            refine .sr ?_
            refine .call (hc := Tryz.call28) (sp := l11Awake) (h := ?_)
            rintro _ _ ⟨rfl, rfl⟩
            refine .assign (.z ?_)
            refine .ret (.thenRet (?_))
            exact .ret1 (h1 := .tmp (t := 4) rfl) ⟨_, ⟨rfl, rfl⟩, Am.auto⟩
          · obtain ⟨N, rfl⟩ : ∃ N : Nat, n = N := ⟨n.toNat, by omega⟩
            obtain ⟨G, rfl⟩ : ∃ I : Nat, gone = I := ⟨gone.toNat, by omega⟩
            refine .sr (.assign (.z (.seq (.sr (.move ?_)))))
            refine .lss ?_
            refine .move ?_
            refine .cast (d := 17) (u := .bool false) rfl (congrArg Value.bool (by first | (simp; done) | (simp; omega) | omega)) ?_
            refine .gT ?_
            refine .move ?_
            refine .gT ?_
            refine .gtr ?_
            refine .pickF ?_
            refine .move ?_
            refine .cast (d := 21) (u := .bool false) rfl (congrArg Value.bool (by first | (simp; done) | (simp; omega) | omega)) ?_
            refine .gT ?_
            refine .move ?_
            refine .gT ?_
            refine .lss ?_
            refine .pickF ?_
            refine .move ?_
            refine .cast (d := 25) (u := .bool false) rfl (congrArg Value.bool (by first | (simp; done) | (simp; omega) | omega)) ?_
            refine .gT ?_
            refine .move ?_
            refine .gT ?_
            refine .move ?_
            refine .gT ?_
            refine .geq ?_
            refine .pickF ?_
            refine .move ?_
            refine .cast (d := 30) (u := .bool false) rfl (congrArg Value.bool (by first | (simp; done) | (simp; omega) | omega)) ?_
            refine .gT ?_
            refine .move ?_
            refine .gT ?_
            refine .geq ?_
            refine .pickF ?_
            refine .z ?_
            refine .condF rfl (congrArg Value.bool (by first | (simp; done) | (simp; omega) | omega)) ?_
            refine .skip (.next (.sr ?_))
            refine .call (hc := Tryz.call29) (sp := l11Fresh) (h := ?_)
            rintro _ _ ⟨f, t, m, u, rfl, rfl⟩
            refine .move ?_
            refine .extract ?_
            refine .extract ?_
            refine .extract ?_
            refine .extract ?_
            refine .extract ?_
            refine .assign (.assign (.assign (.assign (.assign (.z (.seq (.sr (.move ?_))))))))
            refine .not ?_
            refine .z ?_
            refine .condF rfl rfl ?_
            refine .skip (.next (.seq (.sr (.assign (.z (.block ?_))))))
            refine .to (A := TB t f []) (A' := TB t f (kvs 0)) (fun h hh => hh) ?_
            refine .to (A := FSR f (pD 500 40) rootT) (A' := FSR f (pD 500 40) (manyT 0)) (fun h hh => hh) ?_
            refine .loopA (σ := Nat) (fun k => [(0, .int .i64 (N : Int)), (1, .int .i64 (G : Int)), (6, .pointer (some ⟨t, 0, none⟩)), (10, .int .i64 ((k : Nat) : Int))]) (fun k => TB t f (kvs k) :: FSR f (pD 500 40) (manyT k) :: F) (fun k => k ≤ N) (fun k => N - k) 0 (Nat.zero_le _) ?_
            rintro k hk
            refine .seq (.sr (.move (.move ?_)))
            refine .lss ?_
            refine .z ?_
            refine .cond rfl (fun hb => ?_) (fun hb => ?_)
            · have hlt : k < N := by have h : (k : Int) < (N : Int) := of_decide_eq_true hb; omega
              by_cases h32 : k < 32
              · refine .skip (.next (.seq (.block (.sr (.move ?_)))))
                refine .call (hc := Tryz.call30) (sp := tbOpenStep (t := t) (f := f) (n := k) (by omega)) (h := ?_)
                rintro _ _ ⟨rfl, rfl⟩
                rw [if_pos h32]
                refine .move ?_
                refine .extract ?_
                refine .extract ?_
                refine .assign (.assign (.x (.move ?_)))
                refine .lss ?_
                refine .move ?_
                refine .cast (d := 56) (u := .bool true) rfl (congrArg Value.bool (by first | (simp; done) | (simp; omega) | omega)) ?_
                refine .gT ?_
                refine .move ?_
                refine .gT ?_
                refine .nei ?_
                refine .gT ?_
                refine .move ?_
                refine .cast (d := 59) (u := .bool false) rfl (congrArg Value.bool (by first | (simp; done) | (simp; omega) | omega)) ?_
                refine .gT ?_
                refine .move ?_
                refine .gT ?_
                refine .move ?_
                refine .gT ?_
                refine .nei ?_
                refine .gT ?_
                refine .pickF ?_
                refine .pickT ?_
                refine .move ?_
                refine .cast (d := 65) (u := .bool false) rfl (congrArg Value.bool (by first | (simp; done) | (simp; omega) | omega)) ?_
                refine .gT ?_
                refine .move ?_
                refine .gT ?_
                refine .geq ?_
                refine .gT ?_
                refine .move ?_
                refine .cast (d := 68) (u := .bool false) rfl (congrArg Value.bool (by first | (simp; done) | (simp; omega) | omega)) ?_
                refine .gF ?_
                refine .gF ?_
                refine .gT ?_
                refine .pickF ?_
                refine .pickF ?_
                refine .z ?_
                refine .condF rfl rfl ?_
                refine .skip (.blockNormal (.next (.region (.move ?_))))
                refine .add ?_
                refine .assign (.nil ?_)
                refine .cast (d := 10) (u := .int .i64 ((k + 1 : Nat) : Int)) rfl (congrArg (Value.int .i64) (by omega)) ?_
                exact .back (k + 1) (by show k + 1 ≤ N; omega) (by show N - (k + 1) < N - k; omega)
              · refine .skip (.next (.seq (.block (.sr (.move ?_)))))
                refine .call (hc := Tryz.call30) (sp := tbOpenStep (t := t) (f := f) (n := k) (by omega)) (h := ?_)
                rintro _ _ ⟨rfl, rfl⟩
                rw [if_neg h32]
                refine .move ?_
                refine .extract ?_
                refine .extract ?_
                refine .assign (.assign (.x (.move ?_)))
                refine .lss ?_
                refine .move ?_
                refine .cast (d := 56) (u := .bool false) rfl (congrArg Value.bool (by first | (simp; done) | (simp; omega) | omega)) ?_
                refine .gF ?_
                refine .gF ?_
                refine .gF ?_
                refine .gU ?_
                refine .gU ?_
                refine .gU ?_
                refine .gF ?_
                refine .pickF ?_
                refine .move ?_
                refine .gT ?_
                refine .move ?_
                refine .gT ?_
                refine .geq ?_
                refine .gT ?_
                refine .move ?_
                refine .cast (d := 68) (u := .bool true) rfl (congrArg Value.bool (by first | (simp; done) | (simp; omega) | omega)) ?_
                refine .gT ?_
                refine .move ?_
                refine .gT ?_
                refine .nei ?_
                refine .gT ?_
                refine .pickT ?_
                refine .pickF ?_
                refine .z ?_
                refine .condF rfl (congrArg Value.bool (by first | (simp; done) | (simp; omega) | omega)) ?_
                refine .skip (.blockNormal (.next (.region (.move ?_))))
                refine .add ?_
                refine .assign (.nil ?_)
                refine .cast (d := 10) (u := .int .i64 ((k + 1 : Nat) : Int)) rfl (congrArg (Value.int .i64) (by omega)) ?_
                exact .back (k + 1) (by show k + 1 ≤ N; omega) (by show N - (k + 1) < N - k; omega)
            · have hge : k = N := by have h : ¬ (k : Int) < (N : Int) := of_decide_eq_false hb; omega
              subst hge
              have hN : manyT k = aT [] := if_neg (by omega)
              rw [hN]
              have hk := kvs_get k G
              rw [if_pos (by omega)] at hk
              have hdl := kdel_length (kvs_nodup k) hk
              rw [kvs_length] at hdl
              refine .exit (.thenExit (.thenExit (.blockExit (?_))))
              refine .next (.seq (.sr (.move (.move ?_))))
              refine .call (hc := Tryz.call31) (sp := tClose (t := t) (f := f) (kv := kvs k) (fd := (G : Int)) hk) (h := ?_)
              rintro _ _ ⟨rfl, rfl⟩
              refine .nei ?_
              refine .z ?_
              refine .condF rfl (congrArg Value.bool (by first | (simp; done) | (simp; omega) | omega)) ?_
              refine .skip (.next (.sr (.move ?_)))
              refine .call (hc := Tryz.call30) (sp := tbOpenA (t := t) (f := f) (fd := G) (kv := kdel (kvs k) (G : Int)) (b := []) (mk := false) (by omega) (by rw [kget_del (kvs_nodup k), if_pos rfl]) (fun j hj => ⟨_, by rw [kget_del (kvs_nodup k), if_neg (by omega), kvs_get, if_pos (by omega)], _, _, rfl⟩) (by omega)) (h := ?_)
              rintro _ _ ⟨rfl, rfl⟩
              refine .move ?_
              refine .extract ?_
              refine .extract ?_
              refine .assign (.assign (.x (.move ?_)))
              refine .eqi ?_
              refine .move ?_
              refine .cast (d := 84) (u := .bool true) rfl (congrArg Value.bool (by first | (simp; done) | (simp; omega) | omega)) ?_
              refine .gT ?_
              refine .move ?_
              refine .gT ?_
              refine .move ?_
              refine .gT ?_
              refine .eqi ?_
              refine .pickT ?_
              refine .move ?_
              refine .cast (d := 89) (u := .bool true) rfl (congrArg Value.bool (by first | (simp; done) | (simp; omega) | omega)) ?_
              refine .gT ?_
              refine .call (hc := Tryz.call28) (sp := l11Awake) (h := ?_)
              rintro _ _ ⟨rfl, rfl⟩
              refine .pickT ?_
              refine .assign (.z ?_)
              refine .ret (?_)
              exact .ret1 (h1 := .tmp (t := 4) rfl) ⟨_, ⟨rfl, rfl⟩, Am.auto⟩
end Go.Proofs.YtmmlbepfonndaaaGreatDoor
end
