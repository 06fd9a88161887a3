/- A part of the proof of lawSegNothing: texts of this work put together. -/
import Derived.Test.YthpdeihndjhjfaaGreatDoorQd5
import Derived.KernelRfl
set_option linter.unusedVariables false
set_option linter.unusedSimpArgs false
set_option linter.unusedSectionVars false
section
namespace Go.Proofs.YthpdeihndjhjfaaGreatDoor
open Go
theorem z36 : zeroOf Tryz.prog 36 = some (#[.slice none 0 0]) := by kernel_rfl
theorem sc36 : scalarOk Tryz.prog 36 = true := by kernel_rfl
theorem so36 : sliceOk Tryz.prog 36 34 5 56 = true := by kernel_rfl
theorem sl36 : Tryz.prog.underlying 36 = some (.slice 34) := by kernel_rfl
theorem segBatches0 {ll cs co s f : Nat} {off base : Int} {path : Bytes} {os : List (Nat × Obj)} {C : HP} : Spec Tryz.prog 60 (#[.func (.yield ll) #[] #[]] ++ #[.pointer (some ⟨cs, 0, none⟩), .pointer (some ⟨co, 0, none⟩)]) [C, pt cs (.cells #[.pointer (some ⟨s, 0, none⟩)] 27 (0, 0)), pt co (.cells #[.int .i64 off] 3 (0, 0)), pt s (sgO f path base ([] : List SRow) (.slice none 0 0)), rowR 72 6 (.slice none 0 0) ([] : List SRow).length (([] : List SRow).flatMap SRow.v), frz os] fun F v M => v = .tuple #[] ∧ M = [C, pt cs (.cells #[.pointer (some ⟨s, 0, none⟩)] 27 (0, 0)), pt co (.cells #[.int .i64 off] 3 (0, 0)), pt s (sgO f path base ([] : List SRow) (.slice none 0 0)), rowR 72 6 (.slice none 0 0) ([] : List SRow).length (([] : List SRow).flatMap SRow.v), frz os] ++ F := by
  refine Spec.intro Tryz.func60 rfl rfl fun B F => ?_
  simp only [Tryz.ntmps60, List.cons_append, List.nil_append, env0, Nat.reduceAdd]
  refine .seq (.sr ?_)
  refine .ld ?_ sc27
  refine .eqNil ?_ ptr27
  refine .z ?_
  refine .condF rfl rfl ?_
  refine .skip (.next (.sr ?_))
  refine .ld ?_ sc27
  refine .nilCheck ?_
  refine .fa ?_ fo58_4
  refine .ld ?_ sc56
  refine .lenS ?_ sl56
  refine .makeFuncB ?_
  refine .call (hc := Tryz.call61) (sp := sortSearch (gf := 62) (cap := #[.pointer (some ⟨cs, 0, none⟩), .pointer (some ⟨co, 0, none⟩)]) (n := 0) (p := fun _ => false) (L0 := []) Tryz.call62 (fun i hi => absurd hi (Nat.not_lt_zero i)) (by omega) (fun i j _ h => h)) (h := ?_)
  rintro _ _ ⟨k', rfl, ⟨hk'n, _, _⟩, rfl⟩
  obtain rfl : k' = 0 := by omega
  simp only [List.cons_append, List.nil_append]
  refine .assign (.x ?_)
  refine .ld ?_ sc27
  refine .nilCheck ?_
  refine .fa ?_ fo58_4
  refine .ld ?_ sc56
  refine .move ?_
  refine .slcN ?_ so56
  refine .lenS ?_ sl56
  refine .move (.z (.block ?_))
  refine .loopA (σ := Unit) (fun j => [(0, .func (.yield ll) #[] #[]), (1, .pointer (some ⟨cs, 0, none⟩)), (2, .pointer (some ⟨co, 0, none⟩)), (21, .slice none 0 0), (22, .int .i64 0), (23, .int .i64 0)]) (fun j => [C, pt cs (.cells #[.pointer (some ⟨s, 0, none⟩)] 27 (0, 0)), pt co (.cells #[.int .i64 off] 3 (0, 0)), pt s (sgO f path base ([] : List SRow) (.slice none 0 0)), rowR 72 6 (.slice none 0 0) ([] : List SRow).length (([] : List SRow).flatMap SRow.v), frz os] ++ F) (fun _ => True) (fun _ => 0) () trivial ?_
  rintro j hj
  refine .sr ?_
  refine .lss ?_
  refine .z (.seq ?_)
  refine .condF rfl (congrArg Value.bool (rfl)) ?_
  refine .exit (.thenExit (.thenExit (.blockExit (?_))))
  exact .ret0 ⟨_, ⟨rfl, rfl⟩, Am.auto⟩
theorem segBatchesU {ll cs co s f k : Nat} {off base : Int} {path : Bytes} {rows : List SRow} {u : Value} {os : List (Nat × Obj)} {C : Nat → HP} {Cx : HP} (hok : ∀ x ∈ rows, SRowOk os x) (hord : SegOrd rows) (hl : rows.length ≤ 100000) (hu : rows = [] → u = .slice none 0 0)
    (hk : k ≤ rows.length) (hk1 : ∀ i, i < k → hitR off rows i = false) (hk2 : ∀ i, k ≤ i → i < rows.length → hitR off rows i = true)
    (hY : ∀ (i : Nat) (x : SRow) (A2 : Addr) (c2 : Nat), rows[i]? = some x → k ≤ i → RSpec Tryz.prog ll [.agg (x.b.v (.slice (some A2) x.b.recs.length c2)).toArray, .int .i64 ((x.k : Nat) : Int)] [rowR 66 6 (.slice (some A2) x.b.recs.length c2) x.b.recs.length x.b.rv, C i] fun F b M => (b = true ∧ M = C (i + 1) :: F) ∨ (b = false ∧ M = Cx :: F)) :
    Spec Tryz.prog 60 (#[.func (.yield ll) #[] #[]] ++ #[.pointer (some ⟨cs, 0, none⟩), .pointer (some ⟨co, 0, none⟩)]) [C k, pt cs (.cells #[.pointer (some ⟨s, 0, none⟩)] 27 (0, 0)), pt co (.cells #[.int .i64 off] 3 (0, 0)), pt s (sgO f path base rows u), rowR 72 6 u rows.length (rows.flatMap SRow.v), frz os] fun F v M => v = .tuple #[] ∧ (M = [C rows.length, pt cs (.cells #[.pointer (some ⟨s, 0, none⟩)] 27 (0, 0)), pt co (.cells #[.int .i64 off] 3 (0, 0)), pt s (sgO f path base rows u), rowR 72 6 u rows.length (rows.flatMap SRow.v), frz os] ++ F ∨ M = [Cx, pt cs (.cells #[.pointer (some ⟨s, 0, none⟩)] 27 (0, 0)), pt co (.cells #[.int .i64 off] 3 (0, 0)), pt s (sgO f path base rows u), rowR 72 6 u rows.length (rows.flatMap SRow.v), frz os] ++ F) := by
  by_cases h0 : rows = []
  · obtain rfl := hu h0
    subst h0
    obtain rfl : k = 0 := by simpa using hk
    exact segBatches0.post (fun F v M ⟨h1, h2⟩ => ⟨M, ⟨h1, .inl h2⟩, .refl⟩)
  · have hpos : 0 < rows.length := List.length_pos_iff.2 h0
    refine Spec.ofFact (rowR_shape (el := 72) (size := 6) (k := rows.length) (v := u) (xs := rows.flatMap SRow.v)) fun ⟨A, c, hu2, hR, _, _, _⟩ => ?_
    obtain ⟨ab, ao, rfl⟩ : ∃ ab ao, A = some ⟨ab, ao, none⟩ := by
      cases A with
      | none =>
        have h0 : rows.flatMap SRow.v = [] := hR
        have h1 := flat_length SRow.v_len rows
        rw [h0] at h1
        simp at h1
        omega
      | some a =>
        obtain ⟨x, y, z⟩ := a
        have : z = none := hR.1
        subst this
        exact ⟨x, y, rfl⟩
    subst hu2
    exact segBatches hok hord hl hpos hk hk1 hk2 hY
structure BRow where
  b : Bt
  s : Value
def BRow.v (x : BRow) : List Value := x.b.v x.s
theorem BRow.v_len (x : BRow) : x.v.length = 5 := rfl
def BRowOk (os : List (Nat × Obj)) (x : BRow) : Prop := 0 < x.b.recs.length ∧ x.b.recs.length ≤ 10000 ∧ ∃ A c, x.s = .slice (some A) x.b.recs.length c ∧ Reads (frz os) (some A) x.b.rv
theorem BRowOk.mono {os os2 : List (Nat × Obj)} {x : BRow} (h : BRowOk os x) (hs : ∀ y ∈ os, y ∈ os2) : BRowOk os2 x := by
  obtain ⟨h1, h2, A, c, h3, h4, h5⟩ := h
  refine ⟨h1, h2, A, c, h3, h4, fun hh hf => h5 hh ?_⟩
  unfold frz at hf ⊢
  exact fun p hp => hf p (hs p hp)
theorem brow_single {b : Bt} {A : Option Addr} {m c : Nat} : ∀ u ∈ b.v (.slice A m c), Value.single u = true := by
  intro u hu
  unfold Bt.v at hu
  simp only [List.mem_cons, List.not_mem_nil, or_false] at hu
  rcases hu with rfl | rfl | rfl | rfl | rfl <;> rfl
theorem bsBat1 (a s p q : Int) (A : Option Addr) (m c : Nat) : BuildSOk Tryz.prog 36 1 [(0, .agg #[.int .i64 a, .int .i64 s, .int .i64 p, .int .i64 q, .slice A m c])] 34 #[.int .i64 a, .int .i64 s, .int .i64 p, .int .i64 q, .slice A m c] := fun w => by kernel_rfl
theorem hit_all {os : List (Nat × Obj)} {rows : List SRow} {off : Int} (h : ∀ x ∈ rows, SRowOk os x) (ho : off < 0) : ∀ i, 0 ≤ i → i < rows.length → hitR off rows i = true := by
  intro i _ hi
  rw [hitR_at (List.getElem?_eq_getElem hi)]
  have := (h _ (List.getElem_mem hi)).rng
  exact decide_eq_true (by omega)
theorem take_snoc {α : Type} {l : List α} {i : Nat} {x : α} (h : l[i]? = some x) : l.take (i + 1) = l.take i ++ [x] := by
  rw [List.take_add_one, h]; rfl
theorem segBatchesF {s : Nat} {off : Int} : Spec Tryz.prog 33 #[.pointer (some ⟨s, 0, none⟩), .int .i64 off] [] fun F v M => ∃ cs co, v = .func (.func 60) #[] #[.pointer (some ⟨cs, 0, none⟩), .pointer (some ⟨co, 0, none⟩)] ∧ M = pt cs (.cells #[.pointer (some ⟨s, 0, none⟩)] 27 (0, 0)) :: pt co (.cells #[.int .i64 off] 3 (0, 0)) :: F := by
  refine Spec.intro Tryz.func33 rfl rfl fun B F => ?_
  simp only [Tryz.ntmps33, List.cons_append, List.nil_append, env0, Nat.reduceAdd]
  refine .sr ?_
  refine .box fun b2 => ?_
  refine .box fun b3 => ?_
  refine .assign (.x ?_)
  refine .makeFuncB ?_
  refine .assign (.z ?_)
  refine .ret (?_)
  exact .ret1 (h1 := .tmp (t := 4) rfl) ⟨_, ⟨_, _, rfl, rfl⟩, Am.auto⟩
theorem segAll {s f : Nat} {path : Bytes} {base : Int} {rows : List SRow} {u : Value} {os : List (Nat × Obj)} (hok : ∀ x ∈ rows, SRowOk os x) (hord : SegOrd rows) (hl : rows.length ≤ 100000) (hu : rows = [] → u = .slice none 0 0) : Spec Tryz.prog 17 #[.pointer (some ⟨s, 0, none⟩)] [pt s (sgO f path base rows u), rowR 72 6 u rows.length (rows.flatMap SRow.v), frz os] fun F v M => ∃ (l : List BRow) (os2 : List (Nat × Obj)), (l.map BRow.b = rows.map SRow.b ∧ ∀ y ∈ l, BRowOk os2 y) ∧ M = rowR 34 5 v l.length (l.flatMap BRow.v) :: frz os2 :: pt s (sgO f path base rows u) :: rowR 72 6 u rows.length (rows.flatMap SRow.v) :: frz os :: F := by
  refine Spec.introM Tryz.func17 rfl rfl fun B F => ?_
  simp only [Tryz.ntmps17, List.cons_append, List.nil_append, env0, Nat.reduceAdd]
  refine .sr ?_
  refine .alloc z36 fun b2 => ?_
  refine .z (.seq (.sr (.move ?_)))
  refine .call (hc := Tryz.call33) (sp := segBatchesF) (h := ?_)
  rintro _ _ ⟨cs, co, rfl, rfl⟩
  refine .z (.block ?_)
  refine .emp (A := rowR 34 5 (.slice none 0 0) ([] : List BRow).length (([] : List BRow).flatMap BRow.v)) (rowR.nil _) ?_
  refine .emp (A := frz []) frz_nil ?_
  refine .rangeK rfl Tryz.call60 fun fn D ll tmps mk hmk hts hget => ?_
  obtain ⟨C, hC⟩ : ∃ C : Nat → HP, C = fun i => exH (fun x : Value × List BRow × List (Nat × Obj) => x.2.1.map BRow.b = (rows.take i).map SRow.b ∧ ∀ y ∈ x.2.1, BRowOk x.2.2 y) (fun x => [pt ll (.loop (mk .ready none)), pt b2 (.cells #[x.1] 36 (0, 0)), rowR 34 5 x.1 x.2.1.length (x.2.1.flatMap BRow.v), frz x.2.2]) := ⟨_, rfl⟩
  have hopen : ∀ i, Opens (C i) (fun x : Value × List BRow × List (Nat × Obj) => x.2.1.map BRow.b = (rows.take i).map SRow.b ∧ ∀ y ∈ x.2.1, BRowOk x.2.2 y) (fun x => [pt ll (.loop (mk .ready none)), pt b2 (.cells #[x.1] 36 (0, 0)), rowR 34 5 x.1 x.2.1.length (x.2.1.flatMap BRow.v), frz x.2.2]) := fun i => by rw [hC]; exact exH.opens
  clear hC
  have hY : ∀ (i : Nat) (x : SRow) (A2 : Addr) (c2 : Nat), rows[i]? = some x → 0 ≤ i → RSpec Tryz.prog ll [.agg (x.b.v (.slice (some A2) x.b.recs.length c2)).toArray, .int .i64 ((x.k : Nat) : Int)] [rowR 66 6 (.slice (some A2) x.b.recs.length c2) x.b.recs.length x.b.rv, C i] fun F b M => (b = true ∧ M = C (i + 1) :: F) ∨ (b = false ∧ M = exH (fun _ : Unit => False) (fun _ => []) :: F) := by
    intro i x A2 c2 hx _
    have hxok := hok x (List.mem_of_getElem? hx)
    have hil : i < rows.length := (List.getElem?_eq_some_iff.1 hx).1
    refine RSpec.pre' (pre := C i :: [rowR 66 6 (.slice (some A2) x.b.recs.length c2) x.b.recs.length x.b.rv]) (RSpec.opens (hopen i) fun y hy => ?_) (fun B w F hs => hs.take (.cons (.there .here) (.cons .here .nil)))
    obtain ⟨v, l, os2⟩ := y
    obtain ⟨hy1, hy2⟩ := hy
    simp only at hy1 hy2
    have hll : l.length ≤ 100000 := by
      have h1 := congrArg List.length hy1
      simp only [List.length_map, List.length_take] at h1
      omega
    simp only [List.cons_append, List.nil_append]
    refine RSpec.post' (R := fun F b M => b = true ∧ ∃ (v : Value) (l : List BRow) (os2 : List (Nat × Obj)), (l.map BRow.b = (rows.take (i + 1)).map SRow.b ∧ ∀ y ∈ l, BRowOk os2 y) ∧ M = pt ll (.loop (mk .ready none)) :: pt b2 (.cells #[v] 36 (0, 0)) :: rowR 34 5 v l.length (l.flatMap BRow.v) :: frz os2 :: F) (RSpec.introK (ps := [6, 7]) (k := 13) hmk hts hget rfl rfl fun B F => ?_) ?_
    · simp only [envs, List.cons_append, List.nil_append]
      refine WJ.region .auto ?_
      refine .alloc z34 fun b3 => ?_
      refine .stV ?_ agg34
      refine .nil ?_
      refine .beginK hmk ?_ (by repeat (first | exact .here | apply Rem.there | apply Repl.there | apply Mem.there))
      refine WJ.block ?_
      refine WJ.region .auto ?_
      refine .ld ?_ sc36
      refine .ldA ?_ agg34
      refine .buildS (fun b10 => ?_) (bsBat1 _ _ _ _ _ _ _)
      refine .toE (A := rowR 66 6 (.slice (some A2) x.b.recs.length c2) x.b.recs.length x.b.rv) (pt_of_rowR hxok.pos) ?_
      rintro ⟨g2, q2, cur⟩ ⟨hv2, htk⟩
      injection hv2 with hA2 _ hc2
      injection hA2 with hA2
      simp only at hA2 hc2 htk
      subst hA2
      subst hc2
      refine .frzAdd ?_
      have hnew : BRowOk ((g2, .cells cur 66 (0, 0)) :: os2) (⟨x.b, .slice (some ⟨g2, 0, none⟩) x.b.recs.length c2⟩ : BRow) := ⟨hxok.pos, hxok.len, _, c2, rfl, by
        have := (Reads.frz (os := (g2, .cells cur 66 (0, 0)) :: os2) (b := g2) (cs := cur) (List.mem_cons_self ..)).take x.b.rv.length
        rwa [htk] at this⟩
      refine .append (v := v) (m := 1) (k := l.length) (xs := l.flatMap BRow.v) (news := BRow.v (⟨x.b, .slice (some ⟨g2, 0, none⟩) x.b.recs.length c2⟩ : BRow)) so36 (by decide) (by repeat (first | exact .here | apply Rem.there | apply Repl.there | apply Mem.there)) (Reads.pt (cs := (BRow.v (⟨x.b, .slice (some ⟨g2, 0, none⟩) x.b.recs.length c2⟩ : BRow)).toArray)) (by repeat (first | exact .here | apply Rem.there | apply Repl.there | apply Mem.there)) rfl brow_single (by unfold maxLen; omega) (by omega) ⟨_, z34, rfl⟩ (fun v2 hv2 => ?_)
      rw [show l.flatMap BRow.v ++ BRow.v (⟨x.b, .slice (some ⟨g2, 0, none⟩) x.b.recs.length c2⟩ : BRow) = (l ++ [(⟨x.b, .slice (some ⟨g2, 0, none⟩) x.b.recs.length c2⟩ : BRow)]).flatMap BRow.v by rw [List.flatMap_append, List.flatMap_singleton], show l.length + 1 = (l ++ [(⟨x.b, .slice (some ⟨g2, 0, none⟩) x.b.recs.length c2⟩ : BRow)]).length by simp]
      refine .fact (rowR_shape (el := 34) (size := 5) (k := (l ++ [(⟨x.b, .slice (some ⟨g2, 0, none⟩) x.b.recs.length c2⟩ : BRow)]).length) (v := v2) (xs := (l ++ [(⟨x.b, .slice (some ⟨g2, 0, none⟩) x.b.recs.length c2⟩ : BRow)]).flatMap BRow.v)) fun ⟨A9, c9, hv9, _⟩ => ?_
      subst hv9
      refine .st ?_ sc36
      refine .nil (.blockNormal ?_)
      refine .rndK hmk ?_ (by repeat (first | exact .here | apply Rem.there | apply Repl.there | apply Mem.there))
      exact ⟨_, ⟨rfl, _, l ++ [(⟨x.b, .slice (some ⟨g2, 0, none⟩) x.b.recs.length c2⟩ : BRow)], (g2, .cells cur 66 (0, 0)) :: os2, ⟨by rw [List.map_append, hy1, take_snoc hx, List.map_append]; rfl, fun y hy => (List.mem_append.1 hy).elim (fun h => (hy2 y h).mono fun z hz => List.mem_cons_of_mem _ hz) (fun h => by rw [List.mem_singleton.1 h]; exact hnew)⟩, rfl⟩, Am.auto⟩
    · rintro F b M B w ⟨rfl, v, l, os2, h1, rfl⟩ hs
      exact ⟨_, .inl ⟨rfl, rfl⟩, Sat.shuts (hopen (i + 1)) (x := (v, l, os2)) h1 hs⟩
  refine ⟨pt ll (.loop (mk .ready none)) :: pt b2 (.cells #[.slice none 0 0] 36 (0, 0)) :: rowR 34 5 (.slice none 0 0) ([] : List BRow).length (([] : List BRow).flatMap BRow.v) :: frz [] :: pt cs (.cells #[.pointer (some ⟨s, 0, none⟩)] 27 (0, 0)) :: pt co (.cells #[.int .i64 (-1)] 3 (0, 0)) :: pt s (sgO f path base rows u) :: rowR 72 6 u rows.length (rows.flatMap SRow.v) :: frz os :: [], _, fun G v M => v = .tuple #[] ∧ ∃ (v2 : Value) (l : List BRow) (os2 : List (Nat × Obj)), (l.map BRow.b = rows.map SRow.b ∧ ∀ y ∈ l, BRowOk os2 y) ∧ M = pt ll (.loop (mk .ready none)) :: pt b2 (.cells #[v2] 36 (0, 0)) :: rowR 34 5 v2 l.length (l.flatMap BRow.v) :: frz os2 :: pt cs (.cells #[.pointer (some ⟨s, 0, none⟩)] 27 (0, 0)) :: pt co (.cells #[.int .i64 (-1)] 3 (0, 0)) :: pt s (sgO f path base rows u) :: rowR 72 6 u rows.length (rows.flatMap SRow.v) :: frz os :: G, Spec.post' (Spec.pre' (segBatchesU (k := 0) hok hord hl hu (Nat.zero_le _) (fun i h => absurd h (Nat.not_lt_zero i)) (hit_all hok (by decide)) hY) (fun B w G hs => Sat.shuts (hopen 0) (x := (.slice none 0 0, [], [])) ⟨by simp, fun y hy => absurd hy (List.not_mem_nil)⟩ hs)) ?_, by repeat (first | exact .nil | (apply Tk.cons; focus ((repeat (first | exact .here | apply Rem.there)); done))), ?_⟩
  · rintro G v M B w ⟨rfl, rfl | rfl⟩ hs
    · obtain ⟨x, hx, hs1⟩ := Sat.opens hs (hopen _)
      rw [List.take_length] at hx
      exact ⟨_, ⟨rfl, x.1, x.2.1, x.2.2, hx, rfl⟩, hs1⟩
    · obtain ⟨_, hx, _⟩ := Sat.opens hs exH.opens
      exact hx.elim
  rintro v M ⟨rfl, v2, l, os2, hfin, rfl⟩
  refine ⟨.ready, none, _, .here, by decide, ?_⟩
  show WQ _ _ _ .normal _ _
  refine .blockNormal (.next (.sr ?_))
  refine .fact (rowR_shape (el := 34) (size := 5) (k := l.length) (v := v2) (xs := l.flatMap BRow.v)) fun ⟨A9, c9, hv9, _⟩ => ?_
  subst hv9
  refine .ld ?_ sc36
  refine .st ?_ sc36
  refine .z ?_
  refine .ret (?_)
  refine .retM1 (D := D) (r := .cell 2 36) ?_ (by repeat (first | exact .here | apply Rem.there | apply Repl.there | apply Mem.there)) (.cell rfl (by kernel_rfl) (by repeat (first | exact .here | apply Rem.there | apply Repl.there | apply Mem.there)) rfl)
  exact ⟨_, ⟨l, os2, hfin, rfl⟩, Am.auto⟩
def takeR (mx : Int) : Int → Bool → List SRow → List SRow
  | _, _, [] => []
  | n, h, x :: l => if h = true ∧ mx < n + ((x.k : Nat) : Int) then [] else x :: takeR mx (n + ((x.k : Nat) : Int)) true l
theorem segRead {s f : Nat} {path : Bytes} {base : Int} {rows : List SRow} {u : Value} {os : List (Nat × Obj)} (hok : ∀ x ∈ rows, SRowOk os x) (hord : SegOrd rows) (hl : rows.length ≤ 100000) (hu : rows = [] → u = .slice none 0 0) {k : Nat} {off mx : Int} (hkk : ∀ x ∈ rows, x.k ≤ 6000) (hk : k ≤ rows.length) (hk1 : ∀ i, i < k → hitR off rows i = false) (hk2 : ∀ i, k ≤ i → i < rows.length → hitR off rows i = true) :
    Spec Tryz.prog 13 #[.pointer (some ⟨s, 0, none⟩), .int .i64 off, .int .i64 mx] [pt s (sgO f path base rows u), rowR 72 6 u rows.length (rows.flatMap SRow.v), frz os] fun F v M => ∃ (l : List BRow) (os2 : List (Nat × Obj)), (l.map BRow.b = (takeR mx 0 false (rows.drop k)).map SRow.b ∧ ∀ y ∈ l, BRowOk os2 y) ∧ M = rowR 34 5 v l.length (l.flatMap BRow.v) :: frz os2 :: pt s (sgO f path base rows u) :: rowR 72 6 u rows.length (rows.flatMap SRow.v) :: frz os :: F := by
  refine Spec.introM Tryz.func13 rfl rfl fun B F => ?_
  simp only [Tryz.ntmps13, List.cons_append, List.nil_append, env0, Nat.reduceAdd]
  refine .sr ?_
  refine .box fun b5 => ?_
  refine .alloc z36 fun b6 => ?_
  refine .x ?_
  refine .alloc z3 fun b7 => ?_
  refine .st ?_ sc3
  refine .z (.seq (.sr (.move (.move ?_))))
  refine .call (hc := Tryz.call33) (sp := segBatchesF) (h := ?_)
  rintro _ _ ⟨cs, co, rfl, rfl⟩
  refine .z (.block ?_)
  refine .emp (A := rowR 34 5 (.slice none 0 0) ([] : List BRow).length (([] : List BRow).flatMap BRow.v)) (rowR.nil _) ?_
  refine .emp (A := frz []) frz_nil ?_
  obtain ⟨res, hres⟩ : ∃ res, res = (takeR mx 0 false (rows.drop k)).map SRow.b := ⟨_, rfl⟩
  rw [← hres]
  refine .rangeK rfl Tryz.call60 fun fn D ll tmps mk hmk hts hget => ?_
  obtain ⟨C, hC⟩ : ∃ C : Nat → HP, C = fun i => exH (fun x : Value × List BRow × List (Nat × Obj) × Int => x.2.1.map BRow.b ++ (takeR mx x.2.2.2 (decide (0 < x.2.1.length)) (rows.drop i)).map SRow.b = res ∧ (0 ≤ x.2.2.2 ∧ x.2.2.2 ≤ 6000 * ((i : Nat) : Int)) ∧ x.2.1.length ≤ i ∧ ∀ y ∈ x.2.1, BRowOk x.2.2.1 y) (fun x => [pt ll (.loop (mk .ready none)), pt b5 (.cells #[.int .i64 mx] 3 (0, 0)), pt b6 (.cells #[x.1] 36 (0, 0)), pt b7 (.cells #[.int .i64 x.2.2.2] 3 (0, 0)), rowR 34 5 x.1 x.2.1.length (x.2.1.flatMap BRow.v), frz x.2.2.1]) := ⟨_, rfl⟩
  have hopen : ∀ i, Opens (C i) (fun x : Value × List BRow × List (Nat × Obj) × Int => x.2.1.map BRow.b ++ (takeR mx x.2.2.2 (decide (0 < x.2.1.length)) (rows.drop i)).map SRow.b = res ∧ (0 ≤ x.2.2.2 ∧ x.2.2.2 ≤ 6000 * ((i : Nat) : Int)) ∧ x.2.1.length ≤ i ∧ ∀ y ∈ x.2.1, BRowOk x.2.2.1 y) (fun x => [pt ll (.loop (mk .ready none)), pt b5 (.cells #[.int .i64 mx] 3 (0, 0)), pt b6 (.cells #[x.1] 36 (0, 0)), pt b7 (.cells #[.int .i64 x.2.2.2] 3 (0, 0)), rowR 34 5 x.1 x.2.1.length (x.2.1.flatMap BRow.v), frz x.2.2.1]) := fun i => by rw [hC]; exact exH.opens
  obtain ⟨Cx, hCx⟩ : ∃ Cx : HP, Cx = exH (fun x : Value × List BRow × List (Nat × Obj) × Int => x.2.1.map BRow.b = res ∧ ∀ y ∈ x.2.1, BRowOk x.2.2.1 y) (fun x => [pt ll (.loop (mk .done (some (.exit 0)))), pt b5 (.cells #[.int .i64 mx] 3 (0, 0)), pt b6 (.cells #[x.1] 36 (0, 0)), pt b7 (.cells #[.int .i64 x.2.2.2] 3 (0, 0)), rowR 34 5 x.1 x.2.1.length (x.2.1.flatMap BRow.v), frz x.2.2.1]) := ⟨_, rfl⟩
  have hopenx : Opens Cx (fun x : Value × List BRow × List (Nat × Obj) × Int => x.2.1.map BRow.b = res ∧ ∀ y ∈ x.2.1, BRowOk x.2.2.1 y) (fun x => [pt ll (.loop (mk .done (some (.exit 0)))), pt b5 (.cells #[.int .i64 mx] 3 (0, 0)), pt b6 (.cells #[x.1] 36 (0, 0)), pt b7 (.cells #[.int .i64 x.2.2.2] 3 (0, 0)), rowR 34 5 x.1 x.2.1.length (x.2.1.flatMap BRow.v), frz x.2.2.1]) := by rw [hCx]; exact exH.opens
  clear hC hCx
  have hY : ∀ (i : Nat) (x : SRow) (A2 : Addr) (c2 : Nat), rows[i]? = some x → k ≤ i → RSpec Tryz.prog ll [.agg (x.b.v (.slice (some A2) x.b.recs.length c2)).toArray, .int .i64 ((x.k : Nat) : Int)] [rowR 66 6 (.slice (some A2) x.b.recs.length c2) x.b.recs.length x.b.rv, C i] fun F b M => (b = true ∧ M = C (i + 1) :: F) ∨ (b = false ∧ M = Cx :: F) := by
    intro i x A2 c2 hx _
    have hxok := hok x (List.mem_of_getElem? hx)
    have hxk := hkk x (List.mem_of_getElem? hx)
    have hil : i < rows.length := (List.getElem?_eq_some_iff.1 hx).1
    have hdr : rows.drop i = x :: rows.drop (i + 1) := by
      rw [List.drop_eq_getElem_cons hil, (List.getElem?_eq_some_iff.1 hx).2]
    refine RSpec.pre' (pre := C i :: [rowR 66 6 (.slice (some A2) x.b.recs.length c2) x.b.recs.length x.b.rv]) (RSpec.opens (hopen i) fun y hy => ?_) (fun B w F hs => hs.take (.cons (.there .here) (.cons .here .nil)))
    obtain ⟨v, l, os2, n⟩ := y
    obtain ⟨hy1, hy2, hy3, hy4⟩ := hy
    simp only at hy1 hy2 hy3 hy4
    rw [hdr] at hy1
    simp only [List.cons_append, List.nil_append]
    refine RSpec.post' (R := fun F b M => (b = true ∧ ∃ (v : Value) (l : List BRow) (os2 : List (Nat × Obj)) (n : Int), (l.map BRow.b ++ (takeR mx n (decide (0 < l.length)) (rows.drop (i + 1))).map SRow.b = res ∧ (0 ≤ n ∧ n ≤ 6000 * (((i + 1) : Nat) : Int)) ∧ l.length ≤ (i + 1) ∧ ∀ y ∈ l, BRowOk os2 y) ∧ M = pt ll (.loop (mk .ready none)) :: pt b5 (.cells #[.int .i64 mx] 3 (0, 0)) :: pt b6 (.cells #[v] 36 (0, 0)) :: pt b7 (.cells #[.int .i64 n] 3 (0, 0)) :: rowR 34 5 v l.length (l.flatMap BRow.v) :: frz os2 :: F) ∨ (b = false ∧ ∃ (v : Value) (l : List BRow) (os2 : List (Nat × Obj)) (n : Int), (l.map BRow.b = res ∧ ∀ y ∈ l, BRowOk os2 y) ∧ M = pt ll (.loop (mk .done (some (.exit 0)))) :: pt b5 (.cells #[.int .i64 mx] 3 (0, 0)) :: pt b6 (.cells #[v] 36 (0, 0)) :: pt b7 (.cells #[.int .i64 n] 3 (0, 0)) :: rowR 34 5 v l.length (l.flatMap BRow.v) :: frz os2 :: F)) (RSpec.introK (ps := [13, 14]) (k := 31) hmk hts hget rfl rfl fun B F => ?_) ?_
    · simp only [envs, List.cons_append, List.nil_append]
      refine WJ.seq ?_
      refine WJ.region .auto ?_
      refine .alloc z34 fun b8 => ?_
      refine .stV ?_ agg34
      refine .nil ?_
      refine .nextI ?_
      refine WJ.region .auto ?_
      refine .assign (.nil ?_)
      refine .beginK hmk ?_ (by repeat (first | exact .here | apply Rem.there | apply Repl.there | apply Mem.there))
      by_cases h1 : mx < n + ((x.k : Nat) : Int)
      · by_cases h2 : 0 < l.length
        · have hst : l.map BRow.b = res := by
            have h := hy1
            unfold takeR at h
            rwa [if_pos ⟨decide_eq_true h2, h1⟩, List.map_nil, List.append_nil] at h
          refine WJ.block ?_
          refine WJ.seq ?_
          refine WJ.seq ?_
          refine WJ.region .auto ?_
          refine .ld ?_ sc3
          refine .move ?_
          refine .add ?_
          refine .st ?_ sc3
          refine .nil ?_
          refine .nextI ?_
          refine WJ.seq ?_
          refine WJ.region .auto ?_
          refine .ld ?_ sc3
          refine .ld ?_ sc3
          refine .gtr ?_
          refine .move ?_
          refine .cast (d := 21) (u := .bool true) rfl (congrArg Value.bool (by first | (simp; done) | (exact decide_eq_true (by omega)) | (exact decide_eq_false (by omega)) | (simp; omega) | omega)) ?_
          refine .gT ?_
          refine .ld ?_ sc36
          refine .fact (rowR_shape (el := 34) (size := 5) (k := l.length) (v := v) (xs := l.flatMap BRow.v)) fun ⟨A8, c8, hv8, _⟩ => ?_
          refine .cast (d := 22) (u := .slice A8 l.length c8) rfl hv8 ?_
          refine .gT ?_
          refine .lenS ?_ sl36
          refine .gT ?_
          refine .gtr ?_
          refine .pickT ?_
          refine .nil ?_
          refine .nextI ?_
          refine WJ.condT rfl (congrArg Value.bool (by first | (simp; done) | (exact decide_eq_true (by omega)) | (exact decide_eq_false (by omega)) | (simp; omega) | omega)) ?_
          refine WJ.exit (.thenExit (.blockPast rfl (?_)))
          refine .rndExitK hmk ?_ (by repeat (first | exact .here | apply Rem.there | apply Repl.there | apply Mem.there))
          exact ⟨_, .inr ⟨rfl, v, l, os2, _, ⟨hst, hy4⟩, rfl⟩, Am.auto⟩
        · have hgo : l.map BRow.b ++ (x :: takeR mx (n + ((x.k : Nat) : Int)) true (rows.drop (i + 1))).map SRow.b = res := by
            have h := hy1
            unfold takeR at h
            rwa [if_neg (fun h => h2 (of_decide_eq_true h.1))] at h
          refine WJ.block ?_
          refine WJ.seq ?_
          refine WJ.seq ?_
          refine WJ.region .auto ?_
          refine .ld ?_ sc3
          refine .move ?_
          refine .add ?_
          refine .st ?_ sc3
          refine .nil ?_
          refine .nextI ?_
          refine WJ.seq ?_
          refine WJ.region .auto ?_
          refine .ld ?_ sc3
          refine .ld ?_ sc3
          refine .gtr ?_
          refine .move ?_
          refine .cast (d := 21) (u := .bool true) rfl (congrArg Value.bool (by first | (simp; done) | (exact decide_eq_true (by omega)) | (exact decide_eq_false (by omega)) | (simp; omega) | omega)) ?_
          refine .gT ?_
          refine .ld ?_ sc36
          refine .fact (rowR_shape (el := 34) (size := 5) (k := l.length) (v := v) (xs := l.flatMap BRow.v)) fun ⟨A8, c8, hv8, _⟩ => ?_
          refine .cast (d := 22) (u := .slice A8 l.length c8) rfl hv8 ?_
          refine .gT ?_
          refine .lenS ?_ sl36
          refine .gT ?_
          refine .gtr ?_
          refine .pickT ?_
          refine .nil ?_
          refine .nextI ?_
          refine WJ.condF rfl (congrArg Value.bool (by first | (simp; done) | (exact decide_eq_true (by omega)) | (exact decide_eq_false (by omega)) | (simp; omega) | omega)) ?_
          refine WJ.skip ?_
          refine .nextI ?_
          refine WJ.region .auto ?_
          refine .ld ?_ sc36
          refine .ldA ?_ agg34
          refine .buildS (fun b28 => ?_) (bsBat1 _ _ _ _ _ _ _)
          refine .toE (A := rowR 66 6 (.slice (some A2) x.b.recs.length c2) x.b.recs.length x.b.rv) (pt_of_rowR hxok.pos) ?_
          rintro ⟨g2, q2, cur⟩ ⟨hv2, htk⟩
          injection hv2 with hA2 _ hc2
          injection hA2 with hA2
          simp only at hA2 hc2 htk
          subst hA2
          subst hc2
          refine .frzAdd ?_
          have hnew : BRowOk ((g2, .cells cur 66 (0, 0)) :: os2) (⟨x.b, .slice (some ⟨g2, 0, none⟩) x.b.recs.length c2⟩ : BRow) := ⟨hxok.pos, hxok.len, _, c2, rfl, by
            have := (Reads.frz (os := (g2, .cells cur 66 (0, 0)) :: os2) (b := g2) (cs := cur) (List.mem_cons_self ..)).take x.b.rv.length
            rwa [htk] at this⟩
          refine .append (v := v) (m := 1) (k := l.length) (xs := l.flatMap BRow.v) (news := BRow.v (⟨x.b, .slice (some ⟨g2, 0, none⟩) x.b.recs.length c2⟩ : BRow)) so36 (by decide) (by repeat (first | exact .here | apply Rem.there | apply Repl.there | apply Mem.there)) (Reads.pt (cs := (BRow.v (⟨x.b, .slice (some ⟨g2, 0, none⟩) x.b.recs.length c2⟩ : BRow)).toArray)) (by repeat (first | exact .here | apply Rem.there | apply Repl.there | apply Mem.there)) rfl brow_single (by unfold maxLen; omega) (by omega) ⟨_, z34, rfl⟩ (fun v2 hv2 => ?_)
          rw [show l.flatMap BRow.v ++ BRow.v (⟨x.b, .slice (some ⟨g2, 0, none⟩) x.b.recs.length c2⟩ : BRow) = (l ++ [(⟨x.b, .slice (some ⟨g2, 0, none⟩) x.b.recs.length c2⟩ : BRow)]).flatMap BRow.v by rw [List.flatMap_append, List.flatMap_singleton], show l.length + 1 = (l ++ [(⟨x.b, .slice (some ⟨g2, 0, none⟩) x.b.recs.length c2⟩ : BRow)]).length by simp]
          refine .fact (rowR_shape (el := 34) (size := 5) (k := (l ++ [(⟨x.b, .slice (some ⟨g2, 0, none⟩) x.b.recs.length c2⟩ : BRow)]).length) (v := v2) (xs := (l ++ [(⟨x.b, .slice (some ⟨g2, 0, none⟩) x.b.recs.length c2⟩ : BRow)]).flatMap BRow.v)) fun ⟨A9, c9, hv9, _⟩ => ?_
          subst hv9
          refine .st ?_ sc36
          refine .nil (.blockNormal ?_)
          refine .rndK hmk ?_ (by repeat (first | exact .here | apply Rem.there | apply Repl.there | apply Mem.there))
          exact ⟨_, .inl ⟨rfl, _, l ++ [(⟨x.b, .slice (some ⟨g2, 0, none⟩) x.b.recs.length c2⟩ : BRow)], (g2, .cells cur 66 (0, 0)) :: os2, _, ⟨by rw [← hgo, List.map_append, List.append_assoc, show decide (0 < (l ++ [(⟨x.b, .slice (some ⟨g2, 0, none⟩) x.b.recs.length c2⟩ : BRow)]).length) = true by simp]; rfl, ⟨by omega, by omega⟩, by simp only [List.length_append, List.length_singleton]; omega, fun y hy => (List.mem_append.1 hy).elim (fun h => (hy4 y h).mono fun z hz => List.mem_cons_of_mem _ hz) (fun h => by rw [List.mem_singleton.1 h]; exact hnew)⟩, rfl⟩, Am.auto⟩
      · have hgo : l.map BRow.b ++ (x :: takeR mx (n + ((x.k : Nat) : Int)) true (rows.drop (i + 1))).map SRow.b = res := by
          have h := hy1
          unfold takeR at h
          rwa [if_neg (fun h => h1 h.2)] at h
        refine WJ.block ?_
        refine WJ.seq ?_
        refine WJ.seq ?_
        refine WJ.region .auto ?_
        refine .ld ?_ sc3
        refine .move ?_
        refine .add ?_
        refine .st ?_ sc3
        refine .nil ?_
        refine .nextI ?_
        refine WJ.seq ?_
        refine WJ.region .auto ?_
        refine .ld ?_ sc3
        refine .ld ?_ sc3
        refine .gtr ?_
        refine .move ?_
        refine .cast (d := 21) (u := .bool false) rfl (congrArg Value.bool (by first | (simp; done) | (exact decide_eq_true (by omega)) | (exact decide_eq_false (by omega)) | (simp; omega) | omega)) ?_
        refine .gF ?_
        refine .gF ?_
        refine .gF ?_
        refine .pickF ?_
        refine .nil ?_
        refine .nextI ?_
        refine WJ.condF rfl rfl ?_
        refine WJ.skip ?_
        refine .nextI ?_
        refine WJ.region .auto ?_
        refine .ld ?_ sc36
        refine .ldA ?_ agg34
        refine .buildS (fun b28 => ?_) (bsBat1 _ _ _ _ _ _ _)
        refine .toE (A := rowR 66 6 (.slice (some A2) x.b.recs.length c2) x.b.recs.length x.b.rv) (pt_of_rowR hxok.pos) ?_
        rintro ⟨g2, q2, cur⟩ ⟨hv2, htk⟩
        injection hv2 with hA2 _ hc2
        injection hA2 with hA2
        simp only at hA2 hc2 htk
        subst hA2
        subst hc2
        refine .frzAdd ?_
        have hnew : BRowOk ((g2, .cells cur 66 (0, 0)) :: os2) (⟨x.b, .slice (some ⟨g2, 0, none⟩) x.b.recs.length c2⟩ : BRow) := ⟨hxok.pos, hxok.len, _, c2, rfl, by
          have := (Reads.frz (os := (g2, .cells cur 66 (0, 0)) :: os2) (b := g2) (cs := cur) (List.mem_cons_self ..)).take x.b.rv.length
          rwa [htk] at this⟩
        refine .append (v := v) (m := 1) (k := l.length) (xs := l.flatMap BRow.v) (news := BRow.v (⟨x.b, .slice (some ⟨g2, 0, none⟩) x.b.recs.length c2⟩ : BRow)) so36 (by decide) (by repeat (first | exact .here | apply Rem.there | apply Repl.there | apply Mem.there)) (Reads.pt (cs := (BRow.v (⟨x.b, .slice (some ⟨g2, 0, none⟩) x.b.recs.length c2⟩ : BRow)).toArray)) (by repeat (first | exact .here | apply Rem.there | apply Repl.there | apply Mem.there)) rfl brow_single (by unfold maxLen; omega) (by omega) ⟨_, z34, rfl⟩ (fun v2 hv2 => ?_)
        rw [show l.flatMap BRow.v ++ BRow.v (⟨x.b, .slice (some ⟨g2, 0, none⟩) x.b.recs.length c2⟩ : BRow) = (l ++ [(⟨x.b, .slice (some ⟨g2, 0, none⟩) x.b.recs.length c2⟩ : BRow)]).flatMap BRow.v by rw [List.flatMap_append, List.flatMap_singleton], show l.length + 1 = (l ++ [(⟨x.b, .slice (some ⟨g2, 0, none⟩) x.b.recs.length c2⟩ : BRow)]).length by simp]
        refine .fact (rowR_shape (el := 34) (size := 5) (k := (l ++ [(⟨x.b, .slice (some ⟨g2, 0, none⟩) x.b.recs.length c2⟩ : BRow)]).length) (v := v2) (xs := (l ++ [(⟨x.b, .slice (some ⟨g2, 0, none⟩) x.b.recs.length c2⟩ : BRow)]).flatMap BRow.v)) fun ⟨A9, c9, hv9, _⟩ => ?_
        subst hv9
        refine .st ?_ sc36
        refine .nil (.blockNormal ?_)
        refine .rndK hmk ?_ (by repeat (first | exact .here | apply Rem.there | apply Repl.there | apply Mem.there))
        exact ⟨_, .inl ⟨rfl, _, l ++ [(⟨x.b, .slice (some ⟨g2, 0, none⟩) x.b.recs.length c2⟩ : BRow)], (g2, .cells cur 66 (0, 0)) :: os2, _, ⟨by rw [← hgo, List.map_append, List.append_assoc, show decide (0 < (l ++ [(⟨x.b, .slice (some ⟨g2, 0, none⟩) x.b.recs.length c2⟩ : BRow)]).length) = true by simp]; rfl, ⟨by omega, by omega⟩, by simp only [List.length_append, List.length_singleton]; omega, fun y hy => (List.mem_append.1 hy).elim (fun h => (hy4 y h).mono fun z hz => List.mem_cons_of_mem _ hz) (fun h => by rw [List.mem_singleton.1 h]; exact hnew)⟩, rfl⟩, Am.auto⟩
    · rintro F b M B w (⟨rfl, v, l, os2, n, h1, rfl⟩ | ⟨rfl, v, l, os2, n, h1, rfl⟩) hs
      · exact ⟨_, .inl ⟨rfl, rfl⟩, Sat.shuts (hopen (i + 1)) (x := (v, l, os2, n)) h1 hs⟩
      · exact ⟨_, .inr ⟨rfl, rfl⟩, Sat.shuts hopenx (x := (v, l, os2, n)) h1 hs⟩
  refine ⟨pt ll (.loop (mk .ready none)) :: pt b5 (.cells #[.int .i64 mx] 3 (0, 0)) :: pt b6 (.cells #[(.slice none 0 0)] 36 (0, 0)) :: pt b7 (.cells #[.int .i64 0] 3 (0, 0)) :: rowR 34 5 (.slice none 0 0) ([] : List BRow).length (([] : List BRow).flatMap BRow.v) :: frz [] :: pt cs (.cells #[.pointer (some ⟨s, 0, none⟩)] 27 (0, 0)) :: pt co (.cells #[.int .i64 off] 3 (0, 0)) :: pt s (sgO f path base rows u) :: rowR 72 6 u rows.length (rows.flatMap SRow.v) :: frz os :: [], _, fun G v M => v = .tuple #[] ∧ ((∃ (v2 : Value) (l : List BRow) (os2 : List (Nat × Obj)) (n : Int), (l.map BRow.b = res ∧ ∀ y ∈ l, BRowOk os2 y) ∧ M = pt ll (.loop (mk .ready none)) :: pt b5 (.cells #[.int .i64 mx] 3 (0, 0)) :: pt b6 (.cells #[v2] 36 (0, 0)) :: pt b7 (.cells #[.int .i64 n] 3 (0, 0)) :: rowR 34 5 v2 l.length (l.flatMap BRow.v) :: frz os2 :: pt cs (.cells #[.pointer (some ⟨s, 0, none⟩)] 27 (0, 0)) :: pt co (.cells #[.int .i64 off] 3 (0, 0)) :: pt s (sgO f path base rows u) :: rowR 72 6 u rows.length (rows.flatMap SRow.v) :: frz os :: G) ∨ ∃ (v2 : Value) (l : List BRow) (os2 : List (Nat × Obj)) (n : Int), (l.map BRow.b = res ∧ ∀ y ∈ l, BRowOk os2 y) ∧ M = pt ll (.loop (mk .done (some (.exit 0)))) :: pt b5 (.cells #[.int .i64 mx] 3 (0, 0)) :: pt b6 (.cells #[v2] 36 (0, 0)) :: pt b7 (.cells #[.int .i64 n] 3 (0, 0)) :: rowR 34 5 v2 l.length (l.flatMap BRow.v) :: frz os2 :: pt cs (.cells #[.pointer (some ⟨s, 0, none⟩)] 27 (0, 0)) :: pt co (.cells #[.int .i64 off] 3 (0, 0)) :: pt s (sgO f path base rows u) :: rowR 72 6 u rows.length (rows.flatMap SRow.v) :: frz os :: G), Spec.post' (Spec.pre' (segBatchesU hok hord hl hu hk hk1 hk2 hY) (fun B w G hs => Sat.shuts (hopen k) (x := (.slice none 0 0, [], [], 0)) ⟨hres.symm, ⟨by decide, by show (0 : Int) ≤ 6000 * ((k : Nat) : Int); omega⟩, Nat.zero_le _, fun y hy => absurd hy (List.not_mem_nil)⟩ hs)) ?_, by repeat (first | exact .nil | (apply Tk.cons; focus ((repeat (first | exact .here | apply Rem.there)); done))), ?_⟩
  · rintro G v M B w ⟨rfl, rfl | rfl⟩ hs
    · obtain ⟨x, ⟨hx1, _, _, hx4⟩, hs1⟩ := Sat.opens hs (hopen _)
      rw [List.drop_length] at hx1
      exact ⟨_, ⟨rfl, .inl ⟨x.1, x.2.1, x.2.2.1, x.2.2.2, ⟨by simpa [takeR] using hx1, hx4⟩, rfl⟩⟩, hs1⟩
    · obtain ⟨x, hx, hs1⟩ := Sat.opens hs hopenx
      exact ⟨_, ⟨rfl, .inr ⟨x.1, x.2.1, x.2.2.1, x.2.2.2, hx, rfl⟩⟩, hs1⟩
  rintro v M ⟨rfl, ⟨v2, l, os2, n, hfin, rfl⟩ | ⟨v2, l, os2, n, hfin, rfl⟩⟩
  · refine ⟨.ready, none, _, .here, by decide, ?_⟩
    show WQ _ _ _ .normal _ _
    refine .blockNormal (.next (.sr ?_))
    refine .fact (rowR_shape (el := 34) (size := 5) (k := l.length) (v := v2) (xs := l.flatMap BRow.v)) fun ⟨A9, c9, hv9, _⟩ => ?_
    subst hv9
    refine .ld ?_ sc36
    refine .st ?_ sc36
    refine .z ?_
    refine .ret (?_)
    refine .retM1 (D := D) (r := .cell 6 36) ?_ (by repeat (first | exact .here | apply Rem.there | apply Repl.there | apply Mem.there)) (.cell rfl (by kernel_rfl) (by repeat (first | exact .here | apply Rem.there | apply Repl.there | apply Mem.there)) rfl)
    exact ⟨_, ⟨l, os2, hfin, rfl⟩, Am.auto⟩
  · refine ⟨.done, some (.exit 0), _, .here, by decide, ?_⟩
    show WC _ _ _ (.exit 0) _ _ _
    refine .exit (.blockExit (?_))
    refine .next (.sr ?_)
    refine .fact (rowR_shape (el := 34) (size := 5) (k := l.length) (v := v2) (xs := l.flatMap BRow.v)) fun ⟨A9, c9, hv9, _⟩ => ?_
    subst hv9
    refine .ld ?_ sc36
    refine .st ?_ sc36
    refine .z ?_
    refine .ret (?_)
    refine .retM1 (D := D) (r := .cell 6 36) ?_ (by repeat (first | exact .here | apply Rem.there | apply Repl.there | apply Mem.there)) (.cell rfl (by kernel_rfl) (by repeat (first | exact .here | apply Rem.there | apply Repl.there | apply Mem.there)) rfl)
    exact ⟨_, ⟨l, os2, hfin, rfl⟩, Am.auto⟩
end Go.Proofs.YthpdeihndjhjfaaGreatDoor
end
section
namespace Go.Proofs.YthpdeihndjhjfaaGreatDoor
open Go
structure SegI (os : List (Nat × Obj)) (bs : List Bt) (rows : List SRow) (u : Value) : Prop where
  b : rows.map SRow.b = bs
  ok : ∀ x ∈ rows, SRowOk os x
  k : ∀ x ∈ rows, x.k = (batB x.b).length ∧ x.k ≤ 6000
  ord : SegOrd rows
  nil : rows = [] → u = .slice none 0 0
abbrev X3 := List SRow × Value × List (Nat × Obj)
abbrev segLs (s f : Nat) (base : Int) (x : X3) : List HP := [pt s (sgO f [47, 115] base x.1 x.2.1), rowR 72 6 x.2.1 x.1.length (x.1.flatMap SRow.v), frz x.2.2]
def SG (s f : Nat) (base : Int) (bs : List Bt) : HP := exH (fun x : X3 => SegI x.2.2 bs x.1 x.2.1) (segLs s f base)
theorem SG.opens (s f : Nat) (base : Int) (bs : List Bt) : Opens (SG s f base bs) (fun x : X3 => SegI x.2.2 bs x.1 x.2.1) (segLs s f base) := exH.opens
def nextB (base : Int) (bs : List Bt) : Int := match bs.getLast? with
  | some b => b.base + b.span
  | none => base
theorem SegI.next {os : List (Nat × Obj)} {bs : List Bt} {rows : List SRow} {u : Value} (h : SegI os bs rows u) (base : Int) : nextR base rows = nextB base bs := by
  rw [← h.b]
  unfold nextR nextB
  rw [List.getLast?_map]
  cases rows.getLast? <;> rfl
theorem SegI.siz {os : List (Nat × Obj)} {bs : List Bt} {rows : List SRow} {u : Value} (h : SegI os bs rows u) : sizR rows = (bs.flatMap batB).length := by
  rw [← h.b]
  have hk := h.k
  clear h
  induction rows with
  | nil => rfl
  | cons x l ih =>
    rw [List.map_cons, List.flatMap_cons, List.length_append, ← (hk x (List.mem_cons_self ..)).1, ← ih (fun y hy => hk y (List.mem_cons_of_mem _ hy))]
    rfl
theorem SegI.len {os : List (Nat × Obj)} {bs : List Bt} {rows : List SRow} {u : Value} (h : SegI os bs rows u) : rows.length = bs.length := by rw [← h.b, List.length_map]
theorem nextR_last {base : Int} {rows : List SRow} {j : Nat} {y : SRow} (hy : rows[j]? = some y) (hj : j + 1 = rows.length) : nextR base rows = y.b.base + y.b.span := by
  unfold nextR
  rw [List.getLast?_eq_getElem?, show rows.length - 1 = j by omega, hy]
theorem SegI.add {os os2 : List (Nat × Obj)} {bs : List Bt} {rows : List SRow} {u u2 : Value} {b : Bt} {s2 : Value} {base : Int} {k : Nat} (hkb : k = (batB b).length) (h : SegI os bs rows u) (hE : batE b = 0) (hx : nextR base rows ≤ b.base)
    (hn : SRowOk os2 ⟨b, s2, k⟩) (hs : ∀ x ∈ os, x ∈ os2) : SegI os2 (bs ++ [b]) (rows ++ [⟨b, s2, k⟩]) u2 := by
  refine ⟨by rw [List.map_append, h.b]; rfl, fun x hxm => ?_, fun x hxm => ?_, fun i j x y hij hxi hyj => ?_, fun h0 => by simp at h0⟩
  · rcases List.mem_append.1 hxm with hxm | hxm
    · exact (h.ok x hxm).mono hs
    · rw [List.mem_singleton.1 hxm]; exact hn
  · rcases List.mem_append.1 hxm with hxm | hxm
    · exact h.k x hxm
    · rw [List.mem_singleton.1 hxm]; show k = (batB b).length ∧ k ≤ 6000; exact ⟨hkb, by rw [hkb]; exact (batE_fit hE).1⟩
  · by_cases hj : j < rows.length
    · rw [List.getElem?_append_left hj] at hyj
      rw [List.getElem?_append_left (by omega)] at hxi
      exact h.ord i j x y hij hxi hyj
    · have hjl : j = rows.length := by
        have := (List.getElem?_eq_some_iff.1 hyj).1
        rw [List.length_append, List.length_singleton] at this
        omega
      subst hjl
      have hy : y = ⟨b, s2, k⟩ := by simpa using hyj.symm
      by_cases hi : i < rows.length
      · rw [List.getElem?_append_left hi] at hxi
        have hz : rows[rows.length - 1]? = some rows[rows.length - 1] := List.getElem?_eq_getElem _
        have h1 := h.ord i (rows.length - 1) _ _ (by omega) hxi hz
        rw [nextR_last hz (by omega)] at hx
        have h2 := (batE_rng hE).2.1
        rw [hy]
        show _ ≤ b.base + b.span
        omega
      · have hii : i = rows.length := by omega
        subst hii
        have hx2 : x = y := by rw [hyj] at hxi; injection hxi with hxi; exact hxi.symm
        rw [hx2]; omega
theorem sgMake {f : Nat} {base : Int} (hb : 0 ≤ base ∧ base ≤ 1125899906842624) : Spec Tryz.prog 10 #[.pointer (some ⟨f, 0, none⟩), sv [47, 115], .int .i64 base] [FSR f (pD 600 20) rootT]
    fun F v M => ∃ s, v = .tuple #[.pointer (some ⟨s, 0, none⟩), .int .i64 0] ∧ M = SG s f base [] :: GFs f [] :: F :=
  Spec.post' (segMake hb) fun F v M B w ⟨s, h1, h2⟩ hs => by
    subst h2
    have h3 : Sat B w (frz [] :: pt s (sgO f [47, 115] base [] (.slice none 0 0)) :: rowR 72 6 (.slice none 0 0) ([] : List SRow).length (([] : List SRow).flatMap SRow.v) :: GFs f [] :: F) := hs.pure frz_nil
    exact ⟨_, ⟨s, h1, rfl⟩, Sat.shuts (SG.opens s f base []) (x := ([], .slice none 0 0, [])) ⟨rfl, fun x h => absurd h List.not_mem_nil, fun x h => absurd h List.not_mem_nil, fun i j x y _ h => by simp at h, fun _ => rfl⟩ (h3.take (.cons (.there .here) (.cons (.there .here) (.cons .here .nil))))⟩
theorem sgAppend {s f c : Nat} {base : Int} {bs : List Bt} {b : Bt} {A : Addr} {R : HP} (hR : Reads R (some A) b.rv) (hE : batE b = 0) (hl : b.recs.length ≤ 10000) (hx : nextB base bs ≤ b.base) (hrows : bs.length ≤ 99999) (hroom : (bs.flatMap batB).length + (batB b).length ≤ 60000) :
    Spec Tryz.prog 11 #[.pointer (some ⟨s, 0, none⟩), .agg (b.v (.slice (some A) b.recs.length c)).toArray] [SG s f base bs, GFs f (bs.flatMap batB), R] fun F v M => v = .int .i64 0 ∧ M = SG s f base (bs ++ [b]) :: GFs f ((bs ++ [b]).flatMap batB) :: R :: F := by
  refine Spec.opens (SG.opens s f base bs) fun x hi => ?_
  refine Spec.post' (segAppend hi.ok hR hE hl (by rw [hi.next]; exact hx) (by rw [hi.len]; exact hrows) (by rw [hi.siz]) hroom) ?_
  rintro F v M B w ⟨rfl, u2, os2, s2, ⟨hn, hsub⟩, rfl⟩ hs
  refine ⟨_, ⟨rfl, rfl⟩, Sat.shuts (SG.opens s f base (bs ++ [b])) (x := (_, u2, os2)) (hi.add rfl hE (by rw [hi.next]; exact hx) hn hsub) ?_⟩
  rw [List.flatMap_append, List.flatMap_singleton]
  exact hs
theorem SG.const {f : FuncId} {args : Array Value} {s g : Nat} {base : Int} {bs : List Bt} {val : Value} (h : ∀ x : X3, SegI x.2.2 bs x.1 x.2.1 → Spec Tryz.prog f args [pt s (sgO g [47, 115] base x.1 x.2.1), rowR 72 6 x.2.1 x.1.length (x.1.flatMap SRow.v)] fun F v M => v = val ∧ M = pt s (sgO g [47, 115] base x.1 x.2.1) :: rowR 72 6 x.2.1 x.1.length (x.1.flatMap SRow.v) :: F) :
    Spec Tryz.prog f args [SG s g base bs] fun F v M => v = val ∧ M = SG s g base bs :: F := by
  refine Spec.opens (SG.opens s g base bs) fun x hi => ?_
  refine Spec.post' (Spec.pre' (Spec.frame (frz x.2.2) (h x hi)) (pre' := segLs s g base x ++ []) fun B w F hs => hs.take (.cons (.there (.there .here)) (.cons .here (.cons .here .nil)))) ?_
  rintro F v M B w ⟨rfl, rfl⟩ hs
  exact ⟨_, ⟨rfl, rfl⟩, Sat.shuts (SG.opens s g base bs) (x := x) hi hs⟩
theorem sgNext {s f : Nat} {base : Int} {bs : List Bt} (hl : bs.length ≤ 100000) : Spec Tryz.prog 16 #[.pointer (some ⟨s, 0, none⟩)] [SG s f base bs] fun F v M => v = .int .i64 (nextB base bs) ∧ M = SG s f base bs :: F :=
  SG.const fun x hi => by rw [← hi.next]; exact segNext hi.ok (by rw [hi.len]; exact hl)
def BL (v : Value) (bs : List Bt) : HP := exH (fun x : List BRow × List (Nat × Obj) => x.1.map BRow.b = bs ∧ ∀ y ∈ x.1, BRowOk x.2 y) (fun x => [rowR 34 5 v x.1.length (x.1.flatMap BRow.v), frz x.2])
theorem BL.opens (v : Value) (bs : List Bt) : Opens (BL v bs) (fun x : List BRow × List (Nat × Obj) => x.1.map BRow.b = bs ∧ ∀ y ∈ x.1, BRowOk x.2 y) (fun x => [rowR 34 5 v x.1.length (x.1.flatMap BRow.v), frz x.2]) := exH.opens
def gotB (mx : Int) : Int → Bool → List Bt → List Bt
  | _, _, [] => []
  | n, h, x :: l => if h = true ∧ mx < n + (((batB x).length : Nat) : Int) then [] else x :: gotB mx (n + (((batB x).length : Nat) : Int)) true l
theorem takeR_b {mx : Int} {rows : List SRow} (hk : ∀ x ∈ rows, x.k = (batB x.b).length) : ∀ (n : Int) (h : Bool), (takeR mx n h rows).map SRow.b = gotB mx n h (rows.map SRow.b) := by
  induction rows with
  | nil => exact fun n h => rfl
  | cons x l ih =>
    intro n h
    have h1 := hk x (List.mem_cons_self ..)
    unfold takeR
    rw [List.map_cons]
    unfold gotB
    rw [h1]
    split
    · rfl
    · rw [List.map_cons, ih (fun y hy => hk y (List.mem_cons_of_mem _ hy))]
theorem sgRead {s f k : Nat} {base off mx : Int} {bs : List Bt} (hl : bs.length ≤ 100000) (hk : k ≤ bs.length) (hk1 : ∀ i b, bs[i]? = some b → (off < b.base + b.span ↔ k ≤ i)) :
    Spec Tryz.prog 13 #[.pointer (some ⟨s, 0, none⟩), .int .i64 off, .int .i64 mx] [SG s f base bs] fun F v M => M = BL v (gotB mx 0 false (bs.drop k)) :: SG s f base bs :: F := by
  refine Spec.opens (SG.opens s f base bs) fun x hi => ?_
  have hh : ∀ i, i < x.1.length → hitR off x.1 i = decide (k ≤ i) := fun i hlt => by
    have h1 := List.getElem?_eq_getElem hlt
    rw [hitR_at h1]
    have h2 := hk1 i x.1[i].b (by rw [← hi.b, List.getElem?_map, h1]; rfl)
    exact decide_eq_decide.2 h2
  refine Spec.post' (Spec.pre' (segRead (k := k) hi.ok hi.ord (by rw [hi.len]; exact hl) hi.nil (fun y hy => (hi.k y hy).2) (by rw [hi.len]; exact hk) (fun i h => by rw [hh i (by have := hi.len; omega)]; exact decide_eq_false (by omega)) (fun i h1 h2 => by rw [hh i h2]; exact decide_eq_true h1)) (pre' := segLs s f base x ++ []) fun B w F hs => hs) ?_
  rintro F v M B w ⟨l, os2, hfin, rfl⟩ hs
  refine ⟨_, rfl, Sat.shuts (BL.opens v _) (x := (l, os2)) (by rw [takeR_b (fun y hy => (hi.k y (List.mem_of_mem_drop hy)).1), List.map_drop, hi.b] at hfin; exact hfin) (Sat.take (.cons (.there .here) (.cons (.there .here) .nil)) (Sat.shuts (SG.opens s f base bs) (x := x) hi (hs.take (.cons (.there (.there .here)) (.cons (.there (.there .here)) (.cons (.there (.there .here)) .nil))))))⟩
end Go.Proofs.YthpdeihndjhjfaaGreatDoor
end
section
namespace Go.Proofs.YthpdeihndjhjfaaGreatDoor
open Go
theorem l14Fresh : Spec Tryz.prog 9 #[] [] fun F v M => ∃ d f, v = .tuple #[.pointer (some ⟨d, 0, none⟩), .pointer (some ⟨f, 0, none⟩), .bool true] ∧ M = FSR f (pD 600 20) rootT :: F := by
  refine Spec.intro Tryz.func9 rfl rfl fun B F => ?_
  simp only [Tryz.ntmps9, List.cons_append, List.nil_append, env0, Nat.reduceAdd]
  refine .sr (.assign (.assign (.assign (.x ?_))))
  refine .call (hc := Tryz.call23) (sp := devNew (n := 600) (by decide) (by decide)) (h := ?_)
  rintro _ _ ⟨d, rfl, rfl⟩
  refine .move ?_
  refine .extract ?_
  refine .extract ?_
  refine .assign (.assign (.z (.seq (.sr (.move ?_)))))
  refine .nei ?_
  refine .move ?_
  refine .gT ?_
  refine .move ?_
  refine .gT ?_
  refine .eqNil ?_ ptr23
  refine .pickF ?_
  refine .move ?_
  refine .gT ?_
  refine .move ?_
  refine .gT ?_
  refine .call (hc := Tryz.call24) (sp := fsMkfs p14_is) (h := ?_)
  rintro _ _ ⟨J, rfl, hJ, rfl⟩
  refine .gT ?_
  refine .nei ?_
  refine .pickF ?_
  refine .z ?_
  refine .condF rfl (congrArg Value.bool (by first | (simp; done) | (simp; omega) | omega)) ?_
  refine .skip (.next (.sr (.move ?_)))
  refine .call (hc := Tryz.call25) (sp := fsMountNew p14_is hJ) (h := ?_)
  rintro _ _ ⟨f, rfl, rfl⟩
  refine .move ?_
  refine .extract ?_
  refine .extract ?_
  refine .assign (.assign (.x (.move (.move (.move ?_)))))
  refine .eqi ?_
  refine .move ?_
  refine .gT ?_
  refine .move ?_
  refine .gT ?_
  refine .neNil ?_ ptr24
  refine .pickT ?_
  refine .assign (.assign (.assign (.z ?_)))
  refine .ret (?_)
  exact .ret3 (h1 := .tmp (t := 0) rfl) (h2 := .tmp (t := 1) rfl) (h3 := .tmp (t := 2) rfl) ⟨_, ⟨d, f, rfl, rfl⟩, Am.auto⟩
theorem one_len {base t : Int} {n : Nat} : (oneB base n t).recs.length = n := by
  unfold oneB freshB
  rw [show (_ : Bt).recs = reoff 0 (recsO t n) from rfl, reoff_len, recsO_len]
theorem oneLen {base t : Int} {n : Nat} (hn : n = 1 ∨ n = 2) (hb : 0 ≤ base ∧ base ≤ 1125899906842624) (ht : 0 ≤ t ∧ t ≤ 1125899906842000) : (batB (oneB base n t)).length = 48 + 5 * n := (oneB_ok hn hb ht).2
theorem flat_size {bs : List Bt} {m : Nat} (h : ∀ b ∈ bs, (batB b).length = m) : (bs.flatMap batB).length = m * bs.length := by
  induction bs with
  | nil => rfl
  | cons b l ih =>
    rw [List.flatMap_cons, List.length_append, h b (List.mem_cons_self ..), ih (fun y hy => h y (List.mem_cons_of_mem _ hy)), List.length_cons, Nat.mul_succ]
    omega
theorem sgOne {s f c n : Nat} {base x t : Int} {bs : List Bt} {A : Addr} (hn : n = 1 ∨ n = 2) (hb : 0 ≤ x ∧ x ≤ 1125899906842624) (ht : 0 ≤ t ∧ t ≤ 1125899906842000) (hx : nextB base bs ≤ x) (hrows : bs.length ≤ 99999) (hroom : (bs.flatMap batB).length ≤ 50000) :
    Spec Tryz.prog 11 #[.pointer (some ⟨s, 0, none⟩), .agg ((oneB x n t).v (.slice (some A) n c)).toArray] [SG s f base bs, GFs f (bs.flatMap batB), rowR 66 6 (.slice (some A) n c) n (oneB x n t).rv] fun F v M => v = .int .i64 0 ∧ M = SG s f base (bs ++ [oneB x n t]) :: GFs f ((bs ++ [oneB x n t]).flatMap batB) :: F := by
  refine Spec.ofFact (rowR_shape (el := 66) (size := 6) (k := n) (v := .slice (some A) n c) (xs := (oneB x n t).rv)) fun ⟨A5, c5, hv5, hR5, _, _, _⟩ => ?_
  injection hv5 with hA5 _ hc5
  subst hA5
  subst hc5
  have h1 := oneB_ok hn hb ht
  have h2 := sgAppend (s := s) (f := f) (c := c) (base := base) (bs := bs) (b := oneB x n t) (A := A) hR5 h1.1 (by rw [one_len]; omega) hx hrows (by rw [h1.2]; omega)
  rw [one_len] at h2
  exact h2.post fun F v M ⟨h3, h4⟩ => by
    subst h4
    exact ⟨_, ⟨h3, rfl⟩, (Am.take .here (.take .here (.skip .refl))).wk⟩
theorem reads_some {R : HP} {A : Option Addr} {l : List BRow} (hR : Reads R A (l.flatMap BRow.v)) (h : 0 < l.length) : ∃ ab ao, A = some ⟨ab, ao, none⟩ := by
  cases A with
  | none =>
    have h0 : l.flatMap BRow.v = [] := hR
    have h1 := flat_length BRow.v_len l
    rw [h0] at h1
    simp at h1
    omega
  | some a =>
    obtain ⟨x, y, z⟩ := a
    have : z = none := hR.1
    subst this
    exact ⟨x, y, rfl⟩
theorem map_one {l : List BRow} {b : Bt} (h : l.map BRow.b = [b]) : ∃ r, l = [r] ∧ r.b = b := by
  match l, h with
  | [r], h => exact ⟨r, rfl, by simpa using h⟩
theorem l14Awake : Spec Tryz.prog 8 #[] [] fun F v M => v = .bool true ∧ M = F := by
  refine Spec.intro Tryz.func8 rfl rfl fun B F => ?_
  simp only [Tryz.ntmps8, List.cons_append, List.nil_append, env0, Nat.reduceAdd]
  refine .sr (.assign (.x ?_))
  refine .call (hc := Tryz.call9) (sp := l14Fresh) (h := ?_)
  rintro _ _ ⟨d, f, rfl, rfl⟩
  refine .move ?_
  refine .extract ?_
  refine .extract ?_
  refine .extract ?_
  refine .assign (.assign (.assign (.z (.seq (.sr (.move ?_))))))
  refine .not ?_
  refine .z ?_
  refine .condF rfl rfl ?_
  refine .skip (.next (.sr (.move ?_)))
  refine .call (hc := Tryz.call10) (sp := sgMake (f := f) (base := 5) (by decide)) (h := ?_)
  rintro _ _ ⟨s, rfl, rfl⟩
  refine .move ?_
  refine .extract ?_
  refine .extract ?_
  refine .assign (.assign (.z (.seq (.sr (.move ?_)))))
  refine .nei ?_
  refine .move ?_
  refine .gT ?_
  refine .move ?_
  refine .gT ?_
  refine .eqNil ?_ ptr27
  refine .pickF ?_
  refine .move ?_
  refine .gT ?_
  refine .move ?_
  refine .gT ?_
  refine .call (hc := Tryz.call12) (sp := lawOne (base := 5) (n := 2) (t := 0) (.inr rfl) (by omega) (by omega)) (h := ?_)
  rintro _ _ ⟨A1, c1, rfl, rfl⟩
  refine .gT ?_
  refine .call (hc := Tryz.call11) (sp := sgOne (base := 5) (x := 5) (n := 2) (t := 0) (bs := []) (.inr rfl) (by decide) (by decide) (by decide) (by decide) (by decide)) (h := ?_)
  rintro _ _ ⟨rfl, rfl⟩
  simp only [List.nil_append]
  refine .gT ?_
  refine .nei ?_
  refine .pickF ?_
  refine .move ?_
  refine .gT ?_
  refine .move ?_
  refine .gT ?_
  refine .call (hc := Tryz.call12) (sp := lawOne (base := 9) (n := 1) (t := 0) (.inl rfl) (by omega) (by omega)) (h := ?_)
  rintro _ _ ⟨A1, c1, rfl, rfl⟩
  refine .gT ?_
  refine .call (hc := Tryz.call11) (sp := sgOne (base := 5) (x := 9) (n := 1) (t := 0) (bs := [oneB 5 2 0]) (.inl rfl) (by decide) (by decide) (by decide) (by decide) (by rw [flat_size (m := 58) (by simp [oneLen (n := 2) (.inr rfl)])]; decide)) (h := ?_)
  rintro _ _ ⟨rfl, rfl⟩
  simp only [List.cons_append, List.nil_append]
  refine .gT ?_
  refine .nei ?_
  refine .pickF ?_
  refine .z ?_
  refine .condF rfl rfl ?_
  refine .skip (.next (.sr (.move ?_)))
  refine .call (hc := Tryz.call13) (sp := sgRead (bs := [oneB 5 2 0, oneB 9 1 0]) (off := 7) (mx := 1) (k := 1) (by decide) (by decide) (fun i b h => by
    rcases i with _ | _ | i
    · injection h with h; subst h; decide
    · injection h with h; subst h; decide
    · cases h)) (h := ?_)
  rintro v _ rfl
  refine .openR (BL.opens _ _) fun y hy => ?_
  obtain ⟨l, os2⟩ := y
  obtain ⟨hl1, _⟩ := hy
  simp only [List.cons_append, List.nil_append] at hl1 ⊢
  refine .fact (rowR_shape (el := 34) (size := 5) (k := l.length) (v := v) (xs := l.flatMap BRow.v)) fun ⟨A, c, hv, hR, _, _, _⟩ => ?_
  subst hv
  rw [show gotB 1 0 false ([oneB 5 2 0, oneB 9 1 0].drop 1) = [oneB 9 1 0] from rfl] at hl1
  obtain ⟨r, rfl, hr⟩ := map_one hl1
  obtain ⟨ab, ao, rfl⟩ := reads_some hR (by simp)
  have hone : [r].length = 1 := rfl
  refine .assign (.x (.move ?_))
  refine .call (hc := Tryz.call16) (sp := sgNext (bs := [oneB 5 2 0, oneB 9 1 0]) (by decide)) (h := ?_)
  rintro _ _ ⟨rfl, rfl⟩
  rw [show nextB 5 [oneB 5 2 0, oneB 9 1 0] = 10 from rfl]
  refine .eqi ?_
  refine .move ?_
  refine .gT ?_
  refine .move ?_
  refine .gT ?_
  refine .lenS ?_ sl36
  refine .gT ?_
  refine .eqi ?_
  refine .pickT ?_
  refine .move ?_
  refine .gT ?_
  refine .move ?_
  refine .gT ?_
  refine .idx ?_ so36
  refine .gT ?_
  refine .fa ?_ fo34_0
  refine .gT ?_
  refine .ldR (i := 0) ?_ sc3 hR (show some (Value.int .i64 r.b.base) = some (.int .i64 9) by rw [hr]; rfl)
  refine .gT ?_
  refine .eqi ?_
  refine .pickT ?_
  refine .assign (.z ?_)
  refine .ret (?_)
  exact .ret1 (h1 := .tmp (t := 0) rfl) ⟨_, ⟨rfl, rfl⟩, Am.auto⟩
end Go.Proofs.YthpdeihndjhjfaaGreatDoor
end
section
namespace Go.Proofs.YthpdeihndjhjfaaGreatDoor
open Go
theorem segBatchesN {ll cs co : Nat} {off : Int} : Spec Tryz.prog 60 (#[.func (.yield ll) #[] #[]] ++ #[.pointer (some ⟨cs, 0, none⟩), .pointer (some ⟨co, 0, none⟩)]) [pt cs (.cells #[.pointer none] 27 (0, 0)), pt co (.cells #[.int .i64 off] 3 (0, 0))] fun F v M => v = .tuple #[] ∧ M = pt cs (.cells #[.pointer none] 27 (0, 0)) :: pt co (.cells #[.int .i64 off] 3 (0, 0)) :: F := by
  refine Spec.intro Tryz.func60 rfl rfl fun B F => ?_
  simp only [Tryz.ntmps60, List.cons_append, List.nil_append, env0, Nat.reduceAdd]
  refine .seq (.sr ?_)
  refine .ld ?_ sc27
  refine .eqNil ?_ ptr27
  refine .z ?_
  refine .condT rfl rfl ?_
  refine .ret (.thenRet (?_))
  exact .ret0 ⟨_, ⟨rfl, rfl⟩, Am.auto⟩
theorem segBatchesFN {off : Int} : Spec Tryz.prog 33 #[.pointer none, .int .i64 off] [] fun F v M => ∃ cs co, v = .func (.func 60) #[] #[.pointer (some ⟨cs, 0, none⟩), .pointer (some ⟨co, 0, none⟩)] ∧ M = pt cs (.cells #[.pointer none] 27 (0, 0)) :: pt co (.cells #[.int .i64 off] 3 (0, 0)) :: F := by
  refine Spec.intro Tryz.func33 rfl rfl fun B F => ?_
  simp only [Tryz.ntmps33, List.cons_append, List.nil_append, env0, Nat.reduceAdd]
  refine .sr ?_
  refine .box fun b2 => ?_
  refine .box fun b3 => ?_
  refine .assign (.x ?_)
  refine .makeFuncB ?_
  refine .assign (.z ?_)
  refine .ret (?_)
  exact .ret1 (h1 := .tmp (t := 4) rfl) ⟨_, ⟨_, _, rfl, rfl⟩, Am.auto⟩
theorem segAllN : Spec Tryz.prog 17 #[.pointer none] [] fun F v M => v = .slice none 0 0 ∧ M = F := by
  refine Spec.introM Tryz.func17 rfl rfl fun B F => ?_
  simp only [Tryz.ntmps17, List.cons_append, List.nil_append, env0, Nat.reduceAdd]
  refine .sr ?_
  refine .alloc z36 fun b2 => ?_
  refine .z (.seq (.sr (.move ?_)))
  refine .call (hc := Tryz.call33) (sp := segBatchesFN (off := (-1))) (h := ?_)
  rintro _ _ ⟨cs, co, rfl, rfl⟩
  refine .z (.block ?_)
  refine .rangeK rfl Tryz.call60 fun fn D ll tmps mk hmk hts hget => ?_
  refine ⟨_, _, _, segBatchesN (off := (-1)), by repeat (first | exact .nil | (apply Tk.cons; focus ((repeat (first | exact .here | apply Rem.there)); done))), ?_⟩
  rintro v M ⟨rfl, rfl⟩
  refine ⟨.ready, none, _, (by repeat (first | exact .here | apply Rem.there | apply Repl.there | apply Mem.there)), by decide, ?_⟩
  show WQ _ _ _ .normal _ _
  refine .blockNormal (.next (.sr ?_))
  refine .ld ?_ sc36
  refine .st ?_ sc36
  refine .z ?_
  refine .ret (?_)
  refine .retM1 (D := D) (r := .cell 2 36) ?_ (by repeat (first | exact .here | apply Rem.there | apply Repl.there | apply Mem.there)) (.cell rfl (by kernel_rfl) (by repeat (first | exact .here | apply Rem.there | apply Repl.there | apply Mem.there)) rfl)
  exact ⟨_, ⟨rfl, rfl⟩, Am.auto⟩
theorem segReadN {off mx : Int} : Spec Tryz.prog 13 #[.pointer none, .int .i64 off, .int .i64 mx] [] fun F v M => v = .slice none 0 0 ∧ M = F := by
  refine Spec.introM Tryz.func13 rfl rfl fun B F => ?_
  simp only [Tryz.ntmps13, List.cons_append, List.nil_append, env0, Nat.reduceAdd]
  refine .sr ?_
  refine .box fun b5 => ?_
  refine .alloc z36 fun b6 => ?_
  refine .x ?_
  refine .alloc z3 fun b7 => ?_
  refine .st ?_ sc3
  refine .z (.seq (.sr (.move (.move ?_))))
  refine .call (hc := Tryz.call33) (sp := segBatchesFN (off := off)) (h := ?_)
  rintro _ _ ⟨cs, co, rfl, rfl⟩
  refine .z (.block ?_)
  refine .rangeK rfl Tryz.call60 fun fn D ll tmps mk hmk hts hget => ?_
  refine ⟨_, _, _, segBatchesN (off := off), by repeat (first | exact .nil | (apply Tk.cons; focus ((repeat (first | exact .here | apply Rem.there)); done))), ?_⟩
  rintro v M ⟨rfl, rfl⟩
  refine ⟨.ready, none, _, (by repeat (first | exact .here | apply Rem.there | apply Repl.there | apply Mem.there)), by decide, ?_⟩
  show WQ _ _ _ .normal _ _
  refine .blockNormal (.next (.sr ?_))
  refine .ld ?_ sc36
  refine .st ?_ sc36
  refine .z ?_
  refine .ret (?_)
  refine .retM1 (D := D) (r := .cell 6 36) ?_ (by repeat (first | exact .here | apply Rem.there | apply Repl.there | apply Mem.there)) (.cell rfl (by kernel_rfl) (by repeat (first | exact .here | apply Rem.there | apply Repl.there | apply Mem.there)) rfl)
  exact ⟨_, ⟨rfl, rfl⟩, Am.auto⟩
theorem segAtN {time : Int} : Spec Tryz.prog 19 #[.pointer none, .int .i64 time] [] fun F v M => v = .tuple #[.int .i64 0, .bool false] ∧ M = F := by
  refine Spec.intro Tryz.func19 rfl rfl fun B F => ?_
  simp only [Tryz.ntmps19, List.cons_append, List.nil_append, env0, Nat.reduceAdd]
  refine .sr (.assign (.assign (.z (.seq (.sr (.move ?_))))))
  refine .call (hc := Tryz.call17) (sp := segAllN) (h := ?_)
  rintro _ _ ⟨rfl, hM⟩
  obtain rfl := hM.symm
  refine .lenS ?_ sl36
  refine .move (.z (.block ?_))
  refine .loopA (σ := Unit) (fun y => [(1, .int .i64 time), (11, .slice none 0 0), (12, .int .i64 ((0 : Nat) : Int)), (13, .int .i64 0)]) (fun y => F) (fun _ => True) (fun _ => 0) () trivial ?_
  rintro y hy
  refine .sr ?_
  refine .lss ?_
  refine .z (.seq ?_)
  refine .condF rfl (congrArg Value.bool (rfl)) ?_
  refine .exit (.thenExit (.thenExit (.blockExit (?_))))
  refine .next (.sr (.assign (.assign (.z ?_))))
  refine .ret (?_)
  exact .ret2 (h1 := .tmp (t := 4) rfl) (h2 := .tmp (t := 5) rfl) ⟨_, ⟨rfl, rfl⟩, Am.auto⟩
theorem segLastN : Spec Tryz.prog 20 #[.pointer none] [] fun F v M => v = .int .i64 (-1) ∧ M = F := by
  refine Spec.intro Tryz.func20 rfl rfl fun B F => ?_
  simp only [Tryz.ntmps20, List.cons_append, List.nil_append, env0, Nat.reduceAdd]
  refine .sr (.assign (.x (.assign (.z (.seq (.sr (.move ?_)))))))
  refine .call (hc := Tryz.call17) (sp := segAllN) (h := ?_)
  rintro _ _ ⟨rfl, hM⟩
  obtain rfl := hM.symm
  refine .lenS ?_ sl36
  refine .move (.z (.block ?_))
  refine .loopA (σ := Unit) (fun y => [(3, .int .i64 (-1)), (9, .slice none 0 0), (10, .int .i64 ((0 : Nat) : Int)), (11, .int .i64 0)]) (fun y => F) (fun _ => True) (fun _ => 0) () trivial ?_
  rintro y hy
  refine .sr ?_
  refine .lss ?_
  refine .z (.seq ?_)
  refine .condF rfl (congrArg Value.bool (rfl)) ?_
  refine .exit (.thenExit (.thenExit (.blockExit (?_))))
  refine .next (.sr (.move (.assign (.z ?_))))
  refine .ret (?_)
  exact .ret1 (h1 := .tmp (t := 2) rfl) ⟨_, ⟨rfl, rfl⟩, Am.auto⟩
theorem segBaseN : Spec Tryz.prog 18 #[.pointer none] [] fun F v M => v = .int .i64 0 ∧ M = F := by
  refine Spec.intro Tryz.func18 rfl rfl fun B F => ?_
  simp only [Tryz.ntmps18, List.cons_append, List.nil_append, env0, Nat.reduceAdd]
  refine .sr (.assign (.z (.seq (.sr (.move ?_)))))
  refine .eqNil ?_ ptr27
  refine .z ?_
  refine .condT rfl rfl ?_
  refine .sr (.assign (.z ?_))
  refine .ret (.thenRet (?_))
  exact .ret1 (h1 := .tmp (t := 2) rfl) ⟨_, ⟨rfl, rfl⟩, Am.auto⟩
theorem segNextN : Spec Tryz.prog 16 #[.pointer none] [] fun F v M => v = .int .i64 0 ∧ M = F := by
  refine Spec.intro Tryz.func16 rfl rfl fun B F => ?_
  simp only [Tryz.ntmps16, List.cons_append, List.nil_append, env0, Nat.reduceAdd]
  refine .sr (.assign (.z (.seq (.sr (.move ?_)))))
  refine .eqNil ?_ ptr27
  refine .move ?_
  refine .gF ?_
  refine .gF ?_
  refine .gF ?_
  refine .gF ?_
  refine .gF ?_
  refine .gF ?_
  refine .pickT ?_
  refine .z ?_
  refine .condT rfl rfl ?_
  refine .sr (.move ?_)
  refine .call (hc := Tryz.call18) (sp := segBaseN) (h := ?_)
  rintro _ _ ⟨rfl, rfl⟩
  refine .assign (.z ?_)
  refine .ret (.thenRet (?_))
  exact .ret1 (h1 := .tmp (t := 2) rfl) ⟨_, ⟨rfl, rfl⟩, Am.auto⟩
theorem segAppendN {b : Bt} {A : Option Addr} {m c : Nat} : Spec Tryz.prog 11 #[.pointer none, .agg (b.v (.slice A m c)).toArray] [] fun F v M => v = .int .i64 9 ∧ M = F := by
  refine Spec.intro Tryz.func11 rfl rfl fun B F => ?_
  simp only [Tryz.ntmps11, List.cons_append, List.nil_append, env0, Nat.reduceAdd]
  refine .sr ?_
  refine .box fun b3 => ?_
  refine .assign (.z (.seq (.sr (.move ?_))))
  refine .eqNil ?_ ptr27
  refine .move ?_
  refine .gF ?_
  refine .gF ?_
  refine .gF ?_
  refine .gF ?_
  refine .gF ?_
  refine .pickT ?_
  refine .z ?_
  refine .condT rfl rfl ?_
  refine .sr (.assign (.z ?_))
  refine .ret (.thenRet (?_))
  exact .ret1 (h1 := .tmp (t := 4) rfl) ⟨_, ⟨rfl, rfl⟩, Am.auto⟩
theorem segOpenNo {f : Nat} : Spec Tryz.prog 22 #[.pointer (some ⟨f, 0, none⟩), sv [47, 110, 111, 110, 101], .int .i64 0] [FSR f (pD 600 20) rootT] fun F v M => v = .tuple #[.pointer none, .int .i64 4] ∧ M = FSR f (pD 600 20) rootT :: F := by
  refine Spec.intro Tryz.func22 rfl rfl fun B F => ?_
  simp only [Tryz.ntmps22, List.cons_append, List.nil_append, env0, Nat.reduceAdd]
  refine .sr (.assign (.assign (.z (.scope (.seq (.sr (.move ?_)))))))
  refine .call (hc := Tryz.call26) (sp := segMay) (h := ?_)
  rintro _ _ ⟨rfl, rfl⟩
  refine .not ?_
  refine .z ?_
  refine .condF rfl rfl ?_
  refine .skip (.next (.sr (.move (.move ?_))))
  refine .call (hc := Tryz.call37) (sp := fsReadE (f := f) (p := pD 600 20) (T := rootT) (path := [47, 110, 111, 110, 101]) (e := 4) p14_is.ok rootT_ok (by decide) rfl (by decide)) (h := ?_)
  rintro _ _ ⟨rfl, rfl⟩
  refine .move ?_
  refine .extract ?_
  refine .extract ?_
  refine .assign (.assign (.z (.seq (.sr (.move ?_)))))
  refine .nei ?_
  refine .z ?_
  refine .condT rfl rfl ?_
  refine .sr (.move (.assign (.assign (.z ?_))))
  refine .ret (.thenRet (.scopeRet (?_)))
  exact .ret2 (h1 := .tmp (t := 6) rfl) (h2 := .tmp (t := 7) rfl) ⟨_, ⟨rfl, rfl⟩, Am.auto⟩
theorem lawSegNothing {off time : Int} (ho64 : -9223372036854775808 ≤ off ∧ off ≤ 9223372036854775807) (ht64 : -9223372036854775808 ≤ time ∧ time ≤ 9223372036854775807) : Spec Tryz.prog 7 #[.int .i64 off, .int .i64 time] [] fun F v M => v = .bool true ∧ M = F := by
  refine Spec.intro Tryz.func7 rfl rfl fun B F => ?_
  simp only [Tryz.ntmps7, List.cons_append, List.nil_append, env0, Nat.reduceAdd]
  refine .sr (.assign (.x ?_))
  refine .call (hc := Tryz.call9) (sp := l14Fresh) (h := ?_)
  rintro _ _ ⟨d, f, rfl, rfl⟩
  refine .move ?_
  refine .extract ?_
  refine .extract ?_
  refine .extract ?_
  refine .assign (.assign (.assign (.z (.seq (.sr (.move ?_))))))
  refine .not ?_
  refine .z ?_
  refine .condF rfl rfl ?_
  refine .skip (.next (.sr (.move ?_)))
  refine .call (hc := Tryz.call22) (sp := segOpenNo (f := f)) (h := ?_)
  rintro _ _ ⟨rfl, rfl⟩
  refine .move ?_
  refine .extract ?_
  refine .extract ?_
  refine .assign (.assign (.x (.assign (.x (.move (.move ?_))))))
  refine .call (hc := Tryz.call19) (sp := segAtN (time := time)) (h := ?_)
  rintro _ _ ⟨rfl, rfl⟩
  refine .move ?_
  refine .extract ?_
  refine .extract ?_
  refine .assign (.assign (.x (.move ?_)))
  refine .eqi ?_
  refine .move ?_
  refine .gT ?_
  refine .move ?_
  refine .gT ?_
  refine .call (hc := Tryz.call12) (sp := lawOne (base := 0) (n := 1) (t := 0) (.inl rfl) (by decide) (by decide)) (h := ?_)
  rintro _ _ ⟨A1, c1, rfl, rfl⟩
  refine .gT ?_
  refine .call (hc := Tryz.call11) (sp := segAppendN (b := oneB 0 1 0) (A := some A1) (m := 1) (c := c1)) (h := ?_)
  rintro _ _ ⟨rfl, rfl⟩
  refine .gT ?_
  refine .eqi ?_
  refine .pickT ?_
  refine .move ?_
  refine .gT ?_
  refine .move ?_
  refine .gT ?_
  refine .call (hc := Tryz.call16) (sp := segNextN) (h := ?_)
  rintro _ _ ⟨rfl, rfl⟩
  refine .gT ?_
  refine .eqi ?_
  refine .pickT ?_
  refine .move ?_
  refine .gT ?_
  refine .move ?_
  refine .gT ?_
  refine .call (hc := Tryz.call20) (sp := segLastN) (h := ?_)
  rintro _ _ ⟨rfl, rfl⟩
  refine .gT ?_
  refine .eqi ?_
  refine .pickT ?_
  refine .move ?_
  refine .gT ?_
  refine .move ?_
  refine .gT ?_
  refine .move ?_
  refine .gT ?_
  refine .call (hc := Tryz.call13) (sp := segReadN (off := off) (mx := 1)) (h := ?_)
  rintro _ _ ⟨rfl, rfl⟩
  refine .gT ?_
  refine .lenS ?_ sl36
  refine .gT ?_
  refine .eqi ?_
  refine .pickT ?_
  refine .move ?_
  refine .gT ?_
  refine .move ?_
  refine .gT ?_
  refine .not ?_
  refine .pickT ?_
  refine .move ?_
  refine .gT ?_
  refine .move ?_
  refine .gT ?_
  refine .call (hc := Tryz.call17) (sp := segAllN) (h := ?_)
  rintro _ _ ⟨rfl, rfl⟩
  refine .gT ?_
  refine .lenS ?_ sl36
  refine .gT ?_
  refine .eqi ?_
  refine .pickT ?_
  refine .move ?_
  refine .gT ?_
  refine .call (hc := Tryz.call8) (sp := l14Awake) (h := ?_)
  rintro _ _ ⟨rfl, rfl⟩
  refine .pickT ?_
  refine .assign (.z ?_)
  refine .ret (?_)
  exact .ret1 (h1 := .tmp (t := 4) rfl) ⟨_, ⟨rfl, rfl⟩, Am.auto⟩
end Go.Proofs.YthpdeihndjhjfaaGreatDoor
end
