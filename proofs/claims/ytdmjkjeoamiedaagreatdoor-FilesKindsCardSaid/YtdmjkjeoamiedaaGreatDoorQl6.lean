/- A part of the proof of lawFKinds: texts of this work put together. -/
import Derived.Test.YtdmjkjeoamiedaaGreatDoorQl5
import Derived.KernelRfl
set_option linter.unusedVariables false
set_option linter.unusedSimpArgs false
set_option linter.unusedSectionVars false
section
namespace Go.Proofs.YtdmjkjeoamiedaaGreatDoor
open Go
theorem fsCreateL {f : Nat} {p : Pl} {l l' : TL} {path : Bytes} {d i : Nat} {nm : Bytes} {sl : List Slot} (ho : PlOk p) (hok : ∀ e ∈ l, e.2.ok) (hn : (l.map (·.1)).Nodup) (hb : ∀ e ∈ l, e.1 < p.ino) (hpl : path.length <= 1000000) (hp : path ≠ [47]) (hpar : parentT (trL l) path = (d, nm, 0)) (hfi : findT (trL l) d nm = (0, 4)) (hd : kget l d = some (.dir sl)) (hi : i < p.ino) (hTi : kget l i = none) (hlo : ∀ j < i, kget l j ≠ none)
  (hw : Rw p 0 14) (hfit : totL l + has (max (64 * sl.length) (64 * freeS sl + 64)) <= p.dc + has (64 * sl.length)) (hl' : kput (kput l i (.file [])) d (.dir (setS sl (freeS sl) (some (nm, i)))) = l') :
  Spec Tryz.prog 17 #[.pointer (some ⟨f, 0, none⟩), sv path] [FSR f p (trL l)] fun F v M => v = okV /\ M = FSR f p (trL l') :: F := by
 have := fsCreate (f := f) (p := p) (T := trL l) (path := path) (d := d) (i := i) (nm := nm) (sl := sl) (x := .file []) ho (trL_ok hok) hpl hp hpar hfi hd hi hTi hlo rfl rfl hw (by rw [tot_trL hn hb]; exact hfit)
 rwa [trL_mk, hl'] at this
theorem fsMkdirL {f : Nat} {p : Pl} {l l' : TL} {path : Bytes} {d i : Nat} {nm : Bytes} {sl : List Slot} (ho : PlOk p) (hok : ∀ e ∈ l, e.2.ok) (hn : (l.map (·.1)).Nodup) (hb : ∀ e ∈ l, e.1 < p.ino) (hpl : path.length <= 1000000) (hp : path ≠ [47]) (hpar : parentT (trL l) path = (d, nm, 0)) (hfi : findT (trL l) d nm = (0, 4)) (hd : kget l d = some (.dir sl)) (hi : i < p.ino) (hTi : kget l i = none) (hlo : ∀ j < i, kget l j ≠ none)
  (hw : Rw p 0 14) (hfit : totL l + has (max (64 * sl.length) (64 * freeS sl + 64)) <= p.dc + has (64 * sl.length)) (hl' : kput (kput l i (.dir [])) d (.dir (setS sl (freeS sl) (some (nm, i)))) = l') :
  Spec Tryz.prog 28 #[.pointer (some ⟨f, 0, none⟩), sv path] [FSR f p (trL l)] fun F v M => v = okV /\ M = FSR f p (trL l') :: F := by
 have := fsMkdir (f := f) (p := p) (T := trL l) (path := path) (d := d) (i := i) (nm := nm) (sl := sl) (x := .dir []) ho (trL_ok hok) hpl hp hpar hfi hd hi hTi hlo rfl rfl hw (by rw [tot_trL hn hb]; exact hfit)
 rwa [trL_mk, hl'] at this
theorem okNil : NodeT.ok (.dir []) := ⟨DirOk.nil, by decide⟩
theorem ok1 {nm : Bytes} {k : Nat} (hn : 1 <= nm.length /\ nm.length <= 50) (hk : k < 4294967296) : NodeT.ok (.dir [some (nm, k)]) := ⟨DirOk.one1 hn hk, by show 1 <= 1000; decide⟩
theorem lt_of_all {l : TL} {n : Nat} (h : (l.all fun e => decide (e.1 < n)) = true) : ∀ e ∈ l, e.1 < n := fun e he => by simpa using List.all_eq_true.1 h e he
theorem tOpenErr {t f : Nat} {kv : List (Int × Value)} {p : Pl} {T : FT} {path : Bytes} (ho : PlOk p) (hT : TOk T) (hpl : path.length <= 1000000) (h32 : kv.length < 32) {mk : Bool} {a b d e : Nat} (hl : leadsT T path = (a, b, d, e)) (he : e ≠ 0) (hm : mk = false ∨ e ≠ 4) : Spec Tryz.prog 31 #[.pointer (some ⟨t, 0, none⟩), sv path, .bool mk] [TB t f kv, FSR f p T] fun F v M => v = .tuple #[.int .i64 0, nI e] /\ M = TB t f kv :: FSR f p T :: F := by
 refine Spec.intro Tryz.func31 rfl rfl fun B F => ?_
 simp only [Tryz.ntmps31, List.cons_append, List.nil_append, env0, Nat.reduceAdd]
 refine .openR (TB.opens t f kv) fun y hy => ?_
 obtain ⟨mp, es, c⟩ := y
 simp only [tbLs, List.cons_append, List.nil_append]
 have hsz : es.size = kv.length := hy.hm.length
 refine .sr (.assign (.assign (.z (.seq (.sr (.move ?_))))))
 refine .eqNil ?_ ptr55
 refine .move ?_
 refine .gT ?_
 refine .move ?_
 refine .gT ?_
 refine .nilCheck ?_
 refine .gT ?_
 refine .fa ?_ fo147_0
 refine .gT ?_
 refine .ld ?_ sc23
 refine .gT ?_
 refine .eqNil ?_ ptr23
 refine .pickF ?_
 refine .z ?_
 refine .condF rfl rfl ?_
 refine .skip (.next (.seq (.sr (.move ?_))))
 refine .nilCheck ?_
 refine .fa ?_ fo147_1
 refine .ld ?_ sc145
 refine .lenM ?_ mp145
 refine .geq ?_
 refine .z ?_
 refine .condF rfl (congrArg Value.bool (by first|simp;done|simp;omega|omega)) ?_
 refine .skip (.next (.sr (.move ?_)))
 refine .nilCheck ?_
 refine .fa ?_ fo147_0
 refine .ld ?_ sc23
 refine .move ?_
 refine .call (hc := Tryz.call25) (sp := fsStat (f := f) (p := p) (T := T) (path := path) ho hT hpl) (h := ?_)
 rintro _ _ ⟨rfl, rfl⟩
 rw [hl]
 simp only
 refine .move ?_
 refine .extract ?_
 refine .extract ?_
 refine .alloc z51 fun b8 => ?_
 refine .stV ?_ agg51
 refine .assign (.z (.seq (.sr (.move ?_))))
 refine .eqi ?_
 refine .move ?_
 by_cases he4 : e = 4
 ·subst he4
  obtain rfl : mk = false := hm.resolve_right (fun h => h rfl)
  refine .gT ?_
  refine .move ?_
  refine .pickT ?_
  refine .z ?_
  refine .condF rfl (congrArg Value.bool (by first|simp;done|simp;omega|omega)) ?_
  refine .skip (.next (.seq (.sr (.move ?_))))
  refine .nei ?_
  refine .z ?_
  refine .condT rfl (congrArg Value.bool (by first|simp;done|simp;omega|omega)) ?_
  refine .sr (.move (.assign (.assign (.z ?_))))
  refine .ret (.thenRet (?_))
  refine .shutR (TB.opens t f kv) (mp, es, c) hy ?_
  exact .ret2 (h1 := .tmp (t := 6) rfl) (h2 := .tmp (t := 7) rfl) ⟨_, ⟨rfl, rfl⟩, Am.auto⟩
 ·refine .cast (d := 40) (u := .bool false) rfl (congrArg Value.bool (by first|simp;done|simp;omega|omega)) ?_
  refine .gF ?_
  refine .pickF ?_
  refine .z ?_
  refine .condF rfl rfl ?_
  refine .skip (.next (.seq (.sr (.move ?_))))
  refine .nei ?_
  refine .z ?_
  refine .condT rfl (congrArg Value.bool (by first|simp;done|simp;omega|omega)) ?_
  refine .sr (.move (.assign (.assign (.z ?_))))
  refine .ret (.thenRet (?_))
  refine .shutR (TB.opens t f kv) (mp, es, c) hy ?_
  exact .ret2 (h1 := .tmp (t := 6) rfl) (h2 := .tmp (t := 7) rfl) ⟨_, ⟨rfl, rfl⟩, Am.auto⟩
theorem tOpenKind {t f : Nat} {kv : List (Int × Value)} {p : Pl} {T : FT} {path : Bytes} (ho : PlOk p) (hT : TOk T) (hpl : path.length <= 1000000) (h32 : kv.length < 32) {mk : Bool} {a b d : Nat} (hl : leadsT T path = (a, b, d, 0)) (hk : b ≠ 1) : Spec Tryz.prog 31 #[.pointer (some ⟨t, 0, none⟩), sv path, .bool mk] [TB t f kv, FSR f p T] fun F v M => v = .tuple #[.int .i64 0, .int .i64 6] /\ M = TB t f kv :: FSR f p T :: F := by
 refine Spec.intro Tryz.func31 rfl rfl fun B F => ?_
 simp only [Tryz.ntmps31, List.cons_append, List.nil_append, env0, Nat.reduceAdd]
 refine .openR (TB.opens t f kv) fun y hy => ?_
 obtain ⟨mp, es, c⟩ := y
 simp only [tbLs, List.cons_append, List.nil_append]
 have hsz : es.size = kv.length := hy.hm.length
 refine .sr (.assign (.assign (.z (.seq (.sr (.move ?_))))))
 refine .eqNil ?_ ptr55
 refine .move ?_
 refine .gT ?_
 refine .move ?_
 refine .gT ?_
 refine .nilCheck ?_
 refine .gT ?_
 refine .fa ?_ fo147_0
 refine .gT ?_
 refine .ld ?_ sc23
 refine .gT ?_
 refine .eqNil ?_ ptr23
 refine .pickF ?_
 refine .z ?_
 refine .condF rfl rfl ?_
 refine .skip (.next (.seq (.sr (.move ?_))))
 refine .nilCheck ?_
 refine .fa ?_ fo147_1
 refine .ld ?_ sc145
 refine .lenM ?_ mp145
 refine .geq ?_
 refine .z ?_
 refine .condF rfl (congrArg Value.bool (by first|simp;done|simp;omega|omega)) ?_
 refine .skip (.next (.sr (.move ?_)))
 refine .nilCheck ?_
 refine .fa ?_ fo147_0
 refine .ld ?_ sc23
 refine .move ?_
 refine .call (hc := Tryz.call25) (sp := fsStat (f := f) (p := p) (T := T) (path := path) ho hT hpl) (h := ?_)
 rintro _ _ ⟨rfl, rfl⟩
 rw [hl]
 simp only
 refine .move ?_
 refine .extract ?_
 refine .extract ?_
 refine .alloc z51 fun b8 => ?_
 refine .stV ?_ agg51
 refine .assign (.z (.seq (.sr (.move ?_))))
 refine .eqi ?_
 refine .move ?_
 refine .gF ?_
 refine .pickF ?_
 refine .z ?_
 refine .condF rfl rfl ?_
 refine .skip (.next (.seq (.sr (.move ?_))))
 refine .nei ?_
 refine .z ?_
 refine .condF rfl (congrArg Value.bool (by first|simp;done|simp;omega|omega)) ?_
 refine .skip (.next (.seq (.sr ?_)))
 refine .fa ?_ fo51_0
 refine .ld ?_ sc3
 refine .nei ?_
 refine .z ?_
 refine .condT rfl (congrArg Value.bool (by first|simp;done|simp;omega|omega)) ?_
 refine .sr (.assign (.assign (.z ?_)))
 refine .ret (.thenRet (?_))
 refine .shutR (TB.opens t f kv) (mp, es, c) hy ?_
 exact .ret2 (h1 := .tmp (t := 6) rfl) (h2 := .tmp (t := 7) rfl) ⟨_, ⟨rfl, rfl⟩, Am.auto⟩
theorem tOpenMakeE {t f : Nat} {kv : List (Int × Value)} {p : Pl} {T : FT} {path : Bytes} (ho : PlOk p) (hT : TOk T) (hpl : path.length <= 1000000) (h32 : kv.length < 32) {a b d e : Nat} (hl : leadsT T path = (a, b, d, 4)) (he : makeE T path = e) (he0 : e ≠ 0) : Spec Tryz.prog 31 #[.pointer (some ⟨t, 0, none⟩), sv path, .bool true] [TB t f kv, FSR f p T] fun F v M => v = .tuple #[.int .i64 0, nI e] /\ M = TB t f kv :: FSR f p T :: F := by
 refine Spec.intro Tryz.func31 rfl rfl fun B F => ?_
 simp only [Tryz.ntmps31, List.cons_append, List.nil_append, env0, Nat.reduceAdd]
 refine .openR (TB.opens t f kv) fun y hy => ?_
 obtain ⟨mp, es, c⟩ := y
 simp only [tbLs, List.cons_append, List.nil_append]
 have hsz : es.size = kv.length := hy.hm.length
 refine .sr (.assign (.assign (.z (.seq (.sr (.move ?_))))))
 refine .eqNil ?_ ptr55
 refine .move ?_
 refine .gT ?_
 refine .move ?_
 refine .gT ?_
 refine .nilCheck ?_
 refine .gT ?_
 refine .fa ?_ fo147_0
 refine .gT ?_
 refine .ld ?_ sc23
 refine .gT ?_
 refine .eqNil ?_ ptr23
 refine .pickF ?_
 refine .z ?_
 refine .condF rfl rfl ?_
 refine .skip (.next (.seq (.sr (.move ?_))))
 refine .nilCheck ?_
 refine .fa ?_ fo147_1
 refine .ld ?_ sc145
 refine .lenM ?_ mp145
 refine .geq ?_
 refine .z ?_
 refine .condF rfl (congrArg Value.bool (by first|simp;done|simp;omega|omega)) ?_
 refine .skip (.next (.sr (.move ?_)))
 refine .nilCheck ?_
 refine .fa ?_ fo147_0
 refine .ld ?_ sc23
 refine .move ?_
 refine .call (hc := Tryz.call25) (sp := fsStat (f := f) (p := p) (T := T) (path := path) ho hT hpl) (h := ?_)
 rintro _ _ ⟨rfl, rfl⟩
 rw [hl]
 simp only
 refine .move ?_
 refine .extract ?_
 refine .extract ?_
 refine .alloc z51 fun b8 => ?_
 refine .stV ?_ agg51
 refine .assign (.z (.seq (.sr (.move ?_))))
 refine .eqi ?_
 refine .move ?_
 refine .gT ?_
 refine .move ?_
 refine .pickT ?_
 refine .z ?_
 refine .condT rfl rfl ?_
 refine .seq (.sr (.move ?_))
 refine .nilCheck ?_
 refine .fa ?_ fo147_0
 refine .ld ?_ sc23
 refine .move ?_
 refine .call (hc := Tryz.call17) (sp := fsCreateE (f := f) (p := p) (T := T) (path := path) ho hT hpl he he0) (h := ?_)
 rintro _ _ ⟨rfl, rfl⟩
 refine .assign (.x (.move ?_))
 refine .nei ?_
 refine .z ?_
 refine .condT rfl (congrArg Value.bool (by first|simp;done|simp;omega|omega)) ?_
 refine .sr (.move (.assign (.assign (.z ?_))))
 refine .ret (.thenRet (.thenRet (?_)))
 refine .shutR (TB.opens t f kv) (mp, es, c) hy ?_
 exact .ret2 (h1 := .tmp (t := 6) rfl) (h2 := .tmp (t := 7) rfl) ⟨_, ⟨rfl, rfl⟩, Am.auto⟩
theorem rNew {p : Pl} (h : PlIs p) : Spec Tryz.prog 57 #[nI p.n, nI p.ino] [] fun F v M => ∃ m s, v = .tuple #[.pointer (some ⟨m, 0, none⟩), .int .i64 0] /\ M = RF m s :: RS s p rootT [] 0 :: frz [] :: F := by
 refine Spec.intro Tryz.func57 rfl rfl fun B F => ?_
 simp only [Tryz.ntmps57, List.cons_append, List.nil_append, env0, Nat.reduceAdd]
 refine .sr (.assign (.assign (.x (.move (.move ?_)))))
 refine .call (hc := Tryz.call116) (sp := refMakeOk h) (h := ?_)
 rintro _ _ ⟨rfl, hM⟩
 obtain rfl := hM.symm
 refine .move ?_
 refine .extract ?_
 refine .extract ?_
 refine .alloc z199 fun b6 => ?_
 refine .stV ?_ agg199
 refine .to (A := pt b6 (.cells p.cells 199 (0, 0))) (A' := pt b6 (.cells p.cells 199 (0, 0))) (fun h hh => hh) ?_
 refine .assign (.z (.seq (.sr (.move ?_))))
 refine .nei ?_
 refine .z ?_
 refine .condF rfl (congrArg Value.bool (by first|simp;done|simp;omega|omega)) ?_
 refine .skip (.next (.sr ?_))
 refine .ldA ?_ agg199
 refine .call (hc := Tryz.call117) (sp := rsNew (p := p) h.i1 h.i2) (h := ?_)
 rintro _ _ ⟨s, rfl, rfl⟩
 refine .build ?_ (bdRF _)
 refine .box fun b20 => ?_
 refine .assign (.assign (.z ?_))
 refine .ret (?_)
 refine .emp frz_nil ?_
 exact .ret2 (h1 := .tmp (t := 4) rfl) (h2 := .tmp (t := 5) rfl) ⟨_, ⟨b20, s, rfl, rfl⟩, Am.auto⟩
theorem l11FreshS : Spec Tryz.prog 27 #[] [] fun F v M => ∃ f t m u g s, v = .tuple #[.pointer (some ⟨f, 0, none⟩), .pointer (some ⟨t, 0, none⟩), .pointer (some ⟨m, 0, none⟩), .pointer (some ⟨u, 0, none⟩), .bool true] /\ M = TB t f [] :: FSR f (pD 500 40) rootT :: RF m s :: RS s (pD 500 40) rootT [] 0 :: frz [] :: pt u (.cells #[.pointer (some ⟨m, 0, none⟩), .slice (some ⟨g, 0, none⟩) 32 32] 153 (0, 0)) :: row g 155 (List.replicate 32 [Value.string ⟨#[]⟩, .int .i64 0, .bool false]).flatten :: F := by
 refine Spec.intro Tryz.func27 rfl rfl fun B F => ?_
 simp only [Tryz.ntmps27, List.cons_append, List.nil_append, env0, Nat.reduceAdd]
 refine .sr (.assign (.assign (.assign (.assign (.assign (.x ?_))))))
 refine .call (hc := Tryz.call62) (sp := devNew (n := 500) (by decide) (by decide)) (h := ?_)
 rintro _ _ ⟨d, rfl, rfl⟩
 refine .move ?_
 refine .extract ?_
 refine .extract ?_
 refine .assign (.assign (.x ?_))
 refine .call (hc := Tryz.call57) (sp := rNew p11_is) (h := ?_)
 rintro _ _ ⟨m, s, rfl, rfl⟩
 refine .move ?_
 refine .extract ?_
 refine .extract ?_
 refine .assign (.assign (.z (.seq (.sr (.move ?_)))))
 refine .nei ?_
 refine .move ?_
 refine .gT ?_
 refine .move ?_
 refine .gT ?_
 refine .nei ?_
 refine .pickF ?_
 refine .move ?_
 refine .gT ?_
 refine .move ?_
 refine .gT ?_
 refine .eqNil ?_ ptr22
 refine .pickF ?_
 refine .move ?_
 refine .gT ?_
 refine .move ?_
 refine .gT ?_
 refine .call (hc := Tryz.call63) (sp := fsMkfs p11_is) (h := ?_)
 rintro _ _ ⟨J, rfl, hJ, rfl⟩
 refine .gT ?_
 refine .nei ?_
 refine .pickF ?_
 refine .z ?_
 refine .condF rfl (congrArg Value.bool (by first|simp;done|simp;omega|omega)) ?_
 refine .skip (.next (.sr (.move ?_)))
 refine .call (hc := Tryz.call64) (sp := fsMountNew p11_is hJ) (h := ?_)
 rintro _ _ ⟨f, rfl, rfl⟩
 refine .move ?_
 refine .extract ?_
 refine .extract ?_
 refine .assign (.assign (.x (.move ?_)))
 refine .call (hc := Tryz.call81) (sp := tbNew (f := f)) (h := ?_)
 rintro _ _ ⟨t, rfl, rfl⟩
 refine .assign (.x (.move (.move (.move (.move ?_)))))
 refine .call (hc := Tryz.call82) (sp := uNew (m := m)) (h := ?_)
 rintro _ _ ⟨u, g, rfl, rfl⟩
 refine .move ?_
 refine .eqi ?_
 refine .move ?_
 refine .gT ?_
 refine .move ?_
 refine .gT ?_
 refine .neNil ?_ ptr23
 refine .pickT ?_
 refine .move ?_
 refine .gT ?_
 refine .move ?_
 refine .gT ?_
 refine .neNil ?_ ptr55
 refine .pickT ?_
 refine .assign (.assign (.assign (.assign (.assign (.z ?_)))))
 refine .ret (?_)
 exact .ret5 (h1 := .tmp (t := 0) rfl) (h2 := .tmp (t := 1) rfl) (h3 := .tmp (t := 2) rfl) (h4 := .tmp (t := 3) rfl) (h5 := .tmp (t := 4) rfl) ⟨_, ⟨f, t, m, u, g, s, rfl, rfl⟩, Am.auto⟩
abbrev kP : Pl := pD 500 40
abbrev kL0 : TL := [(0, .dir [])]
abbrev kL1 : TL := [(0, .dir [some ([100], 1)]), (1, .dir [])]
abbrev kL2 : TL := [(0, .dir [some ([100], 1)]), (1, .dir [some ([120], 2)]), (2, .file [])]
theorem kL0_ok : ∀ e ∈ kL0, e.2.ok := by
 intro e he
 simp only [kL0, List.mem_cons, List.not_mem_nil, or_false] at he
 subst he
 exact okNil
theorem kL1_ok : ∀ e ∈ kL1, e.2.ok := by
 intro e he
 simp only [kL1, List.mem_cons, List.not_mem_nil, or_false] at he
 rcases he with rfl | rfl
 ·exact ok1 (by decide) (by decide)
 ·exact okNil
theorem kL2_ok : ∀ e ∈ kL2, e.2.ok := by
 intro e he
 simp only [kL2, List.mem_cons, List.not_mem_nil, or_false] at he
 rcases he with rfl | rfl | rfl
 ·exact ok1 (by decide) (by decide)
 ·exact ok1 (by decide) (by decide)
 ·exact trivial
theorem kLo1 : ∀ j < 1, trL kL0 j ≠ none := fun j hj => by
 obtain rfl : j = 0 := by omega
 intro h; cases h
theorem kLo2 : ∀ j < 2, trL kL1 j ≠ none := fun j hj => by
 rcases j with _ | _ | j
 ·intro h; cases h
 ·intro h; cases h
 ·omega
theorem kLo3 : ∀ j < 3, trL kL2 j ≠ none := fun j hj => by
 rcases j with _ | _ | _ | j
 ·intro h; cases h
 ·intro h; cases h
 ·intro h; cases h
 ·omega
theorem kMk {f : Nat} : Spec Tryz.prog 28 #[.pointer (some ⟨f, 0, none⟩), sv [47, 100]] [FSR f kP (trL kL0)] fun F v M => v = okV /\ M = FSR f kP (trL kL1) :: F :=
 fsMkdirL (d := 0) (i := 1) (nm := [100]) (sl := []) p11_is.ok kL0_ok (by decide) (lt_of_all rfl) (by decide) (by decide) rfl rfl rfl (by decide) rfl kLo1 (.inr (by decide)) (by decide) rfl
theorem kCr {f : Nat} : Spec Tryz.prog 17 #[.pointer (some ⟨f, 0, none⟩), sv [47, 100, 47, 120]] [FSR f kP (trL kL1)] fun F v M => v = okV /\ M = FSR f kP (trL kL2) :: F :=
 fsCreateL (d := 1) (i := 2) (nm := [120]) (sl := []) p11_is.ok kL1_ok (by decide) (lt_of_all rfl) (by decide) (by decide) rfl rfl rfl (by decide) rfl kLo2 (.inr (by decide)) (by decide) rfl
theorem kRT0 : RT kP (trL kL0) := rootT_trL ▸ rootRT (p := kP) (by decide)
theorem kRT1 : RT kP (trL kL1) := by
 have := kRT0.new (i := 1) (d := 0) (nm := [100]) (sl := []) (x := .dir []) (by decide) rfl (by decide) rfl (by decide) rfl
 rwa [trL_mk] at this
theorem kRT2 : RT kP (trL kL2) := by
 have := kRT1.new (i := 2) (d := 1) (nm := [120]) (sl := []) (x := .file []) (by decide) rfl (by decide) rfl (by decide) rfl
 rwa [trL_mk] at this
theorem kCl0 : TCl (trL kL0) := ⟨nofun, fun d sl q nm i hd hq => by
 have hm := kget_of_mem hd
 simp only [kL0, List.mem_cons, List.not_mem_nil, or_false] at hm
 injection hm with _ hm; injection hm with hm; subst hm; cases hq⟩
theorem kCl1 : TCl (trL kL1) := by
 have := kCl0.new (i := 1) (d := 0) (nm := [100]) (sl := []) (x := .dir []) rfl (by decide) rfl
 rwa [trL_mk] at this
theorem kCl2 : TCl (trL kL2) := by
 have := kCl1.new (i := 2) (d := 1) (nm := [120]) (sl := []) (x := .file []) rfl (by decide) rfl
 rwa [trL_mk] at this
theorem kTot0 : tot (fmT (trL kL0)) kP.ino = 0 := by
 rw [tot_trL (by decide) (lt_of_all rfl)]
 rfl
theorem kTot1 : tot (fmT (trL kL1)) kP.ino = 1 := by
 rw [tot_trL (by decide) (lt_of_all rfl)]
 rfl
theorem kTot2 : tot (fmT (trL kL2)) kP.ino = 2 := by
 rw [tot_trL (by decide) (lt_of_all rfl)]
 rfl
theorem kRMk {m s : Nat} : Spec Tryz.prog 29 #[.pointer (some ⟨m, 0, none⟩), sv [47, 100]] [RF m s, RS s kP (trL kL0) [] 0, frz []] fun F v M => v = .int .i64 0 /\ ∃ os2 N, M = RF m s :: RS s kP (trL kL1) os2 N :: frz os2 :: F := by
 have := rMkdir (m := m) (s := s) (p := kP) (T := trL kL0) (os := []) (N := 0) (by decide) (by decide) (path := [47, 100]) (d := 0) (i := 1) (nm := [100]) (sl := []) (x := .dir []) (by decide) kRT0 (by rw [kTot0]; decide) (by decide) rfl rfl rfl (by decide) rfl kLo1 rfl rfl (by rw [kTot0]; decide)
 rw [trL_mk] at this
 exact Spec.post this fun F v M ⟨hv, os2, _, hM⟩ => ⟨_, ⟨hv, os2, _, hM⟩, Wk.refl⟩
theorem kRCr {m s N : Nat} {os : List (Nat × Obj)} : Spec Tryz.prog 30 #[.pointer (some ⟨m, 0, none⟩), sv [47, 100, 47, 120]] [RF m s, RS s kP (trL kL1) os N, frz os] fun F v M => v = .int .i64 0 /\ ∃ os2 N, M = RF m s :: RS s kP (trL kL2) os2 N :: frz os2 :: F := by
 have := rCreate (m := m) (s := s) (p := kP) (T := trL kL1) (os := os) (N := N) (by decide) (by decide) (path := [47, 100, 47, 120]) (d := 1) (i := 2) (nm := [120]) (sl := []) (x := .file []) (by decide) kRT1 (by rw [kTot1]; decide) (by decide) rfl rfl rfl (by decide) rfl kLo2 rfl rfl (by rw [kTot1]; decide)
 rw [trL_mk] at this
 exact Spec.post this fun F v M ⟨hv, os2, _, hM⟩ => ⟨_, ⟨hv, os2, _, hM⟩, Wk.refl⟩
theorem kDir {d : Nat} {sl : List Slot} (h : trL kL2 d = some (.dir sl)) : sl.length = 1 /\ freeS sl = 1 := by
 have hm := kget_of_mem h
 simp only [kL2, List.mem_cons, List.not_mem_nil, or_false] at hm
 rcases hm with hm | hm | hm
 ·injection hm with _ hm; injection hm with hm; subst hm; exact ⟨rfl, rfl⟩
 ·injection hm with _ hm; injection hm with hm; subst hm; exact ⟨rfl, rfl⟩
 ·injection hm with _ hm; cases hm
theorem kStI : intsOk Tryz.prog 51 2 = true := by kernel_rfl
theorem kFit {d : Nat} {sl : List Slot} (h : trL kL2 d = some (.dir sl)) : tot (fmT (trL kL2)) kP.ino + has (max (64 * sl.length) (64 * freeS sl + 64)) <= kP.dc + has (64 * sl.length) := by
 rw [kTot2, (kDir h).1, (kDir h).2]; decide
theorem lawFKinds {path : Bytes} {mk : Bool} : Spec Tryz.prog 5 #[sv path, .bool mk] [] fun F v M => v = .bool true /\ M = F := by
 refine Spec.intro Tryz.func5 rfl rfl fun B F => ?_
 simp only [Tryz.ntmps5, List.cons_append, List.nil_append, env0, Nat.reduceAdd]
 refine .sr (.assign (.z (.seq (.sr (.move ?_)))))
 refine .lenT _ ?_ st9
 refine .gtr ?_
 refine .z ?_
 by_cases h300 : 300 < path.length
 ·refine .condT rfl (congrArg Value.bool (by first|simp;done|simp;omega|omega)) ?_
  refine .sr ?_
  refine .call (hc := Tryz.call26) (sp := l11Awake) (h := ?_)
  rintro _ _ ⟨rfl, hM⟩
  obtain rfl := hM.symm
  refine .assign (.z ?_)
  refine .ret (.thenRet (?_))
  exact .ret1 (h1 := .tmp (t := 4) rfl) ⟨_, ⟨rfl, rfl⟩, Am.auto⟩
 ·have hpl : path.length <= 100000 := by omega
  have hpm : path.length <= 1000000 := by omega
  refine .condF rfl (congrArg Value.bool (by first|simp;done|simp;omega|omega)) ?_
  refine .skip (.next (.sr ?_))
  refine .call (hc := Tryz.call27) (sp := l11FreshS) (h := ?_)
  rintro _ _ ⟨f, t, m, u, g, s, rfl, rfl⟩
  rw [rootT_trL]
  refine .move ?_
  refine .extract ?_
  refine .extract ?_
  refine .extract ?_
  refine .extract ?_
  refine .extract ?_
  refine .assign (.assign (.assign (.assign (.assign (.z (.seq (.sr (.move ?_))))))))
  refine .not ?_
  refine .move ?_
  refine .gT ?_
  refine .move ?_
  refine .gT ?_
  refine .call (hc := Tryz.call28) (sp := kMk (f := f)) (h := ?_)
  rintro _ _ ⟨rfl, rfl⟩
  refine .gT ?_
  refine .nei ?_
  refine .pickF ?_
  refine .move ?_
  refine .cast (d := 36) (u := .bool false) rfl (congrArg Value.bool (by first|simp;done|simp;omega|omega)) ?_
  refine .gT ?_
  refine .move ?_
  refine .gT ?_
  refine .call (hc := Tryz.call17) (sp := kCr (f := f)) (h := ?_)
  rintro _ _ ⟨rfl, rfl⟩
  refine .gT ?_
  refine .nei ?_
  refine .pickF ?_
  refine .move ?_
  refine .cast (d := 41) (u := .bool false) rfl (congrArg Value.bool (by first|simp;done|simp;omega|omega)) ?_
  refine .gT ?_
  refine .move ?_
  refine .gT ?_
  refine .call (hc := Tryz.call29) (sp := kRMk (m := m) (s := s)) (h := ?_)
  rintro _ _ ⟨rfl, os1, N1, rfl⟩
  refine .gT ?_
  refine .nei ?_
  refine .pickF ?_
  refine .move ?_
  refine .cast (d := 46) (u := .bool false) rfl (congrArg Value.bool (by first|simp;done|simp;omega|omega)) ?_
  refine .gT ?_
  refine .move ?_
  refine .gT ?_
  refine .call (hc := Tryz.call30) (sp := kRCr (m := m) (s := s) (os := os1) (N := N1)) (h := ?_)
  rintro _ _ ⟨rfl, os, N, rfl⟩
  refine .gT ?_
  refine .nei ?_
  refine .pickF ?_
  refine .z ?_
  refine .condF rfl (congrArg Value.bool (by first|simp;done|simp;omega|omega)) ?_
  refine .skip (.next (.sr (.move (.move (.move ?_)))))
  obtain ⟨⟨a, b, c, e⟩, hl⟩ : ∃ r, leadsT (trL kL2) path = r := ⟨_, rfl⟩
  by_cases he : e = 0
  ·subst he
   by_cases hb : b = 1
   ·subst hb
    refine .call (hc := Tryz.call31) (sp := tbOpen (t := t) (f := f) (kv := []) (p := kP) (T := trL kL2) (path := path) (fd := 0) (i := a) (z := c) (mk := mk) p11_is.ok (trL_ok kL2_ok) hpm hl (by decide) rfl (fun j hj => absurd hj (Nat.not_lt_zero j)) (by decide)) (h := ?_)
    rintro _ _ ⟨rfl, rfl⟩
    refine .move ?_
    refine .extract ?_
    refine .extract ?_
    refine .assign (.assign (.x (.move (.move (.move ?_)))))
    refine .call (hc := Tryz.call32) (sp := uOpenOk (u := u) (g := g) (m := m) (s := s) (p := kP) (T := trL kL2) (os := os) (N := N) (by decide) (by decide) (path := path) kRT2 hpl (mk := mk) hl) (h := ?_)
    rintro _ _ ⟨rfl, rfl⟩
    refine .move ?_
    refine .extract ?_
    refine .extract ?_
    refine .assign (.assign (.x (.move (.move ?_))))
    refine .call (hc := Tryz.call25) (sp := fsStat (f := f) (p := kP) (T := trL kL2) (path := path) p11_is.ok (trL_ok kL2_ok) hpm) (h := ?_)
    rintro _ _ ⟨rfl, rfl⟩
    rw [hl]
    simp only
    refine .move ?_
    refine .extract ?_
    refine .extract ?_
    refine .alloc z51 fun b14 => ?_
    refine .stV ?_ agg51
    refine .assign (.x (.move (.move ?_)))
    refine .call (hc := Tryz.call33) (sp := rStat (m := m) (s := s) (p := kP) (T := trL kL2) (os := os) (N := N) (by decide) (by decide) (path := path) kRT2 hpl) (h := ?_)
    rintro _ _ ⟨rfl, rfl⟩
    rw [hl]
    simp only
    refine .move ?_
    refine .extract ?_
    refine .extract ?_
    refine .alloc z51 fun b16 => ?_
    refine .stV ?_ agg51
    refine .assign (.x (.move (.move ?_)))
    refine .eqi ?_
    refine .move ?_
    refine .cast (d := 80) (u := .bool true) rfl (congrArg Value.bool (by first | rfl | (simp; done) | (simp; omega) | omega)) ?_
    refine .gT ?_
    refine .move ?_
    refine .gT ?_
    refine .move ?_
    refine .gT ?_
    refine .eqi ?_
    refine .pickT ?_
    refine .move ?_
    refine .cast (d := 85) (u := .bool true) rfl (congrArg Value.bool (by first | rfl | (simp; done) | (simp; omega) | omega)) ?_
    refine .gT ?_
    refine .ldA ?_ agg51
    refine .gT ?_
    refine .ldA ?_ agg51
    refine .gT ?_
    refine .eqStr (m := 2) (xs := [((1 : Nat) : Int), ((c : Nat) : Int)]) (ys := [((1 : Nat) : Int), ((c : Nat) : Int)]) ?_ kStI
    refine .pickT ?_
    refine .move ?_
    refine .cast (d := 90) (u := .bool true) rfl (congrArg Value.bool (by first | rfl | (simp; done) | (simp; omega) | omega)) ?_
    refine .gT ?_
    refine .move ?_
    refine .gT ?_
    refine .move ?_
    refine .gT ?_
    refine .eqi ?_
    refine .pickT ?_
    refine .move ?_
    refine .cast (d := 95) (u := .bool true) rfl (congrArg Value.bool (by first | rfl | (simp; done) | (simp; omega) | omega)) ?_
    refine .gT ?_
    refine .move ?_
    refine .gT ?_
    refine .nei ?_
    refine .gT ?_
    refine .move ?_
    refine .cast (d := 98) (u := .bool false) rfl (congrArg Value.bool (by first | rfl | (simp; done) | (simp; omega) | omega)) ?_
    refine .gT ?_
    refine .fa ?_ fo51_0
    refine .gT ?_
    refine .ld ?_ sc3
    refine .gT ?_
    refine .eqi ?_
    refine .gT ?_
    refine .pickF ?_
    refine .pickT ?_
    refine .move ?_
    refine .cast (d := 104) (u := .bool true) rfl (congrArg Value.bool (by first | rfl | (simp; done) | (simp; omega) | omega)) ?_
    refine .gT ?_
    refine .call (hc := Tryz.call26) (sp := l11Awake) (h := ?_)
    rintro _ _ ⟨rfl, hM⟩
    obtain rfl := hM.symm
    refine .pickT ?_
    refine .assign (.z ?_)
    refine .ret (?_)
    exact .ret1 (h1 := .tmp (t := 4) rfl) ⟨_, ⟨rfl, rfl⟩, Am.auto⟩
   ·refine .call (hc := Tryz.call31) (sp := tOpenKind (t := t) (f := f) (kv := []) (p := kP) (T := trL kL2) (path := path) p11_is.ok (trL_ok kL2_ok) hpm (by decide) (mk := mk) hl hb) (h := ?_)
    rintro _ _ ⟨rfl, rfl⟩
    refine .move ?_
    refine .extract ?_
    refine .extract ?_
    refine .assign (.assign (.x (.move (.move (.move ?_)))))
    refine .call (hc := Tryz.call32) (sp := uOpenKind (u := u) (g := g) (m := m) (s := s) (p := kP) (T := trL kL2) (os := os) (N := N) (by decide) (by decide) (path := path) kRT2 hpl (mk := mk) hl hb) (h := ?_)
    rintro _ _ ⟨rfl, rfl⟩
    refine .move ?_
    refine .extract ?_
    refine .extract ?_
    refine .assign (.assign (.x (.move (.move ?_))))
    refine .call (hc := Tryz.call25) (sp := fsStat (f := f) (p := kP) (T := trL kL2) (path := path) p11_is.ok (trL_ok kL2_ok) hpm) (h := ?_)
    rintro _ _ ⟨rfl, rfl⟩
    rw [hl]
    simp only
    refine .move ?_
    refine .extract ?_
    refine .extract ?_
    refine .alloc z51 fun b14 => ?_
    refine .stV ?_ agg51
    refine .assign (.x (.move (.move ?_)))
    refine .call (hc := Tryz.call33) (sp := rStat (m := m) (s := s) (p := kP) (T := trL kL2) (os := os) (N := N) (by decide) (by decide) (path := path) kRT2 hpl) (h := ?_)
    rintro _ _ ⟨rfl, rfl⟩
    rw [hl]
    simp only
    refine .move ?_
    refine .extract ?_
    refine .extract ?_
    refine .alloc z51 fun b16 => ?_
    refine .stV ?_ agg51
    refine .assign (.x (.move (.move ?_)))
    refine .eqi ?_
    refine .move ?_
    refine .cast (d := 80) (u := .bool true) rfl (congrArg Value.bool (by first | rfl | (simp; done) | (simp; omega) | omega)) ?_
    refine .gT ?_
    refine .move ?_
    refine .gT ?_
    refine .move ?_
    refine .gT ?_
    refine .eqi ?_
    refine .pickT ?_
    refine .move ?_
    refine .cast (d := 85) (u := .bool true) rfl (congrArg Value.bool (by first | rfl | (simp; done) | (simp; omega) | omega)) ?_
    refine .gT ?_
    refine .ldA ?_ agg51
    refine .gT ?_
    refine .ldA ?_ agg51
    refine .gT ?_
    refine .eqStr (m := 2) (xs := [((b : Nat) : Int), ((c : Nat) : Int)]) (ys := [((b : Nat) : Int), ((c : Nat) : Int)]) ?_ kStI
    refine .pickT ?_
    refine .move ?_
    refine .cast (d := 90) (u := .bool true) rfl (congrArg Value.bool (by first | rfl | (simp; done) | (simp; omega) | omega)) ?_
    refine .gT ?_
    refine .move ?_
    refine .gT ?_
    refine .move ?_
    refine .gT ?_
    refine .eqi ?_
    refine .pickT ?_
    refine .move ?_
    refine .cast (d := 95) (u := .bool true) rfl (congrArg Value.bool (by first | rfl | (simp; done) | (simp; omega) | omega)) ?_
    refine .gT ?_
    refine .move ?_
    refine .gT ?_
    refine .nei ?_
    refine .gT ?_
    refine .move ?_
    refine .cast (d := 98) (u := .bool true) rfl (congrArg Value.bool (by first | rfl | (simp; done) | (simp; omega) | omega)) ?_
    refine .gF ?_
    refine .gF ?_
    refine .gF ?_
    refine .gT ?_
    refine .pickT ?_
    refine .pickT ?_
    refine .move ?_
    refine .gT ?_
    refine .call (hc := Tryz.call26) (sp := l11Awake) (h := ?_)
    rintro _ _ ⟨rfl, hM⟩
    obtain rfl := hM.symm
    refine .pickT ?_
    refine .assign (.z ?_)
    refine .ret (?_)
    exact .ret1 (h1 := .tmp (t := 4) rfl) ⟨_, ⟨rfl, rfl⟩, Am.auto⟩
  ·by_cases hm : mk = false ∨ e ≠ 4
   ·refine .call (hc := Tryz.call31) (sp := tOpenErr (t := t) (f := f) (kv := []) (p := kP) (T := trL kL2) (path := path) p11_is.ok (trL_ok kL2_ok) hpm (by decide) (mk := mk) hl he hm) (h := ?_)
    rintro _ _ ⟨rfl, rfl⟩
    refine .move ?_
    refine .extract ?_
    refine .extract ?_
    refine .assign (.assign (.x (.move (.move (.move ?_)))))
    refine .call (hc := Tryz.call32) (sp := uOpenErr (u := u) (g := g) (m := m) (s := s) (p := kP) (T := trL kL2) (os := os) (N := N) (by decide) (by decide) (path := path) kRT2 hpl (mk := mk) hl he hm) (h := ?_)
    rintro _ _ ⟨rfl, rfl⟩
    refine .move ?_
    refine .extract ?_
    refine .extract ?_
    refine .assign (.assign (.x (.move (.move ?_))))
    refine .call (hc := Tryz.call25) (sp := fsStat (f := f) (p := kP) (T := trL kL2) (path := path) p11_is.ok (trL_ok kL2_ok) hpm) (h := ?_)
    rintro _ _ ⟨rfl, rfl⟩
    rw [hl]
    simp only
    refine .move ?_
    refine .extract ?_
    refine .extract ?_
    refine .alloc z51 fun b14 => ?_
    refine .stV ?_ agg51
    refine .assign (.x (.move (.move ?_)))
    refine .call (hc := Tryz.call33) (sp := rStat (m := m) (s := s) (p := kP) (T := trL kL2) (os := os) (N := N) (by decide) (by decide) (path := path) kRT2 hpl) (h := ?_)
    rintro _ _ ⟨rfl, rfl⟩
    rw [hl]
    simp only
    refine .move ?_
    refine .extract ?_
    refine .extract ?_
    refine .alloc z51 fun b16 => ?_
    refine .stV ?_ agg51
    refine .assign (.x (.move (.move ?_)))
    refine .eqi ?_
    refine .move ?_
    refine .cast (d := 80) (u := .bool true) rfl (congrArg Value.bool (by first | rfl | (simp; done) | (simp; omega) | omega)) ?_
    refine .gT ?_
    refine .move ?_
    refine .gT ?_
    refine .move ?_
    refine .gT ?_
    refine .eqi ?_
    refine .pickT ?_
    refine .move ?_
    refine .cast (d := 85) (u := .bool true) rfl (congrArg Value.bool (by first | rfl | (simp; done) | (simp; omega) | omega)) ?_
    refine .gT ?_
    refine .ldA ?_ agg51
    refine .gT ?_
    refine .ldA ?_ agg51
    refine .gT ?_
    refine .eqStr (m := 2) (xs := [((b : Nat) : Int), ((c : Nat) : Int)]) (ys := [((b : Nat) : Int), ((c : Nat) : Int)]) ?_ kStI
    refine .pickT ?_
    refine .move ?_
    refine .cast (d := 90) (u := .bool true) rfl (congrArg Value.bool (by first | rfl | (simp; done) | (simp; omega) | omega)) ?_
    refine .gT ?_
    refine .move ?_
    refine .gT ?_
    refine .move ?_
    refine .gT ?_
    refine .eqi ?_
    refine .pickT ?_
    refine .move ?_
    refine .cast (d := 95) (u := .bool true) rfl (congrArg Value.bool (by first | rfl | (simp; done) | (simp; omega) | omega)) ?_
    refine .gT ?_
    refine .move ?_
    refine .gT ?_
    refine .nei ?_
    refine .gT ?_
    refine .move ?_
    refine .cast (d := 98) (u := .bool true) rfl (congrArg Value.bool (by first | rfl | (simp; done) | (simp; omega) | omega)) ?_
    refine .gF ?_
    refine .gF ?_
    refine .gF ?_
    refine .gT ?_
    refine .pickT ?_
    refine .pickT ?_
    refine .move ?_
    refine .gT ?_
    refine .call (hc := Tryz.call26) (sp := l11Awake) (h := ?_)
    rintro _ _ ⟨rfl, hM⟩
    obtain rfl := hM.symm
    refine .pickT ?_
    refine .assign (.z ?_)
    refine .ret (?_)
    exact .ret1 (h1 := .tmp (t := 4) rfl) ⟨_, ⟨rfl, rfl⟩, Am.auto⟩
   ·obtain rfl : e = 4 := Decidable.of_not_not fun h => hm (.inr h)
    obtain rfl : mk = true := by cases mk with | true => rfl | false => exact absurd (.inl rfl) hm
    by_cases hme : makeE (trL kL2) path = 0
    ·obtain ⟨hp, d, nm, sl, hpar, hfi, hd⟩ := makeE_zero hme
     have hdl := kDir hd
     have hl2 := leadsT_mk (x := .file []) (trL_ok kL2_ok) hd (show trL kL2 3 = none from rfl) (by decide) hfi hpar
     have hRT2 : RT kP (mkT (trL kL2) d sl nm 3 (.file [])) := kRT2.new (by decide) hd (by omega) hfi (by decide) rfl
     have hcr : Spec Tryz.prog 17 #[.pointer (some ⟨f, 0, none⟩), sv path] [FSR f kP (trL kL2)] fun F v M => v = okV /\ M = FSR f kP (mkT (trL kL2) d sl nm 3 (.file [])) :: F :=
      fsCreate (f := f) (p := kP) (T := trL kL2) (path := path) (d := d) (i := 3) (nm := nm) (sl := sl) (x := .file []) p11_is.ok (trL_ok kL2_ok) hpm hp hpar hfi hd (by decide) rfl kLo3 rfl rfl (.inr (by decide)) (kFit hd)
     refine .call (hc := Tryz.call31) (sp := tOpenMake (t := t) (f := f) (kv := []) (p := kP) (T := trL kL2) (path := path) (fd := 0) (T2 := mkT (trL kL2) d sl nm 3 (.file [])) (i := 3) (z := 0) p11_is.ok (trL_ok kL2_ok) hpm hRT2.ok (by rw [hl]) hl2 hcr (by decide) rfl (fun j hj => absurd hj (Nat.not_lt_zero j)) (by decide)) (h := ?_)
     rintro _ _ ⟨rfl, rfl⟩
     refine .move ?_
     refine .extract ?_
     refine .extract ?_
     refine .assign (.assign (.x (.move (.move (.move ?_)))))
     refine .call (hc := Tryz.call32) (sp := uOpenMake (u := u) (g := g) (m := m) (s := s) (p := kP) (T := trL kL2) (os := os) (N := N) (by decide) (by decide) (path := path) kRT2 hpl hl (d := d) (i := 3) (nm := nm) (sl := sl) (by decide) (by rw [kTot2]; decide) hpar hfi hd (by decide) rfl kLo3 (kFit hd)) (h := ?_)
     rintro _ _ ⟨rfl, os3, rfl⟩
     refine .move ?_
     refine .extract ?_
     refine .extract ?_
     refine .assign (.assign (.x (.move (.move ?_))))
     refine .call (hc := Tryz.call25) (sp := fsStat (f := f) (p := kP) (T := mkT (trL kL2) d sl nm 3 (.file [])) (path := path) p11_is.ok hRT2.ok hpm) (h := ?_)
     rintro _ _ ⟨rfl, rfl⟩
     rw [hl2]
     simp only
     refine .move ?_
     refine .extract ?_
     refine .extract ?_
     refine .alloc z51 fun b14 => ?_
     refine .stV ?_ agg51
     refine .assign (.x (.move (.move ?_)))
     refine .call (hc := Tryz.call33) (sp := rStat (m := m) (s := s) (p := kP) (T := mkT (trL kL2) d sl nm 3 (.file [])) (os := os3) (N := _) (by decide) (by decide) (path := path) hRT2 hpl) (h := ?_)
     rintro _ _ ⟨rfl, rfl⟩
     rw [hl2]
     simp only
     refine .move ?_
     refine .extract ?_
     refine .extract ?_
     refine .alloc z51 fun b16 => ?_
     refine .stV ?_ agg51
     refine .assign (.x (.move (.move ?_)))
     refine .eqi ?_
     refine .move ?_
     refine .cast (d := 80) (u := .bool true) rfl (congrArg Value.bool (by first | rfl | (simp; done) | (simp; omega) | omega)) ?_
     refine .gT ?_
     refine .move ?_
     refine .gT ?_
     refine .move ?_
     refine .gT ?_
     refine .eqi ?_
     refine .pickT ?_
     refine .move ?_
     refine .cast (d := 85) (u := .bool true) rfl (congrArg Value.bool (by first | rfl | (simp; done) | (simp; omega) | omega)) ?_
     refine .gT ?_
     refine .ldA ?_ agg51
     refine .gT ?_
     refine .ldA ?_ agg51
     refine .gT ?_
     refine .eqStr (m := 2) (xs := [((1 : Nat) : Int), ((0 : Nat) : Int)]) (ys := [((1 : Nat) : Int), ((0 : Nat) : Int)]) ?_ kStI
     refine .pickT ?_
     refine .move ?_
     refine .cast (d := 90) (u := .bool true) rfl (congrArg Value.bool (by first | rfl | (simp; done) | (simp; omega) | omega)) ?_
     refine .gT ?_
     refine .move ?_
     refine .gT ?_
     refine .move ?_
     refine .gT ?_
     refine .eqi ?_
     refine .pickT ?_
     refine .move ?_
     refine .cast (d := 95) (u := .bool true) rfl (congrArg Value.bool (by first | rfl | (simp; done) | (simp; omega) | omega)) ?_
     refine .gT ?_
     refine .move ?_
     refine .gT ?_
     refine .nei ?_
     refine .gT ?_
     refine .move ?_
     refine .cast (d := 98) (u := .bool false) rfl (congrArg Value.bool (by first | rfl | (simp; done) | (simp; omega) | omega)) ?_
     refine .gT ?_
     refine .fa ?_ fo51_0
     refine .gT ?_
     refine .ld ?_ sc3
     refine .gT ?_
     refine .eqi ?_
     refine .gT ?_
     refine .pickF ?_
     refine .pickT ?_
     refine .move ?_
     refine .cast (d := 104) (u := .bool true) rfl (congrArg Value.bool (by first | rfl | (simp; done) | (simp; omega) | omega)) ?_
     refine .gT ?_
     refine .call (hc := Tryz.call26) (sp := l11Awake) (h := ?_)
     rintro _ _ ⟨rfl, hM⟩
     obtain rfl := hM.symm
     refine .pickT ?_
     refine .assign (.z ?_)
     refine .ret (?_)
     exact .ret1 (h1 := .tmp (t := 4) rfl) ⟨_, ⟨rfl, rfl⟩, Am.auto⟩
    ·obtain ⟨e1, he1⟩ : ∃ e1, makeE (trL kL2) path = e1 := ⟨_, rfl⟩
     rw [he1] at hme
     refine .call (hc := Tryz.call31) (sp := tOpenMakeE (t := t) (f := f) (kv := []) (p := kP) (T := trL kL2) (path := path) p11_is.ok (trL_ok kL2_ok) hpm (by decide) hl he1 hme) (h := ?_)
     rintro _ _ ⟨rfl, rfl⟩
     refine .move ?_
     refine .extract ?_
     refine .extract ?_
     refine .assign (.assign (.x (.move (.move (.move ?_)))))
     refine .call (hc := Tryz.call32) (sp := uOpenMakeE (u := u) (g := g) (m := m) (s := s) (p := kP) (T := trL kL2) (os := os) (N := N) (by decide) (by decide) (path := path) kRT2 hpl kCl2 hl he1 hme) (h := ?_)
     rintro _ _ ⟨rfl, rfl⟩
     refine .move ?_
     refine .extract ?_
     refine .extract ?_
     refine .assign (.assign (.x (.move (.move ?_))))
     refine .call (hc := Tryz.call25) (sp := fsStat (f := f) (p := kP) (T := trL kL2) (path := path) p11_is.ok (trL_ok kL2_ok) hpm) (h := ?_)
     rintro _ _ ⟨rfl, rfl⟩
     rw [hl]
     simp only
     refine .move ?_
     refine .extract ?_
     refine .extract ?_
     refine .alloc z51 fun b14 => ?_
     refine .stV ?_ agg51
     refine .assign (.x (.move (.move ?_)))
     refine .call (hc := Tryz.call33) (sp := rStat (m := m) (s := s) (p := kP) (T := trL kL2) (os := os) (N := N) (by decide) (by decide) (path := path) kRT2 hpl) (h := ?_)
     rintro _ _ ⟨rfl, rfl⟩
     rw [hl]
     simp only
     refine .move ?_
     refine .extract ?_
     refine .extract ?_
     refine .alloc z51 fun b16 => ?_
     refine .stV ?_ agg51
     refine .assign (.x (.move (.move ?_)))
     refine .eqi ?_
     refine .move ?_
     refine .cast (d := 80) (u := .bool true) rfl (congrArg Value.bool (by first | rfl | (simp; done) | (simp; omega) | omega)) ?_
     refine .gT ?_
     refine .move ?_
     refine .gT ?_
     refine .move ?_
     refine .gT ?_
     refine .eqi ?_
     refine .pickT ?_
     refine .move ?_
     refine .cast (d := 85) (u := .bool true) rfl (congrArg Value.bool (by first | rfl | (simp; done) | (simp; omega) | omega)) ?_
     refine .gT ?_
     refine .ldA ?_ agg51
     refine .gT ?_
     refine .ldA ?_ agg51
     refine .gT ?_
     refine .eqStr (m := 2) (xs := [((b : Nat) : Int), ((c : Nat) : Int)]) (ys := [((b : Nat) : Int), ((c : Nat) : Int)]) ?_ kStI
     refine .pickT ?_
     refine .move ?_
     refine .cast (d := 90) (u := .bool true) rfl (congrArg Value.bool (by first | rfl | (simp; done) | (simp; omega) | omega)) ?_
     refine .gT ?_
     refine .move ?_
     refine .gT ?_
     refine .move ?_
     refine .gT ?_
     refine .eqi ?_
     refine .pickT ?_
     refine .move ?_
     refine .cast (d := 95) (u := .bool true) rfl (congrArg Value.bool (by first | rfl | (simp; done) | (simp; omega) | omega)) ?_
     refine .gT ?_
     refine .move ?_
     refine .gT ?_
     refine .nei ?_
     refine .gT ?_
     refine .move ?_
     refine .cast (d := 98) (u := .bool true) rfl (congrArg Value.bool (by first | rfl | (simp; done) | (simp; omega) | omega)) ?_
     refine .gF ?_
     refine .gF ?_
     refine .gF ?_
     refine .gT ?_
     refine .pickT ?_
     refine .pickT ?_
     refine .move ?_
     refine .gT ?_
     refine .call (hc := Tryz.call26) (sp := l11Awake) (h := ?_)
     rintro _ _ ⟨rfl, hM⟩
     obtain rfl := hM.symm
     refine .pickT ?_
     refine .assign (.z ?_)
     refine .ret (?_)
     exact .ret1 (h1 := .tmp (t := 4) rfl) ⟨_, ⟨rfl, rfl⟩, Am.auto⟩
end Go.Proofs.YtdmjkjeoamiedaaGreatDoor
end
