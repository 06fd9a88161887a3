/- A part of the proof of lawFKinds: texts of this work put together. -/
import Derived.Test.YtdmjkjeoamiedaaGreatDoorQl4
import Derived.KernelRfl
set_option linter.unusedVariables false
set_option linter.unusedSimpArgs false
set_option linter.unusedSectionVars false
section
namespace Go.Proofs.YtdmjkjeoamiedaaGreatDoor
open Go
theorem rfName {xs : Bytes} (hl : xs.length <= 1000000) : Spec Tryz.prog 277 #[sv xs] [] fun F v M => v = .bool (nameOk xs) /\ M = F := by
 refine Spec.intro Tryz.func277 rfl rfl fun B F => ?_
 simp only [Tryz.ntmps277, List.cons_append, List.nil_append, env0, Nat.reduceAdd]
 by_cases h1 : xs = []
 ·have hno : nameOk xs = false := by unfold nameOk; rw [decide_eq_true h1]; rfl
  refine .sr (.assign (.z (.seq (.sr (.move ?_)))))
  refine .eqS xs [] ?_
  refine .cast (d := 5) (u := .bool true) rfl (congrArg Value.bool (decide_eq_true h1)) ?_
  refine .move ?_
  refine .gF ?_
  refine .gF ?_
  refine .gF ?_
  refine .pickT ?_
  refine .move ?_
  refine .gF ?_
  refine .gF ?_
  refine .pickT ?_
  refine .move ?_
  refine .gF ?_
  refine .gF ?_
  refine .pickT ?_
  refine .z ?_
  refine .condT rfl rfl ?_
  refine .sr (.assign (.z ?_))
  refine .ret (.thenRet (?_))
  exact .ret1 (h1 := .tmp (t := 2) rfl) ⟨_, ⟨by rw [hno], rfl⟩, Am.auto⟩
 ·by_cases h5 : 50 < xs.length
  ·have hno : nameOk xs = false := by unfold nameOk; rw [decide_eq_false (show ¬ xs.length <= 50 by omega)]; simp
   refine .sr (.assign (.z (.seq (.sr (.move ?_)))))
   refine .eqS xs [] ?_
   refine .cast (d := 5) (u := .bool false) rfl (congrArg Value.bool (decide_eq_false h1)) ?_
   refine .move ?_
   refine .gT ?_
   refine .move ?_
   refine .gT ?_
   refine .lenT _ ?_ st9
   refine .gT ?_
   refine .gtr ?_
   refine .pickF ?_
   refine .move ?_
   refine .cast (d := 11) (u := .bool true) rfl (congrArg Value.bool (by first|simp;done|simp;omega|omega)) ?_
   refine .gF ?_
   refine .gF ?_
   refine .pickT ?_
   refine .move ?_
   refine .gF ?_
   refine .gF ?_
   refine .pickT ?_
   refine .z ?_
   refine .condT rfl rfl ?_
   refine .sr (.assign (.z ?_))
   refine .ret (.thenRet (?_))
   exact .ret1 (h1 := .tmp (t := 2) rfl) ⟨_, ⟨by rw [hno], rfl⟩, Am.auto⟩
  ·by_cases h9 : xs = [46]
   ·have hno : nameOk xs = false := by unfold nameOk; rw [decide_eq_true h9]; simp
    refine .sr (.assign (.z (.seq (.sr (.move ?_)))))
    refine .eqS xs [] ?_
    refine .cast (d := 5) (u := .bool false) rfl (congrArg Value.bool (decide_eq_false h1)) ?_
    refine .move ?_
    refine .gT ?_
    refine .move ?_
    refine .gT ?_
    refine .lenT _ ?_ st9
    refine .gT ?_
    refine .gtr ?_
    refine .pickF ?_
    refine .move ?_
    refine .cast (d := 11) (u := .bool false) rfl (congrArg Value.bool (by first|simp;done|simp;omega|omega)) ?_
    refine .gT ?_
    refine .move ?_
    refine .gT ?_
    refine .eqS xs [46] ?_
    refine .cast (d := 13) (u := .bool true) rfl (congrArg Value.bool (decide_eq_true h9)) ?_
    refine .pickF ?_
    refine .move ?_
    refine .gF ?_
    refine .gF ?_
    refine .pickT ?_
    refine .z ?_
    refine .condT rfl rfl ?_
    refine .sr (.assign (.z ?_))
    refine .ret (.thenRet (?_))
    exact .ret1 (h1 := .tmp (t := 2) rfl) ⟨_, ⟨by rw [hno], rfl⟩, Am.auto⟩
   ·by_cases h13 : xs = [46, 46]
    ·have hno : nameOk xs = false := by unfold nameOk; rw [decide_eq_true h13]; simp
     refine .sr (.assign (.z (.seq (.sr (.move ?_)))))
     refine .eqS xs [] ?_
     refine .cast (d := 5) (u := .bool false) rfl (congrArg Value.bool (decide_eq_false h1)) ?_
     refine .move ?_
     refine .gT ?_
     refine .move ?_
     refine .gT ?_
     refine .lenT _ ?_ st9
     refine .gT ?_
     refine .gtr ?_
     refine .pickF ?_
     refine .move ?_
     refine .cast (d := 11) (u := .bool false) rfl (congrArg Value.bool (by first|simp;done|simp;omega|omega)) ?_
     refine .gT ?_
     refine .move ?_
     refine .gT ?_
     refine .eqS xs [46] ?_
     refine .cast (d := 13) (u := .bool false) rfl (congrArg Value.bool (decide_eq_false h9)) ?_
     refine .pickF ?_
     refine .move ?_
     refine .gT ?_
     refine .move ?_
     refine .gT ?_
     refine .eqS xs [46, 46] ?_
     refine .cast (d := 17) (u := .bool true) rfl (congrArg Value.bool (decide_eq_true h13)) ?_
     refine .pickF ?_
     refine .z ?_
     refine .condT rfl rfl ?_
     refine .sr (.assign (.z ?_))
     refine .ret (.thenRet (?_))
     exact .ret1 (h1 := .tmp (t := 2) rfl) ⟨_, ⟨by rw [hno], rfl⟩, Am.auto⟩
    ·refine .sr (.assign (.z (.seq (.sr (.move ?_)))))
     refine .eqS xs [] ?_
     refine .cast (d := 5) (u := .bool false) rfl (congrArg Value.bool (decide_eq_false h1)) ?_
     refine .move ?_
     refine .gT ?_
     refine .move ?_
     refine .gT ?_
     refine .lenT _ ?_ st9
     refine .gT ?_
     refine .gtr ?_
     refine .pickF ?_
     refine .move ?_
     refine .cast (d := 11) (u := .bool false) rfl (congrArg Value.bool (by first|simp;done|simp;omega|omega)) ?_
     refine .gT ?_
     refine .move ?_
     refine .gT ?_
     refine .eqS xs [46] ?_
     refine .cast (d := 13) (u := .bool false) rfl (congrArg Value.bool (decide_eq_false h9)) ?_
     refine .pickF ?_
     refine .move ?_
     refine .gT ?_
     refine .move ?_
     refine .gT ?_
     refine .eqS xs [46, 46] ?_
     refine .cast (d := 17) (u := .bool false) rfl (congrArg Value.bool (decide_eq_false h13)) ?_
     refine .pickF ?_
     refine .z ?_
     refine .condF rfl rfl ?_
     refine .skip (.next (.seq (.sr (.assign (.z (.block ?_))))))
     refine .loopA (σ := Nat) (fun k => [(0, sv xs), (3, .int .i64 ((k : Nat) : Int))]) (fun _ => F) (fun k => k <= xs.length /\ ∀ j, j < k -> ∀ h : j < xs.length, xs[j] ≠ 47 /\ xs[j] ≠ 0) (fun k => xs.length - k) 0 ⟨Nat.zero_le _, fun j hj => absurd hj (Nat.not_lt_zero _)⟩ ?_
     rintro k hk
     refine .seq (.sr (.move (.move ?_)))
     refine .lenT _ ?_ st9
     refine .lss ?_
     refine .z ?_
     refine .cond rfl (fun hb => ?_) (fun hb => ?_)
     ·have hlt : k < xs.length := by have h : (k : Int) < (xs.length : Int) := of_decide_eq_true hb; omega
      have hx : xs[((k : Nat) : Int).toNat]? = some xs[k] := by rw [Int.toNat_natCast]; exact List.getElem?_eq_getElem hlt
      by_cases hz : xs[k] = 0
      ·have hz2 : xs[k].toNat = 0 := by rw [hz]; rfl
       have hno : nameOk xs = false := by unfold nameOk; rw [sepIn_yes hlt (.inr hz)]; simp
       refine .skip (.next (.seq (.block (.sr (.move (.move ?_))))))
       refine .ixT (p := (k : Int)) (v := xs[k]) xs ?_ st9 hx
       refine .eqi ?_
       refine .move ?_
       refine .cast (d := 29) (u := .bool true) rfl (congrArg Value.bool (by first|simp;done|simp;omega|omega)) ?_
       refine .gF ?_
       refine .gF ?_
       refine .gF ?_
       refine .gF ?_
       refine .pickT ?_
       refine .z ?_
       refine .condT rfl rfl ?_
       refine .sr (.assign (.z ?_))
       refine .ret (.blockRet (.thenRet (.thenRet (.blockRet (.thenRet (?_))))))
       exact .ret1 (h1 := .tmp (t := 2) rfl) ⟨_, ⟨by rw [hno], rfl⟩, Am.auto⟩
      ·have hz2 : ¬ xs[k].toNat = 0 := fun h => hz (UInt8.toNat_inj.1 h)
       by_cases hs : xs[k] = 47
       ·have hs2 : xs[k].toNat = 47 := by rw [hs]; rfl
        have hno : nameOk xs = false := by unfold nameOk; rw [sepIn_yes hlt (.inl hs)]; simp
        refine .skip (.next (.seq (.block (.sr (.move (.move ?_))))))
        refine .ixT (p := (k : Int)) (v := xs[k]) xs ?_ st9 hx
        refine .eqi ?_
        refine .move ?_
        refine .cast (d := 29) (u := .bool false) rfl (congrArg Value.bool (by first|simp;done|simp;omega|omega)) ?_
        refine .gT ?_
        refine .move ?_
        refine .gT ?_
        refine .move ?_
        refine .gT ?_
        refine .ixT (p := (k : Int)) (v := xs[k]) xs ?_ st9 hx
        refine .gT ?_
        refine .eqi ?_
        refine .pickF ?_
        refine .z ?_
        refine .condT rfl (congrArg Value.bool (by first|simp;done|simp;omega|omega)) ?_
        refine .sr (.assign (.z ?_))
        refine .ret (.blockRet (.thenRet (.thenRet (.blockRet (.thenRet (?_))))))
        exact .ret1 (h1 := .tmp (t := 2) rfl) ⟨_, ⟨by rw [hno], rfl⟩, Am.auto⟩
       ·have hs2 : ¬ xs[k].toNat = 47 := fun h => hs (UInt8.toNat_inj.1 h)
        refine .skip (.next (.seq (.block (.sr (.move (.move ?_))))))
        refine .ixT (p := (k : Int)) (v := xs[k]) xs ?_ st9 hx
        refine .eqi ?_
        refine .move ?_
        refine .cast (d := 29) (u := .bool false) rfl (congrArg Value.bool (by first|simp;done|simp;omega|omega)) ?_
        refine .gT ?_
        refine .move ?_
        refine .gT ?_
        refine .move ?_
        refine .gT ?_
        refine .ixT (p := (k : Int)) (v := xs[k]) xs ?_ st9 hx
        refine .gT ?_
        refine .eqi ?_
        refine .pickF ?_
        refine .z ?_
        refine .condF rfl (congrArg Value.bool (by first|simp;done|simp;omega|omega)) ?_
        refine .skip (.blockNormal (.next (.region (.move ?_))))
        refine .add ?_
        refine .assign (.nil ?_)
        refine .cast (d := 3) (u := .int .i64 ((k + 1 : Nat) : Int)) rfl (congrArg (Value.int .i64) (by omega)) ?_
        exact .back (k + 1) ⟨by show k + 1 <= xs.length; omega, fun j hj hjl => (Nat.lt_or_ge j k).elim (fun h => hk.2 j h hjl) (fun h => by have h2 : j = k := (by omega); subst h2; exact ⟨hs, hz⟩)⟩ (by show xs.length - (k + 1) < xs.length - k; omega)
     ·have hge : k = xs.length := by have h : ¬ (k : Int) < (xs.length : Int) := of_decide_eq_false hb; omega
      have hyes : nameOk xs = true := by
       unfold nameOk
       rw [sepIn_no (fun j hj => hk.2 j (by omega) hj), decide_eq_false h1, decide_eq_false h9, decide_eq_false h13, decide_eq_true (show xs.length <= 50 by omega)]; rfl
      refine .exit (.thenExit (.thenExit (.blockExit (?_))))
      refine .next (.sr (.assign (.z ?_)))
      refine .ret (?_)
      exact .ret1 (h1 := .tmp (t := 2) rfl) ⟨_, ⟨by rw [hyes], rfl⟩, Am.auto⟩
theorem rfNeed {n : Nat} (hn : n <= 1000000000) : Spec Tryz.prog 197 #[nI n] [] fun F v M => v = nI (has n) /\ M = F := by
 refine Spec.intro Tryz.func197 rfl rfl fun B F => ?_
 simp only [Tryz.ntmps197, List.cons_append, List.nil_append, env0, Nat.reduceAdd]
 by_cases h : dat n <= 10
 ·have hh : has n = dat n := by unfold has; rw [if_pos h]
  refine .sr (.assign (.x (.move ?_)))
  refine .add ?_
  refine .sub ?_
  refine .quo ?_
  refine .cast (d := 7) (u := nI (dat n)) rfl (congrArg (Value.int .i64) (by unfold dat; omega)) ?_
  refine .assign (.z (.seq (.sr (.move ?_))))
  refine .gtr ?_
  refine .z ?_
  refine .condF rfl (congrArg Value.bool (by first|simp;done|simp;omega|omega)) ?_
  refine .skip (.next (.sr (.move (.assign (.z ?_)))))
  refine .ret (?_)
  exact .ret1 (h1 := .tmp (t := 2) rfl) ⟨_, ⟨by rw [hh], rfl⟩, Am.auto⟩
 ·have hd : dat n <= 2000000 := by unfold dat; omega
  have hh : has n = dat n + 1 := by unfold has; rw [if_neg h]
  refine .sr (.assign (.x (.move ?_)))
  refine .add ?_
  refine .sub ?_
  refine .quo ?_
  refine .cast (d := 7) (u := nI (dat n)) rfl (congrArg (Value.int .i64) (by unfold dat; omega)) ?_
  refine .assign (.z (.seq (.sr (.move ?_))))
  refine .gtr ?_
  refine .z ?_
  refine .condT rfl (congrArg Value.bool (by first|simp;done|simp;omega|omega)) ?_
  refine .region (.move ?_)
  refine .add ?_
  refine .assign (.x (.move (.assign (.z ?_))))
  refine .ret (?_)
  exact .ret1 (h1 := .tmp (t := 2) rfl) ⟨_, ⟨by rw [hh]; rfl, rfl⟩, Am.auto⟩
def stN (nm : Bytes) (k : Nat) : Bytes := UInt8.ofNat nm.length :: (nm.take k ++ List.replicate (63 - k) 0)
theorem stN_length {nm : Bytes} {k : Nat} (hk : k <= nm.length) (hn : nm.length <= 50) : (stN nm k).length = 64 := by
 unfold stN
 rw [List.length_cons, List.length_append, List.length_take, List.length_replicate]; omega
theorem stN_start (nm : Bytes) : (List.replicate 64 (0 : UInt8)).set 0 (UInt8.ofNat nm.length) = stN nm 0 := rfl
theorem stN_step {nm : Bytes} {k : Nat} (hk : k < nm.length) (hn : nm.length <= 50) : (stN nm k).set (k + 1) nm[k] = stN nm (k + 1) := by
 have hl : (nm.take k).length = k := by rw [List.length_take]; omega
 unfold stN
 rw [List.set_cons_succ, List.set_append_right _ _ (by omega), hl, Nat.sub_self, List.take_succ_eq_append_getElem hk, List.append_assoc, show 63 - k = (63 - (k + 1)) + 1 from by omega, List.replicate_succ, List.set_cons_zero]
 rfl
theorem stN_end {nm : Bytes} (hn : nm.length <= 50) (a b : UInt8) : ((stN nm nm.length).set 60 a).set 61 b = UInt8.ofNat nm.length :: ((nm ++ List.replicate 59 0).take 59 ++ [a, b, 0, 0]) := by
 have h1 : nm ++ List.replicate (63 - nm.length) 0 = (nm ++ List.replicate (59 - nm.length) 0) ++ [0, 0, 0, 0] := by
  rw [List.append_assoc, show 63 - nm.length = (59 - nm.length) + 4 from by omega, <- List.replicate_append_replicate]; rfl
 have h2 : (nm ++ List.replicate 59 0).take 59 = nm ++ List.replicate (59 - nm.length) (0 : UInt8) := by
  rw [List.take_append, List.take_of_length_le (by omega), List.take_replicate, Nat.min_eq_left (by omega)]
 have h3 : (nm ++ List.replicate (59 - nm.length) (0 : UInt8)).length = 59 := by rw [List.length_append, List.length_replicate]; omega
 unfold stN
 rw [List.take_length, h1, h2, List.set_cons_succ, List.set_cons_succ, List.set_append_right _ _ (by omega), List.set_append_right _ _ (by omega), h3]
 rfl
theorem shr8 (i : Nat) : ((i : Int).fdiv (2 ^ (min (8 : Int).toNat IntKind.i64.bits))) = ((i / 256 : Nat) : Int) := by
 show (i : Int).fdiv 256 = _
 rw [Int.fdiv_eq_ediv_of_nonneg _ (by decide)]; omega
theorem rfSlot {nm : Bytes} {i : Nat} (hn : nm.length <= 50) (hi : i < 65536) : Spec Tryz.prog 239 #[sv nm, nI i] [] fun F v M => ∃ b, v = .slice (some ⟨b, 0, none⟩) 64 64 /\ M = buf b 5 64 (bvs (rslotB (some (nm, i)))) :: F := by
 refine Spec.intro Tryz.func239 rfl rfl fun B F => ?_
 simp only [Tryz.ntmps239, List.cons_append, List.nil_append, env0, Nat.reduceAdd]
 refine .sr (.assign (.x ?_))
 refine .mkSN 64 z5 so33 (by decide) (by decide) fun b7 => ?_
 refine .to (A := buf b7 5 64 (List.replicate 64 (.int .u8 0))) (A' := buf b7 5 64 (bvs (List.replicate 64 0))) (fun h hh => by rw [bvs_replicate]; exact hh) ?_
 refine .assign (.x (.move (.move ?_)))
 refine .lenT _ ?_ st9
 refine .cvt ?_ un3 un5
 refine .cast (d := 11) (u := bv (UInt8.ofNat nm.length)) rfl (wrap_ofNat _) ?_
 refine .idx1 ?_ so33
 refine .stB (i := 0 + (0 : Int).toNat) (xs := bvs (List.replicate 64 0)) (v := bv (UInt8.ofNat nm.length)) ?_ sc5 (by rw [bvs_length, List.length_replicate]; decide)
 refine .to (A := buf b7 5 64 ((bvs (List.replicate 64 0)).set (0 + (0 : Int).toNat) (bv (UInt8.ofNat nm.length)))) (A' := buf b7 5 64 (bvs (stN nm 0))) (fun h hh => by rw [<- stN_start, bvs_set]; exact hh) ?_
 refine .z (.seq (.sr (.assign (.z (.block ?_)))))
 refine .loopA (σ := Nat) (fun k => [(0, sv nm), (1, nI i), (5, .slice (some ⟨b7, 0, none⟩) 64 64), (6, .int .i64 ((k : Nat) : Int))]) (fun k => buf b7 5 64 (bvs (stN nm k)) :: F) (fun k => k <= nm.length) (fun k => nm.length - k) 0 (Nat.zero_le _) ?_
 rintro k hk
 refine .seq (.sr (.move (.move ?_)))
 refine .lenT _ ?_ st9
 refine .lss ?_
 refine .z ?_
 refine .cond rfl (fun hb => ?_) (fun hb => ?_)
 ·have hlt : k < nm.length := by have h : (k : Int) < (nm.length : Int) := of_decide_eq_true hb; omega
  have hx : nm[((k : Nat) : Int).toNat]? = some nm[k] := by rw [Int.toNat_natCast]; exact List.getElem?_eq_getElem hlt
  refine .skip (.next (.seq (.block (.region (.move (.move ?_))))))
  refine .add ?_
  refine .move (.move ?_)
  refine .ixT (p := (k : Int)) (v := nm[k]) nm ?_ st9 hx
  refine .idx1 ?_ so33
  refine .stB (i := 0 + (1 + ((k : Nat) : Int)).toNat) (xs := bvs (stN nm k)) (v := bv nm[k]) ?_ sc5 (by rw [bvs_length, stN_length (by omega) hn]; omega)
  refine .to (A := buf b7 5 64 ((bvs (stN nm k)).set (0 + (1 + ((k : Nat) : Int)).toNat) (bv nm[k]))) (A' := buf b7 5 64 (bvs (stN nm (k + 1)))) (fun h hh => by rw [<- stN_step hlt hn, bvs_set]; rw [show 0 + (1 + ((k : Nat) : Int)).toNat = k + 1 from by omega] at hh; exact hh) ?_
  refine .nil (.blockNormal (.next (.region (.move ?_))))
  refine .add ?_
  refine .assign (.nil ?_)
  refine .cast (d := 6) (u := .int .i64 ((k + 1 : Nat) : Int)) rfl (congrArg (Value.int .i64) (by omega)) ?_
  exact .back (k + 1) (by show k + 1 <= nm.length; omega) (by show nm.length - (k + 1) < nm.length - k; omega)
 ·have hge : k = nm.length := by have h : ¬ (k : Int) < (nm.length : Int) := of_decide_eq_false hb; omega
  subst hge
  refine .exit (.thenExit (.thenExit (.blockExit (?_))))
  refine .next (.sr (.move (.move ?_)))
  refine .cvt ?_ un3 un5
  refine .cast (d := 28) (u := bv (UInt8.ofNat i)) rfl (wrap_ofNat _) ?_
  refine .idx1 ?_ so33
  refine .stB (i := 0 + (60 : Int).toNat) (xs := bvs (stN nm nm.length)) (v := bv (UInt8.ofNat i)) ?_ sc5 (by rw [bvs_length, stN_length (Nat.le_refl _) hn]; decide)
  refine .to (A := buf b7 5 64 ((bvs (stN nm nm.length)).set (0 + (60 : Int).toNat) (bv (UInt8.ofNat i)))) (A' := buf b7 5 64 (bvs ((stN nm nm.length).set 60 (UInt8.ofNat i)))) (fun h hh => by rw [bvs_set]; exact hh) ?_
  refine .x (.move (.move ?_))
  refine .shr ?_
  refine .cast (d := 32) (u := nI (i / 256)) rfl (congrArg (Value.int .i64) (shr8 i)) ?_
  refine .cvt ?_ un3 un5
  refine .cast (d := 33) (u := bv (UInt8.ofNat (i / 256))) rfl (wrap_ofNat _) ?_
  refine .idx1 ?_ so33
  refine .stB (i := 0 + (61 : Int).toNat) (xs := bvs ((stN nm nm.length).set 60 (UInt8.ofNat i))) (v := bv (UInt8.ofNat (i / 256))) ?_ sc5 (by rw [bvs_length, List.length_set, stN_length (Nat.le_refl _) hn]; decide)
  refine .to (A := buf b7 5 64 ((bvs ((stN nm nm.length).set 60 (UInt8.ofNat i))).set (0 + (61 : Int).toNat) (bv (UInt8.ofNat (i / 256))))) (A' := buf b7 5 64 (bvs (rslotB (some (nm, i))))) (fun h hh => by rw [show rslotB (some (nm, i)) = _ from (stN_end hn _ _).symm, bvs_set]; exact hh) ?_
  refine .x (.move (.assign (.z ?_)))
  refine .ret (?_)
  exact .ret1 (h1 := .tmp (t := 4) rfl) ⟨_, ⟨b7, rfl, rfl⟩, Am.auto⟩
theorem bor_i64 (a b : Nat) (ha : a < 256) (hb : b < 256) : bor .i64 (a : Int) ((b * 256 : Nat) : Int) = ((a + b * 256 : Nat) : Int) := by
 have h : bor .i64 (a : Int) ((b * 256 : Nat) : Int) = IntKind.i64.wrap ((a ||| (b * 256) : Nat) : Int) := by
  unfold bor
  congr 2
  rw [BitVec.toNat_or]
  rw [show IntKind.i64.bits = 64 from rfl, ofInt_nat64 _ (by omega), ofInt_nat64 _ (by omega)]
 have hor : a ||| (b * 256) = a + b * 256 := by
  have := Nat.two_pow_add_eq_or_of_lt (i := 8) (b := a) (by omega) b
  rw [Nat.or_comm, show b * 256 = 2 ^ 8 * b from by omega, <- this]; omega
 rw [h, hor, IntWalk.i64_in _ (by omega)]
theorem slot_lo {n : Nat} : (UInt8.ofNat n).toNat = n % 256 := UInt8.toNat_ofNat' ..
theorem rslotB_parts {s : Slot} (hs : (slotNm s).length <= 50) : (bvs (rslotB s))[0]? = some (bv (UInt8.ofNat (slotNm s).length)) /\ (bvs (rslotB s))[60]? = some (bv (UInt8.ofNat (slotNo s))) /\ (bvs (rslotB s))[61]? = some (bv (UInt8.ofNat (slotNo s / 256))) /\ ((rslotB s).drop 1).take (slotNm s).length = slotNm s := by
 cases s with
 | none => exact ⟨rfl, rfl, rfl, rfl⟩
 | some x =>
  obtain ⟨nm, i⟩ := x
  have hs : nm.length <= 50 := hs
  have hl : ((nm ++ List.replicate 59 (0 : UInt8)).take 59).length = 59 := by rw [List.length_take, List.length_append, List.length_replicate]; omega
  have g : ∀ j, (bvs (rslotB (some (nm, i))))[60 + j]? = (bvs [UInt8.ofNat i, UInt8.ofNat (i / 256), 0, 0])[j]? := by
   intro j
   unfold bvs rslotB
   rw [List.getElem?_map, List.getElem?_map, show 60 + j = (59 + j) + 1 from by omega, List.getElem?_cons_succ, List.getElem?_append_right (by omega), hl, show 59 + j - 59 = j from by omega]
  refine ⟨rfl, g 0, g 1, ?_⟩
  show (((nm ++ List.replicate 59 (0 : UInt8)).take 59 ++ [UInt8.ofNat i, UInt8.ofNat (i / 256), 0, 0])).take nm.length = nm
  rw [List.take_append_of_le_length (by omega), List.take_take, Nat.min_eq_left (by omega), List.take_left']
  rfl
theorem rfAt {R : HP} {A : Option Addr} {m c k : Nat} {bs : Bytes} {s : Slot} (hR : Reads R A (bvs bs)) (hm : bs.length = m) (hk : 64 * k + 64 <= m) (hmc : m <= c) (hm2 : m <= 1000000) (hs : (bs.drop (64 * k)).take 64 = rslotB s) (hnl : (slotNm s).length <= 50) (hno : slotNo s < 65536) : Spec Tryz.prog 258 #[.slice A m c, nI k] [R] fun F v M => v = .tuple #[sv (slotNm s), nI (slotNo s)] /\ M = R :: F := by
 refine Spec.intro Tryz.func258 rfl rfl fun B F => ?_
 simp only [Tryz.ntmps258, List.cons_append, List.nil_append, env0, Nat.reduceAdd]
 rcases A with _ | ⟨ab, ao, asp⟩
 ·exact absurd (congrArg List.length (show bvs bs = [] from hR)) (by rw [bvs_length]; simp only [List.length_nil]; omega)
 have hsp : asp = none := hR.1
 subst hsp
 have hx : Reads R (some ⟨ab, ao + 64 * k, none⟩) (bvs (rslotB s)) := by
  have := (hR.drop (64 * k)).take 64
  rwa [<- bvs_drop, <- bvs_take, hs] at this
 obtain ⟨g0, g60, g61, gn⟩ := rslotB_parts hnl
 have hxl := rslotB_length s
 have hxn : Reads R (some ⟨ab, ao + 64 * k + 1, none⟩) (bvs (slotNm s)) := by
  have := (hx.drop 1).take (slotNm s).length
  rwa [<- bvs_drop, <- bvs_take, gn] at this
 obtain ⟨ln, hln⟩ : ∃ ln, (slotNm s).length = ln := ⟨_, rfl⟩
 rw [hln] at g0 hnl
 obtain ⟨no, hnn⟩ : ∃ no, slotNo s = no := ⟨_, rfl⟩
 rw [hnn] at g60 g61 hno ⊢
 have c0 : IntKind.i64.wrap ((UInt8.ofNat ln).toNat : Int) = (ln : Int) := by rw [slot_lo, IntWalk.i64_in _ (by omega)]; omega
 have c1 : IntKind.i64.wrap ((UInt8.ofNat no).toNat : Int) = ((no % 256 : Nat) : Int) := by rw [slot_lo, IntWalk.i64_in _ (by omega)]
 have c2 : IntKind.i64.wrap ((UInt8.ofNat (no / 256)).toNat : Int) = ((no / 256 : Nat) : Int) := by rw [slot_lo, IntWalk.i64_in _ (by omega)]; omega
 have c3 : IntKind.i64.wrap (((no / 256 : Nat) : Int) * 2 ^ (min (8 : Int).toNat IntKind.i64.bits)) = ((no / 256 * 256 : Nat) : Int) := by
  have h8 : (2 : Int) ^ (min (8 : Int).toNat IntKind.i64.bits) = 256 := by decide
  rw [h8, IntWalk.i64_in _ (by omega)]; omega
 have c4 : bor .i64 ((no % 256 : Nat) : Int) ((no / 256 * 256 : Nat) : Int) = (no : Int) := by rw [bor_i64 _ _ (by omega) (by omega)]; omega
 refine .sr (.assign (.assign (.x (.move (.move ?_)))))
 refine .mul ?_
 refine .move ?_
 refine .mul ?_
 refine .add ?_
 refine .slcLH ?_ so33
 refine .cast (d := 13) (u := .slice (some ⟨ab, ao + 64 * k, none⟩) 64 (c - 64 * k)) rfl (by rw [show (64 * ((k : Nat) : Int)).toNat = 64 * k from by omega, show (64 * ((k : Nat) : Int) + 64).toNat - 64 * k = 64 from by omega, if_neg (by omega), Nat.mul_one]) ?_
 refine .assign (.z (.seq ?_))
 refine .dr ([R]) [] 20 mixed .autoJ ?_
 refine .tk 0 rfl .move ?_
 refine .tk 1 rfl .move ?_
 refine .tk 2 rfl (.idx1 so33) ?_
 refine .tk 3 rfl (Qt.ldR (i := (0 : Int).toNat) sc5 hx g0) ?_
 refine .tk 4 rfl ((Qt.cvt un5 un3).eq (v' := nI ln) (congrArg (Value.int .i64) c0)) ?_
 refine .tk 5 rfl .add ?_
 refine .tk 6 rfl ((Qt.slcLH (p := 1) (q := 1 + (ln : Int)) so33 (hp := by omega)).eq (v' := .slice (some ⟨ab, ao + 64 * k + 1, none⟩) ln (c - 64 * k - 1)) (by rw [show (1 : Int).toNat = 1 from rfl, if_neg (by omega), show (1 + (ln : Int)).toNat - 1 = ln from by omega])) ?_
 refine .tk 7 rfl (Qt.cvtBS by33 st9 hxn hln) ?_
 refine .tk 8 rfl .move ?_
 refine .tk 9 rfl (.idx1 so33) ?_
 refine .tk 10 rfl (Qt.ldR (i := (60 : Int).toNat) sc5 hx g60) ?_
 refine .tk 11 rfl ((Qt.cvt un5 un3).eq (v' := nI (no % 256)) (congrArg (Value.int .i64) c1)) ?_
 refine .tk 12 rfl .move ?_
 refine .tk 13 rfl (.idx1 so33) ?_
 refine .tk 14 rfl (Qt.ldR (i := (61 : Int).toNat) sc5 hx g61) ?_
 refine .tk 15 rfl ((Qt.cvt un5 un3).eq (v' := nI (no / 256)) (congrArg (Value.int .i64) c2)) ?_
 refine .tk 16 rfl ((Qt.shl).eq (v' := nI (no / 256 * 256)) (congrArg (Value.int .i64) c3)) ?_
 refine .tk 17 rfl ((Qt.or).eq (v' := nI no) (congrArg (Value.int .i64) c4)) ?_
 refine .tk 18 rfl .assign ?_
 refine .tk 19 rfl .assign ?_
 refine .fin ?_
 refine .next ?_
 refine .ret (?_)
 exact .ret2 (h1 := .tmp (t := 4) rfl) (h2 := .tmp (t := 5) rfl) ⟨_, ⟨rfl, rfl⟩, Am.auto⟩
theorem WL.subLH {P : Program} {B : Base} {n : Fr} {Q : Exit -> Act -> World -> Prop} {e : Env} {L : List HP} {ops : Array Oper} {l : List Oper} {d : Nat} {ty : TypeId} {pos : String} {af : Array Edge} {x y z : Operand} {t : Nat} {p q : Int} (xs : Bytes) (h : WL P B n ops l Q ((d, sv ((xs.drop p.toNat).take (q.toNat - p.toNat))) :: e) L) (ht : strOk P t = true) (hx : evo e x = some (sv xs) := by rfl) (hy : evo e y = some (.int .i64 p) := by rfl) (hz : evo e z = some (.int .i64 q) := by rfl) (hp : 0 <= p /\ p <= q /\ q <= xs.length := by omega) (hd : Nat.ble (d + 1) n.k = true := by rfl) :
  WL P B n ops (⟨some d, .slice t x (some y) (some z) none, ty, pos, af, none⟩ :: l) Q e L := by
 refine WL.pure h hd ?_
 intro a w ha hs
 have h1 : (0 <= p /\ p <= q) /\ q <= ((bstr xs).size : Int) := by rw [bstr_size]; omega
 have h2 : (bstr xs).extract p.toNat q.toNat = bstr ((xs.drop p.toNat).take (q.toNat - p.toNat)) := by
  apply ByteArray.ext
  simp [bstr, ByteArray.data_extract, List.drop_take]
 have : (Instr.sliceAt t (sv xs) (some (.int .i64 p)) (some (.int .i64 q)) none).run P w = .ok (sv ((xs.drop p.toNat).take (q.toNat - p.toNat))) w := by
  rw [sv_bstr, sv_bstr, <- h2]
  have h3 : 0 <= q := by omega
  have h4 : max q 0 = q := by omega
  have h5 : ¬ q < p := by omega
  simp [h4, h5, Instr.sliceAt, Instr.slice, run_underlying (str_of ht), Instr.sliceBounds, Instr.sliceBound, asIntOf, h1.1.1, h1.1.2, h1.2, h3]
 simp [execOp, ha.eval hx, ha.eval hy, ha.eval hz, this]
theorem bsS1 (a : ByteArray) : BuildSOk Tryz.prog 92 1 [(0, .string a)] 9 #[.string a] := fun w => by kernel_rfl
structure NmI (path : Bytes) (i from_ : Nat) (l : List Bytes) : Prop where
 f1 : 1 <= from_
 fi : from_ <= i
 il : i <= path.length + 1
 ns : ∀ j, from_ <= j -> j < i -> j < path.length -> path[j]? ≠ some 47
 sp : splitSl (path.drop 1) = l ++ (if from_ <= path.length then splitSl (path.drop from_) else [])
 ok : ∀ x ∈ l, nameOk x = true
theorem NmI.start {path : Bytes} (h : 1 <= path.length) : NmI path 1 1 [] := ⟨Nat.le_refl _, Nat.le_refl _, by omega, fun j h1 h2 => by omega, by rw [if_pos h]; rfl, fun x hx => by cases hx⟩
theorem NmI.on {path : Bytes} {i f : Nat} {l : List Bytes} (h : NmI path i f l) (hi : i < path.length) (hn : path[i]? ≠ some 47) : NmI path (i + 1) f l := by
 refine ⟨h.f1, by have := h.fi; omega, by omega, fun j h1 h2 h3 => ?_, h.sp, h.ok⟩
 by_cases hj : j = i
 ·subst hj; exact hn
 ·exact h.ns j h1 (by omega) h3
def nmSeg (path : Bytes) (i f : Nat) : Bytes := (path.drop f).take (i - f)
theorem NmI.part {path : Bytes} {i f : Nat} {l : List Bytes} (h : NmI path i f l) (hi : i <= path.length) (hs : i < path.length -> path[i]? = some 47) : splitSl (path.drop 1) = (l ++ [nmSeg path i f]) ++ (if i + 1 <= path.length then splitSl (path.drop (i + 1)) else []) := by
 have hfi := h.fi
 rw [h.sp, if_pos (by omega), List.append_assoc]
 congr 1
 unfold nmSeg
 by_cases hl : i < path.length
 ·rw [if_pos (by omega)]
  have h1 : (path.drop f)[i - f]? = some 47 := by rw [List.getElem?_drop, show f + (i - f) = i from by omega]; exact hs hl
  have h2 : ∀ k : Nat, k < i - f -> (path.drop f)[k]? ≠ some 47 := fun k hk => by rw [List.getElem?_drop]; exact h.ns _ (by omega) (by omega) (by omega)
  rw [splitSl_step h1 h2, List.drop_drop, show f + (i - f + 1) = i + 1 from by omega]
  rfl
 ·have hil : i = path.length := by omega
  rw [if_neg (by omega), List.append_nil]
  have h2 : ∀ k : Nat, (path.drop f)[k]? ≠ some 47 := fun k hk => by
   have hkl : k < (path.drop f).length := (List.getElem?_eq_some_iff.1 hk).1
   rw [List.length_drop] at hkl
   rw [List.getElem?_drop] at hk
   exact h.ns _ (by omega) (by omega) (by omega) hk
  rw [splitSl_none h2, List.take_of_length_le (by rw [List.length_drop]; omega)]
theorem NmI.step {path : Bytes} {i f : Nat} {l : List Bytes} (h : NmI path i f l) (hi : i <= path.length) (hs : i < path.length -> path[i]? = some 47) (hn : nameOk (nmSeg path i f) = true) : NmI path (i + 1) (i + 1) (l ++ [nmSeg path i f]) := by
 have hf1 := h.f1
 have hfi := h.fi
 refine ⟨by omega, Nat.le_refl _, by omega, fun j h1 h2 => by omega, h.part hi hs, fun x hx => ?_⟩
 rcases List.mem_append.1 hx with hx | hx
 ·exact h.ok x hx
 ·simp only [List.mem_cons, List.not_mem_nil, or_false] at hx
  subst hx; exact hn
theorem partsT_long {path : Bytes} (h : path ≠ [47]) (h0 : path[0]? = some 47) : partsT path = if 8 < (splitSl (path.drop 1)).length then none else if (splitSl (path.drop 1)).all nameOk then some (splitSl (path.drop 1)) else none := by
 cases path with
 | nil => cases h0
 | cons x r =>
  have hx : x = 47 := by simpa using h0
  subst hx
  have hr : r ≠ [] := fun hr => h (by rw [hr])
  show (if (47 : UInt8) = 47 then (if r = [] then some [] else if 8 < (splitSl r).length then none else if (splitSl r).all nameOk then some (splitSl r) else none) else none) = _
  rw [if_pos rfl, if_neg hr]; rfl
theorem partsT_bad {path : Bytes} (h : path = [] ∨ path[0]? ≠ some 47) : partsT path = none := by
 cases path with
 | nil => rfl
 | cons x r =>
  rcases h with h | h
  ·cases h
  ·have hx : x ≠ 47 := fun hx => h (by rw [hx]; rfl)
   show (if x = 47 then _ else none) = none
   rw [if_neg hx]
theorem splitSl_few (xs : Bytes) : (splitSl xs).length <= xs.length + 1 := by
 rw [splitSl_len]
 have : Lib.countByte xs 47 <= xs.length := List.count_le_length
 omega
theorem rNames {path : Bytes} (hl : path.length <= 100000) : Spec Tryz.prog 235 #[sv path] [] fun F v M => (∃ l u, partsT path = some l /\ v = .tuple #[u, .bool true] /\ M = rowR 9 1 u l.length (svs l) :: F) ∨ (partsT path = none /\ (∃ u, v = .tuple #[u, .bool false]) /\ M = F) := by
 refine Spec.intro Tryz.func235 rfl rfl fun B F => ?_
 simp only [Tryz.ntmps235, List.cons_append, List.nil_append, env0, Nat.reduceAdd]
 by_cases h1 : path = [47]
 ·refine .sr (.assign (.assign (.z (.seq (.sr (.move ?_))))))
  refine .eqS path [47] ?_
  refine .cast (d := 8) (u := .bool true) rfl (congrArg Value.bool (decide_eq_true h1)) ?_
  refine .z ?_
  refine .condT rfl rfl ?_
  refine .sr (.assign ?_)
  refine .emp (rowR.nil (e := 9) (size := 1) _) ?_
  refine .assign (.z ?_)
  refine .ret (.thenRet (?_))
  exact .ret2 (h1 := .tmp (t := 2) rfl) (h2 := .tmp (t := 3) rfl) ⟨_, .inl ⟨[], .slice none 0 0, by rw [h1]; rfl, rfl, rfl⟩, Am.auto⟩
 ·by_cases h2 : path = []
  ·refine .sr (.assign (.assign (.z (.seq (.sr (.move ?_))))))
   refine .eqS path [47] ?_
   refine .cast (d := 8) (u := .bool false) rfl (congrArg Value.bool (decide_eq_false h1)) ?_
   refine .z ?_
   refine .condF rfl rfl ?_
   refine .skip (.next (.seq (.sr (.move ?_))))
   refine .eqS path [] ?_
   refine .cast (d := 10) (u := .bool true) rfl (congrArg Value.bool (decide_eq_true h2)) ?_
   refine .move ?_
   refine .gF ?_
   refine .gF ?_
   refine .gF ?_
   refine .pickT ?_
   refine .z ?_
   refine .condT rfl rfl ?_
   refine .sr (.assign (.assign (.z ?_)))
   refine .ret (.thenRet (?_))
   exact .ret2 (h1 := .tmp (t := 2) rfl) (h2 := .tmp (t := 3) rfl) ⟨_, .inr ⟨partsT_bad (.inl h2), ⟨_, rfl⟩, rfl⟩, Am.auto⟩
  ·obtain ⟨b0, hb0⟩ : ∃ b, path[(0 : Int).toNat]? = some b := by
    cases path with
    | nil => exact absurd rfl h2
    | cons x r => exact ⟨x, rfl⟩
   have hpl : 1 <= path.length := List.length_pos_iff.2 h2
   by_cases h3 : b0 = 47
   ·have h3n : b0.toNat = 47 := by rw [h3]; rfl
    have hpt := partsT_long h1 (by rw [<- h3]; exact hb0)
    have hfw := splitSl_few (path.drop 1)
    rw [List.length_drop] at hfw
    refine .sr (.assign (.assign (.z (.seq (.sr (.move ?_))))))
    refine .eqS path [47] ?_
    refine .cast (d := 8) (u := .bool false) rfl (congrArg Value.bool (decide_eq_false h1)) ?_
    refine .z ?_
    refine .condF rfl rfl ?_
    refine .skip (.next (.seq (.sr (.move ?_))))
    refine .eqS path [] ?_
    refine .cast (d := 10) (u := .bool false) rfl (congrArg Value.bool (decide_eq_false h2)) ?_
    refine .move ?_
    refine .gT ?_
    refine .move ?_
    refine .gT ?_
    refine .ixT (p := 0) (v := b0) path ?_ st9 hb0
    refine .gT ?_
    refine .nei ?_
    refine .pickF ?_
    refine .z ?_
    refine .condF rfl (congrArg Value.bool (by first | rfl | (simp; done) | (simp; omega) | omega)) ?_
    refine .skip (.next (.sr (.assign ?_)))
    refine .emp (rowR.nil (e := 9) (size := 1) _) ?_
    refine .x (.assign (.z (.seq (.sr (.assign (.z (.block ?_)))))))
    refine .loopA (σ := Nat × Nat × List Bytes × Option Addr × Nat) (fun y => [(0, sv path), (4, .slice y.2.2.2.1 y.2.2.1.length y.2.2.2.2), (5, .int .i64 ((y.2.1 : Nat) : Int)), (6, .int .i64 ((y.1 : Nat) : Int))]) (fun y => rowR 9 1 (.slice y.2.2.2.1 y.2.2.1.length y.2.2.2.2) y.2.2.1.length (svs y.2.2.1) :: F) (fun y => NmI path y.1 y.2.1 y.2.2.1 /\ ¬ (y.2.1 <= path.length /\ y.1 = path.length + 1)) (fun y => path.length + 1 - y.1) (1, 1, [], none, 0) ⟨NmI.start hpl, fun h => by have h2 : 1 = path.length + 1 := h.2; omega⟩ ?_
    rintro y hy
    obtain ⟨i, f, l, U, cu⟩ := y
    obtain ⟨hn, hll⟩ := hy
    simp only at hn hll ⊢
    have hfi := hn.fi
    have hf1 := hn.f1
    have hil := hn.il
    refine .seq (.sr (.move (.move ?_)))
    refine .lenT _ ?_ st9
    refine .leq ?_
    refine .z ?_
    refine .cond rfl (fun hb => ?_) (fun hb => ?_)
    ·have hle : i <= path.length := by have h : (i : Int) <= (path.length : Int) := of_decide_eq_true hb; omega
     by_cases hlt : i < path.length
     ·obtain ⟨bi, hbi⟩ : ∃ b, path[((i : Nat) : Int).toNat]? = some b := ⟨_, List.getElem?_eq_getElem (by omega)⟩
      have hbi2 : path[i]? = some bi := by rw [Int.toNat_natCast] at hbi; exact hbi
      by_cases h47 : bi = 47
      ·have h47n : bi.toNat = 47 := by rw [h47]; rfl
       have hs : i < path.length -> path[i]? = some 47 := fun _ => by rw [<- h47]; exact hbi2
       refine .skip (.next (.seq (.block (.seq (.sr (.move (.move ?_)))))))
       refine .lenT _ ?_ st9
       refine .lss ?_
       refine .move ?_
       refine .cast (d := 26) (u := .bool true) rfl (congrArg Value.bool (by first | rfl | (simp; done) | (simp; omega) | omega)) ?_
       refine .gT ?_
       refine .move ?_
       refine .gT ?_
       refine .move ?_
       refine .gT ?_
       refine .ixT (p := (i : Int)) (v := bi) path ?_ st9 hbi
       refine .gT ?_
       refine .nei ?_
       refine .pickT ?_
       refine .z ?_
       refine .condF rfl (congrArg Value.bool (by first | rfl | (simp; done) | (simp; omega) | omega)) ?_
       refine .skip (.next (.seq (.sr ?_)))
       have hpart := hn.part hle hs
       obtain ⟨sg, hsg⟩ : ∃ sg, nmSeg path i f = sg := ⟨_, rfl⟩
       have hsgl : sg.length <= 100000 := by rw [<- hsg]; unfold nmSeg; rw [List.length_take, List.length_drop]; omega
       have hlk := congrArg List.length hpart
       rw [List.length_append, List.length_append] at hlk
       simp only [List.length_cons, List.length_nil] at hlk
       cases hno : nameOk sg with
       | false =>
        refine .move (.move (.move ?_))
        refine .subLH (p := (f : Int)) (q := (i : Int)) path ?_ st9
        refine .cast (d := 35) (u := sv sg) rfl (by rw [<- hsg]; rfl) ?_
        refine .call (hc := Tryz.call277) (sp := rfName (xs := sg) (by omega)) (h := ?_)
        rintro _ _ ⟨rfl, hM⟩
        obtain rfl := hM.symm
        rw [hno]
        refine .not ?_
        refine .z ?_
        refine .condT rfl rfl ?_
        refine .sr (.assign (.assign (.z ?_)))
        refine .ret (.thenRet (.blockRet (.thenRet (.thenRet (.blockRet (.thenRet (?_)))))))
        have hall : (splitSl (path.drop 1)).all nameOk = false := by
         rw [List.all_eq_false]
         exact ⟨sg, by rw [hpart, hsg]; simp, by rw [hno]; decide⟩
        have hnone : partsT path = none := by rw [hpt, hall]; split <;> rfl
        exact .ret2 (h1 := .tmp (t := 2) rfl) (h2 := .tmp (t := 3) rfl) ⟨_, .inr ⟨hnone, ⟨_, rfl⟩, rfl⟩, Am.auto⟩
       | true =>
        refine .move (.move (.move ?_))
        refine .subLH (p := (f : Int)) (q := (i : Int)) path ?_ st9
        refine .cast (d := 35) (u := sv sg) rfl (by rw [<- hsg]; rfl) ?_
        refine .call (hc := Tryz.call277) (sp := rfName (xs := sg) (by omega)) (h := ?_)
        rintro _ _ ⟨rfl, hM⟩
        obtain rfl := hM.symm
        rw [hno]
        refine .not ?_
        refine .z ?_
        refine .condF rfl rfl ?_
        refine .skip (.next (.sr (.move (.move (.move (.move ?_))))))
        refine .subLH (p := (f : Int)) (q := (i : Int)) path ?_ st9
        refine .cast (d := 42) (u := sv sg) rfl (by rw [<- hsg]; rfl) ?_
        refine .buildS (fun b43 => ?_) (bsS1 _)
        refine .append (m := 1) (news := [sv sg]) so92 (by decide) (by repeat (first | exact .here | apply Rem.there | apply Repl.there | apply Mem.there)) (Reads.pt (cs := #[sv sg])) (by repeat (first | exact .here | apply Rem.there | apply Repl.there | apply Mem.there)) rfl (by intro x hx; simp only [List.mem_cons, List.not_mem_nil, or_false] at hx; rcases hx with rfl; rfl) (by show l.length + 1 <= maxLen; unfold maxLen; omega) (by show (l.length + 1) * _ <= 140737488355328; omega) ⟨_, z9, rfl⟩ (fun vB hvB => ?_)
        refine .to (A := rowR 9 1 vB (l.length + 1) (svs l ++ [sv sg])) (A' := rowR 9 1 vB (l ++ [sg]).length (svs (l ++ [sg]))) (fun h hh => by unfold svs at hh ⊢; rw [List.map_append, List.length_append]; exact hh) ?_
        refine .fact (rowR_shape (el := 9) (size := 1) (v := vB) (k := (l ++ [sg]).length) (xs := svs (l ++ [sg]))) (fun ⟨A4, c4, hv4, hR4, hk4, hc4, hl4⟩ => ?_)
        subst hv4
        refine .assign (.y (.move ?_))
        refine .add ?_
        refine .assign (.nil (.blockNormal (.next (.region (.move ?_)))))
        refine .add ?_
        refine .assign (.nil ?_)
        refine .cast (d := 5) (u := .int .i64 ((i + 1 : Nat) : Int)) rfl (congrArg (Value.int .i64) (by omega)) ?_
        refine .cast (d := 6) (u := .int .i64 ((i + 1 : Nat) : Int)) rfl (congrArg (Value.int .i64) (by omega)) ?_
        exact .back (i + 1, i + 1, l ++ [sg], A4, c4) ⟨by rw [<- hsg]; exact hn.step hle hs (by rw [hsg]; exact hno), fun h => by have h2 : i + 1 <= path.length := h.1; have h3 : i + 1 = path.length + 1 := h.2; omega⟩ (by show path.length + 1 - (i + 1) < path.length + 1 - i; omega)
      ·have h47n : ¬ bi.toNat = 47 := fun h => h47 (UInt8.toNat_inj.1 h)
       refine .skip (.next (.seq (.block (.seq (.sr (.move (.move ?_)))))))
       refine .lenT _ ?_ st9
       refine .lss ?_
       refine .move ?_
       refine .cast (d := 26) (u := .bool true) rfl (congrArg Value.bool (by first | rfl | (simp; done) | (simp; omega) | omega)) ?_
       refine .gT ?_
       refine .move ?_
       refine .gT ?_
       refine .move ?_
       refine .gT ?_
       refine .ixT (p := (i : Int)) (v := bi) path ?_ st9 hbi
       refine .gT ?_
       refine .nei ?_
       refine .pickT ?_
       refine .z ?_
       refine .condT rfl (congrArg Value.bool (by first | rfl | (simp; done) | (simp; omega) | omega)) ?_
       refine .exit (.thenExit (.blockExit (?_)))
       refine .next (.region (.move ?_))
       refine .add ?_
       refine .assign (.nil ?_)
       refine .cast (d := 6) (u := .int .i64 ((i + 1 : Nat) : Int)) rfl (congrArg (Value.int .i64) (by omega)) ?_
       exact .back (i + 1, f, l, U, cu) ⟨hn.on hlt (by rw [hbi2]; intro h; injection h with h; exact h47 h), fun h => by have h3 : i + 1 = path.length + 1 := h.2; omega⟩ (by show path.length + 1 - (i + 1) < path.length + 1 - i; omega)
     ·have hs : i < path.length -> path[i]? = some 47 := fun h => absurd h hlt
      refine .skip (.next (.seq (.block (.seq (.sr (.move (.move ?_)))))))
      refine .lenT _ ?_ st9
      refine .lss ?_
      refine .move ?_
      refine .cast (d := 26) (u := .bool false) rfl (congrArg Value.bool (by first | rfl | (simp; done) | (simp; omega) | omega)) ?_
      refine .gF ?_
      refine .gF ?_
      refine .gF ?_
      refine .gF ?_
      refine .pickF ?_
      refine .z ?_
      refine .condF rfl rfl ?_
      refine .skip (.next (.seq (.sr ?_)))
      have hpart := hn.part hle hs
      obtain ⟨sg, hsg⟩ : ∃ sg, nmSeg path i f = sg := ⟨_, rfl⟩
      have hsgl : sg.length <= 100000 := by rw [<- hsg]; unfold nmSeg; rw [List.length_take, List.length_drop]; omega
      have hlk := congrArg List.length hpart
      rw [List.length_append, List.length_append] at hlk
      simp only [List.length_cons, List.length_nil] at hlk
      cases hno : nameOk sg with
      | false =>
       refine .move (.move (.move ?_))
       refine .subLH (p := (f : Int)) (q := (i : Int)) path ?_ st9
       refine .cast (d := 35) (u := sv sg) rfl (by rw [<- hsg]; rfl) ?_
       refine .call (hc := Tryz.call277) (sp := rfName (xs := sg) (by omega)) (h := ?_)
       rintro _ _ ⟨rfl, hM⟩
       obtain rfl := hM.symm
       rw [hno]
       refine .not ?_
       refine .z ?_
       refine .condT rfl rfl ?_
       refine .sr (.assign (.assign (.z ?_)))
       refine .ret (.thenRet (.blockRet (.thenRet (.thenRet (.blockRet (.thenRet (?_)))))))
       have hall : (splitSl (path.drop 1)).all nameOk = false := by
        rw [List.all_eq_false]
        exact ⟨sg, by rw [hpart, hsg]; simp, by rw [hno]; decide⟩
       have hnone : partsT path = none := by rw [hpt, hall]; split <;> rfl
       exact .ret2 (h1 := .tmp (t := 2) rfl) (h2 := .tmp (t := 3) rfl) ⟨_, .inr ⟨hnone, ⟨_, rfl⟩, rfl⟩, Am.auto⟩
      | true =>
       refine .move (.move (.move ?_))
       refine .subLH (p := (f : Int)) (q := (i : Int)) path ?_ st9
       refine .cast (d := 35) (u := sv sg) rfl (by rw [<- hsg]; rfl) ?_
       refine .call (hc := Tryz.call277) (sp := rfName (xs := sg) (by omega)) (h := ?_)
       rintro _ _ ⟨rfl, hM⟩
       obtain rfl := hM.symm
       rw [hno]
       refine .not ?_
       refine .z ?_
       refine .condF rfl rfl ?_
       refine .skip (.next (.sr (.move (.move (.move (.move ?_))))))
       refine .subLH (p := (f : Int)) (q := (i : Int)) path ?_ st9
       refine .cast (d := 42) (u := sv sg) rfl (by rw [<- hsg]; rfl) ?_
       refine .buildS (fun b43 => ?_) (bsS1 _)
       refine .append (m := 1) (news := [sv sg]) so92 (by decide) (by repeat (first | exact .here | apply Rem.there | apply Repl.there | apply Mem.there)) (Reads.pt (cs := #[sv sg])) (by repeat (first | exact .here | apply Rem.there | apply Repl.there | apply Mem.there)) rfl (by intro x hx; simp only [List.mem_cons, List.not_mem_nil, or_false] at hx; rcases hx with rfl; rfl) (by show l.length + 1 <= maxLen; unfold maxLen; omega) (by show (l.length + 1) * _ <= 140737488355328; omega) ⟨_, z9, rfl⟩ (fun vB hvB => ?_)
       refine .to (A := rowR 9 1 vB (l.length + 1) (svs l ++ [sv sg])) (A' := rowR 9 1 vB (l ++ [sg]).length (svs (l ++ [sg]))) (fun h hh => by unfold svs at hh ⊢; rw [List.map_append, List.length_append]; exact hh) ?_
       refine .fact (rowR_shape (el := 9) (size := 1) (v := vB) (k := (l ++ [sg]).length) (xs := svs (l ++ [sg]))) (fun ⟨A4, c4, hv4, hR4, hk4, hc4, hl4⟩ => ?_)
       subst hv4
       refine .assign (.y (.move ?_))
       refine .add ?_
       refine .assign (.nil (.blockNormal (.next (.region (.move ?_)))))
       refine .add ?_
       refine .assign (.nil ?_)
       refine .cast (d := 5) (u := .int .i64 ((i + 1 : Nat) : Int)) rfl (congrArg (Value.int .i64) (by omega)) ?_
       refine .cast (d := 6) (u := .int .i64 ((i + 1 : Nat) : Int)) rfl (congrArg (Value.int .i64) (by omega)) ?_
       exact .back (i + 1, i + 1, l ++ [sg], A4, c4) ⟨by rw [<- hsg]; exact hn.step hle hs (by rw [hsg]; exact hno), fun h => by have h2 : i + 1 <= path.length := h.1; have h3 : i + 1 = path.length + 1 := h.2; omega⟩ (by show path.length + 1 - (i + 1) < path.length + 1 - i; omega)
    ·have hge : i = path.length + 1 := by have h : ¬ (i : Int) <= (path.length : Int) := of_decide_eq_false hb; omega
     have hff : ¬ f <= path.length := fun hf => hll ⟨hf, hge⟩
     have hsp := hn.sp
     rw [if_neg hff, List.append_nil] at hsp
     rw [hsp] at hpt
     have hall : l.all nameOk = true := by rw [List.all_eq_true]; exact hn.ok
     rw [hall] at hpt
     by_cases h8 : l.length <= 8
     ·refine .exit (.thenExit (.thenExit (.blockExit (?_))))
      refine .next (.sr (.move (.move ?_)))
      refine .lenS ?_ sl92
      refine .leq ?_
      refine .cast (d := 50) (u := .bool true) rfl (congrArg Value.bool (decide_eq_true (by omega))) ?_
      refine .assign (.assign (.z ?_))
      refine .ret (?_)
      exact .ret2 (h1 := .tmp (t := 2) rfl) (h2 := .tmp (t := 3) rfl) ⟨_, .inl ⟨l, _, by rw [hpt, if_neg (by omega), if_pos rfl], rfl, rfl⟩, Am.auto⟩
     ·refine .exit (.thenExit (.thenExit (.blockExit (?_))))
      refine .next (.sr (.move (.move ?_)))
      refine .lenS ?_ sl92
      refine .leq ?_
      refine .cast (d := 50) (u := .bool false) rfl (congrArg Value.bool (decide_eq_false (by omega))) ?_
      refine .assign (.assign (.z ?_))
      refine .ret (?_)
      exact .ret2 (h1 := .tmp (t := 2) rfl) (h2 := .tmp (t := 3) rfl) ⟨_, .inr ⟨by rw [hpt, if_pos (by omega)], ⟨_, rfl⟩, rfl⟩, Am.auto⟩
   ·have h3n : ¬ b0.toNat = 47 := fun h => h3 (UInt8.toNat_inj.1 h)
    refine .sr (.assign (.assign (.z (.seq (.sr (.move ?_))))))
    refine .eqS path [47] ?_
    refine .cast (d := 8) (u := .bool false) rfl (congrArg Value.bool (decide_eq_false h1)) ?_
    refine .z ?_
    refine .condF rfl rfl ?_
    refine .skip (.next (.seq (.sr (.move ?_))))
    refine .eqS path [] ?_
    refine .cast (d := 10) (u := .bool false) rfl (congrArg Value.bool (decide_eq_false h2)) ?_
    refine .move ?_
    refine .gT ?_
    refine .move ?_
    refine .gT ?_
    refine .ixT (p := 0) (v := b0) path ?_ st9 hb0
    refine .gT ?_
    refine .nei ?_
    refine .pickF ?_
    refine .z ?_
    refine .condT rfl (congrArg Value.bool (by first|simp;done|simp;omega|omega)) ?_
    refine .sr (.assign (.assign (.z ?_)))
    refine .ret (.thenRet (?_))
    exact .ret2 (h1 := .tmp (t := 2) rfl) (h2 := .tmp (t := 3) rfl) ⟨_, .inr ⟨partsT_bad (.inr (by rw [show path[0]? = some b0 from hb0]; intro h; injection h with h; exact h3 h)), ⟨_, rfl⟩, rfl⟩, Am.auto⟩
theorem fo247_1 : fieldOk Tryz.prog 247 1 7 = true := by kernel_rfl
theorem sc245 : scalarOk Tryz.prog 245 = true := by kernel_rfl
theorem sl245 : Tryz.prog.underlying 245 = some (.slice 244) := by kernel_rfl
theorem so245 : sliceOk Tryz.prog 245 244 2 32 = true := by kernel_rfl
theorem fo244_0 : fieldOk Tryz.prog 244 0 0 = true := by kernel_rfl
theorem fo244_1 : fieldOk Tryz.prog 244 1 1 = true := by kernel_rfl
theorem rowR_some {el size k : Nat} {v : Value} {xs : List Value} (hk : 0 < k) : ∀ h, rowR el size v k xs h -> ∃ g cap, v = .slice (some ⟨g, 0, none⟩) k cap /\ Reads (rowR el size v k xs) (some ⟨g, 0, none⟩) xs /\ k <= cap /\ cap <= maxLen := by
 intro h hh
 obtain ⟨A, c, hv, hR, h1, h2, _⟩ := rowR_shape h hh
 unfold rowR at hh
 obtain ⟨_, ⟨_, h0⟩ | ⟨g, cap, cur, hv2, _⟩⟩ := hh
 ·omega
 ·rw [hv] at hv2
  injection hv2 with e1 _ _
  subst e1
  exact ⟨g, c, hv, hR, h1, h2⟩
structure RT (p : Pl) (T : FT) : Prop where
 ok : TOk T
 small : RTOk T
 out : ∀ i, p.ino <= i -> T i = none
structure RsY where
 u : Value
 L : List (Nat × Value)
 wk : Nat
 mv : Value
 ms : List Int
structure RSP (p : Pl) (T : FT) (os : List (Nat × Obj)) (N : Nat) (y : RsY) : Prop where
 len : y.L.length = p.ino
 row : ∀ i (h : i < y.L.length), RRow 5 os (T i) y.L[i]
 wk : y.wk <= N
 ml : y.ms.length <= N
def sO (p : Pl) (u : Value) (wk : Nat) (mv : Value) : Obj := .cells #[nI p.n, nI p.ino, nI p.im, nI p.bm, nI p.tb, nI p.da, nI p.dc, u, nI wk, mv] 247 (0, 0)
def rsLs (s : Nat) (p : Pl) (y : RsY) : List HP := [pt s (sO p y.u y.wk y.mv), rowR 244 2 y.u p.ino (y.L.flatMap rowV), rowR 3 1 y.mv y.ms.length (ints y.ms)]
def RS (s : Nat) (p : Pl) (T : FT) (os : List (Nat × Obj)) (N : Nat) : HP := fun h => ∃ y, RSP p T os N y /\ star (rsLs s p y) h
theorem RS.opens (s : Nat) (p : Pl) (T : FT) (os : List (Nat × Obj)) (N : Nat) : Opens (RS s p T os N) (RSP p T os N) (rsLs s p) := ⟨fun h hh => hh, fun x hp h hh => ⟨x, hp, hh⟩⟩
attribute [irreducible] RS
theorem RRow.mono {el : Nat} {os os2 : List (Nat × Obj)} {o : Option NodeT} {e : Nat × Value} (h : RRow el os o e) (hs : ∀ x ∈ os, x ∈ os2) : RRow el os2 o e := by
 refine ⟨h.kd, ?_⟩
 rcases h.by' with h | ⟨g, cap, cur, fr, h1, h2, h3⟩
 ·exact .inl h
 ·exact .inr ⟨g, cap, cur, fr, h1, hs _ h2, h3⟩
theorem RRow.sl {el : Nat} {os : List (Nat × Obj)} {o : Option NodeT} {e : Nat × Value} (h : RRow el os o e) : ∃ A cap, e.2 = .slice A (refBy o).length cap /\ (refBy o = [] ∨ Reads (frz os) A (bvs (refBy o))) /\ (refBy o).length <= cap /\ cap <= maxLen := by
 rcases h.by' with ⟨h1, h2⟩ | ⟨g, cap, cur, fr, h1, h2, h3, h4, h5⟩
 ·exact ⟨none, 0, by rw [h1, h2]; rfl, .inl h2, by rw [h2]; exact Nat.le_refl _, Nat.zero_le _⟩
 ·refine ⟨some ⟨g, 0, none⟩, cap, h1, .inr ?_, h3, h4⟩
  have := (Reads.frz h2).take (refBy o).length
  rwa [h5] at this
def beginT (T : FT) (d : Nat) (nm : Bytes) : Nat := if nameOk nm then (match T d with
 | none => 4
 | some (.file _) => 6
 | some (.dir _) => 0) else 1
theorem refBy_dir {T : FT} {d : Nat} {sl : List Slot} (h : T d = some (.dir sl)) : refBy (T d) = rdirB sl := by rw [h]; rfl
theorem findT_dir {T : FT} {d : Nat} {nm : Bytes} {sl : List Slot} (hn : nameOk nm = true) (h : T d = some (.dir sl)) : findT T d nm = match findSl nm sl with
  | some q => (slotNo (sl.getD q none), 0)
  | none => (0, 4) := by
 have hne : nm ≠ [] := fun h0 => by subst h0; exact absurd hn (by decide)
 unfold findT
 rw [if_pos hn]
 simp only [h]
 rw [findSl_look hne]
 cases hl : lookS nm sl with
 | none => rfl
 | some x =>
  obtain ⟨q, i⟩ := x
  have := lookS_some hl
  show (i, 0) = (slotNo (sl.getD q none), 0)
  rw [List.getD_eq_getElem?_getD, this]; rfl
theorem findT_bad {T : FT} {d : Nat} {nm : Bytes} (h : beginT T d nm ≠ 0) : findT T d nm = (0, beginT T d nm) := by
 unfold beginT at h
 unfold findT beginT
 by_cases hn : nameOk nm = true
 ·rw [if_pos hn] at h
  rw [if_pos hn, if_pos hn]
  cases hT : T d with
  | none => rfl
  | some x =>
   cases x with
   | file b => rfl
   | dir sl => simp only [hT] at h; exact absurd rfl h
 ·rw [if_neg hn, if_neg hn]
theorem begin_dir {T : FT} {d : Nat} {nm : Bytes} (h : beginT T d nm = 0) : nameOk nm = true /\ ∃ sl, T d = some (.dir sl) := by
 unfold beginT at h
 split at h
 ·rename_i hn
  refine ⟨hn, ?_⟩
  split at h
  ·cases h
  ·cases h
  ·rename_i sl hT; exact ⟨sl, hT⟩
 ·cases h
theorem bdStA (a b : Int) : BuildOk Tryz.prog 51 [(0, .int .i64 a), (1, .int .i64 b)] #[.int .i64 a, .int .i64 b] := fun w => by kernel_rfl
theorem rsThere {s : Nat} {p : Pl} {T : FT} {os : List (Nat × Obj)} {N : Nat} (hi0 : 1 <= p.ino) (hi1 : p.ino <= 4096) {i : Nat} (hT : RT p T) : Spec Tryz.prog 161 #[.pointer (some ⟨s, 0, none⟩), nI i] [RS s p T os N] fun F v M => v = .bool (T i).isSome /\ M = RS s p T os N :: F := by
 refine Spec.intro Tryz.func161 rfl rfl fun B F => ?_
 simp only [Tryz.ntmps161, List.cons_append, List.nil_append, env0, Nat.reduceAdd]
 refine .openR (RS.opens s p T os N) fun y hy => ?_
 obtain ⟨u, L, wk, mv, ms⟩ := y
 simp only [rsLs, List.cons_append, List.nil_append]
 refine .fact (rowR_some (el := 244) (size := 2) (v := u) (k := p.ino) (xs := L.flatMap rowV) (by omega)) (fun ⟨ab, cc, hu, hR, hc1, hc2⟩ => ?_)
 subst hu
 have hlen : L.length = p.ino := hy.len
 by_cases hi : i < p.ino
 ·have hil : i < L.length := by omega
  have hrow := hy.row i hil
  obtain ⟨A1, c1, hs1, hr1, hl1, hm1⟩ := hrow.sl
  obtain ⟨e1, hek⟩ : ∃ e, L[i] = e := ⟨_, rfl⟩
  have hkd : e1.1 = refK (T i) := hek ▸ hrow.kd
  have hg0 : (L.flatMap rowV)[((i : Nat) : Int).toNat * 2 + 0]? = some (nI e1.1) := by rw [Int.toNat_natCast, <- hek]; exact (rowV_get hil).1
  have hg1 : (L.flatMap rowV)[((i : Nat) : Int).toNat * 2 + 1]? = some (.slice A1 (refBy (T i)).length c1) := by rw [Int.toNat_natCast, <- hs1]; exact (rowV_get hil).2
  rw [hkd] at hg0
  cases hTi : T i with
  | none =>
   rw [hTi] at hg0
   refine .sr (.assign (.x (.move ?_)))
   refine .geq ?_
   refine .move ?_
   refine .cast (d := 7) (u := .bool true) rfl (congrArg Value.bool (by first|simp;done|simp;omega|omega)) ?_
   refine .gT ?_
   refine .move ?_
   refine .gT ?_
   refine .move ?_
   refine .gT ?_
   refine .nilCheck ?_
   refine .gT ?_
   refine .fa ?_ fo247_1
   refine .gT ?_
   refine .ld ?_ sc245
   refine .gT ?_
   refine .lenS ?_ sl245
   refine .gT ?_
   refine .lss ?_
   refine .pickT ?_
   refine .move ?_
   refine .cast (d := 16) (u := .bool true) rfl (congrArg Value.bool (by first|simp;done|simp;omega|omega)) ?_
   refine .gT ?_
   refine .move ?_
   refine .gT ?_
   refine .nilCheck ?_
   refine .gT ?_
   refine .fa ?_ fo247_1
   refine .gT ?_
   refine .ld ?_ sc245
   refine .gT ?_
   refine .move ?_
   refine .gT ?_
   refine .idx ?_ so245
   refine .gT ?_
   refine .fa ?_ fo244_0
   refine .gT ?_
   refine .ldR (R := rowR 244 2 (.slice (some ⟨ab, 0, none⟩) p.ino cc) p.ino (L.flatMap rowV)) ?_ sc3 hR hg0
   refine .gT ?_
   refine .nei ?_
   refine .cast (d := 25) (u := .bool false) rfl rfl ?_
   refine .pickT ?_
   refine .assign (.z ?_)
   refine .ret (?_)
   refine .shutR (RS.opens s p T os N) ⟨.slice (some ⟨ab, 0, none⟩) p.ino cc, L, wk, mv, ms⟩ hy ?_
   exact .ret1 (h1 := .tmp (t := 4) rfl) ⟨_, ⟨rfl, rfl⟩, Am.auto⟩
  | some x =>
   rw [hTi] at hg0
   have hkz : refK (some x) ≠ 0 := fun h => by cases (refK_zero.1 h)
   refine .sr (.assign (.x (.move ?_)))
   refine .geq ?_
   refine .move ?_
   refine .cast (d := 7) (u := .bool true) rfl (congrArg Value.bool (by first|simp;done|simp;omega|omega)) ?_
   refine .gT ?_
   refine .move ?_
   refine .gT ?_
   refine .move ?_
   refine .gT ?_
   refine .nilCheck ?_
   refine .gT ?_
   refine .fa ?_ fo247_1
   refine .gT ?_
   refine .ld ?_ sc245
   refine .gT ?_
   refine .lenS ?_ sl245
   refine .gT ?_
   refine .lss ?_
   refine .pickT ?_
   refine .move ?_
   refine .cast (d := 16) (u := .bool true) rfl (congrArg Value.bool (by first|simp;done|simp;omega|omega)) ?_
   refine .gT ?_
   refine .move ?_
   refine .gT ?_
   refine .nilCheck ?_
   refine .gT ?_
   refine .fa ?_ fo247_1
   refine .gT ?_
   refine .ld ?_ sc245
   refine .gT ?_
   refine .move ?_
   refine .gT ?_
   refine .idx ?_ so245
   refine .gT ?_
   refine .fa ?_ fo244_0
   refine .gT ?_
   refine .ldR (R := rowR 244 2 (.slice (some ⟨ab, 0, none⟩) p.ino cc) p.ino (L.flatMap rowV)) ?_ sc3 hR hg0
   refine .gT ?_
   refine .nei ?_
   refine .cast (d := 25) (u := .bool true) rfl (congrArg Value.bool (by rw [decide_eq_false (by omega)]; rfl)) ?_
   refine .pickT ?_
   refine .assign (.z ?_)
   refine .ret (?_)
   refine .shutR (RS.opens s p T os N) ⟨.slice (some ⟨ab, 0, none⟩) p.ino cc, L, wk, mv, ms⟩ hy ?_
   exact .ret1 (h1 := .tmp (t := 4) rfl) ⟨_, ⟨rfl, rfl⟩, Am.auto⟩
 ·have hTi : T i = none := hT.out i (by omega)
  rw [hTi]
  refine .sr (.assign (.x (.move ?_)))
  refine .geq ?_
  refine .move ?_
  refine .cast (d := 7) (u := .bool true) rfl (congrArg Value.bool (by first|simp;done|simp;omega|omega)) ?_
  refine .gT ?_
  refine .move ?_
  refine .gT ?_
  refine .move ?_
  refine .gT ?_
  refine .nilCheck ?_
  refine .gT ?_
  refine .fa ?_ fo247_1
  refine .gT ?_
  refine .ld ?_ sc245
  refine .gT ?_
  refine .lenS ?_ sl245
  refine .gT ?_
  refine .lss ?_
  refine .pickT ?_
  refine .move ?_
  refine .cast (d := 16) (u := .bool false) rfl (congrArg Value.bool (by first|simp;done|simp;omega|omega)) ?_
  refine .gF ?_
  refine .gF ?_
  refine .gF ?_
  refine .gF ?_
  refine .gF ?_
  refine .gF ?_
  refine .gF ?_
  refine .gF ?_
  refine .gF ?_
  refine .pickF ?_
  refine .assign (.z ?_)
  refine .ret (?_)
  refine .shutR (RS.opens s p T os N) ⟨.slice (some ⟨ab, 0, none⟩) p.ino cc, L, wk, mv, ms⟩ hy ?_
  exact .ret1 (h1 := .tmp (t := 4) rfl) ⟨_, ⟨rfl, rfl⟩, Am.auto⟩
theorem rsStat {s : Nat} {p : Pl} {T : FT} {os : List (Nat × Obj)} {N : Nat} (hi0 : 1 <= p.ino) (hi1 : p.ino <= 4096) {i : Nat} {x : NodeT} (hT : RT p T) (hTi : T i = some x) : Spec Tryz.prog 85 #[.pointer (some ⟨s, 0, none⟩), nI i] [RS s p T os N] fun F v M => v = .tuple #[.agg #[nI x.kind, nI x.size], .int .i64 0] /\ M = RS s p T os N :: F := by
 refine Spec.intro Tryz.func85 rfl rfl fun B F => ?_
 simp only [Tryz.ntmps85, List.cons_append, List.nil_append, env0, Nat.reduceAdd]
 refine .sr ?_
 refine .alloc z51 fun b4 => ?_
 refine .assign (.z (.seq (.sr (.move (.move ?_)))))
 refine .call (hc := Tryz.call161) (sp := rsThere (s := s) (p := p) (T := T) (os := os) (N := N) hi0 hi1 (i := i) hT) (h := ?_)
 rintro _ _ ⟨rfl, rfl⟩
 rw [hTi]
 refine .not ?_
 refine .z ?_
 refine .condF rfl rfl ?_
 refine .skip (.next (.seq ?_))
 have hi : i < p.ino := Nat.lt_of_not_le fun h => by rw [hT.out i h] at hTi; cases hTi
 refine .openR (RS.opens s p T os N) fun y hy => ?_
 obtain ⟨u, L, wk, mv, ms⟩ := y
 simp only [rsLs, List.cons_append, List.nil_append]
 refine .fact (rowR_some (el := 244) (size := 2) (v := u) (k := p.ino) (xs := L.flatMap rowV) (by omega)) (fun ⟨ab, cc, hu, hR, hc1, hc2⟩ => ?_)
 subst hu
 have hlen : L.length = p.ino := hy.len
 have hil : i < L.length := by omega
 have hrow := hy.row i hil
 obtain ⟨A1, c1, hs1, hr1, hl1, hm1⟩ := hrow.sl
 obtain ⟨e1, hek⟩ : ∃ e, L[i] = e := ⟨_, rfl⟩
 have hkd : e1.1 = refK (T i) := hek ▸ hrow.kd
 have hg0 : (L.flatMap rowV)[((i : Nat) : Int).toNat * 2 + 0]? = some (nI e1.1) := by rw [Int.toNat_natCast, <- hek]; exact (rowV_get hil).1
 have hg1 : (L.flatMap rowV)[((i : Nat) : Int).toNat * 2 + 1]? = some (.slice A1 (refBy (T i)).length c1) := by rw [Int.toNat_natCast, <- hs1]; exact (rowV_get hil).2
 rw [hkd] at hg0
 rw [hTi] at hg0 hg1 hr1 hl1
 have hsz : (refBy (some x)).length = x.size := x.r_length
 rw [hsz] at hg1
 refine .dr ([pt s (sO p (.slice (some ⟨ab, 0, none⟩) p.ino cc) wk mv), rowR 244 2 (.slice (some ⟨ab, 0, none⟩) p.ino cc) p.ino (L.flatMap rowV)]) [18] 20 mixed .autoJ ?_
 refine .tk 0 rfl .move ?_
 refine .tk 1 rfl .nilCheck ?_
 refine .tk 2 rfl (.fa fo247_1) ?_
 refine .tk 3 rfl (.ld sc245) ?_
 refine .tk 4 rfl .move ?_
 refine .tk 5 rfl (.idx so245) ?_
 refine .tk 6 rfl (.fa fo244_0) ?_
 refine .tk 7 rfl (Qt.ldR sc3 hR hg0) ?_
 refine .tk 8 rfl .move ?_
 refine .tk 9 rfl .nilCheck ?_
 refine .tk 10 rfl (.fa fo247_1) ?_
 refine .tk 11 rfl (.ld sc245) ?_
 refine .tk 12 rfl .move ?_
 refine .tk 13 rfl (.idx so245) ?_
 refine .tk 14 rfl (.fa fo244_1) ?_
 refine .tk 15 rfl (Qt.ldR sc33 hR hg1) ?_
 refine .tk 16 rfl (.lenS sl33) ?_
 refine .tk 17 rfl (.build (bdStA _ _)) ?_
 refine .on 18 rfl fun hnp => ?_
 refine .stV ?_ agg51
 refine .nil (.wb hnp ?_)
 refine .on 19 rfl fun hnp => ?_
 refine .assign ?_
 refine .nil (.wa hnp ?_)
 refine .fin ?_
 refine .next ?_
 refine .ret (?_)
 refine .shutR (RS.opens s p T os N) ⟨.slice (some ⟨ab, 0, none⟩) p.ino cc, L, wk, mv, ms⟩ hy ?_
 exact .ret2 (h2 := .tmp (t := 5) rfl) ⟨_, ⟨rfl, rfl⟩, Am.auto⟩
theorem rsStatNo {s : Nat} {p : Pl} {T : FT} {os : List (Nat × Obj)} {N : Nat} (hi0 : 1 <= p.ino) (hi1 : p.ino <= 4096) {i : Nat} (hT : RT p T) (hTi : T i = none) : Spec Tryz.prog 85 #[.pointer (some ⟨s, 0, none⟩), nI i] [RS s p T os N] fun F v M => v = .tuple #[.agg #[nI 0, nI 0], .int .i64 4] /\ M = RS s p T os N :: F := by
 refine Spec.intro Tryz.func85 rfl rfl fun B F => ?_
 simp only [Tryz.ntmps85, List.cons_append, List.nil_append, env0, Nat.reduceAdd]
 refine .sr ?_
 refine .alloc z51 fun b4 => ?_
 refine .assign (.z (.seq (.sr (.move (.move ?_)))))
 refine .call (hc := Tryz.call161) (sp := rsThere (s := s) (p := p) (T := T) (os := os) (N := N) hi0 hi1 (i := i) hT) (h := ?_)
 rintro _ _ ⟨rfl, rfl⟩
 rw [hTi]
 refine .not ?_
 refine .z ?_
 refine .condT rfl rfl ?_
 refine .sr ?_
 refine .build (cs := #[nI 0, nI 0]) ?_ (fun w => by kernel_rfl)
 refine .stV ?_ agg51
 refine .assign (.z ?_)
 refine .ret (.thenRet (?_))
 exact .ret2 (h2 := .tmp (t := 5) rfl) ⟨_, ⟨rfl, rfl⟩, Am.auto⟩
theorem rsBeginN {s : Nat} {p : Pl} {T : FT} {os : List (Nat × Obj)} {N : Nat} (hi0 : 1 <= p.ino) (hi1 : p.ino <= 4096) {d : Nat} {nm : Bytes} (hT : RT p T) (hnl : nm.length <= 1000000) : Spec Tryz.prog 237 #[.pointer (some ⟨s, 0, none⟩), nI d, sv nm] [RS s p T os N] fun F v M => v = nI (beginT T d nm) /\ M = RS s p T os N :: F := by
 refine Spec.intro Tryz.func237 rfl rfl fun B F => ?_
 simp only [Tryz.ntmps237, List.cons_append, List.nil_append, env0, Nat.reduceAdd]
 cases hn : nameOk nm with
 | false =>
  have hb : beginT T d nm = 1 := by unfold beginT; rw [if_neg (by rw [hn]; decide)]
  refine .sr (.assign (.z (.seq (.sr (.move ?_)))))
  refine .call (hc := Tryz.call277) (sp := rfName (xs := nm) hnl) (h := ?_)
  rintro _ _ ⟨rfl, hM⟩
  obtain rfl := hM.symm
  rw [hn]
  refine .not ?_
  refine .z ?_
  refine .condT rfl rfl ?_
  refine .sr (.assign (.z ?_))
  refine .ret (.thenRet (?_))
  exact .ret1 (h1 := .tmp (t := 6) rfl) ⟨_, ⟨by rw [hb]; rfl, rfl⟩, Am.auto⟩
 | true =>
  cases hTd : T d with
  | none =>
   have hb : beginT T d nm = 4 := by unfold beginT; rw [if_pos hn, hTd]
   refine .sr (.assign (.z (.seq (.sr (.move ?_)))))
   refine .call (hc := Tryz.call277) (sp := rfName (xs := nm) hnl) (h := ?_)
   rintro _ _ ⟨rfl, hM⟩
   obtain rfl := hM.symm
   rw [hn]
   refine .not ?_
   refine .z ?_
   refine .condF rfl rfl ?_
   refine .skip (.next (.seq (.sr (.move (.move ?_)))))
   refine .call (hc := Tryz.call161) (sp := rsThere (s := s) (p := p) (T := T) (os := os) (N := N) hi0 hi1 (i := d) hT) (h := ?_)
   rintro _ _ ⟨rfl, rfl⟩
   rw [hTd]
   refine .not ?_
   refine .z ?_
   refine .condT rfl rfl ?_
   refine .sr (.assign (.z ?_))
   refine .ret (.thenRet (?_))
   exact .ret1 (h1 := .tmp (t := 6) rfl) ⟨_, ⟨by rw [hb]; rfl, rfl⟩, Am.auto⟩
  | some x =>
   cases x with
   | file fb =>
    have hb : beginT T d nm = 6 := by unfold beginT; rw [if_pos hn, hTd]
    refine .sr (.assign (.z (.seq (.sr (.move ?_)))))
    refine .call (hc := Tryz.call277) (sp := rfName (xs := nm) hnl) (h := ?_)
    rintro _ _ ⟨rfl, hM⟩
    obtain rfl := hM.symm
    rw [hn]
    refine .not ?_
    refine .z ?_
    refine .condF rfl rfl ?_
    refine .skip (.next (.seq (.sr (.move (.move ?_)))))
    refine .call (hc := Tryz.call161) (sp := rsThere (s := s) (p := p) (T := T) (os := os) (N := N) hi0 hi1 (i := d) hT) (h := ?_)
    rintro _ _ ⟨rfl, rfl⟩
    rw [hTd]
    refine .not ?_
    refine .z ?_
    refine .condF rfl rfl ?_
    refine .skip (.next (.seq (.sr ?_)))
    have hi : d < p.ino := Nat.lt_of_not_le fun h => by rw [hT.out d h] at hTd; cases hTd
    refine .openR (RS.opens s p T os N) fun y hy => ?_
    obtain ⟨u, L, wk, mv, ms⟩ := y
    simp only [rsLs, List.cons_append, List.nil_append]
    refine .fact (rowR_some (el := 244) (size := 2) (v := u) (k := p.ino) (xs := L.flatMap rowV) (by omega)) (fun ⟨ab, cc, hu, hR, hc1, hc2⟩ => ?_)
    subst hu
    have hlen : L.length = p.ino := hy.len
    have hil : d < L.length := by omega
    have hrow := hy.row d hil
    obtain ⟨A1, c1, hs1, hr1, hl1, hm1⟩ := hrow.sl
    obtain ⟨e1, hek⟩ : ∃ e, L[d] = e := ⟨_, rfl⟩
    have hkd : e1.1 = refK (T d) := hek ▸ hrow.kd
    have hg0 : (L.flatMap rowV)[((d : Nat) : Int).toNat * 2 + 0]? = some (nI e1.1) := by rw [Int.toNat_natCast, <- hek]; exact (rowV_get hil).1
    have hg1 : (L.flatMap rowV)[((d : Nat) : Int).toNat * 2 + 1]? = some (.slice A1 (refBy (T d)).length c1) := by rw [Int.toNat_natCast, <- hs1]; exact (rowV_get hil).2
    rw [hkd] at hg0
    rw [hTd] at hg0
    refine .move ?_
    refine .nilCheck ?_
    refine .fa ?_ fo247_1
    refine .ld ?_ sc245
    refine .move ?_
    refine .idx ?_ so245
    refine .fa ?_ fo244_0
    refine .ldR (R := rowR 244 2 (.slice (some ⟨ab, 0, none⟩) p.ino cc) p.ino (L.flatMap rowV)) ?_ sc3 hR hg0
    refine .cast (d := 21) (u := nI 1) rfl rfl ?_
    refine .nei ?_
    refine .z ?_
    refine .condT rfl (congrArg Value.bool (by first|simp;done|simp;omega|omega)) ?_
    refine .sr (.assign (.z ?_))
    refine .ret (.thenRet (?_))
    refine .shutR (RS.opens s p T os N) ⟨.slice (some ⟨ab, 0, none⟩) p.ino cc, L, wk, mv, ms⟩ hy ?_
    exact .ret1 (h1 := .tmp (t := 6) rfl) ⟨_, ⟨by rw [hb]; rfl, rfl⟩, Am.auto⟩
   | dir sl =>
    have hb : beginT T d nm = 0 := by unfold beginT; rw [if_pos hn, hTd]
    refine .sr (.assign (.z (.seq (.sr (.move ?_)))))
    refine .call (hc := Tryz.call277) (sp := rfName (xs := nm) hnl) (h := ?_)
    rintro _ _ ⟨rfl, hM⟩
    obtain rfl := hM.symm
    rw [hn]
    refine .not ?_
    refine .z ?_
    refine .condF rfl rfl ?_
    refine .skip (.next (.seq (.sr (.move (.move ?_)))))
    refine .call (hc := Tryz.call161) (sp := rsThere (s := s) (p := p) (T := T) (os := os) (N := N) hi0 hi1 (i := d) hT) (h := ?_)
    rintro _ _ ⟨rfl, rfl⟩
    rw [hTd]
    refine .not ?_
    refine .z ?_
    refine .condF rfl rfl ?_
    refine .skip (.next (.seq (.sr ?_)))
    have hi : d < p.ino := Nat.lt_of_not_le fun h => by rw [hT.out d h] at hTd; cases hTd
    refine .openR (RS.opens s p T os N) fun y hy => ?_
    obtain ⟨u, L, wk, mv, ms⟩ := y
    simp only [rsLs, List.cons_append, List.nil_append]
    refine .fact (rowR_some (el := 244) (size := 2) (v := u) (k := p.ino) (xs := L.flatMap rowV) (by omega)) (fun ⟨ab, cc, hu, hR, hc1, hc2⟩ => ?_)
    subst hu
    have hlen : L.length = p.ino := hy.len
    have hil : d < L.length := by omega
    have hrow := hy.row d hil
    obtain ⟨A1, c1, hs1, hr1, hl1, hm1⟩ := hrow.sl
    obtain ⟨e1, hek⟩ : ∃ e, L[d] = e := ⟨_, rfl⟩
    have hkd : e1.1 = refK (T d) := hek ▸ hrow.kd
    have hg0 : (L.flatMap rowV)[((d : Nat) : Int).toNat * 2 + 0]? = some (nI e1.1) := by rw [Int.toNat_natCast, <- hek]; exact (rowV_get hil).1
    have hg1 : (L.flatMap rowV)[((d : Nat) : Int).toNat * 2 + 1]? = some (.slice A1 (refBy (T d)).length c1) := by rw [Int.toNat_natCast, <- hs1]; exact (rowV_get hil).2
    rw [hkd] at hg0
    rw [hTd] at hg0
    refine .move ?_
    refine .nilCheck ?_
    refine .fa ?_ fo247_1
    refine .ld ?_ sc245
    refine .move ?_
    refine .idx ?_ so245
    refine .fa ?_ fo244_0
    refine .ldR (R := rowR 244 2 (.slice (some ⟨ab, 0, none⟩) p.ino cc) p.ino (L.flatMap rowV)) ?_ sc3 hR hg0
    refine .cast (d := 21) (u := nI 2) rfl rfl ?_
    refine .nei ?_
    refine .z ?_
    refine .condF rfl (congrArg Value.bool (by first|simp;done|simp;omega|omega)) ?_
    refine .skip (.next (.sr (.assign (.z ?_))))
    refine .ret (?_)
    refine .shutR (RS.opens s p T os N) ⟨.slice (some ⟨ab, 0, none⟩) p.ino cc, L, wk, mv, ms⟩ hy ?_
    exact .ret1 (h1 := .tmp (t := 6) rfl) ⟨_, ⟨by rw [hb]; rfl, rfl⟩, Am.auto⟩
def findSlV (nm : Bytes) (sl : List Slot) : Int := match findSl nm sl with | some q => (q : Int) | none => -1
theorem slot_small {p : Pl} {T : FT} {d : Nat} {sl : List Slot} (hT : RT p T) (hd : T d = some (.dir sl)) {k : Nat} (hk : k < sl.length) : (slotNm sl[k]).length <= 50 /\ slotNo sl[k] < 65536 := by
 cases hs : sl[k] with
 | none => exact ⟨Nat.zero_le _, by decide⟩
 | some x =>
  obtain ⟨n, i⟩ := x
  have h1 : sl[k]? = some (some (n, i)) := by rw [List.getElem?_eq_getElem hk, hs]
  exact ⟨((hT.ok d sl hd).1.nm k n i h1).1.2, hT.small d sl hd k n i h1⟩
theorem in_ino {p : Pl} {T : FT} {d : Nat} {x : NodeT} (hT : RT p T) (hd : T d = some x) : d < p.ino := Nat.lt_of_not_le fun h => by rw [hT.out d h] at hd; cases hd
theorem rsFindSl {s : Nat} {p : Pl} {T : FT} {os : List (Nat × Obj)} {N : Nat} (hi0 : 1 <= p.ino) (hi1 : p.ino <= 4096) {d : Nat} {nm : Bytes} {sl : List Slot} (hT : RT p T) (hTd : T d = some (.dir sl)) : Spec Tryz.prog 238 #[.pointer (some ⟨s, 0, none⟩), nI d, sv nm] [RS s p T os N, frz os] fun F v M => v = .int .i64 (findSlV nm sl) /\ M = RS s p T os N :: frz os :: F := by
 refine Spec.intro Tryz.func238 rfl rfl fun B F => ?_
 simp only [Tryz.ntmps238, List.cons_append, List.nil_append, env0, Nat.reduceAdd]
 have hi : d < p.ino := in_ino hT hTd
 have hsl := (hT.ok d sl hTd).2
 refine .openR (RS.opens s p T os N) fun y hy => ?_
 obtain ⟨u, L, wk, mv, ms⟩ := y
 simp only [rsLs, List.cons_append, List.nil_append]
 refine .fact (rowR_some (el := 244) (size := 2) (v := u) (k := p.ino) (xs := L.flatMap rowV) (by omega)) (fun ⟨ab, cc, hu, hR, hc1, hc2⟩ => ?_)
 subst hu
 have hlen : L.length = p.ino := hy.len
 have hil : d < L.length := by omega
 have hrow := hy.row d hil
 obtain ⟨A1, c1, hs1, hr1, hl1, hm1⟩ := hrow.sl
 obtain ⟨e1, hek⟩ : ∃ e, L[d] = e := ⟨_, rfl⟩
 have hkd : e1.1 = refK (T d) := hek ▸ hrow.kd
 have hg0 : (L.flatMap rowV)[((d : Nat) : Int).toNat * 2 + 0]? = some (nI e1.1) := by rw [Int.toNat_natCast, <- hek]; exact (rowV_get hil).1
 have hg1 : (L.flatMap rowV)[((d : Nat) : Int).toNat * 2 + 1]? = some (.slice A1 (refBy (T d)).length c1) := by rw [Int.toNat_natCast, <- hs1]; exact (rowV_get hil).2
 rw [hkd] at hg0
 rw [refBy_dir hTd] at hg1 hr1 hl1
 have hrl := rdirB_length sl
 refine .sr (.assign (.x (.move ?_)))
 refine .nilCheck ?_
 refine .fa ?_ fo247_1
 refine .ld ?_ sc245
 refine .move ?_
 refine .idx ?_ so245
 refine .fa ?_ fo244_1
 refine .ldR (R := rowR 244 2 (.slice (some ⟨ab, 0, none⟩) p.ino cc) p.ino (L.flatMap rowV)) ?_ sc33 hR hg1
 refine .assign (.z (.seq (.sr (.assign (.z (.block ?_))))))
 refine .loopA (σ := Nat) (fun k => [(2, sv nm), (7, .slice A1 (rdirB sl).length c1), (8, .int .i64 ((k : Nat) : Int))]) (fun _ => [pt s (sO p (.slice (some ⟨ab, 0, none⟩) p.ino cc) wk mv), rowR 244 2 (.slice (some ⟨ab, 0, none⟩) p.ino cc) p.ino (L.flatMap rowV), rowR 3 1 mv ms.length (ints ms), frz os] ++ F) (fun k => k <= sl.length /\ ∀ j, j < k -> ∀ h : j < sl.length, slotNm sl[j] ≠ nm) (fun k => sl.length - k) 0 ⟨Nat.zero_le _, fun j hj => absurd hj (Nat.not_lt_zero _)⟩ ?_
 rintro k hk
 refine .seq (.sr (.move ?_))
 refine .mul ?_
 refine .move ?_
 refine .lenS ?_ sl33
 refine .lss ?_
 refine .z ?_
 refine .cond rfl (fun hb => ?_) (fun hb => ?_)
 ·have hlt : k < sl.length := by have h : 64 * (k : Int) < ((rdirB sl).length : Int) := of_decide_eq_true hb; omega
  have hrR := hr1.resolve_left (fun h => by rw [h] at hrl; simp only [List.length_nil] at hrl; omega)
  obtain ⟨hs50, hs65⟩ := slot_small hT hTd hlt
  by_cases he : slotNm sl[k] = nm
  ·have hf : findSlV nm sl = (k : Int) := by unfold findSlV; rw [findSl_at hlt he (fun j hj => hk.2 j hj (Nat.lt_trans hj hlt))]
   refine .skip (.next (.seq (.block (.sr (.move (.move ?_))))))
   refine .call (hc := Tryz.call258) (sp := rfAt (k := k) (bs := rdirB sl) (s := sl[k]) hrR rfl (by omega) hl1 (by omega) (rdirB_at hlt) hs50 hs65) (h := ?_)
   rintro _ _ ⟨rfl, rfl⟩
   refine .move ?_
   refine .extract ?_
   refine .extract ?_
   refine .assign (.assign (.x (.move (.move ?_))))
   refine .eqS (slotNm sl[k]) nm ?_
   refine .cast (d := 34) (u := .bool true) rfl (congrArg Value.bool (decide_eq_true he)) ?_
   refine .z ?_
   refine .condT rfl rfl ?_
   refine .sr (.move (.assign (.z ?_)))
   refine .ret (.blockRet (.thenRet (.thenRet (.blockRet (.thenRet (?_))))))
   refine .shutR (RS.opens s p T os N) ⟨.slice (some ⟨ab, 0, none⟩) p.ino cc, L, wk, mv, ms⟩ hy ?_
   exact .ret1 (h1 := .tmp (t := 6) rfl) ⟨_, ⟨by rw [hf], rfl⟩, Am.auto⟩
  ·refine .skip (.next (.seq (.block (.sr (.move (.move ?_))))))
   refine .call (hc := Tryz.call258) (sp := rfAt (k := k) (bs := rdirB sl) (s := sl[k]) hrR rfl (by omega) hl1 (by omega) (rdirB_at hlt) hs50 hs65) (h := ?_)
   rintro _ _ ⟨rfl, rfl⟩
   refine .move ?_
   refine .extract ?_
   refine .extract ?_
   refine .assign (.assign (.x (.move (.move ?_))))
   refine .eqS (slotNm sl[k]) nm ?_
   refine .cast (d := 34) (u := .bool false) rfl (congrArg Value.bool (decide_eq_false he)) ?_
   refine .z ?_
   refine .condF rfl rfl ?_
   refine .skip (.blockNormal (.next (.region (.move ?_))))
   refine .add ?_
   refine .assign (.nil ?_)
   refine .cast (d := 8) (u := .int .i64 ((k + 1 : Nat) : Int)) rfl (congrArg (Value.int .i64) (by omega)) ?_
   exact .back (k + 1) ⟨by show k + 1 <= sl.length; omega, fun j hj hjl => (Nat.lt_or_ge j k).elim (fun h => hk.2 j h hjl) (fun h => by have h2 : j = k := (by omega); subst h2; exact he)⟩ (by show sl.length - (k + 1) < sl.length - k; omega)
 ·have hge : k = sl.length := by have h : ¬ 64 * (k : Int) < ((rdirB sl).length : Int) := of_decide_eq_false hb; omega
  have hf : findSlV nm sl = -1 := by
   unfold findSlV
   cases hl : findSl nm sl with
   | none => rfl
   | some q =>
    obtain ⟨h1, h2, _⟩ := findSl_some hl
    exact absurd h2 (hk.2 q (by omega) h1)
  refine .exit (.thenExit (.thenExit (.blockExit (?_))))
  refine .next (.sr (.assign (.z ?_)))
  refine .ret (?_)
  refine .shutR (RS.opens s p T os N) ⟨.slice (some ⟨ab, 0, none⟩) p.ino cc, L, wk, mv, ms⟩ hy ?_
  exact .ret1 (h1 := .tmp (t := 6) rfl) ⟨_, ⟨by rw [hf], rfl⟩, Am.auto⟩
theorem rsFind {s : Nat} {p : Pl} {T : FT} {os : List (Nat × Obj)} {N : Nat} (hi0 : 1 <= p.ino) (hi1 : p.ino <= 4096) {d : Nat} {nm : Bytes} (hT : RT p T) (hnl : nm.length <= 1000000) : Spec Tryz.prog 236 #[.pointer (some ⟨s, 0, none⟩), nI d, sv nm] [RS s p T os N, frz os] fun F v M => v = .tuple #[nI (findT T d nm).1, nI (findT T d nm).2] /\ M = RS s p T os N :: frz os :: F := by
 refine Spec.intro Tryz.func236 rfl rfl fun B F => ?_
 simp only [Tryz.ntmps236, List.cons_append, List.nil_append, env0, Nat.reduceAdd]
 obtain ⟨e, he⟩ : ∃ e, beginT T d nm = e := ⟨_, rfl⟩
 by_cases he0 : e = 0
 ·subst he0
  obtain ⟨hn, sl, hTd⟩ := begin_dir he
  have hfd := findT_dir hn hTd
  have hi : d < p.ino := in_ino hT hTd
  have hsl := (hT.ok d sl hTd).2
  have hrl := rdirB_length sl
  cases hf : findSl nm sl with
  | none =>
   have hfv : findSlV nm sl = -1 := by unfold findSlV; rw [hf]
   rw [hf] at hfd
   simp only at hfd
   rw [hfd]
   refine .sr (.assign (.assign (.x (.move (.move (.move ?_))))))
   refine .call (hc := Tryz.call237) (sp := rsBeginN (s := s) (p := p) (T := T) (os := os) (N := N) hi0 hi1 (d := d) (nm := nm) hT hnl) (h := ?_)
   rintro _ _ ⟨rfl, rfl⟩
   rw [he]
   refine .assign (.z (.seq (.sr (.move ?_))))
   refine .nei ?_
   refine .z ?_
   refine .condF rfl (congrArg Value.bool (by first|simp;done|simp;omega|omega)) ?_
   refine .skip (.next (.sr (.move (.move (.move ?_)))))
   refine .call (hc := Tryz.call238) (sp := rsFindSl (s := s) (p := p) (T := T) (os := os) (N := N) hi0 hi1 (d := d) (nm := nm) (sl := sl) hT hTd) (h := ?_)
   rintro _ _ ⟨rfl, rfl⟩
   rw [hfv]
   refine .assign (.z (.seq (.sr (.move ?_))))
   refine .lss ?_
   refine .z ?_
   refine .condT rfl (congrArg Value.bool (by first|simp;done|simp;omega|omega)) ?_
   refine .sr (.assign (.assign (.z ?_)))
   refine .ret (.thenRet (?_))
   exact .ret2 (h1 := .tmp (t := 6) rfl) (h2 := .tmp (t := 7) rfl) ⟨_, ⟨rfl, rfl⟩, Am.auto⟩
  | some q =>
   have hfv : findSlV nm sl = (q : Int) := by unfold findSlV; rw [hf]
   obtain ⟨hql, hqn, _⟩ := findSl_some hf
   rw [hf] at hfd
   simp only at hfd
   rw [show sl.getD q none = sl[q] from by rw [List.getD_eq_getElem?_getD, List.getElem?_eq_getElem hql]; rfl] at hfd
   rw [hfd]
   obtain ⟨hs50, hs65⟩ := slot_small hT hTd hql
   refine .sr (.assign (.assign (.x (.move (.move (.move ?_))))))
   refine .call (hc := Tryz.call237) (sp := rsBeginN (s := s) (p := p) (T := T) (os := os) (N := N) hi0 hi1 (d := d) (nm := nm) hT hnl) (h := ?_)
   rintro _ _ ⟨rfl, rfl⟩
   rw [he]
   refine .assign (.z (.seq (.sr (.move ?_))))
   refine .nei ?_
   refine .z ?_
   refine .condF rfl (congrArg Value.bool (by first|simp;done|simp;omega|omega)) ?_
   refine .skip (.next (.sr (.move (.move (.move ?_)))))
   refine .call (hc := Tryz.call238) (sp := rsFindSl (s := s) (p := p) (T := T) (os := os) (N := N) hi0 hi1 (d := d) (nm := nm) (sl := sl) hT hTd) (h := ?_)
   rintro _ _ ⟨rfl, rfl⟩
   rw [hfv]
   refine .assign (.z (.seq (.sr (.move ?_))))
   refine .lss ?_
   refine .z ?_
   refine .condF rfl (congrArg Value.bool (by first|simp;done|simp;omega|omega)) ?_
   refine .skip (.next (.sr ?_))
   refine .openR (RS.opens s p T os N) fun y hy => ?_
   obtain ⟨u, L, wk, mv, ms⟩ := y
   simp only [rsLs, List.cons_append, List.nil_append]
   refine .fact (rowR_some (el := 244) (size := 2) (v := u) (k := p.ino) (xs := L.flatMap rowV) (by omega)) (fun ⟨ab, cc, hu, hR, hc1, hc2⟩ => ?_)
   subst hu
   have hlen : L.length = p.ino := hy.len
   have hil : d < L.length := by omega
   have hrow := hy.row d hil
   obtain ⟨A1, c1, hs1, hr1, hl1, hm1⟩ := hrow.sl
   obtain ⟨e1, hek⟩ : ∃ e, L[d] = e := ⟨_, rfl⟩
   have hkd : e1.1 = refK (T d) := hek ▸ hrow.kd
   have hg0 : (L.flatMap rowV)[((d : Nat) : Int).toNat * 2 + 0]? = some (nI e1.1) := by rw [Int.toNat_natCast, <- hek]; exact (rowV_get hil).1
   have hg1 : (L.flatMap rowV)[((d : Nat) : Int).toNat * 2 + 1]? = some (.slice A1 (refBy (T d)).length c1) := by rw [Int.toNat_natCast, <- hs1]; exact (rowV_get hil).2
   rw [hkd] at hg0
   rw [refBy_dir hTd] at hg1 hr1 hl1
   have hrR := hr1.resolve_left (fun h => by rw [h] at hrl; simp only [List.length_nil] at hrl; omega)
   refine .move ?_
   refine .nilCheck ?_
   refine .fa ?_ fo247_1
   refine .ld ?_ sc245
   refine .move ?_
   refine .idx ?_ so245
   refine .fa ?_ fo244_1
   refine .ldR (R := rowR 244 2 (.slice (some ⟨ab, 0, none⟩) p.ino cc) p.ino (L.flatMap rowV)) ?_ sc33 hR hg1
   refine .move ?_
   refine .call (hc := Tryz.call258) (sp := rfAt (k := q) (bs := rdirB sl) (s := sl[q]) hrR rfl (by omega) hl1 (by omega) (rdirB_at hql) hs50 hs65) (h := ?_)
   rintro _ _ ⟨rfl, rfl⟩
   refine .move ?_
   refine .extract ?_
   refine .extract ?_
   refine .assign (.assign (.x (.move (.assign (.assign (.z ?_))))))
   refine .ret (?_)
   refine .shutR (RS.opens s p T os N) ⟨.slice (some ⟨ab, 0, none⟩) p.ino cc, L, wk, mv, ms⟩ hy ?_
   exact .ret2 (h1 := .tmp (t := 6) rfl) (h2 := .tmp (t := 7) rfl) ⟨_, ⟨rfl, rfl⟩, Am.auto⟩
 ·have hfb := findT_bad (T := T) (d := d) (nm := nm) (by rw [he]; exact he0)
  rw [he] at hfb
  rw [hfb]
  refine .sr (.assign (.assign (.x (.move (.move (.move ?_))))))
  refine .call (hc := Tryz.call237) (sp := rsBeginN (s := s) (p := p) (T := T) (os := os) (N := N) hi0 hi1 (d := d) (nm := nm) hT hnl) (h := ?_)
  rintro _ _ ⟨rfl, rfl⟩
  rw [he]
  refine .assign (.z (.seq (.sr (.move ?_))))
  refine .nei ?_
  refine .z ?_
  refine .condT rfl (congrArg Value.bool (by first|simp;done|simp;omega|omega)) ?_
  refine .sr (.move (.assign (.assign (.z ?_))))
  refine .ret (.thenRet (?_))
  exact .ret2 (h1 := .tmp (t := 6) rfl) (h2 := .tmp (t := 7) rfl) ⟨_, ⟨rfl, rfl⟩, Am.auto⟩
theorem fo247_2 : fieldOk Tryz.prog 247 2 8 = true := by kernel_rfl
theorem fo247_3 : fieldOk Tryz.prog 247 3 9 = true := by kernel_rfl
theorem fo247_0 : fieldOk Tryz.prog 247 0 0 = true := by kernel_rfl
theorem bdFl (a : Int) : BuildOk Tryz.prog 244 [(0, .int .i64 a)] #[.int .i64 a, .slice none 0 0] := fun w => by kernel_rfl
theorem bsI1' (a : Int) : BuildSOk Tryz.prog 80 1 [(0, .int .i64 a)] 3 #[.int .i64 a] := fun w => by kernel_rfl
theorem ints_last (ms : List Int) (i : Nat) : ints ms ++ [nI i] = ints (ms ++ [(i : Int)]) := by unfold ints; rw [List.map_append]; rfl
theorem rowR_opens {el size n c g : Nat} {xs : List Value} : Opens (rowR el size (.slice (some ⟨g, 0, none⟩) n c) n xs) (fun cur : Array Value => xs.length = n * size /\ n <= c /\ c <= maxLen /\ cur.size = c * size /\ cur.toList.take (n * size) = xs) (fun cur => [pt g (.cells cur el (0, 0))]) := by
 refine ⟨fun k hk => ?_, fun cur hp k hk => ?_⟩
 ·unfold rowR at hk
  obtain ⟨h1, ⟨h, _⟩ | ⟨g', cap, cur, hv, hh, h2, h3, h4, h5⟩⟩ := hk
  ·cases h
  ·injection hv with e1 e2 e3
   injection e1 with e1
   injection e1 with e1 _ _
   subst e1; subst e3
   refine ⟨cur, ⟨h1, h2, h3, h4, h5⟩, ?_⟩
   unfold star
   exact ⟨[k], by unfold pt; exact hh, Sub.refl _, by simp, trivial⟩
 ·unfold star at hk
  obtain ⟨ks, hk⟩ := hk
  obtain ⟨h1, h2, h3, h4, h5⟩ := hp
  unfold rowR
  match ks, hk with
  | k1 :: _, hk => exact ⟨h1, .inr ⟨g, c, cur, rfl, hk.2.1 _ _ (by have h0 := hk.1; unfold pt at h0; exact h0), h2, h3, h4, h5⟩⟩
theorem buf_opens {el k g : Nat} {xs : List Value} : Opens (buf g el k xs) (fun cur : Array Value => cur.size = k /\ cur.toList.take xs.length = xs /\ xs.length <= k) (fun cur => [pt g (.cells cur el (0, 0))]) := by
 refine ⟨fun h hk => ?_, fun cur hp h hk => ?_⟩
 ·unfold buf at hk
  obtain ⟨cur, hh, h1, h2, h3⟩ := hk
  refine ⟨cur, ⟨h1, h2, h3⟩, ?_⟩
  unfold star
  exact ⟨[h], by unfold pt; exact hh, Sub.refl _, by simp, trivial⟩
 ·unfold star at hk
  obtain ⟨ks, hk⟩ := hk
  unfold buf
  match ks, hk with
  | k1 :: _, hk => exact ⟨cur, hk.2.1 _ _ (by have h0 := hk.1; unfold pt at h0; exact h0), hp.1, hp.2.1, hp.2.2⟩
theorem take_midr {α : Type} {A us : List α} {off m : Nat} (h1 : off + us.length <= m) (h2 : m <= A.length) : (A.take off ++ us ++ A.drop (off + us.length)).take m = (A.take m).take off ++ us ++ (A.take m).drop (off + us.length) := by
 have h3 : (A.take off).length = off := by rw [List.length_take]; omega
 rw [List.take_append, List.take_of_length_le (by rw [List.length_append, h3]; omega), List.length_append, h3, List.take_take, Nat.min_eq_left (by omega), List.drop_take]
section
variable {P : Program} {B : Base} {n : Fr} {Q : Exit -> Act -> World -> Prop} {e : Env} {L M : List HP} {ops : Array Oper} {l : List Oper} {ty : TypeId} {pos : String} {af : Array Edge} {x y : Operand}
theorem WL.stRowA {t k g el size num c off : Nat} {xs : List Value} {us : Array Value} {s : Value} (hsv : s = .slice (some ⟨g, 0, none⟩) num c)
  (h : WL P B n ops l Q e (rowR el size s num (xs.take off ++ us.toList ++ xs.drop (off + us.toList.length)) :: M)) (hag : aggOk P t k = true) (hk : us.size = k) (hk0 : us.toList ≠ []) (hsing : ∀ v ∈ us.toList, Value.single v = true) (hle : off + k <= xs.length)
  (r : Rem L (rowR el size s num xs) M) (hx : evo e x = some (.pointer (some ⟨g, off, none⟩)) := by rfl) (hy : evo e y = some (.agg us) := by rfl) : WL P B n ops (⟨none, .store t x y, ty, pos, af, none⟩ :: l) Q e L := by
 subst hsv
 refine WL.openR rowR_opens (fun cur hc => ?_) r
 obtain ⟨h1, h2, h3, h4, h5⟩ := hc
 have hul : us.toList.length = k := by simpa using hk
 have hnc := Nat.mul_le_mul_right size h2
 have hcl : cur.toList.length = cur.size := by simp
 refine WL.stA (cs := cur) (off := off) ?_ hag hk hk0 hsing (by omega) rfl hx hy .here
 refine WL.shutR rowR_opens _ ⟨?_, h2, h3, ?_, ?_⟩ h
 ·rw [<- h5, List.length_append, List.length_append, List.length_take, List.length_drop, List.length_take]; omega
 ·rw [List.size_toArray, List.length_append, List.length_append, List.length_take, List.length_drop]; omega
 ·show (cur.toList.take off ++ us.toList ++ cur.toList.drop (off + us.toList.length)).take (num * size) = _
  rw [take_midr (by omega) (by omega), h5]
theorem WL.stRow1 {t g el size num c off : Nat} {xs : List Value} {v s : Value} (hsv : s = .slice (some ⟨g, 0, none⟩) num c)
  (h : WL P B n ops l Q e (rowR el size s num (xs.set off v) :: M)) (hsc : scalarOk P t = true) (hle : off < xs.length) (hv : Value.single v = true)
  (r : Rem L (rowR el size s num xs) M) (hx : evo e x = some (.pointer (some ⟨g, off, none⟩)) := by rfl) (hy : evo e y = some v := by rfl) : WL P B n ops (⟨none, .store t x y, ty, pos, af, none⟩ :: l) Q e L := by
 subst hsv
 refine WL.openR rowR_opens (fun cur hc => ?_) r
 obtain ⟨h1, h2, h3, h4, h5⟩ := hc
 have hnc := Nat.mul_le_mul_right size h2
 refine WL.st (cs := cur) (off := off) ?_ hsc hx hy .here (by rw [Nat.ble_eq]; omega) hv
 refine WL.shutR rowR_opens _ ⟨?_, h2, h3, ?_, ?_⟩ h
 ·rw [List.length_set]; exact h1
 ·rw [Array.size_setIfInBounds]; exact h4
 ·rw [Array.toList_setIfInBounds, List.take_set, h5]
end
theorem tot_mono (F : FM) {m n : Nat} (h : m <= n) : tot F m <= tot F n := by
 induction h with
 | refl => exact Nat.le_refl _
 | step _ ih => exact Nat.le_trans ih (Nat.le_add_right _ _)
theorem cntB_le (f : Nat -> Bool) : ∀ n, cntB f n <= n
 | 0 => Nat.le_refl _
 | n + 1 => by
  rw [cntB_succ]
  have := cntB_le f n
  split <;> omega
theorem rsTouch {s : Nat} {p : Pl} {T : FT} {os : List (Nat × Obj)} {N : Nat} (hi0 : 1 <= p.ino) (hi1 : p.ino <= 4096) {i n : Nat} (hN : N <= 1000000) (hn : n <= 1000000) : Spec Tryz.prog 196 #[.pointer (some ⟨s, 0, none⟩), nI i, nI n] [RS s p T os N] fun F v M => v = .tuple #[] /\ M = RS s p T os (N + n + 1) :: F := by
 refine Spec.intro Tryz.func196 rfl rfl fun B F => ?_
 simp only [Tryz.ntmps196, List.cons_append, List.nil_append, env0, Nat.reduceAdd]
 refine .openR (RS.opens s p T os N) fun y hy => ?_
 obtain ⟨u, L, wk, mv, ms⟩ := y
 simp only [rsLs, List.cons_append, List.nil_append]
 refine .fact (rowR_some (el := 244) (size := 2) (v := u) (k := p.ino) (xs := (L).flatMap rowV) (by omega)) (fun ⟨ab, cc, hu, hR, hc1, hc2⟩ => ?_)
 subst hu
 have hlen : (L).length = p.ino := (hy).len
 refine .fact (rowR_shape (el := 3) (size := 1) (v := mv) (k := ms.length) (xs := ints ms)) (fun ⟨A2, c2, hmv, hR2, hk2, hc3, hl2⟩ => ?_)
 subst hmv
 have hwk : wk <= N := hy.wk
 have hml : ms.length <= N := hy.ml
 refine .sr (.move (.move ?_))
 refine .nilCheck ?_
 refine .fa ?_ fo247_2
 refine .ld ?_ sc3
 refine .move ?_
 refine .add ?_
 refine .cast (d := 13) (u := nI (wk + n)) rfl (congrArg (Value.int .i64) (by omega)) ?_
 refine .nilCheck ?_
 refine .fa ?_ fo247_2
 refine .st ?_ sc3
 refine .z (.seq (.sr (.assign (.z (.block ?_)))))
 refine .loopA (σ := Nat) (fun k => [(0, .pointer (some ⟨s, 0, none⟩)), (1, nI i), (6, .int .i64 ((k : Nat) : Int))]) (fun _ => [pt s (sO p (.slice (some ⟨ab, 0, none⟩) p.ino cc) (wk + n) (.slice A2 ms.length c2)), rowR 244 2 (.slice (some ⟨ab, 0, none⟩) p.ino cc) p.ino (L.flatMap rowV), rowR 3 1 (.slice A2 ms.length c2) ms.length (ints ms)] ++ F) (fun k => k <= ms.length) (fun k => ms.length - k) 0 (Nat.zero_le _) ?_
 rintro k hk
 refine .seq (.sr (.move (.move ?_)))
 refine .nilCheck ?_
 refine .fa ?_ fo247_3
 refine .ld ?_ sc80
 refine .lenS ?_ sl80
 refine .lss ?_
 refine .z ?_
 refine .cond rfl (fun hb => ?_) (fun hb => ?_)
 ·have hlt : k < ms.length := by have h : (k : Int) < (ms.length : Int) := of_decide_eq_true hb; omega
  rcases A2 with _ | ⟨a2, o2, sp2⟩
  ·exact absurd (congrArg List.length (show ints ms = [] from hR2)) (by unfold ints; rw [List.length_map]; simp only [List.length_nil]; omega)
  have hsp : sp2 = none := hR2.1
  subst hsp
  have hgm : (ints ms)[((k : Nat) : Int).toNat]? = some (.int .i64 ms[k]) := by rw [Int.toNat_natCast]; unfold ints; rw [List.getElem?_map, List.getElem?_eq_getElem hlt]; rfl
  by_cases he : ms[k] = (i : Int)
  ·refine .skip (.next (.seq (.block (.sr (.move ?_)))))
   refine .nilCheck ?_
   refine .fa ?_ fo247_3
   refine .ld ?_ sc80
   refine .move ?_
   refine .idx1 ?_ so80
   refine .ldR (R := rowR 3 1 (.slice (some ⟨a2, o2, none⟩) ms.length c2) ms.length (ints ms)) ?_ sc3 hR2 hgm
   refine .move ?_
   refine .eqi ?_
   refine .z ?_
   refine .condT rfl (congrArg Value.bool (by first|simp;done|simp;omega|omega)) ?_
   refine .ret (.blockRet (.thenRet (.thenRet (.blockRet (.thenRet (?_))))))
   refine .shutR (RS.opens s p T os (N + n + 1)) ⟨.slice (some ⟨ab, 0, none⟩) p.ino cc, L, wk + n, .slice (some ⟨a2, o2, none⟩) ms.length c2, ms⟩ ⟨hy.len, hy.row, by show wk + n <= _; omega, by show ms.length <= _; omega⟩ ?_
   exact .ret0 ⟨_, ⟨rfl, rfl⟩, Am.auto⟩
  ·refine .skip (.next (.seq (.block (.sr (.move ?_)))))
   refine .nilCheck ?_
   refine .fa ?_ fo247_3
   refine .ld ?_ sc80
   refine .move ?_
   refine .idx1 ?_ so80
   refine .ldR (R := rowR 3 1 (.slice (some ⟨a2, o2, none⟩) ms.length c2) ms.length (ints ms)) ?_ sc3 hR2 hgm
   refine .move ?_
   refine .eqi ?_
   refine .z ?_
   refine .condF rfl (congrArg Value.bool (by first|simp;done|simp;omega|omega)) ?_
   refine .skip (.blockNormal (.next (.region (.move ?_))))
   refine .add ?_
   refine .assign (.nil ?_)
   refine .cast (d := 6) (u := .int .i64 ((k + 1 : Nat) : Int)) rfl (congrArg (Value.int .i64) (by omega)) ?_
   exact .back (k + 1) (by show k + 1 <= ms.length; omega) (by show ms.length - (k + 1) < ms.length - k; omega)
 ·have hge : k = ms.length := by have h : ¬ (k : Int) < (ms.length : Int) := of_decide_eq_false hb; omega
  refine .exit (.thenExit (.thenExit (.blockExit (?_))))
  refine .next (.region (.move (.move ?_)))
  refine .nilCheck ?_
  refine .fa ?_ fo247_3
  refine .ld ?_ sc80
  refine .move ?_
  refine .buildS (fun b40 => ?_) (bsI1' _)
  refine .append (m := 1) (news := [nI i]) so80 (by decide) (by repeat (first | exact .here | apply Rem.there | apply Repl.there | apply Mem.there)) (Reads.pt (cs := #[nI i])) (by repeat (first | exact .here | apply Rem.there | apply Repl.there | apply Mem.there)) rfl (by intro x hx; simp only [List.mem_cons, List.not_mem_nil, or_false] at hx; rcases hx with rfl; rfl) (by show ms.length + 1 <= maxLen; unfold maxLen; omega) (by show (ms.length + 1) * _ <= 140737488355328; omega) ⟨_, z3, rfl⟩ (fun vB hvB => ?_)
  refine .to (A := rowR 3 1 vB (ms.length + 1) (ints ms ++ [nI i])) (A' := rowR 3 1 vB (ms ++ [(i : Int)]).length (ints (ms ++ [(i : Int)]))) (fun h hh => by rw [<- ints_last, List.length_append]; exact hh) ?_
  refine .fact (rowR_shape (el := 3) (size := 1) (v := vB) (k := (ms ++ [(i : Int)]).length) (xs := ints (ms ++ [(i : Int)]))) (fun ⟨A4, c4, hv4, hR4, hk4, hc4, hl4⟩ => ?_)
  subst hv4
  refine .nilCheck ?_
  refine .fa ?_ fo247_3
  refine .st ?_ sc80
  refine .nil ?_
  refine .shutR (RS.opens s p T os (N + n + 1)) ⟨.slice (some ⟨ab, 0, none⟩) p.ino cc, L, wk + n, .slice A4 (ms ++ [(i : Int)]).length c4, ms ++ [(i : Int)]⟩ ⟨hy.len, hy.row, by show wk + n <= _; omega, by show (ms ++ [(i : Int)]).length <= _; rw [List.length_append]; simp only [List.length_cons, List.length_nil]; omega⟩ ?_
  exact .ret0 ⟨_, ⟨rfl, rfl⟩, Am.auto⟩
theorem rsFree {s : Nat} {p : Pl} {T : FT} {os : List (Nat × Obj)} {N : Nat} (hi0 : 1 <= p.ino) (hi1 : p.ino <= 4096) (hdc : p.dc <= 1000000) (hT : RT p T) (htot : tot (fmT T) p.ino <= p.dc) : Spec Tryz.prog 123 #[.pointer (some ⟨s, 0, none⟩)] [RS s p T os N] fun F v M => v = .tuple #[.int .i64 ((p.dc : Int) - tot (fmT T) p.ino), .int .i64 ((p.ino : Int) - cntF (fmT T) p.ino)] /\ M = RS s p T os N :: F := by
 refine Spec.intro Tryz.func123 rfl rfl fun B F => ?_
 simp only [Tryz.ntmps123, List.cons_append, List.nil_append, env0, Nat.reduceAdd]
 refine .openR (RS.opens s p T os N) fun y hy => ?_
 obtain ⟨u, L, wk, mv, ms⟩ := y
 simp only [rsLs, List.cons_append, List.nil_append]
 refine .fact (rowR_some (el := 244) (size := 2) (v := u) (k := p.ino) (xs := (L).flatMap rowV) (by omega)) (fun ⟨ab, cc, hu, hR, hc1, hc2⟩ => ?_)
 subst hu
 have hlen : (L).length = p.ino := (hy).len
 have htm : ∀ k, k <= p.ino -> tot (fmT T) k <= p.dc := fun k hk => Nat.le_trans (tot_mono (fmT T) hk) htot
 have hcm : ∀ k, cntF (fmT T) k <= k := fun k => cntB_le _ k
 refine .sr (.assign (.assign (.x (.move ?_))))
 refine .nilCheck ?_
 refine .fa ?_ fo247_0
 refine .fa ?_ fo199_6
 refine .ld ?_ sc3
 refine .assign (.x (.assign (.z (.seq (.sr (.assign (.z (.block ?_))))))))
 refine .loopA (σ := Nat) (fun k => [(0, .pointer (some ⟨s, 0, none⟩)), (4, .int .i64 ((p.dc : Int) - tot (fmT T) k)), (5, .int .i64 (((k : Nat) : Int) - cntF (fmT T) k)), (6, .int .i64 ((k : Nat) : Int))]) (fun _ => [pt s (sO p (.slice (some ⟨ab, 0, none⟩) p.ino cc) wk mv), rowR 244 2 (.slice (some ⟨ab, 0, none⟩) p.ino cc) p.ino (L.flatMap rowV), rowR 3 1 mv ms.length (ints ms)] ++ F) (fun k => k <= p.ino) (fun k => p.ino - k) 0 (Nat.zero_le _) ?_
 rintro k hk
 refine .seq (.sr (.move (.move ?_)))
 refine .nilCheck ?_
 refine .fa ?_ fo247_1
 refine .ld ?_ sc245
 refine .lenS ?_ sl245
 refine .lss ?_
 refine .z ?_
 refine .cond rfl (fun hb => ?_) (fun hb => ?_)
 ·have hlt : k < p.ino := by have h : (k : Int) < (p.ino : Int) := of_decide_eq_true hb; omega
  have ht1 := htm (k + 1) (by omega)
  have ht2 : tot (fmT T) (k + 1) = tot (fmT T) k + hasO (fmT T k) := rfl
  have hc1' : cntF (fmT T) (k + 1) = cntF (fmT T) k + (if (fmT T k).isSome then 1 else 0) := cntB_succ _ k
  have hck := hcm k
  have hil : k < L.length := by omega
  have hrow := hy.row k hil
  obtain ⟨A1, c1, hs1, hr1, hl1, hm1⟩ := hrow.sl
  obtain ⟨e1, hek⟩ : ∃ e, L[k] = e := ⟨_, rfl⟩
  have hkd : e1.1 = refK (T k) := hek ▸ hrow.kd
  have hg0 : (L.flatMap rowV)[((k : Nat) : Int).toNat * 2 + 0]? = some (nI e1.1) := by rw [Int.toNat_natCast, <- hek]; exact (rowV_get hil).1
  have hg1 : (L.flatMap rowV)[((k : Nat) : Int).toNat * 2 + 1]? = some (.slice A1 (refBy (T k)).length c1) := by rw [Int.toNat_natCast, <- hs1]; exact (rowV_get hil).2
  rw [hkd] at hg0
  cases hTk : T k with
  | none =>
   rw [fmT_none hTk] at ht2 hc1'
   rw [hTk] at hg0
   have h0 : hasO none = 0 := rfl
   have h1 : (none : Option (Nat × Bytes)).isSome = false := rfl
   rw [h1] at hc1'
   simp only [Bool.false_eq_true, if_false] at hc1'
   refine .skip (.next (.seq (.block (.sr (.move ?_)))))
   refine .nilCheck ?_
   refine .fa ?_ fo247_1
   refine .ld ?_ sc245
   refine .move ?_
   refine .idx ?_ so245
   refine .fa ?_ fo244_0
   refine .ldR (R := rowR 244 2 (.slice (some ⟨ab, 0, none⟩) p.ino cc) p.ino (L.flatMap rowV)) ?_ sc3 hR hg0
   refine .eqi ?_
   refine .z ?_
   refine .condT rfl (congrArg Value.bool (by first | rfl | (simp; done) | (simp; omega) | omega)) ?_
   refine .region (.move ?_)
   refine .add ?_
   refine .assign (.nil (.blockNormal (.next (.region (.move ?_)))))
   refine .add ?_
   refine .assign (.nil ?_)
   refine .cast (d := 6) (u := .int .i64 ((k + 1 : Nat) : Int)) rfl (congrArg (Value.int .i64) (by omega)) ?_
   refine .cast (d := 4) (u := .int .i64 ((p.dc : Int) - tot (fmT T) (k + 1))) rfl (congrArg (Value.int .i64) (by omega)) ?_
   refine .cast (d := 5) (u := .int .i64 (((k + 1 : Nat) : Int) - cntF (fmT T) (k + 1))) rfl (congrArg (Value.int .i64) (by omega)) ?_
   exact .back (k + 1) (by show k + 1 <= p.ino; omega) (by show p.ino - (k + 1) < p.ino - k; omega)
  | some x =>
   rw [fmT_some hTk] at ht2 hc1'
   rw [hTk] at hg0 hg1
   have h0 : hasO (some x.f) = has x.size := by show has x.f.2.length = _; rw [x.f_size]
   have h1 : (some x.f).isSome = true := rfl
   rw [h1] at hc1'
   simp only [if_true] at hc1'
   have hkz : refK (some x) ≠ 0 := fun h => by cases (refK_zero.1 h)
   have hsz : (refBy (some x)).length = x.size := x.r_length
   rw [hsz] at hg1
   have hxl : x.size <= 1000000000 := by
    have h2 : has x.size <= 1000000 := by omega
    unfold has dat at h2
    split at h2 <;> omega
   refine .skip (.next (.seq (.block (.sr (.move ?_)))))
   refine .nilCheck ?_
   refine .fa ?_ fo247_1
   refine .ld ?_ sc245
   refine .move ?_
   refine .idx ?_ so245
   refine .fa ?_ fo244_0
   refine .ldR (R := rowR 244 2 (.slice (some ⟨ab, 0, none⟩) p.ino cc) p.ino (L.flatMap rowV)) ?_ sc3 hR hg0
   refine .eqi ?_
   refine .z ?_
   refine .condF rfl (congrArg Value.bool (by first | (exact decide_eq_false (by omega)) | (simp; done) | (simp; omega) | omega)) ?_
   refine .region (.move (.move ?_))
   refine .nilCheck ?_
   refine .fa ?_ fo247_1
   refine .ld ?_ sc245
   refine .move ?_
   refine .idx ?_ so245
   refine .fa ?_ fo244_1
   refine .ldR (R := rowR 244 2 (.slice (some ⟨ab, 0, none⟩) p.ino cc) p.ino (L.flatMap rowV)) ?_ sc33 hR hg1
   refine .lenS ?_ sl33
   refine .call (hc := Tryz.call197) (sp := rfNeed (n := x.size) hxl) (h := ?_)
   rintro _ _ ⟨rfl, hM⟩
   obtain rfl := hM.symm
   refine .sub ?_
   refine .assign (.nil (.blockNormal (.next (.region (.move ?_)))))
   refine .add ?_
   refine .assign (.nil ?_)
   refine .cast (d := 6) (u := .int .i64 ((k + 1 : Nat) : Int)) rfl (congrArg (Value.int .i64) (by omega)) ?_
   refine .cast (d := 4) (u := .int .i64 ((p.dc : Int) - tot (fmT T) (k + 1))) rfl (congrArg (Value.int .i64) (by omega)) ?_
   refine .cast (d := 5) (u := .int .i64 (((k + 1 : Nat) : Int) - cntF (fmT T) (k + 1))) rfl (congrArg (Value.int .i64) (by omega)) ?_
   exact .back (k + 1) (by show k + 1 <= p.ino; omega) (by show p.ino - (k + 1) < p.ino - k; omega)
 ·have hge : k = p.ino := by have h : ¬ (k : Int) < (p.ino : Int) := of_decide_eq_false hb; omega
  subst hge
  refine .exit (.thenExit (.thenExit (.blockExit (?_))))
  refine .next (.sr (.move (.move (.assign (.assign (.z ?_))))))
  refine .ret (?_)
  refine .shutR (RS.opens s p T os N) ⟨.slice (some ⟨ab, 0, none⟩) p.ino cc, L, wk, mv, ms⟩ hy ?_
  exact .ret2 (h1 := .tmp (t := 2) rfl) (h2 := .tmp (t := 3) rfl) ⟨_, ⟨rfl, rfl⟩, Am.auto⟩
theorem rsResize {s : Nat} {p : Pl} {T : FT} {os : List (Nat × Obj)} {N : Nat} (hi0 : 1 <= p.ino) (hi1 : p.ino <= 4096) {i z : Nat} {x : NodeT} (hdc : p.dc <= 1000000) (hT : RT p T) (htot : tot (fmT T) p.ino <= p.dc) (hTi : T i = some x) (hxs : x.size <= 70656) (hz : z <= 70656) (hfit : tot (fmT T) p.ino + has z <= p.dc + has x.size) : Spec Tryz.prog 195 #[.pointer (some ⟨s, 0, none⟩), nI i, nI z] [RS s p T os N] fun F v M => v = .int .i64 0 /\ M = RS s p T os N :: F := by
 refine Spec.intro Tryz.func195 rfl rfl fun B F => ?_
 simp only [Tryz.ntmps195, List.cons_append, List.nil_append, env0, Nat.reduceAdd]
 have hh : ∀ n, n <= 70656 -> has n <= 200 := fun n hn => by unfold has dat; split <;> omega
 have hz1 := hh z hz
 have hx1 := hh x.size hxs
 refine .sr (.assign (.z (.seq (.sr (.move ?_)))))
 refine .gtr ?_
 refine .z ?_
 refine .condF rfl (congrArg Value.bool (by first|simp;done|simp;omega|omega)) ?_
 refine .skip (.next (.sr (.move ?_)))
 refine .call (hc := Tryz.call123) (sp := rsFree (s := s) (p := p) (T := T) (os := os) (N := N) hi0 hi1 hdc hT htot) (h := ?_)
 rintro _ _ ⟨rfl, rfl⟩
 refine .move ?_
 refine .extract ?_
 refine .extract ?_
 refine .assign (.assign (.z (.seq (.seq ?_))))
 have hi : i < p.ino := in_ino hT hTi
 refine .openR (RS.opens s p T os N) fun y hy => ?_
 obtain ⟨u, L, wk, mv, ms⟩ := y
 simp only [rsLs, List.cons_append, List.nil_append]
 refine .fact (rowR_some (el := 244) (size := 2) (v := u) (k := p.ino) (xs := (L).flatMap rowV) (by omega)) (fun ⟨ab, cc, hu, hR, hc1, hc2⟩ => ?_)
 subst hu
 have hlen : (L).length = p.ino := (hy).len
 have hil : i < L.length := by omega
 have hrow := hy.row i hil
 obtain ⟨A1, c1, hs1, hr1, hl1, hm1⟩ := hrow.sl
 obtain ⟨e1, hek⟩ : ∃ e, L[i] = e := ⟨_, rfl⟩
 have hkd : e1.1 = refK (T i) := hek ▸ hrow.kd
 have hg0 : (L.flatMap rowV)[((i : Nat) : Int).toNat * 2 + 0]? = some (nI e1.1) := by rw [Int.toNat_natCast, <- hek]; exact (rowV_get hil).1
 have hg1 : (L.flatMap rowV)[((i : Nat) : Int).toNat * 2 + 1]? = some (.slice A1 (refBy (T i)).length c1) := by rw [Int.toNat_natCast, <- hs1]; exact (rowV_get hil).2
 rw [hkd] at hg0
 rw [hTi] at hg1
 have hsz : (refBy (some x)).length = x.size := x.r_length
 rw [hsz] at hg1
 refine .dr ([pt s (sO p (.slice (some ⟨ab, 0, none⟩) p.ino cc) wk mv), rowR 244 2 (.slice (some ⟨ab, 0, none⟩) p.ino cc) p.ino (L.flatMap rowV)]) [] 15 mixed .autoJ ?_
 refine .tk 0 rfl .move ?_
 refine .tk 2 rfl .move ?_
 refine .tk 3 rfl .nilCheck ?_
 refine .tk 4 rfl (.fa fo247_1) ?_
 refine .tk 5 rfl (.ld sc245) ?_
 refine .tk 6 rfl .move ?_
 refine .tk 7 rfl (.idx so245) ?_
 refine .tk 8 rfl (.fa fo244_1) ?_
 refine .tk 9 rfl (Qt.ldR sc33 hR hg1) ?_
 refine .tk 10 rfl (.lenS sl33) ?_
 refine .tk 13 rfl .move ?_
 refine .on 1 rfl fun hnp => ?_
 refine .call (hc := Tryz.call197) (sp := rfNeed (n := z) (by omega)) (h := ?_)
 rintro _ _ ⟨rfl, hM⟩
 obtain rfl := hM.symm
 refine .nil (.wa hnp ?_)
 refine .on 11 rfl fun hnp => ?_
 refine .call (hc := Tryz.call197) (sp := rfNeed (n := x.size) (by omega)) (h := ?_)
 rintro _ _ ⟨rfl, hM⟩
 obtain rfl := hM.symm
 refine .nil (.wa hnp ?_)
 refine .tk 12 rfl .sub ?_
 refine .tk 14 rfl .gtr ?_
 refine .fin ?_
 refine .next ?_
 refine .condF rfl (congrArg Value.bool (by first|simp;done|simp;omega|omega)) ?_
 refine .skip (.next (.sr (.assign (.z ?_))))
 refine .ret (?_)
 refine .shutR (RS.opens s p T os N) ⟨.slice (some ⟨ab, 0, none⟩) p.ino cc, L, wk, mv, ms⟩ hy ?_
 exact .ret1 (h1 := .tmp (t := 6) rfl) ⟨_, ⟨rfl, rfl⟩, Am.auto⟩
theorem rsp_step {base src : Bytes} {off k : Nat} (h1 : off + (k + 1) <= base.length) (h2 : k < src.length) : (splice base off (src.take k)).set (off + k) (src.getD k 0) = splice base off (src.take (k + 1)) := by
 have hl1 : (src.take k).length = k := by rw [List.length_take]; omega
 have hl2 : (src.take (k + 1)).length = k + 1 := by rw [List.length_take]; omega
 have e1 := splice_length (xs := base) (ys := src.take k) (off := off) (by omega)
 have e2 := splice_length (xs := base) (ys := src.take (k + 1)) (off := off) (by omega)
 apply List.ext_getElem (by rw [List.length_set]; omega)
 intro j h3 h4
 have g1 : ∀ (l : Bytes) (h : j < l.length), l[j] = l.getD j 0 := fun l h => by rw [List.getD_eq_getElem?_getD, List.getElem?_eq_getElem h]; rfl
 rw [g1 _ h3, g1 _ h4, splice_getD (by omega), hl2]
 rw [List.getD_eq_getElem?_getD, List.getElem?_set]
 by_cases hj : off + k = j
 ·subst hj
  rw [if_pos rfl, if_pos (by omega), if_pos ⟨by omega, by omega⟩, show off + k - off = k from by omega]
  simp only [Option.getD_some]
  rw [List.getD_eq_getElem?_getD, List.getD_eq_getElem?_getD, List.getElem?_take, if_pos (by omega)]
 ·rw [if_neg hj, <- List.getD_eq_getElem?_getD, splice_getD (by omega), hl1]
  by_cases hk : off <= j /\ j < off + k
  ·rw [if_pos hk, if_pos ⟨by omega, by omega⟩]
   rw [List.getD_eq_getElem?_getD, List.getD_eq_getElem?_getD, List.getElem?_take, List.getElem?_take, if_pos (by omega), if_pos (by omega)]
  ·rw [if_neg hk, if_neg (by omega)]
theorem rsp_nil (base : Bytes) (off : Nat) : splice base off [] = base := by
 unfold splice
 simp
theorem rsp_all {base src : Bytes} {off k : Nat} (h : src.length = k) : splice base off (src.take k) = splice base off src := by rw [List.take_of_length_le (by omega)]
theorem rsp_made (a b : Bytes) (at' : Nat) : splice (splice (List.replicate (max a.length (at' + b.length)) 0) 0 a) at' b = wrB a at' b := by
 unfold wrB
 congr 1
 unfold splice ext
 rw [List.take_zero, List.nil_append, List.drop_replicate]
 congr 2
 omega
theorem bv_getD {xs : Bytes} {k : Nat} (h : k < xs.length) : (bvs xs)[k]? = some (bv (xs.getD k 0)) := by
 unfold bvs
 rw [List.getElem?_map, List.getElem?_eq_getElem h, List.getD_eq_getElem?_getD, List.getElem?_eq_getElem h]; rfl
theorem RSP.write {p : Pl} {T : FT} {os : List (Nat × Obj)} {N i Z bw : Nat} {u mv : Value} {L : List (Nat × Value)} {wk : Nat} {ms : List Int} {x x' : NodeT} {cur : Array Value} (hy : RSP p T os N ⟨u, L, wk, mv, ms⟩) (hTi : T i = some x) (hi : i < L.length) (hk : x'.kind = x.kind) (hl : x'.r.length = Z) (hc1 : cur.size = Z) (hc2 : cur.toList.take (bvs x'.r).length = bvs x'.r) (hZ : Z <= maxLen) :
  RSP p (updT T i (some x')) ((bw, .cells cur 5 (0, 0)) :: os) N ⟨u, L.set i (L[i].1, .slice (some ⟨bw, 0, none⟩) Z Z), wk, mv, ms⟩ := by
 refine ⟨by show (L.set i _).length = _; rw [List.length_set]; exact hy.len, fun j hj => ?_, hy.wk, hy.ml⟩
 have hj2 : j < L.length := by have : j < (L.set i (L[i].1, .slice (some ⟨bw, 0, none⟩) Z Z)).length := hj; rwa [List.length_set] at this
 show RRow _ _ (updT T i (some x') j) (L.set i (L[i].1, .slice (some ⟨bw, 0, none⟩) Z Z))[j]
 by_cases hji : i = j
 ·subst hji
  rw [updT_same, List.getElem_set_self]
  refine ⟨?_, .inr ⟨bw, Z, cur, (0, 0), ?_, List.mem_cons_self .., ?_, hZ, ?_⟩⟩
  ·show L[i].1 = x'.kind
   have := (hy.row i hi).kd
   rw [hTi] at this
   rw [hk]; exact this
  ·show Value.slice (some ⟨bw, 0, none⟩) Z Z = .slice (some ⟨bw, 0, none⟩) x'.r.length Z
   rw [hl]
  ·show x'.r.length <= Z; omega
  ·show cur.toList.take x'.r.length = bvs x'.r
   rwa [bvs_length] at hc2
 ·rw [updT_other _ _ (fun h => hji h.symm), List.getElem_set_ne hji]
  exact (hy.row j hj2).mono fun e he => List.mem_cons_of_mem _ he
theorem rsWrite {s : Nat} {p : Pl} {T : FT} {os : List (Nat × Obj)} {N : Nat} (hi0 : 1 <= p.ino) (hi1 : p.ino <= 4096) {i at' m c : Nat} {R : HP} {A : Option Addr} {bs : Bytes} {x x2 : NodeT} (hdc : p.dc <= 1000000) (hT : RT p T) (htot : tot (fmT T) p.ino <= p.dc) (hTi : T i = some x) (hxs : x.size <= 70656) (hR0 : bs = [] ∨ Reads R A (bvs bs)) (hm : bs.length = m) (hmc : m <= c) (hcm : c <= maxLen) (hat : at' <= x.size) (hm7 : m <= 70656) (hz : max x.size (at' + m) <= 70656) (hN : N <= 1000) (hfit : tot (fmT T) p.ino + has (max x.size (at' + m)) <= p.dc + has x.size) (hx2 : x2.r = wrB x.r at' bs) (hk2 : x2.kind = x.kind) : Spec Tryz.prog 121 #[.pointer (some ⟨s, 0, none⟩), nI i, nI at', .slice A m c] [RS s p T os N, frz os, R] fun F v M => v = .int .i64 0 /\ ∃ os2, (∀ e ∈ os, e ∈ os2) /\ M = RS s p (updT T i (some x2)) os2 (N + (has m + 2) + 1) :: frz os2 :: R :: F := by
 refine Spec.intro Tryz.func121 rfl rfl fun B F => ?_
 simp only [Tryz.ntmps121, List.cons_append, List.nil_append, env0, Nat.reduceAdd]
 obtain ⟨Z, hZ⟩ : ∃ Z, max x.size (at' + m) = Z := ⟨_, rfl⟩
 rw [hZ] at hz hfit
 obtain ⟨X, hX⟩ : ∃ X, x.r = X := ⟨_, rfl⟩
 have hXl : X.length = x.size := by rw [<- hX]; exact x.r_length
 rw [hX] at hx2
 have hi : i < p.ino := in_ino hT hTi
 have hhm : has m <= 200 := by unfold has dat; split <;> omega
 refine .sr (.assign (.z (.seq (.sr (.move (.move ?_))))))
 refine .call (hc := Tryz.call161) (sp := rsThere (s := s) (p := p) (T := T) (os := os) (N := N) hi0 hi1 (i := i) hT) (h := ?_)
 rintro _ _ ⟨rfl, rfl⟩
 rw [hTi]
 refine .not ?_
 refine .z ?_
 refine .condF rfl rfl ?_
 refine .skip (.next (.sr ?_))
 refine .openR (RS.opens s p T os N) fun y hy => ?_
 obtain ⟨u, L, wk, mv, ms⟩ := y
 simp only [rsLs, List.cons_append, List.nil_append]
 refine .fact (rowR_some (el := 244) (size := 2) (v := u) (k := p.ino) (xs := (L).flatMap rowV) (by omega)) (fun ⟨ab, cc, hu, hR, hc1, hc2⟩ => ?_)
 subst hu
 have hlen : (L).length = p.ino := (hy).len
 have hil : i < L.length := by omega
 have hrow := hy.row i hil
 obtain ⟨A1, c1, hs1, hr1, hl1, hm1⟩ := hrow.sl
 obtain ⟨e1, hek⟩ : ∃ e, L[i] = e := ⟨_, rfl⟩
 have hkd : e1.1 = refK (T i) := hek ▸ hrow.kd
 have hg0 : (L.flatMap rowV)[((i : Nat) : Int).toNat * 2 + 0]? = some (nI e1.1) := by rw [Int.toNat_natCast, <- hek]; exact (rowV_get hil).1
 have hg1 : (L.flatMap rowV)[((i : Nat) : Int).toNat * 2 + 1]? = some (.slice A1 (refBy (T i)).length c1) := by rw [Int.toNat_natCast, <- hs1]; exact (rowV_get hil).2
 rw [hkd] at hg0
 rw [hTi] at hg1 hr1 hl1
 rw [show refBy (some x) = X from hX] at hg1 hr1 hl1
 refine .move ?_
 refine .nilCheck ?_
 refine .fa ?_ fo247_1
 refine .ld ?_ sc245
 refine .move ?_
 refine .idx ?_ so245
 refine .fa ?_ fo244_1
 refine .ldR (R := rowR 244 2 (.slice (some ⟨ab, 0, none⟩) p.ino cc) p.ino (L.flatMap rowV)) ?_ sc33 hR hg1
 refine .assign (.z (.seq (.sr ?_)))
 refine .shutR (RS.opens s p T os N) ⟨.slice (some ⟨ab, 0, none⟩) p.ino cc, L, wk, mv, ms⟩ hy ?_
 clear hy hrow hg0 hg1 hkd hek hs1 hR hlen
 refine .move ?_
 refine .lss ?_
 refine .move ?_
 refine .cast (d := 29) (u := .bool false) rfl (congrArg Value.bool (by first|simp;done|simp;omega|omega)) ?_
 refine .gT ?_
 refine .move ?_
 refine .gT ?_
 refine .move ?_
 refine .gT ?_
 refine .lenS ?_ sl33
 refine .gT ?_
 refine .gtr ?_
 refine .pickF ?_
 refine .z ?_
 refine .condF rfl (congrArg Value.bool (by first|simp;done|simp;omega|omega)) ?_
 refine .skip (.next (.seq (.sr (.move ?_))))
 refine .lenS ?_ sl33
 refine .gtr ?_
 refine .z ?_
 refine .condF rfl (congrArg Value.bool (by first|simp;done|simp;omega|omega)) ?_
 refine .skip (.next (.sr (.move ?_)))
 refine .lenS ?_ sl33
 refine .move (.move ?_)
 refine .lenS ?_ sl33
 refine .add ?_
 refine .maxI ?_
 refine .cast (d := 44) (u := nI Z) rfl (congrArg (Value.int .i64) (by split <;> omega)) ?_
 refine .assign (.x (.move (.move (.move ?_))))
 refine .call (hc := Tryz.call195) (sp := rsResize (s := s) (p := p) (T := T) (os := os) (N := N) hi0 hi1 (i := i) (z := Z) (x := x) hdc hT htot hTi hxs hz hfit) (h := ?_)
 rintro _ _ ⟨rfl, rfl⟩
 refine .assign (.z (.seq (.sr (.move ?_))))
 refine .nei ?_
 refine .z ?_
 refine .condF rfl (congrArg Value.bool (by first|simp;done|simp;omega|omega)) ?_
 refine .skip (.next (.sr (.move (.move (.move ?_)))))
 refine .lenS ?_ sl33
 refine .call (hc := Tryz.call197) (sp := rfNeed (n := m) (by omega)) (h := ?_)
 rintro _ _ ⟨rfl, hM⟩
 obtain rfl := hM.symm
 refine .add ?_
 refine .cast (d := 57) (u := nI (has m + 2)) rfl (congrArg (Value.int .i64) (by omega)) ?_
 refine .call (hc := Tryz.call196) (sp := rsTouch (s := s) (p := p) (T := T) (os := os) (N := N) hi0 hi1 (i := i) (n := has m + 2) (by omega) (by omega)) (h := ?_)
 rintro _ _ ⟨rfl, rfl⟩
 refine .x (.move ?_)
 refine .mkS (k := (Z : Int)) z5 (fun bw => ?_) so33 (by omega) (by omega) (by omega)
 refine .cast (d := 60) (u := .slice (some ⟨bw, 0, none⟩) Z Z) rfl (by rw [Int.toNat_natCast]) ?_
 refine .to (A := buf bw 5 (Z : Int).toNat (List.replicate (Z : Int).toNat (.int .u8 0))) (A' := buf bw 5 Z (bvs (splice (List.replicate Z 0) 0 (X.take 0)))) (fun h hh => by rw [List.take_zero, rsp_nil, bvs_replicate]; rw [Int.toNat_natCast] at hh; exact hh) ?_
 refine .assign (.z (.seq (.sr (.assign (.z (.block ?_))))))
 refine .loopA (σ := Nat) (fun k => [(0, .pointer (some ⟨s, 0, none⟩)), (1, nI i), (2, nI at'), (3, .slice A m c), (9, .slice A1 X.length c1), (12, .slice (some ⟨bw, 0, none⟩) Z Z), (13, .int .i64 (k : Int))]) (fun k => [buf bw 5 Z (bvs (splice (List.replicate Z 0) 0 (X.take k))), RS s p T os (N + (has m + 2) + 1), frz os, R] ++ F) (fun k => k <= X.length) (fun k => X.length - k) 0 (Nat.zero_le _) ?_
 rintro k hk
 refine .seq (.sr (.move (.move ?_)))
 refine .lenS ?_ sl33
 refine .lss ?_
 refine .z ?_
 refine .cond rfl (fun hb => ?_) (fun hb => ?_)
 ·have hlt : k < X.length := by have h : (k : Int) < (X.length : Int) := of_decide_eq_true hb; omega
  have hsl : (splice (List.replicate Z 0) 0 (X.take k)).length = Z := by rw [splice_length (by rw [List.length_replicate, List.length_take]; omega), List.length_replicate]
  have hrX := hr1.resolve_left (by intro h; rw [h] at hlt; simp at hlt)
  rcases A1 with _ | ⟨a1, o1, sp1⟩
  ·exact absurd (congrArg List.length (show bvs X = [] from hrX)) (by rw [bvs_length]; simp only [List.length_nil]; omega)
  have hsp : sp1 = none := hrX.1
  subst hsp
  have hgx : (bvs X)[((k : Nat) : Int).toNat]? = some (bv (X.getD k 0)) := by rw [Int.toNat_natCast]; exact bv_getD hlt
  refine .skip (.next (.seq (.block (.region (.move (.move (.move (.move ?_))))))))
  refine .idx1 ?_ so33
  refine .ldR (R := frz os) (xs := bvs X) (i := ((k : Nat) : Int).toNat) ?_ sc5 hrX hgx
  refine .idx1 ?_ so33
  refine .stB ?_ sc5 (show 0 + ((k : Nat) : Int).toNat < (bvs (splice (List.replicate Z 0) 0 (X.take k))).length by rw [bvs_length]; omega)
  refine .nil (.blockNormal (.next (.region (.move ?_))))
  refine .add ?_
  refine .assign (.nil ?_)
  refine .to (A := buf bw 5 Z ((bvs (splice (List.replicate Z 0) 0 (X.take k))).set (0 + ((k : Nat) : Int).toNat) (bv (X.getD k 0)))) (A' := buf bw 5 Z (bvs (splice (List.replicate Z 0) 0 (X.take (k + 1))))) (fun h hh => by rw [<- rsp_step (by rw [List.length_replicate]; omega) (by omega), bvs_set]; rw [Int.toNat_natCast] at hh; exact hh) ?_
  refine .cast (d := 13) (u := .int .i64 ((k + 1 : Nat) : Int)) rfl (congrArg (Value.int .i64) (by omega)) ?_
  exact .back (k + 1) (by show k + 1 <= X.length; omega) (by show X.length - (k + 1) < X.length - k; omega)
 ·have hge : ¬ k < X.length := by have h : ¬ (k : Int) < (X.length : Int) := of_decide_eq_false hb; omega
  have hkS : k = X.length := by omega
  subst hkS
  obtain ⟨Z0, hZ0⟩ : ∃ Z0, Z0 = splice (List.replicate Z 0) 0 X := ⟨_, rfl⟩
  have hZl : Z0.length = Z := by rw [hZ0, splice_length (by rw [List.length_replicate]; omega), List.length_replicate]
  refine .to (A := buf bw 5 Z (bvs (splice (List.replicate Z 0) 0 (X.take X.length)))) (A' := buf bw 5 Z (bvs (splice Z0 at' (bs.take 0)))) (fun h hh => by rw [List.take_zero, rsp_nil, hZ0]; rw [rsp_all rfl] at hh; exact hh) ?_
  refine .exit (.thenExit (.thenExit (.blockExit (?_))))
  refine .next (.seq (.sr (.assign (.z (.block ?_)))))
  refine .loopA (σ := Nat) (fun j => [(0, .pointer (some ⟨s, 0, none⟩)), (1, nI i), (2, nI at'), (3, .slice A m c), (9, .slice A1 X.length c1), (12, .slice (some ⟨bw, 0, none⟩) Z Z), (14, .int .i64 (j : Int))]) (fun j => [buf bw 5 Z (bvs (splice Z0 at' (bs.take j))), RS s p T os (N + (has m + 2) + 1), frz os, R] ++ F) (fun j => j <= m) (fun j => m - j) 0 (Nat.zero_le _) ?_
  rintro j hj
  refine .seq (.sr (.move (.move ?_)))
  refine .lenS ?_ sl33
  refine .lss ?_
  refine .z ?_
  refine .cond rfl (fun hb2 => ?_) (fun hb2 => ?_)
  ·have hlt : j < m := by have h : (j : Int) < (m : Int) := of_decide_eq_true hb2; omega
   have hsl : (splice Z0 at' (bs.take j)).length = Z := by rw [splice_length (by rw [hZl, List.length_take]; omega), hZl]
   have hrB := hR0.resolve_left (by intro h; rw [h] at hm; simp at hm; omega)
   rcases A with _ | ⟨ax, ox, spx⟩
   ·exact absurd (congrArg List.length (show bvs bs = [] from hrB)) (by rw [bvs_length]; simp only [List.length_nil]; omega)
   have hsp : spx = none := hrB.1
   subst hsp
   have hgx : (bvs bs)[((j : Nat) : Int).toNat]? = some (bv (bs.getD j 0)) := by rw [Int.toNat_natCast]; exact bv_getD (by omega)
   refine .skip (.next (.seq (.block (.region (.move (.move (.move ?_)))))))
   refine .add ?_
   refine .cast (d := 83) (u := nI (at' + j)) rfl (congrArg (Value.int .i64) (by omega)) ?_
   refine .move (.move ?_)
   refine .idx1 ?_ so33
   refine .ldR (R := R) (xs := bvs bs) (i := ((j : Nat) : Int).toNat) ?_ sc5 hrB hgx
   refine .idx1 ?_ so33
   refine .stB ?_ sc5 (show 0 + ((at' + j : Nat) : Int).toNat < (bvs (splice Z0 at' (bs.take j))).length by rw [bvs_length]; omega)
   refine .nil (.blockNormal (.next (.region (.move ?_))))
   refine .add ?_
   refine .assign (.nil ?_)
   refine .to (A := buf bw 5 Z ((bvs (splice Z0 at' (bs.take j))).set (0 + ((at' + j : Nat) : Int).toNat) (bv (bs.getD j 0)))) (A' := buf bw 5 Z (bvs (splice Z0 at' (bs.take (j + 1))))) (fun h hh => by rw [<- rsp_step (by omega) (by omega), bvs_set]; rw [Int.toNat_natCast, Nat.zero_add] at hh; exact hh) ?_
   refine .cast (d := 14) (u := .int .i64 ((j + 1 : Nat) : Int)) rfl (congrArg (Value.int .i64) (by omega)) ?_
   exact .back (j + 1) (by omega) (by omega)
  ·have hge2 : ¬ j < m := by have h : ¬ (j : Int) < (m : Int) := of_decide_eq_false hb2; omega
   have hjN : j = m := by omega
   subst hjN
   have hfin : splice Z0 at' (bs.take j) = x2.r := by rw [rsp_all hm, hZ0, hx2, <- hZ, <- hXl, <- hm]; exact rsp_made X bs at'
   have hxl2 : x2.r.length = Z := by rw [hx2, wrB_length, hXl, hm, hZ]
   refine .to (A := buf bw 5 Z (bvs (splice Z0 at' (bs.take j)))) (A' := buf bw 5 Z (bvs x2.r)) (fun h hh => by rw [hfin] at hh; exact hh) ?_
   refine .openR (RS.opens s p T os (N + (has j + 2) + 1)) fun y hy => ?_
   obtain ⟨u, L, wk, mv, ms⟩ := y
   simp only [rsLs, List.cons_append, List.nil_append]
   refine .fact (rowR_some (el := 244) (size := 2) (v := u) (k := p.ino) (xs := (L).flatMap rowV) (by omega)) (fun ⟨ab, cc, hu, hR, hc1, hc2⟩ => ?_)
   subst hu
   have hlen : (L).length = p.ino := (hy).len
   have hil : i < L.length := by omega
   have hlV := rowV_length L
   refine .exit (.thenExit (.thenExit (.blockExit (?_))))
   refine .next (.sr (.move ?_))
   refine .nilCheck ?_
   refine .fa ?_ fo247_1
   refine .ld ?_ sc245
   refine .move (.move ?_)
   refine .idx ?_ so245
   refine .fa ?_ fo244_1
   refine .stRow1 (g := ab) (size := 2) (num := p.ino) (c := cc) (off := 0 + ((i : Nat) : Int).toNat * 2 + 1) (xs := L.flatMap rowV) (v := .slice (some ⟨bw, 0, none⟩) Z Z) rfl ?_ sc33 (by rw [hlV]; omega) rfl (by repeat (first | exact .here | apply Rem.there | apply Repl.there | apply Mem.there))
   refine .to (A := rowR 244 2 (.slice (some ⟨ab, 0, none⟩) p.ino cc) p.ino ((L.flatMap rowV).set (0 + ((i : Nat) : Int).toNat * 2 + 1) (.slice (some ⟨bw, 0, none⟩) Z Z))) (A' := rowR 244 2 (.slice (some ⟨ab, 0, none⟩) p.ino cc) p.ino ((L.set i (L[i].1, .slice (some ⟨bw, 0, none⟩) Z Z)).flatMap rowV)) (fun h hh => by rw [<- rowV_set1 hil]; rw [Int.toNat_natCast, Nat.zero_add] at hh; exact hh) ?_
   refine .x (.assign (.z ?_))
   refine .ret (?_)
   refine .openR (buf_opens (g := bw) (el := 5) (k := Z) (xs := bvs x2.r)) fun cur hcur => ?_
   simp only [List.cons_append, List.nil_append]
   refine .frzAdd (b := bw) (os := os) ?_
   refine .shutR (RS.opens s p (updT T i (some x2)) ((bw, .cells cur 5 (0, 0)) :: os) (N + (has j + 2) + 1)) ⟨.slice (some ⟨ab, 0, none⟩) p.ino cc, L.set i (L[i].1, .slice (some ⟨bw, 0, none⟩) Z Z), wk, mv, ms⟩ (hy.write hTi hil hk2 hxl2 hcur.1 hcur.2.1 (by unfold maxLen; omega)) ?_
   exact .ret1 (h1 := .tmp (t := 8) rfl) ⟨_, ⟨rfl, _, (fun e he => List.mem_cons_of_mem _ he), rfl⟩, Am.auto⟩
theorem agg244 : aggOk Tryz.prog 244 2 = true := by kernel_rfl
theorem RSP.set {p : Pl} {T : FT} {os : List (Nat × Obj)} {N i : Nat} {u mv : Value} {L : List (Nat × Value)} {wk : Nat} {ms : List Int} {x : NodeT} (hy : RSP p T os N ⟨u, L, wk, mv, ms⟩) (hi : i < L.length) (hx : x.r = []) : RSP p (updT T i (some x)) os N ⟨u, L.set i (x.kind, .slice none 0 0), wk, mv, ms⟩ := by
 refine ⟨by show (L.set i _).length = _; rw [List.length_set]; exact hy.len, fun j hj => ?_, hy.wk, hy.ml⟩
 have hj2 : j < L.length := by have : j < (L.set i (x.kind, Value.slice none 0 0)).length := hj; rwa [List.length_set] at this
 show RRow _ _ (updT T i (some x) j) (L.set i (x.kind, Value.slice none 0 0))[j]
 by_cases hji : i = j
 ·subst hji
  rw [updT_same, List.getElem_set_self]
  exact ⟨rfl, .inl ⟨rfl, hx⟩⟩
 ·rw [updT_other _ _ (fun h => hji h.symm), List.getElem_set_ne hji]
  exact hy.row j hj2
def NodeT.rok : NodeT -> Prop
 | .file _ => True
 | .dir sl => (DirOk sl /\ sl.length <= 1000) /\ ∀ (q : Nat) (nm : Bytes) (i : Nat), sl[q]? = some (some (nm, i)) -> i < 65536
theorem RT.upd {p : Pl} {T : FT} (h : RT p T) {i : Nat} (hi : i < p.ino) {x : NodeT} (hx : x.rok) : RT p (updT T i (some x)) := by
 refine ⟨h.ok.upd i fun sl he => ?_, fun d sl hd => ?_, fun j hj => ?_⟩
 ·injection he with he; subst he; exact hx.1
 ·by_cases hdi : d = i
  ·subst hdi; rw [updT_same] at hd; injection hd with hd; subst hd; exact hx.2
  ·rw [updT_other _ _ hdi] at hd; exact h.small d sl hd
 ·rw [updT_other _ _ (by omega)]; exact h.out j hj
theorem rdir_at {sl : List Slot} {q : Nat} {s : Slot} (h : q <= sl.length) {r : Nat} {nm : Bytes} {i : Nat} (hg : (setS sl q s)[r]? = some (some (nm, i))) : s = some (nm, i) ∨ sl[r]? = some (some (nm, i)) := by
 by_cases hr : r = q
 ·subst hr; rw [setS_same h] at hg; injection hg with hg; exact .inl hg
 ·rw [setS_other h hr] at hg; exact .inr hg
theorem rsMake {s : Nat} {p : Pl} {T : FT} {os : List (Nat × Obj)} {N : Nat} (hi0 : 1 <= p.ino) (hi1 : p.ino <= 4096) {i kind : Nat} {x : NodeT} (hk : kind = 1 ∨ kind = 2) (hi : i < p.ino) (hTi : T i = none) (hb : ∀ j < i, T j ≠ none) (hx : x.kind = kind) (hxr : x.r = []) (hN : N <= 1000) : Spec Tryz.prog 159 #[.pointer (some ⟨s, 0, none⟩), nI kind] [RS s p T os N] fun F v M => v = .tuple #[nI i, .int .i64 0] /\ M = RS s p (updT T i (some x)) os (N + 0 + 1) :: F := by
 refine Spec.intro Tryz.func159 rfl rfl fun B F => ?_
 simp only [Tryz.ntmps159, List.cons_append, List.nil_append, env0, Nat.reduceAdd]
 refine .openR (RS.opens s p T os N) fun y hy => ?_
 obtain ⟨u, L, wk, mv, ms⟩ := y
 simp only [rsLs, List.cons_append, List.nil_append]
 refine .fact (rowR_some (el := 244) (size := 2) (v := u) (k := p.ino) (xs := (L).flatMap rowV) (by omega)) (fun ⟨ab, cc, hu, hR, hc1, hc2⟩ => ?_)
 subst hu
 have hlen : (L).length = p.ino := (hy).len
 have hk3 : kind <= 2 := by omega
 by_cases hk1 : kind = 1
 ·refine .sr (.assign (.assign (.z (.seq (.sr (.move ?_))))))
  refine .nei ?_
  refine .move ?_
  refine .cast (d := 9) (u := .bool false) rfl (congrArg Value.bool (by first|simp;done|simp;omega|omega)) ?_
  refine .gF ?_
  refine .gF ?_
  refine .pickF ?_
  refine .z ?_
  refine .condF rfl rfl ?_
  refine .skip (.next (.seq (.sr (.assign (.z (.block ?_))))))
  refine .loopA (σ := Nat) (fun k => [(0, .pointer (some ⟨s, 0, none⟩)), (1, nI kind), (6, .int .i64 ((k : Nat) : Int))]) (fun _ => [pt s (sO p (.slice (some ⟨ab, 0, none⟩) p.ino cc) wk mv), rowR 244 2 (.slice (some ⟨ab, 0, none⟩) p.ino cc) p.ino (L.flatMap rowV), rowR 3 1 mv ms.length (ints ms)] ++ F) (fun k => k <= i) (fun k => i - k) 0 (Nat.zero_le _) ?_
  rintro k hkk
  refine .seq (.sr (.move (.move ?_)))
  refine .nilCheck ?_
  refine .fa ?_ fo247_1
  refine .ld ?_ sc245
  refine .lenS ?_ sl245
  refine .lss ?_
  refine .z ?_
  refine .cond rfl (fun hb2 => ?_) (fun hb2 => ?_)
  ·have hlt : k < p.ino := by have h : (k : Int) < (p.ino : Int) := of_decide_eq_true hb2; omega
   have hil : k < L.length := by omega
   have hrow := hy.row k hil
   obtain ⟨A1, c1, hs1, hr1, hl1, hm1⟩ := hrow.sl
   obtain ⟨e1, hek⟩ : ∃ e, L[k] = e := ⟨_, rfl⟩
   have hkd : e1.1 = refK (T k) := hek ▸ hrow.kd
   have hg0 : (L.flatMap rowV)[((k : Nat) : Int).toNat * 2 + 0]? = some (nI e1.1) := by rw [Int.toNat_natCast, <- hek]; exact (rowV_get hil).1
   have hg1 : (L.flatMap rowV)[((k : Nat) : Int).toNat * 2 + 1]? = some (.slice A1 (refBy (T k)).length c1) := by rw [Int.toNat_natCast, <- hs1]; exact (rowV_get hil).2
   rw [hkd] at hg0
   by_cases hki : k = i
   ·subst hki
    rw [hTi] at hg0
    refine .skip (.next (.seq (.block (.sr (.move ?_)))))
    refine .nilCheck ?_
    refine .fa ?_ fo247_1
    refine .ld ?_ sc245
    refine .move ?_
    refine .idx ?_ so245
    refine .fa ?_ fo244_0
    refine .ldR (R := rowR 244 2 (.slice (some ⟨ab, 0, none⟩) p.ino cc) p.ino (L.flatMap rowV)) ?_ sc3 hR hg0
    refine .eqi ?_
    refine .z ?_
    refine .condT rfl (congrArg Value.bool (by first | rfl | (simp; done) | (simp; omega) | omega)) ?_
    refine .sr (.move ?_)
    refine .nilCheck ?_
    refine .fa ?_ fo247_1
    refine .ld ?_ sc245
    refine .move (.move ?_)
    refine .build ?_ (bdFl _)
    refine .idx ?_ so245
    refine .stRowA (g := ab) (size := 2) (num := p.ino) (c := cc) (off := 0 + ((k : Nat) : Int).toNat * 2) (xs := L.flatMap rowV) (us := #[nI kind, .slice none 0 0]) rfl ?_ agg244 rfl (by simp) (by intro x hx; simp only [List.mem_cons, List.not_mem_nil, or_false] at hx; rcases hx with rfl | rfl <;> rfl) (by rw [rowV_length]; omega) (by repeat (first | exact .here | apply Rem.there | apply Repl.there | apply Mem.there))
    refine .to (A := rowR 244 2 (.slice (some ⟨ab, 0, none⟩) p.ino cc) p.ino ((L.flatMap rowV).take (0 + ((k : Nat) : Int).toNat * 2) ++ (#[nI kind, Value.slice none 0 0] : Array Value).toList ++ (L.flatMap rowV).drop (0 + ((k : Nat) : Int).toNat * 2 + (#[nI kind, Value.slice none 0 0] : Array Value).toList.length))) (A' := rowR 244 2 (.slice (some ⟨ab, 0, none⟩) p.ino cc) p.ino ((L.set k (x.kind, .slice none 0 0)).flatMap rowV)) (fun h hh => by rw [<- rowV_set hil, hx]; rw [Int.toNat_natCast, Nat.zero_add] at hh; exact hh) ?_
    refine .x ?_
    refine .shutR (RS.opens s p (updT T k (some x)) os N) ⟨.slice (some ⟨ab, 0, none⟩) p.ino cc, L.set k (x.kind, .slice none 0 0), wk, mv, ms⟩ (hy.set hil hxr) ?_
    refine .move (.move ?_)
    refine .call (hc := Tryz.call196) (sp := rsTouch (s := s) (p := p) (T := updT T k (some x)) (os := os) (N := N) hi0 hi1 (i := k) (n := 0) (by omega) (by omega)) (h := ?_)
    rintro _ _ ⟨rfl, rfl⟩
    refine .x (.move (.assign (.assign (.z ?_))))
    refine .ret (.blockRet (.thenRet (.thenRet (.blockRet (.thenRet (?_))))))
    exact .ret2 (h1 := .tmp (t := 4) rfl) (h2 := .tmp (t := 5) rfl) ⟨_, ⟨rfl, rfl⟩, Am.auto⟩
   ·obtain ⟨z, hz⟩ : ∃ z, T k = some z := by
     cases hTk : T k with
     | none => exact absurd hTk (hb k (by omega))
     | some z => exact ⟨z, rfl⟩
    rw [hz] at hg0
    have hkz : refK (some z) ≠ 0 := fun h => by cases (refK_zero.1 h)
    refine .skip (.next (.seq (.block (.sr (.move ?_)))))
    refine .nilCheck ?_
    refine .fa ?_ fo247_1
    refine .ld ?_ sc245
    refine .move ?_
    refine .idx ?_ so245
    refine .fa ?_ fo244_0
    refine .ldR (R := rowR 244 2 (.slice (some ⟨ab, 0, none⟩) p.ino cc) p.ino (L.flatMap rowV)) ?_ sc3 hR hg0
    refine .eqi ?_
    refine .z ?_
    refine .condF rfl (congrArg Value.bool (by first | (exact decide_eq_false (by omega)) | (simp; done) | (simp; omega) | omega)) ?_
    refine .skip (.blockNormal (.next (.region (.move ?_))))
    refine .add ?_
    refine .assign (.nil ?_)
    refine .cast (d := 6) (u := .int .i64 ((k + 1 : Nat) : Int)) rfl (congrArg (Value.int .i64) (by omega)) ?_
    exact .back (k + 1) (by show k + 1 <= i; omega) (by show i - (k + 1) < i - k; omega)
  ·have hge : ¬ k < p.ino := by have h : ¬ (k : Int) < (p.ino : Int) := of_decide_eq_false hb2; omega
   exact absurd (Nat.lt_of_le_of_lt hkk hi) hge
 ·have hk2 : kind = 2 := by omega
  refine .sr (.assign (.assign (.z (.seq (.sr (.move ?_))))))
  refine .nei ?_
  refine .move ?_
  refine .cast (d := 9) (u := .bool true) rfl (congrArg Value.bool (by first|simp;done|simp;omega|omega)) ?_
  refine .gT ?_
  refine .move ?_
  refine .gT ?_
  refine .nei ?_
  refine .pickT ?_
  refine .z ?_
  refine .condF rfl (congrArg Value.bool (by first|simp;done|simp;omega|omega)) ?_
  refine .skip (.next (.seq (.sr (.assign (.z (.block ?_))))))
  refine .loopA (σ := Nat) (fun k => [(0, .pointer (some ⟨s, 0, none⟩)), (1, nI kind), (6, .int .i64 ((k : Nat) : Int))]) (fun _ => [pt s (sO p (.slice (some ⟨ab, 0, none⟩) p.ino cc) wk mv), rowR 244 2 (.slice (some ⟨ab, 0, none⟩) p.ino cc) p.ino (L.flatMap rowV), rowR 3 1 mv ms.length (ints ms)] ++ F) (fun k => k <= i) (fun k => i - k) 0 (Nat.zero_le _) ?_
  rintro k hkk
  refine .seq (.sr (.move (.move ?_)))
  refine .nilCheck ?_
  refine .fa ?_ fo247_1
  refine .ld ?_ sc245
  refine .lenS ?_ sl245
  refine .lss ?_
  refine .z ?_
  refine .cond rfl (fun hb2 => ?_) (fun hb2 => ?_)
  ·have hlt : k < p.ino := by have h : (k : Int) < (p.ino : Int) := of_decide_eq_true hb2; omega
   have hil : k < L.length := by omega
   have hrow := hy.row k hil
   obtain ⟨A1, c1, hs1, hr1, hl1, hm1⟩ := hrow.sl
   obtain ⟨e1, hek⟩ : ∃ e, L[k] = e := ⟨_, rfl⟩
   have hkd : e1.1 = refK (T k) := hek ▸ hrow.kd
   have hg0 : (L.flatMap rowV)[((k : Nat) : Int).toNat * 2 + 0]? = some (nI e1.1) := by rw [Int.toNat_natCast, <- hek]; exact (rowV_get hil).1
   have hg1 : (L.flatMap rowV)[((k : Nat) : Int).toNat * 2 + 1]? = some (.slice A1 (refBy (T k)).length c1) := by rw [Int.toNat_natCast, <- hs1]; exact (rowV_get hil).2
   rw [hkd] at hg0
   by_cases hki : k = i
   ·subst hki
    rw [hTi] at hg0
    refine .skip (.next (.seq (.block (.sr (.move ?_)))))
    refine .nilCheck ?_
    refine .fa ?_ fo247_1
    refine .ld ?_ sc245
    refine .move ?_
    refine .idx ?_ so245
    refine .fa ?_ fo244_0
    refine .ldR (R := rowR 244 2 (.slice (some ⟨ab, 0, none⟩) p.ino cc) p.ino (L.flatMap rowV)) ?_ sc3 hR hg0
    refine .eqi ?_
    refine .z ?_
    refine .condT rfl (congrArg Value.bool (by first | rfl | (simp; done) | (simp; omega) | omega)) ?_
    refine .sr (.move ?_)
    refine .nilCheck ?_
    refine .fa ?_ fo247_1
    refine .ld ?_ sc245
    refine .move (.move ?_)
    refine .build ?_ (bdFl _)
    refine .idx ?_ so245
    refine .stRowA (g := ab) (size := 2) (num := p.ino) (c := cc) (off := 0 + ((k : Nat) : Int).toNat * 2) (xs := L.flatMap rowV) (us := #[nI kind, .slice none 0 0]) rfl ?_ agg244 rfl (by simp) (by intro x hx; simp only [List.mem_cons, List.not_mem_nil, or_false] at hx; rcases hx with rfl | rfl <;> rfl) (by rw [rowV_length]; omega) (by repeat (first | exact .here | apply Rem.there | apply Repl.there | apply Mem.there))
    refine .to (A := rowR 244 2 (.slice (some ⟨ab, 0, none⟩) p.ino cc) p.ino ((L.flatMap rowV).take (0 + ((k : Nat) : Int).toNat * 2) ++ (#[nI kind, Value.slice none 0 0] : Array Value).toList ++ (L.flatMap rowV).drop (0 + ((k : Nat) : Int).toNat * 2 + (#[nI kind, Value.slice none 0 0] : Array Value).toList.length))) (A' := rowR 244 2 (.slice (some ⟨ab, 0, none⟩) p.ino cc) p.ino ((L.set k (x.kind, .slice none 0 0)).flatMap rowV)) (fun h hh => by rw [<- rowV_set hil, hx]; rw [Int.toNat_natCast, Nat.zero_add] at hh; exact hh) ?_
    refine .x ?_
    refine .shutR (RS.opens s p (updT T k (some x)) os N) ⟨.slice (some ⟨ab, 0, none⟩) p.ino cc, L.set k (x.kind, .slice none 0 0), wk, mv, ms⟩ (hy.set hil hxr) ?_
    refine .move (.move ?_)
    refine .call (hc := Tryz.call196) (sp := rsTouch (s := s) (p := p) (T := updT T k (some x)) (os := os) (N := N) hi0 hi1 (i := k) (n := 0) (by omega) (by omega)) (h := ?_)
    rintro _ _ ⟨rfl, rfl⟩
    refine .x (.move (.assign (.assign (.z ?_))))
    refine .ret (.blockRet (.thenRet (.thenRet (.blockRet (.thenRet (?_))))))
    exact .ret2 (h1 := .tmp (t := 4) rfl) (h2 := .tmp (t := 5) rfl) ⟨_, ⟨rfl, rfl⟩, Am.auto⟩
   ·obtain ⟨z, hz⟩ : ∃ z, T k = some z := by
     cases hTk : T k with
     | none => exact absurd hTk (hb k (by omega))
     | some z => exact ⟨z, rfl⟩
    rw [hz] at hg0
    have hkz : refK (some z) ≠ 0 := fun h => by cases (refK_zero.1 h)
    refine .skip (.next (.seq (.block (.sr (.move ?_)))))
    refine .nilCheck ?_
    refine .fa ?_ fo247_1
    refine .ld ?_ sc245
    refine .move ?_
    refine .idx ?_ so245
    refine .fa ?_ fo244_0
    refine .ldR (R := rowR 244 2 (.slice (some ⟨ab, 0, none⟩) p.ino cc) p.ino (L.flatMap rowV)) ?_ sc3 hR hg0
    refine .eqi ?_
    refine .z ?_
    refine .condF rfl (congrArg Value.bool (by first | (exact decide_eq_false (by omega)) | (simp; done) | (simp; omega) | omega)) ?_
    refine .skip (.blockNormal (.next (.region (.move ?_))))
    refine .add ?_
    refine .assign (.nil ?_)
    refine .cast (d := 6) (u := .int .i64 ((k + 1 : Nat) : Int)) rfl (congrArg (Value.int .i64) (by omega)) ?_
    exact .back (k + 1) (by show k + 1 <= i; omega) (by show i - (k + 1) < i - k; omega)
  ·have hge : ¬ k < p.ino := by have h : ¬ (k : Int) < (p.ino : Int) := of_decide_eq_false hb2; omega
   exact absurd (Nat.lt_of_le_of_lt hkk hi) hge
theorem rsAdd {s : Nat} {p : Pl} {T : FT} {os : List (Nat × Obj)} {N : Nat} (hi0 : 1 <= p.ino) (hi1 : p.ino <= 4096) {d i : Nat} {nm : Bytes} {sl : List Slot} (hdc : p.dc <= 1000000) (hT : RT p T) (htot : tot (fmT T) p.ino <= p.dc) (hn : nameOk nm = true) (hTd : T d = some (.dir sl)) (hl : lookS nm sl = none) (hi : i < 65536) (hN : N <= 1000) (hfit : tot (fmT T) p.ino + has (max (64 * sl.length) (64 * freeS sl + 64)) <= p.dc + has (64 * sl.length)) : Spec Tryz.prog 160 #[.pointer (some ⟨s, 0, none⟩), nI d, sv nm, nI i] [RS s p T os N, frz os] fun F v M => v = .int .i64 0 /\ ∃ os2, (∀ e ∈ os, e ∈ os2) /\ M = RS s p (updT T d (some (.dir (setS sl (freeS sl) (some (nm, i)))))) os2 (N + (has 64 + 2) + 1) :: frz os2 :: F := by
 refine Spec.intro Tryz.func160 rfl rfl fun B F => ?_
 simp only [Tryz.ntmps160, List.cons_append, List.nil_append, env0, Nat.reduceAdd]
 have hnl := (nameOk_len hn).2
 have hne : nm ≠ [] := fun h0 => by subst h0; exact absurd hn (by decide)
 have hb0 : beginT T d nm = 0 := by unfold beginT; rw [if_pos hn]; simp only [hTd]
 have hf1 : findSlV nm sl = -1 := by unfold findSlV; rw [findSl_look hne, hl]; rfl
 have hdo := hT.ok d sl hTd
 have hfr := freeS_find hdo.1
 have hfl := freeS_le sl
 have hrl := rdirB_length sl
 have hid : d < p.ino := in_ino hT hTd
 have hln := hdo.2
 obtain ⟨q, hq⟩ : ∃ q, freeS sl = q := ⟨_, rfl⟩
 rw [hq] at hfr hfl hfit ⊢
 cases hfs : findSl [] sl with
 | none =>
  have hfv : findSlV [] sl = -1 := by unfold findSlV; rw [hfs]
  have hqr : q = sl.length := by rw [hfr, hfs]; rfl
  refine .sr (.assign (.x (.move (.move (.move ?_)))))
  refine .call (hc := Tryz.call237) (sp := rsBeginN (s := s) (p := p) (T := T) (os := os) (N := N) hi0 hi1 (d := d) (nm := nm) hT (by omega)) (h := ?_)
  rintro _ _ ⟨rfl, rfl⟩
  rw [hb0]
  refine .assign (.z (.seq (.sr (.move ?_))))
  refine .nei ?_
  refine .z ?_
  refine .condF rfl (congrArg Value.bool (by first|simp;done|simp;omega|omega)) ?_
  refine .skip (.next (.seq (.sr (.move (.move (.move ?_))))))
  refine .call (hc := Tryz.call238) (sp := rsFindSl (s := s) (p := p) (T := T) (os := os) (N := N) hi0 hi1 (d := d) (nm := nm) (sl := sl) hT hTd) (h := ?_)
  rintro _ _ ⟨rfl, rfl⟩
  rw [hf1]
  refine .geq ?_
  refine .z ?_
  refine .condF rfl (congrArg Value.bool (by first|simp;done|simp;omega|omega)) ?_
  refine .skip (.next (.sr (.move (.move ?_))))
  refine .call (hc := Tryz.call238) (sp := rsFindSl (s := s) (p := p) (T := T) (os := os) (N := N) hi0 hi1 (d := d) (nm := []) (sl := sl) hT hTd) (h := ?_)
  rintro _ _ ⟨rfl, rfl⟩
  rw [hfv]
  refine .assign (.z (.seq (.sr (.move ?_))))
  refine .lss ?_
  refine .z ?_
  refine .condT rfl (congrArg Value.bool (by first|simp;done|simp;omega|omega)) ?_
  refine .region ?_
  refine .openR (RS.opens s p T os N) fun y hy => ?_
  obtain ⟨u, L, wk, mv, ms⟩ := y
  simp only [rsLs, List.cons_append, List.nil_append]
  refine .fact (rowR_some (el := 244) (size := 2) (v := u) (k := p.ino) (xs := (L).flatMap rowV) (by omega)) (fun ⟨ab, cc, hu, hR, hc1, hc2⟩ => ?_)
  subst hu
  have hlen : (L).length = p.ino := (hy).len
  have hil : d < L.length := by omega
  have hrow := hy.row d hil
  obtain ⟨A1, c1, hs1, hr1, hl1, hm1⟩ := hrow.sl
  obtain ⟨e1, hek⟩ : ∃ e, L[d] = e := ⟨_, rfl⟩
  have hkd : e1.1 = refK (T d) := hek ▸ hrow.kd
  have hg0 : (L.flatMap rowV)[((d : Nat) : Int).toNat * 2 + 0]? = some (nI e1.1) := by rw [Int.toNat_natCast, <- hek]; exact (rowV_get hil).1
  have hg1 : (L.flatMap rowV)[((d : Nat) : Int).toNat * 2 + 1]? = some (.slice A1 (refBy (T d)).length c1) := by rw [Int.toNat_natCast, <- hs1]; exact (rowV_get hil).2
  rw [hkd] at hg0
  rw [refBy_dir hTd] at hg1 hr1 hl1
  refine .move ?_
  refine .nilCheck ?_
  refine .fa ?_ fo247_1
  refine .ld ?_ sc245
  refine .move ?_
  refine .idx ?_ so245
  refine .fa ?_ fo244_1
  refine .ldR (R := rowR 244 2 (.slice (some ⟨ab, 0, none⟩) p.ino cc) p.ino (L.flatMap rowV)) ?_ sc33 hR hg1
  refine .lenS ?_ sl33
  refine .quo ?_
  refine .cast (d := 37) (u := nI q) rfl (congrArg (Value.int .i64) (by omega)) ?_
  refine .assign (.x ?_)
  refine .shutR (RS.opens s p T os N) ⟨.slice (some ⟨ab, 0, none⟩) p.ino cc, L, wk, mv, ms⟩ hy ?_
  refine .move (.move (.move ?_))
  refine .mul ?_
  refine .cast (d := 41) (u := nI (64 * q)) rfl (congrArg (Value.int .i64) (by omega)) ?_
  refine .move (.move ?_)
  refine .call (hc := Tryz.call239) (sp := rfSlot (nm := nm) (i := i) hnl hi) (h := ?_)
  rintro _ _ ⟨bb, rfl, rfl⟩
  refine .call (hc := Tryz.call121) (sp := rsWrite (s := s) (p := p) (T := T) (os := os) (N := N) hi0 hi1 (i := d) (at' := 64 * q) (m := 64) (c := 64) (R := buf bb 5 64 (bvs (rslotB (some (nm, i))))) (A := some ⟨bb, 0, none⟩) (bs := rslotB (some (nm, i))) (x := .dir sl) (x2 := .dir (setS sl q (some (nm, i)))) hdc hT htot hTd (by show 64 * sl.length <= _; omega) (.inr Reads.buf) (rslotB_length _) (Nat.le_refl _) (by decide) (by show 64 * q <= 64 * sl.length; omega) (by decide) (by show max (64 * sl.length) (64 * q + 64) <= _; omega) hN hfit (rsetS_wr hfl _).symm rfl) (h := ?_)
  rintro _ _ ⟨rfl, os2, hsub, rfl⟩
  refine .assign (.z ?_)
  refine .ret (?_)
  exact .ret1 (h1 := .tmp (t := 8) rfl) ⟨_, ⟨rfl, os2, hsub, rfl⟩, Am.auto⟩
 | some r =>
  have hfv : findSlV [] sl = (r : Int) := by unfold findSlV; rw [hfs]
  have hqr : q = r := by rw [hfr, hfs]; rfl
  subst hqr
  refine .sr (.assign (.x (.move (.move (.move ?_)))))
  refine .call (hc := Tryz.call237) (sp := rsBeginN (s := s) (p := p) (T := T) (os := os) (N := N) hi0 hi1 (d := d) (nm := nm) hT (by omega)) (h := ?_)
  rintro _ _ ⟨rfl, rfl⟩
  rw [hb0]
  refine .assign (.z (.seq (.sr (.move ?_))))
  refine .nei ?_
  refine .z ?_
  refine .condF rfl (congrArg Value.bool (by first|simp;done|simp;omega|omega)) ?_
  refine .skip (.next (.seq (.sr (.move (.move (.move ?_))))))
  refine .call (hc := Tryz.call238) (sp := rsFindSl (s := s) (p := p) (T := T) (os := os) (N := N) hi0 hi1 (d := d) (nm := nm) (sl := sl) hT hTd) (h := ?_)
  rintro _ _ ⟨rfl, rfl⟩
  rw [hf1]
  refine .geq ?_
  refine .z ?_
  refine .condF rfl (congrArg Value.bool (by first|simp;done|simp;omega|omega)) ?_
  refine .skip (.next (.sr (.move (.move ?_))))
  refine .call (hc := Tryz.call238) (sp := rsFindSl (s := s) (p := p) (T := T) (os := os) (N := N) hi0 hi1 (d := d) (nm := []) (sl := sl) hT hTd) (h := ?_)
  rintro _ _ ⟨rfl, rfl⟩
  rw [hfv]
  refine .assign (.z (.seq (.sr (.move ?_))))
  refine .lss ?_
  refine .z ?_
  refine .condF rfl (congrArg Value.bool (by first|simp;done|simp;omega|omega)) ?_
  refine .skip (.next (.sr (.move (.move (.move ?_)))))
  refine .mul ?_
  refine .cast (d := 41) (u := nI (64 * q)) rfl (congrArg (Value.int .i64) (by omega)) ?_
  refine .move (.move ?_)
  refine .call (hc := Tryz.call239) (sp := rfSlot (nm := nm) (i := i) hnl hi) (h := ?_)
  rintro _ _ ⟨bb, rfl, rfl⟩
  refine .call (hc := Tryz.call121) (sp := rsWrite (s := s) (p := p) (T := T) (os := os) (N := N) hi0 hi1 (i := d) (at' := 64 * q) (m := 64) (c := 64) (R := buf bb 5 64 (bvs (rslotB (some (nm, i))))) (A := some ⟨bb, 0, none⟩) (bs := rslotB (some (nm, i))) (x := .dir sl) (x2 := .dir (setS sl q (some (nm, i)))) hdc hT htot hTd (by show 64 * sl.length <= _; omega) (.inr Reads.buf) (rslotB_length _) (Nat.le_refl _) (by decide) (by show 64 * q <= 64 * sl.length; omega) (by decide) (by show max (64 * sl.length) (64 * q + 64) <= _; omega) hN hfit (rsetS_wr hfl _).symm rfl) (h := ?_)
  rintro _ _ ⟨rfl, os2, hsub, rfl⟩
  refine .assign (.z ?_)
  refine .ret (?_)
  exact .ret1 (h1 := .tmp (t := 8) rfl) ⟨_, ⟨rfl, os2, hsub, rfl⟩, Am.auto⟩
theorem rsBegin0 {s : Nat} {p : Pl} {T : FT} {os : List (Nat × Obj)} {N : Nat} (hi0 : 1 <= p.ino) (hi1 : p.ino <= 4096) : Spec Tryz.prog 193 #[.pointer (some ⟨s, 0, none⟩)] [RS s p T os N] fun F v M => v = .tuple #[] /\ M = RS s p T os 0 :: F := by
 refine Spec.intro Tryz.func193 rfl rfl fun B F => ?_
 simp only [Tryz.ntmps193, List.cons_append, List.nil_append, env0, Nat.reduceAdd]
 refine .openR (RS.opens s p T os N) fun y hy => ?_
 obtain ⟨u, L, wk, mv, ms⟩ := y
 simp only [rsLs, List.cons_append, List.nil_append]
 refine .fact (rowR_some (el := 244) (size := 2) (v := u) (k := p.ino) (xs := (L).flatMap rowV) (by omega)) (fun ⟨ab, cc, hu, hR, hc1, hc2⟩ => ?_)
 subst hu
 have hlen : (L).length = p.ino := (hy).len
 refine .emp (rowR.nil (e := 3) (size := 1) _) ?_
 refine .sr (.move ?_)
 refine .nilCheck ?_
 refine .fa ?_ fo247_2
 refine .st ?_ sc3
 refine .y (.move ?_)
 refine .nilCheck ?_
 refine .fa ?_ fo247_3
 refine .st ?_ sc80
 refine .nil ?_
 refine .shutR (RS.opens s p T os 0) ⟨.slice (some ⟨ab, 0, none⟩) p.ino cc, L, 0, .slice none 0 0, []⟩ ⟨hy.len, hy.row, Nat.le_refl _, Nat.le_refl _⟩ ?_
 exact .ret0 ⟨_, ⟨rfl, rfl⟩, Am.auto⟩
theorem z244 : zeroOf Tryz.prog 244 = some (#[.int .i64 0, .slice none 0 0]) := by kernel_rfl
theorem bsFl0 : BuildSOk Tryz.prog 245 0 [] 244 #[] := fun w => by kernel_rfl
theorem bsI0 : BuildSOk Tryz.prog 80 0 [] 3 #[] := fun w => by kernel_rfl
theorem bdSto3 (a b c d e f h : Int) (A A2 : Option Addr) (k cc k2 c2 : Nat) (wk : Int) : BuildOk Tryz.prog 247 [(0, .agg #[.int .i64 a, .int .i64 b, .int .i64 c, .int .i64 d, .int .i64 e, .int .i64 f, .int .i64 h]), (1, .slice A k cc), (2, .int .i64 wk), (3, .slice A2 k2 c2)] #[.int .i64 a, .int .i64 b, .int .i64 c, .int .i64 d, .int .i64 e, .int .i64 f, .int .i64 h, .slice A k cc, .int .i64 wk, .slice A2 k2 c2] := fun w => by kernel_rfl
theorem bdSto2 (a b c d e f h : Int) (A : Option Addr) (k cc : Nat) : BuildOk Tryz.prog 247 [(0, .agg #[.int .i64 a, .int .i64 b, .int .i64 c, .int .i64 d, .int .i64 e, .int .i64 f, .int .i64 h]), (1, .slice A k cc)] #[.int .i64 a, .int .i64 b, .int .i64 c, .int .i64 d, .int .i64 e, .int .i64 f, .int .i64 h, .slice A k cc, .int .i64 0, .slice none 0 0] := fun w => by kernel_rfl
theorem rowR_empty {g el size : Nat} : ∀ h, pt g (.cells #[] el (0, 0)) h -> rowR el size (.slice (some ⟨g, 0, none⟩) 0 0) 0 [] h := by
 intro h hh
 unfold pt at hh
 unfold rowR
 exact ⟨by simp, .inr ⟨g, 0, #[], rfl, hh, Nat.le_refl _, Nat.zero_le _, by simp, by simp⟩⟩
theorem rowR_row {g el size k : Nat} {xs : List Value} (hl : xs.length = k * size) (hk : k <= maxLen) : ∀ h, row g el xs h -> rowR el size (.slice (some ⟨g, 0, none⟩) k k) k xs h := by
 intro h hh
 unfold row pt at hh
 unfold rowR
 exact ⟨hl, .inr ⟨g, k, xs.toArray, rfl, hh, Nat.le_refl _, hk, by simp [hl], by rw [<- hl]; simp⟩⟩
theorem rowV_single {p : Pl} {T : FT} {os : List (Nat × Obj)} {N : Nat} {y : RsY} (hy : RSP p T os N y) : ∀ u ∈ y.L.flatMap rowV, Value.single u = true := by
 intro u hu
 obtain ⟨e, he, hu⟩ := List.mem_flatMap.1 hu
 obtain ⟨i, hi, rfl⟩ := List.mem_iff_getElem.1 he
 simp only [rowV, List.mem_cons, List.not_mem_nil, or_false] at hu
 rcases hu with rfl | rfl
 ·rfl
 ·rcases (hy.row i hi).by' with ⟨h, _⟩ | ⟨_, _, _, _, h, _⟩ <;> rw [h] <;> rfl
theorem ints_single (ms : List Int) : ∀ u ∈ ints ms, Value.single u = true := by
 intro u hu
 unfold ints at hu
 obtain ⟨x, _, rfl⟩ := List.mem_map.1 hu
 rfl
def rootL (n : Nat) : List (Nat × Value) := (2, .slice none 0 0) :: List.replicate (n - 1) (0, .slice none 0 0)
theorem getEl_of {α : Type} {l : List α} {i : Nat} {x : α} (h : i < l.length) (h2 : l[i]? = some x) : l[i] = x := by rw [List.getElem?_eq_getElem h] at h2; injection h2
theorem zeroL_rows : ∀ k : Nat, (List.replicate k [Value.int .i64 0, Value.slice none 0 0]).flatten = (List.replicate k ((0 : Nat), Value.slice none 0 0)).flatMap rowV
 | 0 => rfl
 | k + 1 => by rw [List.replicate_succ, List.flatten_cons, List.replicate_succ, List.flatMap_cons, zeroL_rows k]; rfl
theorem rootL_rows {n : Nat} (h : 1 <= n) : ((List.replicate n [Value.int .i64 0, Value.slice none 0 0]).flatten).set 0 (.int .i64 2) = (rootL n).flatMap rowV := by
 obtain ⟨k, rfl⟩ : ∃ k, n = k + 1 := ⟨n - 1, by omega⟩
 unfold rootL
 rw [List.replicate_succ, List.flatten_cons, List.flatMap_cons, Nat.add_sub_cancel, zeroL_rows]
 rfl
theorem rootL_ok (p : Pl) (h : 1 <= p.ino) (u : Value) : RSP p rootT [] 0 ⟨u, rootL p.ino, 0, .slice none 0 0, []⟩ := by
 have hl : (rootL p.ino).length = p.ino := by unfold rootL; rw [List.length_cons, List.length_replicate]; omega
 refine ⟨hl, fun i hi => ?_, Nat.le_refl _, Nat.le_refl _⟩
 have hi2 : i < (rootL p.ino).length := hi
 show RRow _ _ (rootT i) (rootL p.ino)[i]
 cases i with
 | zero => exact ⟨rfl, .inl ⟨rfl, rfl⟩⟩
 | succ i =>
  have : (rootL p.ino)[i + 1] = (0, .slice none 0 0) := getEl_of hi2 (by
   unfold rootL
   rw [List.getElem?_cons_succ, List.getElem?_replicate, if_pos (by omega)])
  rw [this, show rootT (i + 1) = none from if_neg (by omega)]
  exact ⟨rfl, .inl ⟨rfl, rfl⟩⟩
theorem rootRT {p : Pl} (h : 1 <= p.ino) : RT p rootT := by
 refine ⟨rootT_ok, fun d sl hd q nm i hq => ?_, fun i hi => if_neg (by omega)⟩
 unfold rootT at hd
 split at hd
 ·injection hd with hd; injection hd with hd; subst hd; cases hq
 ·cases hd
theorem flat_pos' {k : Nat} (h : 1 <= k) : 0 < ((List.replicate k [Value.int .i64 0, .slice none 0 0]).flatten).length := by
 obtain ⟨j, rfl⟩ : ∃ j, k = j + 1 := ⟨k - 1, by omega⟩
 rw [List.replicate_succ, List.flatten_cons, List.length_append]
 exact Nat.lt_of_lt_of_le (by decide : 0 < [Value.int .i64 0, Value.slice none 0 0].length) (Nat.le_add_right _ _)
theorem rsCopy {s : Nat} {p : Pl} {T : FT} {os : List (Nat × Obj)} {N : Nat} (hi0 : 1 <= p.ino) (hi1 : p.ino <= 4096) (hNN : N <= 1000000) : Spec Tryz.prog 194 #[.pointer (some ⟨s, 0, none⟩)] [RS s p T os N] fun F v M => ∃ s2, v = .pointer (some ⟨s2, 0, none⟩) /\ M = RS s p T os N :: RS s2 p T os N :: F := by
 refine Spec.intro Tryz.func194 rfl rfl fun B F => ?_
 simp only [Tryz.ntmps194, List.cons_append, List.nil_append, env0, Nat.reduceAdd]
 refine .openR (RS.opens s p T os N) fun y hy => ?_
 obtain ⟨u, L, wk, mv, ms⟩ := y
 simp only [rsLs, List.cons_append, List.nil_append]
 refine .fact (rowR_some (el := 244) (size := 2) (v := u) (k := p.ino) (xs := (L).flatMap rowV) (by omega)) (fun ⟨ab, cc, hu, hR, hc1, hc2⟩ => ?_)
 subst hu
 have hlen : (L).length = p.ino := (hy).len
 refine .fact (rowR_shape (el := 3) (size := 1) (v := mv) (k := ms.length) (xs := ints ms)) (fun ⟨A2, c2, hmv, hR2, hk2, hc3, hl2⟩ => ?_)
 subst hmv
 have hsg := rowV_single hy
 have hlV := rowV_length L
 refine .sr (.assign (.z (.seq ?_)))
 have hNb : N <= 1000000 := hNN
 have hmsl : ms.length <= N := hy.ml
 refine .dr ([pt s (sO p (.slice (some ⟨ab, 0, none⟩) p.ino cc) wk (.slice A2 ms.length c2))]) [] 23 mixed .autoJ ?_
 refine .tk 0 rfl .move ?_
 refine .tk 1 rfl .nilCheck ?_
 refine .tk 2 rfl (.fa fo247_0) ?_
 refine .tk 3 rfl (Qt.ldP (us := #[nI p.n, nI p.ino, nI p.im, nI p.bm, nI p.tb, nI p.da, nI p.dc]) agg199 rfl rfl) ?_
 refine .tk 5 rfl .move ?_
 refine .tk 6 rfl .nilCheck ?_
 refine .tk 7 rfl (.fa fo247_1) ?_
 refine .tk 8 rfl (.ld sc245) ?_
 refine .tk 10 rfl .move ?_
 refine .tk 11 rfl .nilCheck ?_
 refine .tk 12 rfl (.fa fo247_2) ?_
 refine .tk 13 rfl (.ld sc3) ?_
 refine .tk 15 rfl .move ?_
 refine .tk 16 rfl .nilCheck ?_
 refine .tk 17 rfl (.fa fo247_3) ?_
 refine .tk 18 rfl (.ld sc80) ?_
 refine .tw 4 14 rfl rfl (fun hnp => ?_) (fun hnp => ?_)
 ·refine .buildS (fun b7 => ?_) bsFl0
  refine .nil (.wa hnp ?_)
  refine .tw 9 14 rfl rfl (fun hnp => ?_) (fun hnp => ?_)
  ·refine .to (A := pt b7 (.cells #[] 244 (0, 0))) (A' := rowR 244 2 (.slice (some ⟨b7, 0, none⟩) 0 0) 0 []) rowR_empty ?_
   refine .append (m := p.ino) (news := L.flatMap rowV) so245 (by decide) (by repeat (first | exact .here | apply Rem.there | apply Repl.there | apply Mem.there)) hR (by repeat (first | exact .here | apply Rem.there | apply Repl.there | apply Mem.there)) (by rw [hlV, hlen]) hsg (by show 0 + p.ino <= maxLen; unfold maxLen; omega) (by show (0 + p.ino) * _ <= 140737488355328; omega) ⟨_, z244, rfl⟩ (fun vB hvB => ?_)
   refine .to (A := rowR 244 2 vB (0 + p.ino) ([] ++ L.flatMap rowV)) (A' := rowR 244 2 vB p.ino (L.flatMap rowV)) (fun h hh => by rw [Nat.zero_add, List.nil_append] at hh; exact hh) ?_
   refine .fact (rowR_shape (el := 244) (size := 2) (v := vB) (k := p.ino) (xs := L.flatMap rowV)) (fun ⟨A6, c6, hv6, hR6, hk6, hc6, hl6⟩ => ?_)
   subst hv6
   refine .nil (.wa hnp ?_)
   refine .on 14 rfl fun hnp => ?_
   refine .buildS (fun b17 => ?_) bsI0
   refine .nil (.wa hnp ?_)
   refine .on 19 rfl fun hnp => ?_
   refine .to (A := pt b17 (.cells #[] 3 (0, 0))) (A' := rowR 3 1 (.slice (some ⟨b17, 0, none⟩) 0 0) 0 []) rowR_empty ?_
   refine .appendAny (m := ms.length) (A := A2) (news := ints ms) so80 (by decide) (by repeat (first | exact .here | apply Rem.there | apply Repl.there | apply Mem.there)) hR2 (by repeat (first | exact .here | apply Rem.there | apply Repl.there | apply Mem.there)) (by rw [Nat.mul_one]; unfold ints; rw [List.length_map]) (ints_single ms) (by show 0 + ms.length <= maxLen; omega) (by show (0 + ms.length) * _ <= 140737488355328; omega) ⟨_, z3, rfl⟩ (fun vC hvC => ?_)
   refine .to (A := rowR 3 1 vC (0 + ms.length) ([] ++ ints ms)) (A' := rowR 3 1 vC ms.length (ints ms)) (fun h hh => by rw [Nat.zero_add, List.nil_append] at hh; exact hh) ?_
   refine .fact (rowR_shape (el := 3) (size := 1) (v := vC) (k := ms.length) (xs := ints ms)) (fun ⟨A7, c7, hv7, hR7, hk7, hc7, hl7⟩ => ?_)
   subst hv7
   refine .nil (.wa hnp ?_)
   refine .tk 20 rfl (.build (bdSto3 _ _ _ _ _ _ _ _ _ _ _ _ _ _)) ?_
   refine .on 21 rfl fun hnp => ?_
   refine .box fun b24 => ?_
   refine .nil (.wa hnp ?_)
   refine .tk 22 rfl .assign ?_
   refine .fin ?_
   refine .next ?_
   refine .ret (?_)
   refine .shutR (RS.opens s p T os N) ⟨.slice (some ⟨ab, 0, none⟩) p.ino cc, L, wk, .slice A2 ms.length c2, ms⟩ hy ?_
   refine .shutR (RS.opens b24 p T os N) ⟨.slice A6 p.ino c6, L, wk, .slice A7 ms.length c7, ms⟩ ⟨hy.len, hy.row, hy.wk, hy.ml⟩ ?_
   exact .ret1 (h1 := .tmp (t := 2) rfl) ⟨_, ⟨b24, rfl, rfl⟩, Am.auto⟩
  ·refine .buildS (fun b17 => ?_) bsI0
   refine .nil (.wa hnp ?_)
   refine .on 9 rfl fun hnp => ?_
   refine .to (A := pt b7 (.cells #[] 244 (0, 0))) (A' := rowR 244 2 (.slice (some ⟨b7, 0, none⟩) 0 0) 0 []) rowR_empty ?_
   refine .append (m := p.ino) (news := L.flatMap rowV) so245 (by decide) (by repeat (first | exact .here | apply Rem.there | apply Repl.there | apply Mem.there)) hR (by repeat (first | exact .here | apply Rem.there | apply Repl.there | apply Mem.there)) (by rw [hlV, hlen]) hsg (by show 0 + p.ino <= maxLen; unfold maxLen; omega) (by show (0 + p.ino) * _ <= 140737488355328; omega) ⟨_, z244, rfl⟩ (fun vB hvB => ?_)
   refine .to (A := rowR 244 2 vB (0 + p.ino) ([] ++ L.flatMap rowV)) (A' := rowR 244 2 vB p.ino (L.flatMap rowV)) (fun h hh => by rw [Nat.zero_add, List.nil_append] at hh; exact hh) ?_
   refine .fact (rowR_shape (el := 244) (size := 2) (v := vB) (k := p.ino) (xs := L.flatMap rowV)) (fun ⟨A6, c6, hv6, hR6, hk6, hc6, hl6⟩ => ?_)
   subst hv6
   refine .nil (.wa hnp ?_)
   refine .on 19 rfl fun hnp => ?_
   refine .to (A := pt b17 (.cells #[] 3 (0, 0))) (A' := rowR 3 1 (.slice (some ⟨b17, 0, none⟩) 0 0) 0 []) rowR_empty ?_
   refine .appendAny (m := ms.length) (A := A2) (news := ints ms) so80 (by decide) (by repeat (first | exact .here | apply Rem.there | apply Repl.there | apply Mem.there)) hR2 (by repeat (first | exact .here | apply Rem.there | apply Repl.there | apply Mem.there)) (by rw [Nat.mul_one]; unfold ints; rw [List.length_map]) (ints_single ms) (by show 0 + ms.length <= maxLen; omega) (by show (0 + ms.length) * _ <= 140737488355328; omega) ⟨_, z3, rfl⟩ (fun vC hvC => ?_)
   refine .to (A := rowR 3 1 vC (0 + ms.length) ([] ++ ints ms)) (A' := rowR 3 1 vC ms.length (ints ms)) (fun h hh => by rw [Nat.zero_add, List.nil_append] at hh; exact hh) ?_
   refine .fact (rowR_shape (el := 3) (size := 1) (v := vC) (k := ms.length) (xs := ints ms)) (fun ⟨A7, c7, hv7, hR7, hk7, hc7, hl7⟩ => ?_)
   subst hv7
   refine .nil (.wa hnp ?_)
   refine .tk 20 rfl (.build (bdSto3 _ _ _ _ _ _ _ _ _ _ _ _ _ _)) ?_
   refine .on 21 rfl fun hnp => ?_
   refine .box fun b24 => ?_
   refine .nil (.wa hnp ?_)
   refine .tk 22 rfl .assign ?_
   refine .fin ?_
   refine .next ?_
   refine .ret (?_)
   refine .shutR (RS.opens s p T os N) ⟨.slice (some ⟨ab, 0, none⟩) p.ino cc, L, wk, .slice A2 ms.length c2, ms⟩ hy ?_
   refine .shutR (RS.opens b24 p T os N) ⟨.slice A6 p.ino c6, L, wk, .slice A7 ms.length c7, ms⟩ ⟨hy.len, hy.row, hy.wk, hy.ml⟩ ?_
   exact .ret1 (h1 := .tmp (t := 2) rfl) ⟨_, ⟨b24, rfl, rfl⟩, Am.auto⟩
 ·refine .buildS (fun b17 => ?_) bsI0
  refine .nil (.wa hnp ?_)
  refine .on 4 rfl fun hnp => ?_
  refine .buildS (fun b7 => ?_) bsFl0
  refine .nil (.wa hnp ?_)
  refine .on 9 rfl fun hnp => ?_
  refine .to (A := pt b7 (.cells #[] 244 (0, 0))) (A' := rowR 244 2 (.slice (some ⟨b7, 0, none⟩) 0 0) 0 []) rowR_empty ?_
  refine .append (m := p.ino) (news := L.flatMap rowV) so245 (by decide) (by repeat (first | exact .here | apply Rem.there | apply Repl.there | apply Mem.there)) hR (by repeat (first | exact .here | apply Rem.there | apply Repl.there | apply Mem.there)) (by rw [hlV, hlen]) hsg (by show 0 + p.ino <= maxLen; unfold maxLen; omega) (by show (0 + p.ino) * _ <= 140737488355328; omega) ⟨_, z244, rfl⟩ (fun vB hvB => ?_)
  refine .to (A := rowR 244 2 vB (0 + p.ino) ([] ++ L.flatMap rowV)) (A' := rowR 244 2 vB p.ino (L.flatMap rowV)) (fun h hh => by rw [Nat.zero_add, List.nil_append] at hh; exact hh) ?_
  refine .fact (rowR_shape (el := 244) (size := 2) (v := vB) (k := p.ino) (xs := L.flatMap rowV)) (fun ⟨A6, c6, hv6, hR6, hk6, hc6, hl6⟩ => ?_)
  subst hv6
  refine .nil (.wa hnp ?_)
  refine .on 19 rfl fun hnp => ?_
  refine .to (A := pt b17 (.cells #[] 3 (0, 0))) (A' := rowR 3 1 (.slice (some ⟨b17, 0, none⟩) 0 0) 0 []) rowR_empty ?_
  refine .appendAny (m := ms.length) (A := A2) (news := ints ms) so80 (by decide) (by repeat (first | exact .here | apply Rem.there | apply Repl.there | apply Mem.there)) hR2 (by repeat (first | exact .here | apply Rem.there | apply Repl.there | apply Mem.there)) (by rw [Nat.mul_one]; unfold ints; rw [List.length_map]) (ints_single ms) (by show 0 + ms.length <= maxLen; omega) (by show (0 + ms.length) * _ <= 140737488355328; omega) ⟨_, z3, rfl⟩ (fun vC hvC => ?_)
  refine .to (A := rowR 3 1 vC (0 + ms.length) ([] ++ ints ms)) (A' := rowR 3 1 vC ms.length (ints ms)) (fun h hh => by rw [Nat.zero_add, List.nil_append] at hh; exact hh) ?_
  refine .fact (rowR_shape (el := 3) (size := 1) (v := vC) (k := ms.length) (xs := ints ms)) (fun ⟨A7, c7, hv7, hR7, hk7, hc7, hl7⟩ => ?_)
  subst hv7
  refine .nil (.wa hnp ?_)
  refine .tk 20 rfl (.build (bdSto3 _ _ _ _ _ _ _ _ _ _ _ _ _ _)) ?_
  refine .on 21 rfl fun hnp => ?_
  refine .box fun b24 => ?_
  refine .nil (.wa hnp ?_)
  refine .tk 22 rfl .assign ?_
  refine .fin ?_
  refine .next ?_
  refine .ret (?_)
  refine .shutR (RS.opens s p T os N) ⟨.slice (some ⟨ab, 0, none⟩) p.ino cc, L, wk, .slice A2 ms.length c2, ms⟩ hy ?_
  refine .shutR (RS.opens b24 p T os N) ⟨.slice A6 p.ino c6, L, wk, .slice A7 ms.length c7, ms⟩ ⟨hy.len, hy.row, hy.wk, hy.ml⟩ ?_
  exact .ret1 (h1 := .tmp (t := 2) rfl) ⟨_, ⟨b24, rfl, rfl⟩, Am.auto⟩
theorem rsNew {p : Pl} (h1 : 1 <= p.ino) (h2 : p.ino <= 4096) : Spec Tryz.prog 117 #[.agg p.cells] [] fun F v M => ∃ s, v = .pointer (some ⟨s, 0, none⟩) /\ M = RS s p rootT [] 0 :: F := by
 refine Spec.intro Tryz.func117 rfl rfl fun B F => ?_
 simp only [Tryz.ntmps117, List.cons_append, List.nil_append, env0, Nat.reduceAdd]
 refine .sr ?_
 refine .box fun b1 => ?_
 refine .to (A := pt b1 (.cells p.cells 199 (0, 0))) (A' := pt b1 (.cells p.cells 199 (0, 0))) (fun h hh => hh) ?_
 refine .assign (.z (.seq ?_))
 refine .dr ([pt b1 (.cells p.cells 199 (0, 0))]) [] 7 mixed .autoJ ?_
 refine .tk 0 rfl (.ldA agg199) ?_
 refine .tk 1 rfl (.fa fo199_1) ?_
 refine .tk 2 rfl (.ld sc3) ?_
 refine .on 3 rfl fun hnp => ?_
 refine .mkSt (k := p.ino) (zs := [.int .i64 0, .slice none 0 0]) z244 rfl (by decide) (fun b7 => ?_) so245 (by omega) (by omega)
 refine .nil (.wa hnp ?_)
 refine .tk 4 rfl (.build (bdSto2 _ _ _ _ _ _ _ _ _ _)) ?_
 refine .on 5 rfl fun hnp => ?_
 refine .box fun b9 => ?_
 refine .nil (.wa hnp ?_)
 refine .tk 6 rfl .assign ?_
 refine .fin ?_
 refine .next (.sr (.move ?_))
 refine .nilCheck ?_
 refine .fa ?_ fo247_1
 refine .ld ?_ sc245
 refine .idx ?_ so245
 refine .fa ?_ fo244_0
 refine .stL (xs := (List.replicate p.ino [Value.int .i64 0, .slice none 0 0]).flatten) (i := 0) ?_ sc3 (flat_pos' h1)
 refine .to (A := row b7 244 ((List.replicate p.ino [Value.int .i64 0, .slice none 0 0]).flatten.set 0 (.int .i64 2))) (A' := rowR 244 2 (.slice (some ⟨b7, 0, none⟩) p.ino p.ino) p.ino ((rootL p.ino).flatMap rowV)) (fun h hh => by rw [<- rootL_rows h1]; exact rowR_row (by rw [rootL_rows h1, rowV_length]; unfold rootL; rw [List.length_cons, List.length_replicate]; omega) (by unfold maxLen; omega) h hh) ?_
 refine .x (.move (.assign (.z ?_)))
 refine .ret (?_)
 refine .emp (rowR.nil (e := 3) (size := 1) _) ?_
 refine .shutR (RS.opens b9 p rootT [] 0) ⟨.slice (some ⟨b7, 0, none⟩) p.ino p.ino, rootL p.ino, 0, .slice none 0 0, []⟩ (rootL_ok p h1 _) ?_
 exact .ret1 (h1 := .tmp (t := 2) rfl) ⟨_, ⟨b9, rfl, rfl⟩, Am.auto⟩
theorem fo159_0 : fieldOk Tryz.prog 159 0 0 = true := by kernel_rfl
theorem sc157 : scalarOk Tryz.prog 157 = true := by kernel_rfl
abbrev RF (m s : Nat) : HP := pt m (.cells #[.pointer (some ⟨s, 0, none⟩), .pointer none, .bool false] 159 (0, 0))
theorem partsT_names {path : Bytes} {l : List Bytes} (h : partsT path = some l) : ∀ x ∈ l, nameOk x = true := by
 unfold partsT at h
 split at h
 ·cases h
 ·split at h
  ·split at h
   ·injection h with h; subst h; intro x hx; cases hx
   ·split at h
    ·cases h
    ·split at h
     ·rename_i hall; injection h with h; subst h; exact List.all_eq_true.1 hall
     ·cases h
  ·cases h
theorem walkT_app {T : FT} : ∀ (l : List Bytes) (d : Nat) (nm : Bytes), walkT T d (l ++ [nm]) = if (walkT T d l).2 = 0 then (if (findT T (walkT T d l).1 nm).2 = 0 then ((findT T (walkT T d l).1 nm).1, 0) else (0, (findT T (walkT T d l).1 nm).2)) else (0, (walkT T d l).2)
 | [], d, nm => by
  show walkT T d [nm] = _
  rw [show walkT T d [] = (d, 0) from rfl, if_pos rfl]
  rfl
 | x :: r, d, nm => by
  by_cases h : (findT T d x).2 = 0
  ·rw [List.cons_append, walkT_step h, walkT_step h, walkT_app r]
  ·rw [List.cons_append, walkT_stop h, walkT_stop h, if_neg h]
def rwalkT (T : FT) (path : Bytes) : Int × Int × Bytes × Int := match partsT path with
 | none => (0, -1, [], 1)
 | some l => if l = [] then (0, 0, [], 0) else
  if (walkT T 0 l.dropLast).2 = 0 then
   (if (findT T (walkT T 0 l.dropLast).1 (l.getLastD [])).2 = 6 then (0, -1, [], 6)
    else if (findT T (walkT T 0 l.dropLast).1 (l.getLastD [])).2 = 0 then (((walkT T 0 l.dropLast).1 : Int), ((findT T (walkT T 0 l.dropLast).1 (l.getLastD [])).1 : Int), l.getLastD [], 0)
    else (((walkT T 0 l.dropLast).1 : Int), -1, l.getLastD [], 0))
  else (0, -1, [], ((walkT T 0 l.dropLast).2 : Int))
theorem getLastD_get {l : List Bytes} (h : l ≠ []) : l.getLastD [] = l[l.length - 1]'(by have := List.length_pos_iff.2 h; omega) := by
 rw [List.getLastD_eq_getLast?, List.getLast?_eq_getElem?, List.getElem?_eq_getElem]; rfl
theorem dropLast_last {l : List Bytes} (h : l ≠ []) : l.dropLast ++ [l.getLastD []] = l := by
 rw [getLastD_get h, <- List.getLast_eq_getElem h]
 exact List.dropLast_concat_getLast h
theorem rWalk {m s : Nat} {p : Pl} {T : FT} {os : List (Nat × Obj)} {N : Nat} (hi0 : 1 <= p.ino) (hi1 : p.ino <= 4096) {path : Bytes} (hT : RT p T) (hpl : path.length <= 100000) : Spec Tryz.prog 158 #[.pointer (some ⟨m, 0, none⟩), sv path] [RF m s, RS s p T os N, frz os] fun F v M => v = .tuple #[.int .i64 (rwalkT T path).1, .int .i64 (rwalkT T path).2.1, sv (rwalkT T path).2.2.1, .int .i64 (rwalkT T path).2.2.2] /\ M = RF m s :: RS s p T os N :: frz os :: F := by
 refine Spec.intro Tryz.func158 rfl rfl fun B F => ?_
 simp only [Tryz.ntmps158, List.cons_append, List.nil_append, env0, Nat.reduceAdd]
 refine .sr (.assign (.assign (.assign (.assign (.x (.move ?_))))))
 refine .call (hc := Tryz.call235) (sp := rNames hpl) (h := ?_)
 rintro _ _ (⟨l, u, hp, rfl, rfl⟩ | ⟨hp, ⟨u, rfl⟩, hM⟩)
 rotate_left
 obtain rfl := hM.symm
 ·have hrw : rwalkT T path = (0, -1, [], 1) := by unfold rwalkT; rw [hp]
  refine .move ?_
  refine .extract ?_
  refine .extract ?_
  refine .assign (.assign (.z (.seq (.sr (.move ?_)))))
  refine .not ?_
  refine .z ?_
  refine .condT rfl rfl ?_
  refine .sr (.assign (.assign (.assign (.assign (.z ?_)))))
  refine .ret (.thenRet (?_))
  exact .ret4 (h1 := .tmp (t := 4) rfl) (h2 := .tmp (t := 5) rfl) (h3 := .tmp (t := 6) rfl) (h4 := .tmp (t := 7) rfl) ⟨_, ⟨by rw [hrw]; try rfl, rfl⟩, Am.auto⟩
 ·refine .fact (rowR_shape (el := 9) (size := 1) (v := u) (k := l.length) (xs := svs l)) (fun ⟨A, cc, hu, hR, hc1, hc2, hlen⟩ => ?_)
  subst hu
  have hno := partsT_names hp
  have hl8 := partsT_len hp
  have hrw0 : rwalkT T path = if l = [] then (0, 0, [], 0) else
    if (walkT T 0 l.dropLast).2 = 0 then
     (if (findT T (walkT T 0 l.dropLast).1 (l.getLastD [])).2 = 6 then (0, -1, [], 6)
      else if (findT T (walkT T 0 l.dropLast).1 (l.getLastD [])).2 = 0 then (((walkT T 0 l.dropLast).1 : Int), ((findT T (walkT T 0 l.dropLast).1 (l.getLastD [])).1 : Int), l.getLastD [], 0)
      else (((walkT T 0 l.dropLast).1 : Int), -1, l.getLastD [], 0))
    else (0, -1, [], ((walkT T 0 l.dropLast).2 : Int)) := by unfold rwalkT; rw [hp]
  by_cases hl0 : l = []
  ·subst hl0
   have hrw : rwalkT T path = (0, 0, [], 0) := by rw [hrw0, if_pos rfl]
   refine .move ?_
   refine .extract ?_
   refine .extract ?_
   refine .assign (.assign (.z (.seq (.sr (.move ?_)))))
   refine .not ?_
   refine .z ?_
   refine .condF rfl rfl ?_
   refine .skip (.next (.sr (.assign (.z (.seq (.sr (.move ?_)))))))
   refine .lenS ?_ sl92
   refine .eqi ?_
   refine .z ?_
   refine .condT rfl (congrArg Value.bool (by first|simp;done|simp;omega|omega)) ?_
   refine .sr (.assign (.assign (.assign (.assign (.z ?_)))))
   refine .ret (.thenRet (?_))
   exact .ret4 (h1 := .tmp (t := 4) rfl) (h2 := .tmp (t := 5) rfl) (h3 := .tmp (t := 6) rfl) (h4 := .tmp (t := 7) rfl) ⟨_, ⟨by rw [hrw]; try rfl, rfl⟩, Am.auto⟩
  ·rw [if_neg hl0] at hrw0
   have hlp : 0 < l.length := List.length_pos_iff.2 hl0
   rcases A with _ | ⟨ab, ao, asp⟩
   ·exact absurd (congrArg List.length (show svs l = [] from hR)) (by rw [svs_length]; simp only [List.length_nil]; omega)
   have hsp : asp = none := hR.1
   subst hsp
   have hdl : l.dropLast.length = l.length - 1 := List.length_dropLast
   have hnl : ∀ k (h : k < l.length), l[k].length <= 1000000 := fun k h => by have := (nameOk_len (hno _ (List.getElem_mem h))).2; omega
   refine .move ?_
   refine .extract ?_
   refine .extract ?_
   refine .assign (.assign (.z (.seq (.sr (.move ?_)))))
   refine .not ?_
   refine .z ?_
   refine .condF rfl rfl ?_
   refine .skip (.next (.sr (.assign (.z (.seq (.sr (.move ?_)))))))
   refine .lenS ?_ sl92
   refine .eqi ?_
   refine .z ?_
   refine .condF rfl (congrArg Value.bool (by first|simp;done|simp;omega|omega)) ?_
   refine .skip (.next (.seq (.sr (.assign (.z (.block ?_))))))
   refine .loopA (σ := Nat × Nat) (fun y => [(0, .pointer (some ⟨m, 0, none⟩)), (8, .slice (some ⟨ab, ao, none⟩) l.length cc), (10, nI y.2), (11, .int .i64 ((y.1 : Nat) : Int))]) (fun _ => [rowR 9 1 (.slice (some ⟨ab, ao, none⟩) l.length cc) l.length (svs l), RF m s, RS s p T os N, frz os] ++ F) (fun y => y.1 + 1 <= l.length /\ walkT T y.2 (l.dropLast.drop y.1) = walkT T 0 l.dropLast) (fun y => l.length - y.1) (0, 0) ⟨hlp, rfl⟩ ?_
   rintro y hy
   obtain ⟨k, d⟩ := y
   obtain ⟨hk, hwk⟩ := hy
   simp only at hk hwk ⊢
   refine .seq (.sr (.move ?_))
   refine .add ?_
   refine .move ?_
   refine .lenS ?_ sl92
   refine .lss ?_
   refine .z ?_
   refine .cond rfl (fun hb => ?_) (fun hb => ?_)
   ·have hlt : k + 1 < l.length := by have h : (k : Int) + 1 < (l.length : Int) := of_decide_eq_true hb; omega
    have hkd : k < l.dropLast.length := by omega
    have hkl : k < l.length := by omega
    have hdk := List.drop_eq_getElem_cons hkd
    rw [List.getElem_dropLast] at hdk
    have hgk : (svs l)[((k : Nat) : Int).toNat]? = some (sv (l[k]'hkl)) := svs_get (by omega)
    obtain ⟨i, e, hf⟩ : ∃ i e, findT T d (l[k]'hkl) = (i, e) := ⟨_, _, rfl⟩
    refine .skip (.next (.seq (.block (.seq ?_))))
    refine .dr ([pt m (.cells #[.pointer (some ⟨s, 0, none⟩), .pointer none, .bool false] 159 (0, 0)), rowR 9 1 (.slice (some ⟨ab, ao, none⟩) l.length cc) l.length (svs l)]) [] 15 mixed .autoJ ?_
    refine .tk 0 rfl .move ?_
    refine .tk 1 rfl .nilCheck ?_
    refine .tk 2 rfl (.fa fo159_0) ?_
    refine .tk 3 rfl (.ld sc157) ?_
    refine .tk 4 rfl .move ?_
    refine .tk 5 rfl .move ?_
    refine .tk 6 rfl .move ?_
    refine .tk 7 rfl (.idx1 so92) ?_
    refine .tk 8 rfl (Qt.ldR (i := ((k : Nat) : Int).toNat) sc9 hR hgk) ?_
    refine .on 9 rfl fun hnp => ?_
    refine .call (hc := Tryz.call236) (sp := rsFind (s := s) (p := p) (T := T) (os := os) (N := N) hi0 hi1 (d := d) (nm := l[k]'hkl) hT (hnl k hkl)) (h := ?_)
    rintro _ _ ⟨rfl, rfl⟩
    rw [hf]
    refine .nil (.wa hnp ?_)
    refine .tk 10 rfl .move ?_
    refine .tk 11 rfl .extract ?_
    refine .tk 12 rfl .extract ?_
    refine .tk 13 rfl .assign ?_
    refine .tk 14 rfl .assign ?_
    refine .fin ?_
    by_cases he : e = 0
    ·subst he
     refine .next (.seq (.sr (.move ?_)))
     refine .nei ?_
     refine .z ?_
     refine .condF rfl (congrArg Value.bool (by first|simp;done|simp;omega|omega)) ?_
     refine .skip (.next (.region (.move (.assign (.nil (.blockNormal (.next (.region (.move ?_)))))))))
     refine .add ?_
     refine .assign (.nil ?_)
     refine .cast (d := 11) (u := .int .i64 ((k + 1 : Nat) : Int)) rfl (congrArg (Value.int .i64) (by omega)) ?_
     exact .back (k + 1, i) ⟨by show k + 1 + 1 <= l.length; omega, by show walkT T i (l.dropLast.drop (k + 1)) = _; rw [<- hwk, hdk, walkT_step (by rw [hf]), hf]⟩ (by show l.length - (k + 1) < l.length - k; omega)
    ·refine .next (.seq (.sr (.move ?_)))
     refine .nei ?_
     refine .z ?_
     refine .condT rfl (congrArg Value.bool (by first|simp;done|simp;omega|omega)) ?_
     refine .sr (.move (.assign (.assign (.assign (.assign (.z ?_))))))
     refine .ret (.thenRet (.blockRet (.thenRet (.thenRet (.blockRet (.thenRet (?_)))))))
     have hst : walkT T 0 l.dropLast = (0, e) := by rw [<- hwk, hdk, walkT_stop (by rw [hf]; exact he), hf]
     have hrw : rwalkT T path = (0, -1, [], (e : Int)) := by rw [hrw0, hst, if_neg he]
     exact .ret4 (h1 := .tmp (t := 4) rfl) (h2 := .tmp (t := 5) rfl) (h3 := .tmp (t := 6) rfl) (h4 := .tmp (t := 7) rfl) ⟨_, ⟨by rw [hrw]; try rfl, rfl⟩, Am.auto⟩
   ·have hge : k + 1 = l.length := by have h : ¬ (k : Int) + 1 < (l.length : Int) := of_decide_eq_false hb; omega
    rw [List.drop_eq_nil_of_le (by omega)] at hwk
    have hwd : walkT T 0 l.dropLast = (d, 0) := by rw [<- hwk]; rfl
    rw [hwd, if_pos rfl] at hrw0
    obtain ⟨nm, hnm⟩ : ∃ nm, l.getLastD [] = nm := ⟨_, rfl⟩
    have hgl : (svs l)[((l.length : Int) - 1).toNat]? = some (sv nm) := by
     rw [show ((l.length : Int) - 1).toNat = l.length - 1 from by omega, <- hnm, getLastD_get hl0]
     exact svs_get (by omega)
    have hnml : nm.length <= 1000000 := by rw [<- hnm, getLastD_get hl0]; exact hnl _ _
    rw [hnm] at hrw0
    obtain ⟨i, e, hf⟩ : ∃ i e, findT T d nm = (i, e) := ⟨_, _, rfl⟩
    rw [hf] at hrw0
    refine .exit (.thenExit (.thenExit (.blockExit (?_))))
    refine .next (.seq ?_)
    refine .dr ([pt m (.cells #[.pointer (some ⟨s, 0, none⟩), .pointer none, .bool false] 159 (0, 0)), rowR 9 1 (.slice (some ⟨ab, ao, none⟩) l.length cc) l.length (svs l)]) [] 17 mixed .autoJ ?_
    refine .tk 0 rfl .move ?_
    refine .tk 1 rfl .nilCheck ?_
    refine .tk 2 rfl (.fa fo159_0) ?_
    refine .tk 3 rfl (.ld sc157) ?_
    refine .tk 4 rfl .move ?_
    refine .tk 5 rfl .move ?_
    refine .tk 6 rfl .move ?_
    refine .tk 7 rfl (.lenS sl92) ?_
    refine .tk 8 rfl .sub ?_
    refine .tk 9 rfl (.idx1 so92) ?_
    refine .tk 10 rfl (Qt.ldR (i := ((l.length : Int) - 1).toNat) sc9 hR hgl) ?_
    refine .on 11 rfl fun hnp => ?_
    refine .call (hc := Tryz.call236) (sp := rsFind (s := s) (p := p) (T := T) (os := os) (N := N) hi0 hi1 (d := d) (nm := nm) hT hnml) (h := ?_)
    rintro _ _ ⟨rfl, rfl⟩
    rw [hf]
    refine .nil (.wa hnp ?_)
    refine .tk 12 rfl .move ?_
    refine .tk 13 rfl .extract ?_
    refine .tk 14 rfl .extract ?_
    refine .tk 15 rfl .assign ?_
    refine .tk 16 rfl .assign ?_
    refine .fin ?_
    by_cases h6 : e = 6
    ·subst h6
     have hrw : rwalkT T path = (0, -1, [], 6) := by rw [hrw0]; rfl
     refine .next (.seq (.sr (.move ?_)))
     refine .eqi ?_
     refine .z ?_
     refine .condT rfl (congrArg Value.bool (by first|simp;done|simp;omega|omega)) ?_
     refine .sr (.assign (.assign (.assign (.assign (.z ?_)))))
     refine .ret (.thenRet (?_))
     exact .ret4 (h1 := .tmp (t := 4) rfl) (h2 := .tmp (t := 5) rfl) (h3 := .tmp (t := 6) rfl) (h4 := .tmp (t := 7) rfl) ⟨_, ⟨by rw [hrw]; try rfl, rfl⟩, Am.auto⟩
    ·by_cases h0 : e = 0
     ·subst h0
      have hrw : rwalkT T path = ((d : Int), (i : Int), nm, 0) := by rw [hrw0]; rfl
      refine .next (.seq (.sr (.move ?_)))
      refine .eqi ?_
      refine .z ?_
      refine .condF rfl (congrArg Value.bool (by first|simp;done|simp;omega|omega)) ?_
      refine .skip (.next (.seq (.sr (.move ?_))))
      refine .nei ?_
      refine .z ?_
      refine .condF rfl (congrArg Value.bool (by first|simp;done|simp;omega|omega)) ?_
      refine .skip (.next (.seq ?_))
      refine .dr ([rowR 9 1 (.slice (some ⟨ab, ao, none⟩) l.length cc) l.length (svs l)]) [] 12 mixed .autoJ ?_
      refine .tk 0 rfl .move ?_
      refine .tk 1 rfl .move ?_
      refine .tk 2 rfl .move ?_
      refine .tk 3 rfl .move ?_
      refine .tk 4 rfl (.lenS sl92) ?_
      refine .tk 5 rfl .sub ?_
      refine .tk 6 rfl (.idx1 so92) ?_
      refine .tk 7 rfl (Qt.ldR (i := ((l.length : Int) - 1).toNat) sc9 hR hgl) ?_
      refine .tk 8 rfl .assign ?_
      refine .tk 9 rfl .assign ?_
      refine .tk 10 rfl .assign ?_
      refine .tk 11 rfl .assign ?_
      refine .fin ?_
      refine .next ?_
      refine .ret (?_)
      exact .ret4 (h1 := .tmp (t := 4) rfl) (h2 := .tmp (t := 5) rfl) (h3 := .tmp (t := 6) rfl) (h4 := .tmp (t := 7) rfl) ⟨_, ⟨by rw [hrw]; try rfl, rfl⟩, Am.auto⟩
     ·have hrw : rwalkT T path = ((d : Int), -1, nm, 0) := by rw [hrw0, if_neg h6, if_neg h0]
      refine .next (.seq (.sr (.move ?_)))
      refine .eqi ?_
      refine .z ?_
      refine .condF rfl (congrArg Value.bool (by first|simp;done|simp;omega|omega)) ?_
      refine .skip (.next (.seq (.sr (.move ?_))))
      refine .nei ?_
      refine .z ?_
      refine .condT rfl (congrArg Value.bool (by first|simp;done|simp;omega|omega)) ?_
      refine .seq ?_
      refine .dr ([rowR 9 1 (.slice (some ⟨ab, ao, none⟩) l.length cc) l.length (svs l)]) [] 11 mixed .autoJ ?_
      refine .tk 0 rfl .move ?_
      refine .tk 1 rfl .move ?_
      refine .tk 2 rfl .move ?_
      refine .tk 3 rfl (.lenS sl92) ?_
      refine .tk 4 rfl .sub ?_
      refine .tk 5 rfl (.idx1 so92) ?_
      refine .tk 6 rfl (Qt.ldR (i := ((l.length : Int) - 1).toNat) sc9 hR hgl) ?_
      refine .tk 7 rfl .assign ?_
      refine .tk 8 rfl .assign ?_
      refine .tk 9 rfl .assign ?_
      refine .tk 10 rfl .assign ?_
      refine .fin ?_
      refine .next ?_
      refine .ret (.thenRet (?_))
      exact .ret4 (h1 := .tmp (t := 4) rfl) (h2 := .tmp (t := 5) rfl) (h3 := .tmp (t := 6) rfl) (h4 := .tmp (t := 7) rfl) ⟨_, ⟨by rw [hrw]; try rfl, rfl⟩, Am.auto⟩
def leadW (T : FT) (path : Bytes) : Nat × Nat := match partsT path with
 | none => (0, 1)
 | some l => walkT T 0 l
theorem findT_46 {T : FT} {d : Nat} {nm : Bytes} (hn : nameOk nm = true) : (findT T d nm).2 = 0 ∨ (findT T d nm).2 = 4 ∨ (findT T d nm).2 = 6 := by
 unfold findT
 rw [if_pos hn]
 split
 ·exact .inr (.inl rfl)
 ·exact .inr (.inr rfl)
 ·split
  ·exact .inl rfl
  ·exact .inr (.inl rfl)
theorem rwalk_e (T : FT) (path : Bytes) : 0 <= (rwalkT T path).2.2.2 := by
 unfold rwalkT
 split
 ·decide
 ·split
  ·decide
  ·split
   ·split
    ·decide
    ·split <;> exact Int.le_refl 0
   ·exact Int.natCast_nonneg _
theorem leadW_rw (T : FT) (path : Bytes) : leadW T path = if (rwalkT T path).2.2.2 = 0 then (if (rwalkT T path).2.1 < 0 then (0, 4) else ((rwalkT T path).2.1.toNat, 0)) else (0, (rwalkT T path).2.2.2.toNat) := by
 unfold leadW rwalkT
 cases hp : partsT path with
 | none => rfl
 | some l =>
  simp only
  by_cases hl : l = []
  ·subst hl; rfl
  ·rw [if_neg hl]
   have hla := walkT_app (T := T) l.dropLast 0 (l.getLastD [])
   rw [dropLast_last hl] at hla
   have hno : nameOk (l.getLastD []) = true := partsT_names hp _ (by rw [getLastD_get hl]; exact List.getElem_mem _)
   obtain ⟨d, e, hw⟩ : ∃ d e, walkT T 0 l.dropLast = (d, e) := ⟨_, _, rfl⟩
   rw [hw] at hla ⊢
   simp only at hla ⊢
   by_cases he : e = 0
   ·subst he
    rw [if_pos rfl] at hla ⊢
    have h46 := findT_46 (T := T) (d := d) hno
    obtain ⟨i, e2, hf⟩ : ∃ i e2, findT T d (l.getLastD []) = (i, e2) := ⟨_, _, rfl⟩
    rw [hf] at hla h46 ⊢
    simp only at hla h46 ⊢
    rcases h46 with rfl | rfl | rfl
    ·rw [hla]; simp
    ·rw [hla]; rfl
    ·rw [hla]; rfl
   ·rw [if_neg he] at hla ⊢
    rw [hla]
    simp only
    rw [if_neg (by omega)]
    rfl
theorem leadsT_W (T : FT) (path : Bytes) : leadsT T path = if (leadW T path).2 = 0 then (match T (leadW T path).1 with
  | some x => ((leadW T path).1, x.kind, x.size, 0)
  | none => ((leadW T path).1, 0, 0, 4)) else (0, 0, 0, (leadW T path).2) := by
 unfold leadsT leadW
 cases partsT path <;> rfl
theorem bdSt0 : BuildOk Tryz.prog 51 [] #[.int .i64 0, .int .i64 0] := fun w => by kernel_rfl
theorem rLead {m s : Nat} {p : Pl} {T : FT} {os : List (Nat × Obj)} {N : Nat} (hi0 : 1 <= p.ino) (hi1 : p.ino <= 4096) {path : Bytes} (hT : RT p T) (hpl : path.length <= 100000) : Spec Tryz.prog 84 #[.pointer (some ⟨m, 0, none⟩), sv path] [RF m s, RS s p T os N, frz os] fun F v M => v = .tuple #[nI (leadW T path).1, nI (leadW T path).2] /\ M = RF m s :: RS s p T os N :: frz os :: F := by
 refine Spec.intro Tryz.func84 rfl rfl fun B F => ?_
 simp only [Tryz.ntmps84, List.cons_append, List.nil_append, env0, Nat.reduceAdd]
 refine .sr (.assign (.assign (.x (.move (.move ?_)))))
 refine .call (hc := Tryz.call158) (sp := rWalk (m := m) (s := s) (p := p) (T := T) (os := os) (N := N) hi0 hi1 (path := path) hT hpl) (h := ?_)
 rintro _ _ ⟨rfl, rfl⟩
 obtain ⟨⟨d, i, nm, e⟩, hw⟩ : ∃ r, rwalkT T path = r := ⟨_, rfl⟩
 have hlw := leadW_rw T path
 rw [hw] at hlw ⊢
 simp only at hlw ⊢
 refine .move ?_
 refine .extract ?_
 refine .extract ?_
 refine .extract ?_
 refine .extract ?_
 refine .assign (.assign (.assign (.assign (.z (.seq (.sr ?_))))))
 by_cases he : e = 0
 ·rw [if_pos he] at hlw
  by_cases hi : i < 0
  ·rw [if_pos hi] at hlw
   rw [hlw]
   refine .move ?_
   refine .nei ?_
   refine .z ?_
   refine .condF rfl (congrArg Value.bool (by first|simp;done|simp;omega|omega)) ?_
   refine .skip (.next (.seq (.sr (.move ?_))))
   refine .lss ?_
   refine .z ?_
   refine .condT rfl (congrArg Value.bool (by first|simp;done|simp;omega|omega)) ?_
   refine .sr (.assign (.assign (.z ?_)))
   refine .ret (.thenRet (?_))
   exact .ret2 (h1 := .tmp (t := 4) rfl) (h2 := .tmp (t := 5) rfl) ⟨_, ⟨rfl, rfl⟩, Am.auto⟩
  ·rw [if_neg hi] at hlw
   have hin : ((i.toNat : Nat) : Int) = i := by omega
   refine .move ?_
   refine .nei ?_
   refine .z ?_
   refine .condF rfl (congrArg Value.bool (by first|simp;done|simp;omega|omega)) ?_
   refine .skip (.next (.seq (.sr (.move ?_))))
   refine .lss ?_
   refine .z ?_
   refine .condF rfl (congrArg Value.bool (by first|simp;done|simp;omega|omega)) ?_
   refine .skip (.next (.sr (.move (.assign (.assign (.z ?_))))))
   refine .ret (?_)
   exact .ret2 (h1 := .tmp (t := 4) rfl) (h2 := .tmp (t := 5) rfl) ⟨_, ⟨by rw [hlw, show nI i.toNat = .int .i64 i from congrArg (Value.int .i64) hin]; try rfl, rfl⟩, Am.auto⟩
 ·rw [if_neg he] at hlw
  have hen : ((e.toNat : Nat) : Int) = e := by have := rwalk_e T path; rw [hw] at this; exact Int.toNat_of_nonneg this
  refine .move ?_
  refine .nei ?_
  refine .z ?_
  refine .condT rfl (congrArg Value.bool (by first|simp;done|simp;omega|omega)) ?_
  refine .sr (.move (.assign (.assign (.z ?_))))
  refine .ret (.thenRet (?_))
  exact .ret2 (h1 := .tmp (t := 4) rfl) (h2 := .tmp (t := 5) rfl) ⟨_, ⟨by rw [hlw, show nI e.toNat = .int .i64 e from congrArg (Value.int .i64) hen]; try rfl, rfl⟩, Am.auto⟩
theorem rStat {m s : Nat} {p : Pl} {T : FT} {os : List (Nat × Obj)} {N : Nat} (hi0 : 1 <= p.ino) (hi1 : p.ino <= 4096) {path : Bytes} (hT : RT p T) (hpl : path.length <= 100000) : Spec Tryz.prog 33 #[.pointer (some ⟨m, 0, none⟩), sv path] [RF m s, RS s p T os N, frz os] fun F v M => v = .tuple #[.agg #[nI (leadsT T path).2.1, nI (leadsT T path).2.2.1], nI (leadsT T path).2.2.2] /\ M = RF m s :: RS s p T os N :: frz os :: F := by
 refine Spec.intro Tryz.func33 rfl rfl fun B F => ?_
 simp only [Tryz.ntmps33, List.cons_append, List.nil_append, env0, Nat.reduceAdd]
 obtain ⟨i, e, hw⟩ : ∃ i e, leadW T path = (i, e) := ⟨_, _, rfl⟩
 have hlt := leadsT_W T path
 rw [hw] at hlt
 simp only at hlt
 by_cases he : e = 0
 ·subst he
  rw [if_pos rfl] at hlt
  cases hTi : T i with
  | none =>
   simp only [hTi] at hlt
   refine .sr ?_
   refine .alloc z51 fun b4 => ?_
   refine .assign (.x (.move (.move ?_)))
   refine .call (hc := Tryz.call84) (sp := rLead (m := m) (s := s) (p := p) (T := T) (os := os) (N := N) hi0 hi1 (path := path) hT hpl) (h := ?_)
   rintro _ _ ⟨rfl, rfl⟩
   rw [hw]
   refine .move ?_
   refine .extract ?_
   refine .extract ?_
   refine .assign (.assign (.z (.seq (.sr (.move ?_)))))
   refine .nei ?_
   refine .z ?_
   refine .condF rfl (congrArg Value.bool (by first|simp;done|simp;omega|omega)) ?_
   refine .skip (.next (.sr (.move ?_)))
   refine .nilCheck ?_
   refine .fa ?_ fo159_0
   refine .ld ?_ sc157
   refine .move ?_
   refine .call (hc := Tryz.call85) (sp := rsStatNo (s := s) (p := p) (T := T) (os := os) (N := N) hi0 hi1 (i := i) hT hTi) (h := ?_)
   rintro _ _ ⟨rfl, rfl⟩
   refine .extract ?_
   refine .extract ?_
   refine .stV ?_ agg51
   refine .assign (.z ?_)
   refine .ret (?_)
   exact .ret2 (h2 := .tmp (t := 5) rfl) ⟨_, ⟨by rw [hlt]; try rfl, rfl⟩, Am.auto⟩
  | some x =>
   simp only [hTi] at hlt
   refine .sr ?_
   refine .alloc z51 fun b4 => ?_
   refine .assign (.x (.move (.move ?_)))
   refine .call (hc := Tryz.call84) (sp := rLead (m := m) (s := s) (p := p) (T := T) (os := os) (N := N) hi0 hi1 (path := path) hT hpl) (h := ?_)
   rintro _ _ ⟨rfl, rfl⟩
   rw [hw]
   refine .move ?_
   refine .extract ?_
   refine .extract ?_
   refine .assign (.assign (.z (.seq (.sr (.move ?_)))))
   refine .nei ?_
   refine .z ?_
   refine .condF rfl (congrArg Value.bool (by first|simp;done|simp;omega|omega)) ?_
   refine .skip (.next (.sr (.move ?_)))
   refine .nilCheck ?_
   refine .fa ?_ fo159_0
   refine .ld ?_ sc157
   refine .move ?_
   refine .call (hc := Tryz.call85) (sp := rsStat (s := s) (p := p) (T := T) (os := os) (N := N) hi0 hi1 (i := i) (x := x) hT hTi) (h := ?_)
   rintro _ _ ⟨rfl, rfl⟩
   refine .extract ?_
   refine .extract ?_
   refine .stV ?_ agg51
   refine .assign (.z ?_)
   refine .ret (?_)
   exact .ret2 (h2 := .tmp (t := 5) rfl) ⟨_, ⟨by rw [hlt]; try rfl, rfl⟩, Am.auto⟩
 ·rw [if_neg he] at hlt
  refine .sr ?_
  refine .alloc z51 fun b4 => ?_
  refine .assign (.x (.move (.move ?_)))
  refine .call (hc := Tryz.call84) (sp := rLead (m := m) (s := s) (p := p) (T := T) (os := os) (N := N) hi0 hi1 (path := path) hT hpl) (h := ?_)
  rintro _ _ ⟨rfl, rfl⟩
  rw [hw]
  refine .move ?_
  refine .extract ?_
  refine .extract ?_
  refine .assign (.assign (.z (.seq (.sr (.move ?_)))))
  refine .nei ?_
  refine .z ?_
  refine .condT rfl (congrArg Value.bool (by first|simp;done|simp;omega|omega)) ?_
  refine .sr ?_
  refine .build ?_ bdSt0
  refine .move ?_
  refine .stV ?_ agg51
  refine .assign (.z ?_)
  refine .ret (.thenRet (?_))
  exact .ret2 (h2 := .tmp (t := 5) rfl) ⟨_, ⟨by rw [hlt]; try rfl, rfl⟩, Am.auto⟩
theorem fo159_2 : fieldOk Tryz.prog 159 2 2 = true := by kernel_rfl
structure TCl (T : FT) : Prop where
 root : T 0 ≠ none
 all : ∀ d sl (q : Nat) (nm : Bytes) (i : Nat), T d = some (.dir sl) -> sl[q]? = some (some (nm, i)) -> T i ≠ none
theorem findT_cl {T : FT} (h : TCl T) {d : Nat} {nm : Bytes} (h0 : (findT T d nm).2 = 0) : T (findT T d nm).1 ≠ none := by
 obtain ⟨i, e, hf⟩ : ∃ i e, findT T d nm = (i, e) := ⟨_, _, rfl⟩
 rw [hf] at h0 ⊢
 obtain rfl : e = 0 := h0
 obtain ⟨_, sl, q, hd, hl⟩ := findT_ok hf
 exact h.all d sl q nm i hd (lookS_some hl)
theorem walkT_cl {T : FT} (h : TCl T) : ∀ {l : List Bytes} {d : Nat}, T d ≠ none -> (walkT T d l).2 = 0 -> T (walkT T d l).1 ≠ none
 | [], d, hd, _ => hd
 | x :: r, d, hd, hw => by
  by_cases hf : (findT T d x).2 = 0
  ·rw [walkT_step hf] at hw ⊢
   exact walkT_cl h (findT_cl h hf) hw
  ·rw [walkT_stop hf] at hw; exact absurd hw hf
theorem parts_root {path : Bytes} (h : partsT path = some []) : path = [47] := by
 unfold partsT at h
 split at h
 ·cases h
 ·rename_i x rest
  split at h
  ·rename_i hx
   split at h
   ·rename_i hr; rw [hx, hr]
   ·split at h
    ·cases h
    ·split at h
     ·injection h with h; exact absurd h (splitSl_ne _)
     ·cases h
  ·cases h
theorem makeE_rw {T : FT} (h : TCl T) (path : Bytes) : makeE T path = if (rwalkT T path).2.2.2 = 0 then (if (rwalkT T path).2.1 < 0 then 0 else 5) else (rwalkT T path).2.2.2.toNat := by
 by_cases hr : path = [47]
 ·subst hr; rfl
 ·unfold makeE
  rw [if_neg hr]
  cases hp : partsT path with
  | none =>
   have h1 : parentT T path = (0, [], 1) := by unfold parentT; rw [hp]
   have h2 : rwalkT T path = (0, -1, [], 1) := by unfold rwalkT; rw [hp]
   rw [h1, h2]; rfl
  | some l =>
   have hl : l ≠ [] := fun hl => by subst hl; exact hr (parts_root hp)
   have hno : nameOk (l.getLastD []) = true := partsT_names hp _ (by rw [getLastD_get hl]; exact List.getElem_mem _)
   have h1 : parentT T path = if (walkT T 0 l.dropLast).2 = 0 then (match T (walkT T 0 l.dropLast).1 with
     | some (.dir _) => ((walkT T 0 l.dropLast).1, l.getLastD [], 0)
     | _ => (0, [], 6)) else (0, [], (walkT T 0 l.dropLast).2) := by
    unfold parentT; rw [hp]; simp only; rw [if_neg hl]
    rfl
   have h2 : rwalkT T path = if (walkT T 0 l.dropLast).2 = 0 then
     (if (findT T (walkT T 0 l.dropLast).1 (l.getLastD [])).2 = 6 then (0, -1, [], 6)
      else if (findT T (walkT T 0 l.dropLast).1 (l.getLastD [])).2 = 0 then (((walkT T 0 l.dropLast).1 : Int), ((findT T (walkT T 0 l.dropLast).1 (l.getLastD [])).1 : Int), l.getLastD [], 0)
      else (((walkT T 0 l.dropLast).1 : Int), -1, l.getLastD [], 0))
    else (0, -1, [], ((walkT T 0 l.dropLast).2 : Int)) := by
    unfold rwalkT; rw [hp]; simp only; rw [if_neg hl]
   obtain ⟨d, e, hw⟩ : ∃ d e, walkT T 0 l.dropLast = (d, e) := ⟨_, _, rfl⟩
   rw [hw] at h1 h2
   simp only at h1 h2
   by_cases he : e = 0
   ·subst he
    rw [if_pos rfl] at h1 h2
    have hcl : T d ≠ none := by have := walkT_cl h h.root (l := l.dropLast) (by rw [hw]); rwa [hw] at this
    have h46 := findT_46 (T := T) (d := d) hno
    cases hTd : T d with
    | none => exact absurd hTd hcl
    | some x =>
     cases x with
     | file b =>
      have hf : findT T d (l.getLastD []) = (0, 6) := by unfold findT; rw [if_pos hno]; simp only [hTd]
      simp only [hTd] at h1
      rw [hf] at h2
      rw [h1, h2]; rfl
     | dir sl =>
      simp only [hTd] at h1
      obtain ⟨i, e2, hf⟩ : ∃ i e2, findT T d (l.getLastD []) = (i, e2) := ⟨_, _, rfl⟩
      rw [hf] at h2 h46
      simp only at h2 h46
      have h66 : e2 ≠ 6 := fun h6 => by
       subst h6
       unfold findT at hf
       rw [if_pos hno] at hf
       simp only [hTd] at hf
       split at hf <;> cases hf
      rcases h46 with rfl | rfl | h6
      ·rw [h1, h2]
       simp only [hf]
       simp
      ·rw [h1, h2]
       simp only [hf]
       rfl
      ·exact absurd h6 h66
   ·rw [if_neg he] at h1 h2
    rw [h1, h2]
    simp only
    rw [if_pos he, if_neg (by omega)]
    rfl
theorem rwalk_par {T : FT} {path nm : Bytes} {d : Nat} (hpar : parentT T path = (d, nm, 0)) (hfi : findT T d nm = (0, 4)) : rwalkT T path = ((d : Int), -1, nm, 0) := by
 unfold parentT at hpar
 unfold rwalkT
 cases hp : partsT path with
 | none => rw [hp] at hpar; cases hpar
 | some l =>
  rw [hp] at hpar
  simp only at hpar ⊢
  by_cases hl : l = []
  ·rw [if_pos hl] at hpar; cases hpar
  ·rw [if_neg hl] at hpar ⊢
   by_cases hw : (walkT T 0 l.dropLast).2 = 0
   ·rw [if_pos hw] at hpar ⊢
    split at hpar
    ·injection hpar with e1 e2
     injection e2 with e2 _
     rw [e1, e2, hfi]; rfl
    ·cases hpar
   ·rw [if_neg hw] at hpar
    injection hpar with _ e2
    injection e2 with _ e3
    exact absurd e3 hw
theorem empty_rok {x : NodeT} (h : x.empty) : x.rok /\ x.r = [] := by
 cases x with
 | file b => cases h; exact ⟨trivial, rfl⟩
 | dir sl => cases h; exact ⟨⟨⟨DirOk.nil, Nat.zero_le _⟩, fun q nm i h => by cases h⟩, rfl⟩
theorem rOne {m s : Nat} {p : Pl} {T : FT} {os : List (Nat × Obj)} {N : Nat} (hi0 : 1 <= p.ino) (hi1 : p.ino <= 4096) : Spec Tryz.prog 119 #[.pointer (some ⟨m, 0, none⟩)] [RF m s, RS s p T os N] fun F v M => ∃ s2, v = .pointer (some ⟨s2, 0, none⟩) /\ M = RF m s :: RS s p T os 0 :: RS s2 p T os 0 :: F := by
 refine Spec.intro Tryz.func119 rfl rfl fun B F => ?_
 simp only [Tryz.ntmps119, List.cons_append, List.nil_append, env0, Nat.reduceAdd]
 refine .sr (.assign (.z (.seq (.sr (.move ?_)))))
 refine .nilCheck ?_
 refine .fa ?_ fo159_2
 refine .ld ?_ sc4
 refine .not ?_
 refine .z ?_
 refine .condT rfl rfl ?_
 refine .region (.move ?_)
 refine .nilCheck ?_
 refine .fa ?_ fo159_0
 refine .ld ?_ sc157
 refine .call (hc := Tryz.call193) (sp := rsBegin0 (s := s) (p := p) (T := T) (os := os) (N := N) hi0 hi1) (h := ?_)
 rintro _ _ ⟨rfl, rfl⟩
 refine .x (.move ?_)
 refine .nilCheck ?_
 refine .fa ?_ fo159_0
 refine .ld ?_ sc157
 refine .call (hc := Tryz.call194) (sp := rsCopy (s := s) (p := p) (T := T) (os := os) (N := 0) hi0 hi1 (by decide)) (h := ?_)
 rintro _ _ ⟨s2, rfl, rfl⟩
 refine .assign (.z ?_)
 refine .ret (?_)
 exact .ret1 (h1 := .tmp (t := 2) rfl) ⟨_, ⟨s2, rfl, rfl⟩, Am.auto⟩
theorem rEndOk {x y : Value} : Spec Tryz.prog 120 #[x, y, .int .i64 0] [] fun F v M => v = .int .i64 0 /\ M = F := by
 refine Spec.intro Tryz.func120 rfl rfl fun B F => ?_
 simp only [Tryz.ntmps120, List.cons_append, List.nil_append, env0, Nat.reduceAdd]
 refine .sr (.assign (.z (.seq (.sr (.move ?_)))))
 refine .nei ?_
 refine .z ?_
 refine .condF rfl (congrArg Value.bool (by first|simp;done|simp;omega|omega)) ?_
 refine .skip (.next (.sr (.move (.assign (.z ?_)))))
 refine .ret (?_)
 exact .ret1 (h1 := .tmp (t := 6) rfl) ⟨_, ⟨rfl, rfl⟩, Am.auto⟩
theorem rMakeE {m s : Nat} {p : Pl} {T : FT} {os : List (Nat × Obj)} {N : Nat} (hi0 : 1 <= p.ino) (hi1 : p.ino <= 4096) {path : Bytes} {kind e : Nat} (hT : RT p T) (hcl : TCl T) (hpl : path.length <= 100000) (he : makeE T path = e) (he0 : e ≠ 0) : Spec Tryz.prog 83 #[.pointer (some ⟨m, 0, none⟩), sv path, nI kind] [RF m s, RS s p T os N, frz os] fun F v M => v = nI e /\ M = RF m s :: RS s p T os N :: frz os :: F := by
 refine Spec.intro Tryz.func83 rfl rfl fun B F => ?_
 simp only [Tryz.ntmps83, List.cons_append, List.nil_append, env0, Nat.reduceAdd]
 have hmr := makeE_rw hcl path
 rw [he] at hmr
 refine .sr (.assign (.x (.move (.move ?_))))
 refine .call (hc := Tryz.call158) (sp := rWalk (m := m) (s := s) (p := p) (T := T) (os := os) (N := N) hi0 hi1 (path := path) hT hpl) (h := ?_)
 rintro _ _ ⟨rfl, rfl⟩
 have hre := rwalk_e T path
 obtain ⟨⟨d, i, nm, e1⟩, hw⟩ : ∃ r, rwalkT T path = r := ⟨_, rfl⟩
 rw [hw] at hmr hre ⊢
 simp only at hmr hre ⊢
 refine .move ?_
 refine .extract ?_
 refine .extract ?_
 refine .extract ?_
 refine .extract ?_
 refine .assign (.assign (.assign (.assign (.z (.seq (.sr ?_))))))
 by_cases h1 : e1 = 0
 ·rw [if_pos h1] at hmr
  by_cases hi : i < 0
  ·rw [if_pos hi] at hmr
   exact absurd hmr he0
  ·rw [if_neg hi] at hmr
   subst hmr
   refine .move ?_
   refine .nei ?_
   refine .z ?_
   refine .condF rfl (congrArg Value.bool (by first|simp;done|simp;omega|omega)) ?_
   refine .skip (.next (.seq (.sr (.move ?_))))
   refine .geq ?_
   refine .z ?_
   refine .condT rfl (congrArg Value.bool (by first|simp;done|simp;omega|omega)) ?_
   refine .sr (.assign (.z ?_))
   refine .ret (.thenRet (?_))
   exact .ret1 (h1 := .tmp (t := 6) rfl) ⟨_, ⟨rfl, rfl⟩, Am.auto⟩
 ·rw [if_neg h1] at hmr
  refine .move ?_
  refine .nei ?_
  refine .z ?_
  refine .condT rfl (congrArg Value.bool (by first|simp;done|simp;omega|omega)) ?_
  refine .sr (.move (.assign (.z ?_)))
  refine .ret (.thenRet (?_))
  exact .ret1 (h1 := .tmp (t := 6) rfl) ⟨_, ⟨by rw [hmr]; exact congrArg (Value.int .i64) (Int.toNat_of_nonneg hre).symm, rfl⟩, Am.auto⟩
theorem rMake {m s : Nat} {p : Pl} {T : FT} {os : List (Nat × Obj)} {N : Nat} (hi0 : 1 <= p.ino) (hi1 : p.ino <= 4096) {path : Bytes} {kind d i : Nat} {nm : Bytes} {sl : List Slot} {x : NodeT} (hdc : p.dc <= 1000000) (hT : RT p T) (htot : tot (fmT T) p.ino <= p.dc) (hpl : path.length <= 100000) (hpar : parentT T path = (d, nm, 0)) (hfi : findT T d nm = (0, 4)) (hd : T d = some (.dir sl)) (hi : i < p.ino) (hTi : T i = none) (hb : ∀ j < i, T j ≠ none) (hx : x.empty) (hk : x.kind = kind) (hfit : tot (fmT T) p.ino + has (max (64 * sl.length) (64 * freeS sl + 64)) <= p.dc + has (64 * sl.length)) : Spec Tryz.prog 83 #[.pointer (some ⟨m, 0, none⟩), sv path, nI kind] [RF m s, RS s p T os N, frz os] fun F v M => v = .int .i64 0 /\ ∃ os2, (∀ e ∈ os, e ∈ os2) /\ M = RF m s :: RS s p (mkT T d sl nm i x) os2 (0 + 0 + 1 + (has 64 + 2) + 1) :: frz os2 :: F := by
 refine Spec.intro Tryz.func83 rfl rfl fun B F => ?_
 simp only [Tryz.ntmps83, List.cons_append, List.nil_append, env0, Nat.reduceAdd]
 have hrw := rwalk_par hpar hfi
 obtain ⟨hxo, hxr⟩ := empty_rok hx
 have hlk := findT_no (by rw [hfi]) hd
 have hne : d ≠ i := fun h => by rw [h, hTi] at hd; cases hd
 have hk12 : kind = 1 ∨ kind = 2 := by rw [<- hk]; cases x with | file b => exact .inl rfl | dir sl => exact .inr rfl
 have hT1 : RT p (updT T i (some x)) := hT.upd hi hxo
 have hd1 : updT T i (some x) d = some (.dir sl) := by rw [updT_other _ _ hne]; exact hd
 have htt : tot (fmT (updT T i (some x))) p.ino = tot (fmT T) p.ino := by
  have h := tot_upd' (fmT T) hi (some x.f)
  rw [fmT_updS, fmT_none hTi] at h
  have h1 : hasO none = 0 := rfl
  have h2 : hasO (some x.f) = 0 := by show has x.f.2.length = 0; rw [x.f_size, <- x.r_length, hxr]; rfl
  omega
 have h64 : has 64 = 1 := rfl
 refine .sr (.assign (.x (.move (.move ?_))))
 refine .call (hc := Tryz.call158) (sp := rWalk (m := m) (s := s) (p := p) (T := T) (os := os) (N := N) hi0 hi1 (path := path) hT hpl) (h := ?_)
 rintro _ _ ⟨rfl, rfl⟩
 rw [hrw]
 refine .move ?_
 refine .extract ?_
 refine .extract ?_
 refine .extract ?_
 refine .extract ?_
 refine .assign (.assign (.assign (.assign (.z (.seq (.sr (.move ?_)))))))
 refine .nei ?_
 refine .z ?_
 refine .condF rfl (congrArg Value.bool (by first|simp;done|simp;omega|omega)) ?_
 refine .skip (.next (.seq (.sr (.move ?_))))
 refine .geq ?_
 refine .z ?_
 refine .condF rfl (congrArg Value.bool (by first|simp;done|simp;omega|omega)) ?_
 refine .skip (.next (.sr (.move ?_)))
 refine .call (hc := Tryz.call119) (sp := rOne (m := m) (s := s) (p := p) (T := T) (os := os) (N := N) hi0 hi1) (h := ?_)
 rintro _ _ ⟨s2, rfl, rfl⟩
 refine .assign (.x (.move ?_))
 refine .nilCheck ?_
 refine .fa ?_ fo159_0
 refine .ld ?_ sc157
 refine .move ?_
 refine .call (hc := Tryz.call159) (sp := rsMake (s := s) (p := p) (T := T) (os := os) (N := 0) hi0 hi1 (i := i) (kind := kind) (x := x) hk12 hi hTi hb hk hxr (by decide)) (h := ?_)
 rintro _ _ ⟨rfl, rfl⟩
 refine .move ?_
 refine .extract ?_
 refine .extract ?_
 refine .assign (.assign (.z (.seq (.sr (.move ?_)))))
 refine .eqi ?_
 refine .z ?_
 refine .condT rfl (congrArg Value.bool (by first|simp;done|simp;omega|omega)) ?_
 refine .region (.move ?_)
 refine .nilCheck ?_
 refine .fa ?_ fo159_0
 refine .ld ?_ sc157
 refine .move (.move (.move ?_))
 refine .call (hc := Tryz.call160) (sp := rsAdd (s := s) (p := p) (T := updT T i (some x)) (os := os) (N := 0 + 0 + 1) hi0 hi1 (d := d) (i := i) (nm := nm) (sl := sl) hdc hT1 (by rw [htt]; exact htot) hlk.1 hd1 hlk.2 (by omega) (by decide) (by rw [htt]; exact hfit)) (h := ?_)
 rintro _ _ ⟨rfl, os2, hsub, rfl⟩
 refine .assign (.x (.move (.move (.move ?_))))
 refine .call (hc := Tryz.call120) (sp := rEndOk) (h := ?_)
 rintro _ _ ⟨rfl, hM⟩
 obtain rfl := hM.symm
 refine .assign (.z ?_)
 refine .ret (?_)
 exact .ret1 (h1 := .tmp (t := 6) rfl) ⟨_, ⟨rfl, os2, hsub, rfl⟩, Am.auto⟩
theorem rMkdir {m s : Nat} {p : Pl} {T : FT} {os : List (Nat × Obj)} {N : Nat} (hi0 : 1 <= p.ino) (hi1 : p.ino <= 4096) {path : Bytes} {d i : Nat} {nm : Bytes} {sl : List Slot} {x : NodeT} (hdc : p.dc <= 1000000) (hT : RT p T) (htot : tot (fmT T) p.ino <= p.dc) (hpl : path.length <= 100000) (hpar : parentT T path = (d, nm, 0)) (hfi : findT T d nm = (0, 4)) (hd : T d = some (.dir sl)) (hi : i < p.ino) (hTi : T i = none) (hb : ∀ j < i, T j ≠ none) (hx : x.empty) (hk : x.kind = 2) (hfit : tot (fmT T) p.ino + has (max (64 * sl.length) (64 * freeS sl + 64)) <= p.dc + has (64 * sl.length)) : Spec Tryz.prog 29 #[.pointer (some ⟨m, 0, none⟩), sv path] [RF m s, RS s p T os N, frz os] fun F v M => v = .int .i64 0 /\ ∃ os2, (∀ e ∈ os, e ∈ os2) /\ M = RF m s :: RS s p (mkT T d sl nm i x) os2 (0 + 0 + 1 + (has 64 + 2) + 1) :: frz os2 :: F := by
 refine Spec.intro Tryz.func29 rfl rfl fun B F => ?_
 simp only [Tryz.ntmps29, List.cons_append, List.nil_append, env0, Nat.reduceAdd]
 refine .sr (.assign (.x (.move (.move ?_))))
 refine .call (hc := Tryz.call83) (sp := rMake (m := m) (s := s) (p := p) (T := T) (os := os) (N := N) hi0 hi1 (kind := 2) hdc hT htot hpl hpar hfi hd hi hTi hb hx hk hfit) (h := ?_)
 rintro _ _ ⟨rfl, os2, hsub, rfl⟩
 refine .assign (.z ?_)
 refine .ret (?_)
 exact .ret1 (h1 := .tmp (t := 4) rfl) ⟨_, ⟨rfl, os2, hsub, rfl⟩, Am.auto⟩
theorem rCreate {m s : Nat} {p : Pl} {T : FT} {os : List (Nat × Obj)} {N : Nat} (hi0 : 1 <= p.ino) (hi1 : p.ino <= 4096) {path : Bytes} {d i : Nat} {nm : Bytes} {sl : List Slot} {x : NodeT} (hdc : p.dc <= 1000000) (hT : RT p T) (htot : tot (fmT T) p.ino <= p.dc) (hpl : path.length <= 100000) (hpar : parentT T path = (d, nm, 0)) (hfi : findT T d nm = (0, 4)) (hd : T d = some (.dir sl)) (hi : i < p.ino) (hTi : T i = none) (hb : ∀ j < i, T j ≠ none) (hx : x.empty) (hk : x.kind = 1) (hfit : tot (fmT T) p.ino + has (max (64 * sl.length) (64 * freeS sl + 64)) <= p.dc + has (64 * sl.length)) : Spec Tryz.prog 30 #[.pointer (some ⟨m, 0, none⟩), sv path] [RF m s, RS s p T os N, frz os] fun F v M => v = .int .i64 0 /\ ∃ os2, (∀ e ∈ os, e ∈ os2) /\ M = RF m s :: RS s p (mkT T d sl nm i x) os2 (0 + 0 + 1 + (has 64 + 2) + 1) :: frz os2 :: F := by
 refine Spec.intro Tryz.func30 rfl rfl fun B F => ?_
 simp only [Tryz.ntmps30, List.cons_append, List.nil_append, env0, Nat.reduceAdd]
 refine .sr (.assign (.x (.move (.move ?_))))
 refine .call (hc := Tryz.call83) (sp := rMake (m := m) (s := s) (p := p) (T := T) (os := os) (N := N) hi0 hi1 (kind := 1) hdc hT htot hpl hpar hfi hd hi hTi hb hx hk hfit) (h := ?_)
 rintro _ _ ⟨rfl, os2, hsub, rfl⟩
 refine .assign (.z ?_)
 refine .ret (?_)
 exact .ret1 (h1 := .tmp (t := 4) rfl) ⟨_, ⟨rfl, os2, hsub, rfl⟩, Am.auto⟩
theorem rCreateE {m s : Nat} {p : Pl} {T : FT} {os : List (Nat × Obj)} {N : Nat} (hi0 : 1 <= p.ino) (hi1 : p.ino <= 4096) {path : Bytes} {e : Nat} (hT : RT p T) (hcl : TCl T) (hpl : path.length <= 100000) (he : makeE T path = e) (he0 : e ≠ 0) : Spec Tryz.prog 30 #[.pointer (some ⟨m, 0, none⟩), sv path] [RF m s, RS s p T os N, frz os] fun F v M => v = nI e /\ M = RF m s :: RS s p T os N :: frz os :: F := by
 refine Spec.intro Tryz.func30 rfl rfl fun B F => ?_
 simp only [Tryz.ntmps30, List.cons_append, List.nil_append, env0, Nat.reduceAdd]
 refine .sr (.assign (.x (.move (.move ?_))))
 refine .call (hc := Tryz.call83) (sp := rMakeE (m := m) (s := s) (p := p) (T := T) (os := os) (N := N) hi0 hi1 (kind := 1) hT hcl hpl he he0) (h := ?_)
 rintro _ _ ⟨rfl, rfl⟩
 refine .assign (.z ?_)
 refine .ret (?_)
 exact .ret1 (h1 := .tmp (t := 4) rfl) ⟨_, ⟨rfl, rfl⟩, Am.auto⟩
theorem zv149 : zvOf Tryz.prog 149 = some (.agg (#[.string ⟨#[]⟩, .int .i64 0])) := by kernel_rfl
theorem z149 : zeroOf Tryz.prog 149 = some (#[.string ⟨#[]⟩, .int .i64 0]) := by kernel_rfl
theorem ptr55 : ptrOk Tryz.prog 55 = true := by kernel_rfl
theorem fo147_1 : fieldOk Tryz.prog 147 1 1 = true := by kernel_rfl
theorem sc145 : scalarOk Tryz.prog 145 = true := by kernel_rfl
theorem agg149 : aggOk Tryz.prog 149 2 = true := by kernel_rfl
theorem mp145 : mapOk Tryz.prog 145 3 149 = true := by kernel_rfl
theorem fo149_1 : fieldOk Tryz.prog 149 1 1 = true := by kernel_rfl
theorem fo147_0 : fieldOk Tryz.prog 147 0 0 = true := by kernel_rfl
theorem fo149_0 : fieldOk Tryz.prog 149 0 0 = true := by kernel_rfl
theorem bdTb (f m : Nat) : BuildOk Tryz.prog 147 [(0, .pointer (some ⟨f, 0, none⟩)), (1, .map (some m))] #[.pointer (some ⟨f, 0, none⟩), .map (some m)] := fun w => by kernel_rfl
theorem bdOp (s : ByteArray) : BuildOk Tryz.prog 149 [(0, .string s)] #[.string s, .int .i64 0] := fun w => by kernel_rfl
def tO (f mp : Nat) : Obj := .cells #[.pointer (some ⟨f, 0, none⟩), .map (some mp)] 147 (0, 0)
def opV (path : Bytes) (at' : Nat) : Value := .agg #[sv path, nI at']
structure TBP (kv : List (Int × Value)) (y : Nat × Array MapEntry × Nat) : Prop where
 hm : MapIs intE y.2.1 y.2.2 kv
def tbLs (t f : Nat) (y : Nat × Array MapEntry × Nat) : List HP := [pt t (tO f y.1), pt y.1 (.map y.2.1 y.2.2)]
def TB (t f : Nat) (kv : List (Int × Value)) : HP := fun h => ∃ y, TBP kv y /\ star (tbLs t f y) h
theorem TB.opens (t f : Nat) (kv : List (Int × Value)) : Opens (TB t f kv) (TBP kv) (tbLs t f) := ⟨fun h hh => hh, fun x hp h hh => ⟨x, hp, hh⟩⟩
attribute [irreducible] TB
theorem Spec.frameR {P : Program} {f : FuncId} {args : Array Value} {x : Value} {R : HP} (h : Spec P f args [] fun F v M => v = x /\ M = F) : Spec P f (args ++ #[]) [R] fun F v M => v = x /\ M = R :: F := by
 rw [Array.append_empty]
 exact fun B F w hs => h B (R :: F) w hs
theorem tbNew {f : Nat} : Spec Tryz.prog 81 #[.pointer (some ⟨f, 0, none⟩)] [] fun F v M => ∃ t, v = .pointer (some ⟨t, 0, none⟩) /\ M = TB t f [] :: F := by
 refine Spec.intro Tryz.func81 rfl rfl fun B F => ?_
 simp only [Tryz.ntmps81, List.cons_append, List.nil_append, env0, Nat.reduceAdd]
 refine .sr (.assign (.x (.move ?_)))
 refine .mkMap fun m4 => ?_
 refine .build ?_ (bdTb _ _)
 refine .box fun b6 => ?_
 refine .assign (.z ?_)
 refine .ret (?_)
 refine .shutR (TB.opens b6 f []) (m4, #[], 0) ⟨MapIs.empty _ _⟩ ?_
 exact .ret1 (h1 := .tmp (t := 2) rfl) ⟨_, ⟨b6, rfl, rfl⟩, Am.auto⟩
theorem tGet {t f : Nat} {kv : List (Int × Value)} {fd : Int} {path : Bytes} {at' : Nat} (hk : kget kv fd = some (opV path at')) : Spec Tryz.prog 113 #[.pointer (some ⟨t, 0, none⟩), .int .i64 fd] [TB t f kv] fun F v M => v = .tuple #[.agg #[sv path, nI at'], .int .i64 0] /\ M = TB t f kv :: F := by
 refine Spec.intro Tryz.func113 rfl rfl fun B F => ?_
 simp only [Tryz.ntmps113, List.cons_append, List.nil_append, env0, Nat.reduceAdd]
 refine .openR (TB.opens t f kv) fun y hy => ?_
 obtain ⟨mp, es, c⟩ := y
 simp only [tbLs, List.cons_append, List.nil_append]
 refine .sr ?_
 refine .alloc z149 fun b4 => ?_
 refine .assign (.z (.seq (.sr (.move ?_))))
 refine .eqNil ?_ ptr55
 refine .z ?_
 refine .condF rfl rfl ?_
 refine .skip (.next (.sr (.move ?_)))
 refine .nilCheck ?_
 refine .fa ?_ fo147_1
 refine .ld ?_ sc145
 refine .move ?_
 refine .lookOk (k := fd) klF hy.hm mp145 zv149 ?_
 refine .cast (d := 17) (u := .tuple #[.agg #[sv path, nI at'], .bool true]) rfl (by rw [hk]; rfl) ?_
 refine .move ?_
 refine .extract ?_
 refine .extract ?_
 refine .alloc z149 fun b6 => ?_
 refine .stV ?_ agg149
 refine .assign (.z (.seq (.sr (.move ?_))))
 refine .not ?_
 refine .z ?_
 refine .condF rfl rfl ?_
 refine .skip (.next (.sr ?_))
 refine .ldA ?_ agg149
 refine .stV ?_ agg149
 refine .assign (.z ?_)
 refine .ret (?_)
 refine .shutR (TB.opens t f (kv)) (mp, es, c) hy ?_
 exact .ret2 (h2 := .tmp (t := 5) rfl) ⟨_, ⟨rfl, rfl⟩, Am.auto⟩
theorem tGetNo {t f : Nat} {kv : List (Int × Value)} {fd : Int} (hk : kget kv fd = none) : Spec Tryz.prog 113 #[.pointer (some ⟨t, 0, none⟩), .int .i64 fd] [TB t f kv] fun F v M => v = .tuple #[.agg #[sv [], nI 0], .int .i64 1] /\ M = TB t f kv :: F := by
 refine Spec.intro Tryz.func113 rfl rfl fun B F => ?_
 simp only [Tryz.ntmps113, List.cons_append, List.nil_append, env0, Nat.reduceAdd]
 refine .openR (TB.opens t f kv) fun y hy => ?_
 obtain ⟨mp, es, c⟩ := y
 simp only [tbLs, List.cons_append, List.nil_append]
 refine .sr ?_
 refine .alloc z149 fun b4 => ?_
 refine .assign (.z (.seq (.sr (.move ?_))))
 refine .eqNil ?_ ptr55
 refine .z ?_
 refine .condF rfl rfl ?_
 refine .skip (.next (.sr (.move ?_)))
 refine .nilCheck ?_
 refine .fa ?_ fo147_1
 refine .ld ?_ sc145
 refine .move ?_
 refine .lookOk (k := fd) klF hy.hm mp145 zv149 ?_
 refine .cast (d := 17) (u := .tuple #[.agg #[.string ⟨#[]⟩, .int .i64 0], .bool false]) rfl (by rw [hk]; rfl) ?_
 refine .move ?_
 refine .extract ?_
 refine .extract ?_
 refine .alloc z149 fun b6 => ?_
 refine .stV ?_ agg149
 refine .assign (.z (.seq (.sr (.move ?_))))
 refine .not ?_
 refine .z ?_
 refine .condT rfl rfl ?_
 refine .sr ?_
 refine .build (cs := #[sv [], nI 0]) ?_ (fun w => by kernel_rfl)
 refine .stV ?_ agg149
 refine .assign (.z ?_)
 refine .ret (.thenRet (?_))
 refine .shutR (TB.opens t f (kv)) (mp, es, c) hy ?_
 exact .ret2 (h2 := .tmp (t := 5) rfl) ⟨_, ⟨rfl, rfl⟩, Am.auto⟩
theorem tClose {t f : Nat} {kv : List (Int × Value)} {fd : Int} {path : Bytes} {at' : Nat} (hk : kget kv fd = some (opV path at')) : Spec Tryz.prog 56 #[.pointer (some ⟨t, 0, none⟩), .int .i64 fd] [TB t f kv] fun F v M => v = okV /\ M = TB t f (kdel kv fd) :: F := by
 refine Spec.intro Tryz.func56 rfl rfl fun B F => ?_
 simp only [Tryz.ntmps56, List.cons_append, List.nil_append, env0, Nat.reduceAdd]
 refine .sr (.assign (.x (.move (.move ?_))))
 refine .call (hc := Tryz.call113) (sp := tGet (t := t) (f := f) (kv := kv) (fd := fd) hk) (h := ?_)
 rintro _ _ ⟨rfl, rfl⟩
 refine .move ?_
 refine .extract ?_
 refine .extract ?_
 refine .alloc z149 fun b5 => ?_
 refine .stV ?_ agg149
 refine .assign (.z (.seq (.sr (.move ?_))))
 refine .eqi ?_
 refine .z ?_
 refine .condT rfl (congrArg Value.bool (by first|simp;done|simp;omega|omega)) ?_
 refine .region ?_
 refine .openR (TB.opens t f kv) fun y hy => ?_
 obtain ⟨mp, es, c⟩ := y
 simp only [tbLs, List.cons_append, List.nil_append]
 refine .move ?_
 refine .nilCheck ?_
 refine .fa ?_ fo147_1
 refine .ld ?_ sc145
 refine .move ?_
 refine .delM (k := fd) klF hy.hm mp145 fun es2 hm2 => ?_
 refine .x (.move (.assign (.z ?_)))
 refine .ret (?_)
 refine .shutR (TB.opens t f (kdel kv fd)) (mp, es2, c) ⟨hm2⟩ ?_
 exact .ret1 (h1 := .tmp (t := 4) rfl) ⟨_, ⟨rfl, rfl⟩, Am.auto⟩
theorem tCloseNo {t f : Nat} {kv : List (Int × Value)} {fd : Int} (hk : kget kv fd = none) : Spec Tryz.prog 56 #[.pointer (some ⟨t, 0, none⟩), .int .i64 fd] [TB t f kv] fun F v M => v = .int .i64 1 /\ M = TB t f kv :: F := by
 refine Spec.intro Tryz.func56 rfl rfl fun B F => ?_
 simp only [Tryz.ntmps56, List.cons_append, List.nil_append, env0, Nat.reduceAdd]
 refine .sr (.assign (.x (.move (.move ?_))))
 refine .call (hc := Tryz.call113) (sp := tGetNo (t := t) (f := f) (kv := kv) (fd := fd) hk) (h := ?_)
 rintro _ _ ⟨rfl, rfl⟩
 refine .move ?_
 refine .extract ?_
 refine .extract ?_
 refine .alloc z149 fun b5 => ?_
 refine .stV ?_ agg149
 refine .assign (.z (.seq (.sr (.move ?_))))
 refine .eqi ?_
 refine .z ?_
 refine .condF rfl (congrArg Value.bool (by first|simp;done|simp;omega|omega)) ?_
 refine .skip (.next (.sr (.move (.assign (.z ?_)))))
 refine .ret (?_)
 exact .ret1 (h1 := .tmp (t := 4) rfl) ⟨_, ⟨rfl, rfl⟩, Am.auto⟩
theorem tSeek {t f : Nat} {kv : List (Int × Value)} {fd : Int} {path : Bytes} {at' : Nat} (hk : kget kv fd = some (opV path at')) {k : Nat} : Spec Tryz.prog 79 #[.pointer (some ⟨t, 0, none⟩), .int .i64 fd, nI k] [TB t f kv] fun F v M => v = okV /\ M = TB t f (kput kv fd (opV path k)) :: F := by
 refine Spec.intro Tryz.func79 rfl rfl fun B F => ?_
 simp only [Tryz.ntmps79, List.cons_append, List.nil_append, env0, Nat.reduceAdd]
 refine .sr (.assign (.x (.move (.move ?_))))
 refine .call (hc := Tryz.call113) (sp := tGet (t := t) (f := f) (kv := kv) (fd := fd) hk) (h := ?_)
 rintro _ _ ⟨rfl, rfl⟩
 refine .move ?_
 refine .extract ?_
 refine .extract ?_
 refine .alloc z149 fun b7 => ?_
 refine .stV ?_ agg149
 refine .assign (.z (.seq (.sr (.move ?_))))
 refine .nei ?_
 refine .z ?_
 refine .condF rfl (congrArg Value.bool (by first|simp;done|simp;omega|omega)) ?_
 refine .skip (.next (.seq (.sr (.move ?_))))
 refine .lss ?_
 refine .z ?_
 refine .condF rfl (congrArg Value.bool (by first|simp;done|simp;omega|omega)) ?_
 refine .skip (.next (.sr (.move ?_)))
 refine .fa ?_ fo149_1
 refine .st ?_ sc3
 refine .z (.seq ?_)
 refine .openR (TB.opens t f kv) fun y hy => ?_
 obtain ⟨mp, es, c⟩ := y
 simp only [tbLs, List.cons_append, List.nil_append]
 refine .dr ([pt t (tO f mp), pt b7 (.cells #[sv path, nI k] 149 (0, 0))]) [6] 7 mixed .autoJ ?_
 refine .tk 0 rfl .move ?_
 refine .tk 1 rfl .nilCheck ?_
 refine .tk 2 rfl (.fa fo147_1) ?_
 refine .tk 3 rfl (.ld sc145) ?_
 refine .tk 4 rfl .move ?_
 refine .tk 5 rfl (.ldA agg149) ?_
 refine .on 6 rfl fun hnp => ?_
 refine .upd (k := fd) klF hy.hm mp145 fun es2 c2 hm2 => ?_
 refine .nil (.wb hnp ?_)
 refine .fin ?_
 refine .next (.sr (.assign (.z ?_)))
 refine .ret (?_)
 refine .shutR (TB.opens t f (kput kv fd (opV path k))) (mp, es2, c2) ⟨hm2⟩ ?_
 exact .ret1 (h1 := .tmp (t := 6) rfl) ⟨_, ⟨rfl, rfl⟩, Am.auto⟩
theorem tWriteF {t f : Nat} {kv : List (Int × Value)} {fd : Int} {path : Bytes} {at' : Nat} (hk : kget kv fd = some (opV path at')) {p : Pl} {T T2 : FT} {R : HP} {A : Option Addr} {m cc : Nat} (sp : Spec Tryz.prog 75 #[.pointer (some ⟨f, 0, none⟩), sv path, nI at', .slice A m cc] [FSR f p T, R] fun F v M => v = okV /\ M = FSR f p T2 :: R :: F) (hb : at' + m <= 1073741824) : Spec Tryz.prog 78 #[.pointer (some ⟨t, 0, none⟩), .int .i64 fd, .slice A m cc] [TB t f kv, FSR f p T, R] fun F v M => v = okV /\ M = TB t f (kput kv fd (opV path (at' + m))) :: FSR f p T2 :: R :: F := by
 refine Spec.intro Tryz.func78 rfl rfl fun B F => ?_
 simp only [Tryz.ntmps78, List.cons_append, List.nil_append, env0, Nat.reduceAdd]
 refine .sr (.assign (.x (.move (.move ?_))))
 refine .call (hc := Tryz.call113) (sp := tGet (t := t) (f := f) (kv := kv) (fd := fd) hk) (h := ?_)
 rintro _ _ ⟨rfl, rfl⟩
 refine .move ?_
 refine .extract ?_
 refine .extract ?_
 refine .alloc z149 fun b7 => ?_
 refine .stV ?_ agg149
 refine .assign (.z (.seq (.sr (.move ?_))))
 refine .nei ?_
 refine .z ?_
 refine .condF rfl (congrArg Value.bool (by first|simp;done|simp;omega|omega)) ?_
 refine .skip (.next (.seq (.seq ?_)))
 refine .openR (TB.opens t f kv) fun y hy => ?_
 obtain ⟨mp, es, c⟩ := y
 simp only [tbLs, List.cons_append, List.nil_append]
 refine .dr ([pt t (tO f mp), pt b7 (.cells #[sv path, nI at'] 149 (0, 0))]) [] 11 mixed .autoJ ?_
 refine .tk 0 rfl .move ?_
 refine .tk 1 rfl .nilCheck ?_
 refine .tk 2 rfl (.fa fo147_0) ?_
 refine .tk 3 rfl (.ld sc23) ?_
 refine .tk 4 rfl (.fa fo149_0) ?_
 refine .tk 5 rfl (.ld sc9) ?_
 refine .tk 6 rfl (.fa fo149_1) ?_
 refine .tk 7 rfl (.ld sc3) ?_
 refine .tk 8 rfl .move ?_
 refine .on 9 rfl fun hnp => ?_
 refine .call (hc := Tryz.call75) (sp := sp) (h := ?_)
 rintro _ _ ⟨rfl, rfl⟩
 refine .nil (.wa hnp ?_)
 refine .tk 10 rfl .assign ?_
 refine .fin ?_
 refine .next (.sr (.move ?_))
 refine .nei ?_
 refine .z ?_
 refine .condF rfl (congrArg Value.bool (by first|simp;done|simp;omega|omega)) ?_
 refine .skip (.next (.sr ?_))
 refine .fa ?_ fo149_1
 refine .ld ?_ sc3
 refine .move ?_
 refine .lenS ?_ sl33
 refine .add ?_
 refine .cast (d := 36) (u := nI (at' + m)) rfl (congrArg (Value.int .i64) (by omega)) ?_
 refine .fa ?_ fo149_1
 refine .st ?_ sc3
 refine .z (.seq ?_)
 refine .dr ([pt t (tO f mp), pt b7 (.cells #[sv path, nI (at' + m)] 149 (0, 0))]) [6] 7 mixed .autoJ ?_
 refine .tk 0 rfl .move ?_
 refine .tk 1 rfl .nilCheck ?_
 refine .tk 2 rfl (.fa fo147_1) ?_
 refine .tk 3 rfl (.ld sc145) ?_
 refine .tk 4 rfl .move ?_
 refine .tk 5 rfl (.ldA agg149) ?_
 refine .on 6 rfl fun hnp => ?_
 refine .upd (k := fd) klF hy.hm mp145 fun es2 c2 hm2 => ?_
 refine .nil (.wb hnp ?_)
 refine .fin ?_
 refine .next (.sr (.assign (.z ?_)))
 refine .ret (?_)
 refine .shutR (TB.opens t f (kput kv fd (opV path (at' + m)))) (mp, es2, c2) ⟨hm2⟩ ?_
 exact .ret1 (h1 := .tmp (t := 6) rfl) ⟨_, ⟨rfl, rfl⟩, Am.auto⟩
theorem tRead1 {path : Bytes} {at' : Nat} : Spec Tryz.prog 157 #[.agg #[sv path, nI at']] [] fun F v M => v = nI at' /\ M = F := by
 refine Spec.intro Tryz.func157 rfl rfl fun B F => ?_
 simp only [Tryz.ntmps157, List.cons_append, List.nil_append, env0, Nat.reduceAdd]
 refine .sr ?_
 refine .box fun b1 => ?_
 refine .assign (.x ?_)
 refine .fa ?_ fo149_1
 refine .ld ?_ sc3
 refine .assign (.z ?_)
 refine .ret (?_)
 exact .ret1 (h1 := .tmp (t := 2) rfl) ⟨_, ⟨rfl, rfl⟩, Am.auto⟩
theorem tReadG {t f : Nat} {kv : List (Int × Value)} {fd : Int} {path : Bytes} {at' : Nat} (hk : kget kv fd = some (opV path at')) {p : Pl} {T : FT} {k n e : Nat} {bs : Bytes} (sp : Spec Tryz.prog 48 #[.pointer (some ⟨f, 0, none⟩), sv path, nI k, nI n] [FSR f p T] fun F v M => ∃ u, v = .tuple #[u, nI e] /\ M = rowR 5 1 u bs.length (bvs bs) :: FSR f p T :: F) {R : HP} {q : FuncId} {cap : Array Value} (hc : ∀ args w, (callFunc q args).run Tryz.prog w = .ok (.enter q args) w) (sq : Spec Tryz.prog q (#[.agg #[sv path, nI at']] ++ cap) [R] fun F v M => v = nI k /\ M = R :: F) : Spec Tryz.prog 114 #[.pointer (some ⟨t, 0, none⟩), .int .i64 fd, nI n, .func (.func q) #[] cap] [TB t f kv, FSR f p T, R] fun F v M => ∃ u, v = .tuple #[.agg #[sv path, nI at'], u, nI e] /\ M = rowR 5 1 u bs.length (bvs bs) :: TB t f kv :: FSR f p T :: R :: F := by
 refine Spec.intro Tryz.func114 rfl rfl fun B F => ?_
 simp only [Tryz.ntmps114, List.cons_append, List.nil_append, env0, Nat.reduceAdd]
 refine .sr ?_
 refine .alloc z149 fun b8 => ?_
 refine .assign (.assign (.x (.move (.move ?_))))
 refine .call (hc := Tryz.call113) (sp := tGet (t := t) (f := f) (kv := kv) (fd := fd) hk) (h := ?_)
 rintro _ _ ⟨rfl, rfl⟩
 refine .move ?_
 refine .extract ?_
 refine .extract ?_
 refine .stV ?_ agg149
 refine .assign (.z (.seq (.sr (.move ?_))))
 refine .nei ?_
 refine .z ?_
 refine .condF rfl (congrArg Value.bool (by first|simp;done|simp;omega|omega)) ?_
 refine .skip (.next (.seq ?_))
 refine .openR (TB.opens t f kv) fun y hy => ?_
 obtain ⟨mp, es, c⟩ := y
 simp only [tbLs, List.cons_append, List.nil_append]
 refine .dr ([pt t (tO f mp), pt b8 (.cells #[sv path, nI at'] 149 (0, 0))]) [] 16 mixed .autoJ ?_
 refine .tk 0 rfl .move ?_
 refine .tk 1 rfl .nilCheck ?_
 refine .tk 2 rfl (.fa fo147_0) ?_
 refine .tk 3 rfl (.ld sc23) ?_
 refine .tk 4 rfl (.fa fo149_0) ?_
 refine .tk 5 rfl (.ld sc9) ?_
 refine .tk 6 rfl .move ?_
 refine .tk 7 rfl (.ldA agg149) ?_
 refine .tk 9 rfl .move ?_
 refine .on 8 rfl fun hnp => ?_
 refine .callV (vs := [.agg #[sv path, nI at']]) (hc := hc) (sp := sq) (h := ?_)
 rintro _ _ ⟨rfl, rfl⟩
 refine .nil (.wa hnp ?_)
 refine .on 10 rfl fun hnp => ?_
 refine .call (hc := Tryz.call48) (sp := sp) (h := ?_)
 rintro _ _ ⟨u, rfl, rfl⟩
 refine .nil (.wa hnp ?_)
 refine .tk 11 rfl .move ?_
 refine .tk 12 rfl .extract ?_
 refine .tk 13 rfl .extract ?_
 refine .tk 14 rfl .assign ?_
 refine .tk 15 rfl .assign ?_
 refine .fin ?_
 refine .next (.sr ?_)
 refine .ldA ?_ agg149
 refine .move (.move ?_)
 refine .stV ?_ agg149
 refine .assign (.assign (.z ?_))
 refine .ret (?_)
 refine .shutR (TB.opens t f (kv)) (mp, es, c) hy ?_
 exact .ret3 (h2 := .tmp (t := 9) rfl) (h3 := .tmp (t := 10) rfl) ⟨_, ⟨u, rfl, rfl⟩, Am.auto⟩
theorem tbRead {t f : Nat} {kv : List (Int × Value)} {fd : Int} {path : Bytes} {at' : Nat} (hk : kget kv fd = some (opV path at')) {p : Pl} {T : FT} {n : Nat} {bs : Bytes} (sp : Spec Tryz.prog 48 #[.pointer (some ⟨f, 0, none⟩), sv path, nI at', nI n] [FSR f p T] fun F v M => ∃ u, v = .tuple #[u, .int .i64 0] /\ M = rowR 5 1 u bs.length (bvs bs) :: FSR f p T :: F) (hb : at' + bs.length <= 1073741824) : Spec Tryz.prog 80 #[.pointer (some ⟨t, 0, none⟩), .int .i64 fd, nI n] [TB t f kv, FSR f p T] fun F v M => ∃ u, v = .tuple #[u, .int .i64 0] /\ M = rowR 5 1 u bs.length (bvs bs) :: TB t f (kput kv fd (opV path (at' + bs.length))) :: FSR f p T :: F := by
 refine Spec.intro Tryz.func80 rfl rfl fun B F => ?_
 simp only [Tryz.ntmps80, List.cons_append, List.nil_append, env0, Nat.reduceAdd]
 refine .emp (A := bun []) bun.nil ?_
 refine .sr (.assign (.assign (.x (.move (.move (.move ?_))))))
 refine .call (hc := Tryz.call114) (sp := tReadG (t := t) (f := f) (kv := kv) (fd := fd) (e := 0) (R := bun []) (cap := #[]) hk sp Tryz.call157 ((tRead1 (path := path) (at' := at')).frameR)) (h := ?_)
 rintro _ _ ⟨u, rfl, rfl⟩
 refine .fact (rowR_shape (el := 5) (size := 1) (v := u) (k := bs.length) (xs := bvs bs)) (fun ⟨A, cc, hu, hR, hc1, hc2, hlen⟩ => ?_)
 subst hu
 refine .move ?_
 refine .extract ?_
 refine .extract ?_
 refine .extract ?_
 refine .alloc z149 fun b8 => ?_
 refine .stV ?_ agg149
 refine .assign (.assign (.z (.seq (.sr (.move ?_)))))
 refine .eqi ?_
 refine .z ?_
 refine .condT rfl (congrArg Value.bool (by first|simp;done|simp;omega|omega)) ?_
 refine .sr ?_
 refine .fa ?_ fo149_1
 refine .ld ?_ sc3
 refine .move ?_
 refine .lenS ?_ sl33
 refine .add ?_
 refine .cast (d := 25) (u := nI (at' + bs.length)) rfl (congrArg (Value.int .i64) (by omega)) ?_
 refine .fa ?_ fo149_1
 refine .st ?_ sc3
 refine .z ?_
 refine .openR (TB.opens t f kv) fun y hy => ?_
 obtain ⟨mp, es, c⟩ := y
 simp only [tbLs, List.cons_append, List.nil_append]
 refine .dr ([pt t (tO f mp), pt b8 (.cells #[sv path, nI (at' + bs.length)] 149 (0, 0))]) [6] 7 mixed .autoJ ?_
 refine .tk 0 rfl .move ?_
 refine .tk 1 rfl .nilCheck ?_
 refine .tk 2 rfl (.fa fo147_1) ?_
 refine .tk 3 rfl (.ld sc145) ?_
 refine .tk 4 rfl .move ?_
 refine .tk 5 rfl (.ldA agg149) ?_
 refine .on 6 rfl fun hnp => ?_
 refine .upd (k := fd) klF hy.hm mp145 fun es2 c2 hm2 => ?_
 refine .nil (.wb hnp ?_)
 refine .fin ?_
 refine .next (.sr (.move (.move (.assign (.assign (.z ?_))))))
 refine .ret (?_)
 refine .shutR (TB.opens t f (kput kv fd (opV path (at' + bs.length)))) (mp, es2, c2) ⟨hm2⟩ ?_
 exact .ret2 (h1 := .tmp (t := 6) rfl) (h2 := .tmp (t := 7) rfl) ⟨_, ⟨_, rfl, rfl⟩, Am.auto⟩
theorem tbOpen {t f : Nat} {kv : List (Int × Value)} {p : Pl} {T : FT} {path : Bytes} (ho : PlOk p) (hT : TOk T) (hpl : path.length <= 1000000) {i z : Nat} {mk : Bool} (hl : leadsT T path = (i, 1, z, 0)) {fd : Nat} (h32 : kv.length < 32) (hfree : kget kv (fd : Int) = none) (hbusy : ∀ j < fd, ∃ v, kget kv ((j : Nat) : Int) = some v /\ ∃ pa a, v = opV pa a) (hfd : fd <= 1073741824) : Spec Tryz.prog 31 #[.pointer (some ⟨t, 0, none⟩), sv path, .bool mk] [TB t f kv, FSR f p T] fun F v M => v = .tuple #[nI fd, .int .i64 0] /\ M = TB t f (kput kv (fd : Int) (opV path 0)) :: FSR f p T :: F := by
 refine Spec.intro Tryz.func31 rfl rfl fun B F => ?_
 simp only [Tryz.ntmps31, List.cons_append, List.nil_append, env0, Nat.reduceAdd]
 refine .openR (TB.opens t f kv) fun y hy => ?_
 obtain ⟨mp, es, c⟩ := y
 simp only [tbLs, List.cons_append, List.nil_append]
 have hsz : es.size = kv.length := hy.hm.length
 refine .sr (.assign (.assign (.z (.seq (.sr (.move ?_))))))
 refine .eqNil ?_ ptr55
 refine .move ?_
 refine .gT ?_
 refine .move ?_
 refine .gT ?_
 refine .nilCheck ?_
 refine .gT ?_
 refine .fa ?_ fo147_0
 refine .gT ?_
 refine .ld ?_ sc23
 refine .gT ?_
 refine .eqNil ?_ ptr23
 refine .pickF ?_
 refine .z ?_
 refine .condF rfl rfl ?_
 refine .skip (.next (.seq (.sr (.move ?_))))
 refine .nilCheck ?_
 refine .fa ?_ fo147_1
 refine .ld ?_ sc145
 refine .lenM ?_ mp145
 refine .geq ?_
 refine .z ?_
 refine .condF rfl (congrArg Value.bool (by first|simp;done|simp;omega|omega)) ?_
 refine .skip (.next (.sr (.move ?_)))
 refine .nilCheck ?_
 refine .fa ?_ fo147_0
 refine .ld ?_ sc23
 refine .move ?_
 refine .call (hc := Tryz.call25) (sp := fsStat (f := f) (p := p) (T := T) (path := path) ho hT hpl) (h := ?_)
 rintro _ _ ⟨rfl, rfl⟩
 rw [hl]
 refine .move ?_
 refine .extract ?_
 refine .extract ?_
 refine .alloc z51 fun b8 => ?_
 refine .stV ?_ agg51
 refine .assign (.z (.seq (.sr (.move ?_))))
 refine .eqi ?_
 refine .move ?_
 refine .gF ?_
 refine .pickF ?_
 refine .z ?_
 refine .condF rfl rfl ?_
 refine .skip (.next (.seq (.sr (.move ?_))))
 refine .nei ?_
 refine .z ?_
 refine .condF rfl (congrArg Value.bool (by first|simp;done|simp;omega|omega)) ?_
 refine .skip (.next (.seq (.sr ?_)))
 refine .fa ?_ fo51_0
 refine .ld ?_ sc3
 refine .nei ?_
 refine .z ?_
 refine .condF rfl (congrArg Value.bool (by first|simp;done|simp;omega|omega)) ?_
 refine .skip (.next (.sr (.assign (.z (.block ?_)))))
 refine .loopA (σ := Nat) (fun k => [(0, .pointer (some ⟨t, 0, none⟩)), (1, sv path), (11, .int .i64 ((k : Nat) : Int))]) (fun _ => [pt t (tO f mp), pt mp (.map es c), FSR f p T] ++ F) (fun k => k <= fd) (fun k => fd - k) 0 (Nat.zero_le _) ?_
 rintro k hkk
 refine .seq (.block (.sr (.move ?_)))
 refine .nilCheck ?_
 refine .fa ?_ fo147_1
 refine .ld ?_ sc145
 refine .move ?_
 by_cases hkf : k = fd
 ·subst hkf
  refine .lookOk (k := (k : Int)) klF hy.hm mp145 zv149 ?_
  refine .cast (d := 75) (u := .tuple #[.agg #[.string ⟨#[]⟩, .int .i64 0], .bool false]) rfl (by rw [hfree]; rfl) ?_
  refine .move ?_
  refine .extract ?_
  refine .extract ?_
  refine .alloc z149 fun b12 => ?_
  refine .stV ?_ agg149
  refine .assign (.x (.move ?_))
  refine .not ?_
  refine .z ?_
  refine .condT rfl rfl ?_
  refine .sr (.move ?_)
  refine .nilCheck ?_
  refine .fa ?_ fo147_1
  refine .ld ?_ sc145
  refine .move (.move ?_)
  refine .build ?_ (bdOp _)
  refine .upd (k := (k : Int)) klF hy.hm mp145 fun es2 c2 hm2 => ?_
  refine .x (.move (.assign (.assign (.z ?_))))
  refine .ret (.blockRet (.thenRet (.thenRet (.blockRet (?_)))))
  refine .shutR (TB.opens t f (kput kv (k : Int) (opV path 0))) (mp, es2, c2) ⟨hm2⟩ ?_
  exact .ret2 (h1 := .tmp (t := 6) rfl) (h2 := .tmp (t := 7) rfl) ⟨_, ⟨rfl, rfl⟩, Am.auto⟩
 ·obtain ⟨v, hv, pa, a, rfl⟩ := hbusy k (by omega)
  refine .lookOk (k := (k : Int)) klF hy.hm mp145 zv149 ?_
  refine .cast (d := 75) (u := .tuple #[.agg #[sv pa, nI a], .bool true]) rfl (by rw [hv]; rfl) ?_
  refine .move ?_
  refine .extract ?_
  refine .extract ?_
  refine .alloc z149 fun b12 => ?_
  refine .stV ?_ agg149
  refine .assign (.x (.move ?_))
  refine .not ?_
  refine .z ?_
  refine .condF rfl rfl ?_
  refine .skip (.blockNormal (.next (.region (.move ?_))))
  refine .add ?_
  refine .assign (.nil ?_)
  refine .cast (d := 11) (u := .int .i64 ((k + 1 : Nat) : Int)) rfl (congrArg (Value.int .i64) (by omega)) ?_
  exact .back (k + 1) (by show k + 1 <= fd; omega) (by show fd - (k + 1) < fd - k; omega)
theorem tOpenMake {t f : Nat} {kv : List (Int × Value)} {p : Pl} {T : FT} {path : Bytes} (ho : PlOk p) (hT : TOk T) (hpl : path.length <= 1000000) {T2 : FT} {i z : Nat} (hT2 : TOk T2) (hl : (leadsT T path).2.2.2 = 4) (hl2 : leadsT T2 path = (i, 1, z, 0)) (sp : Spec Tryz.prog 17 #[.pointer (some ⟨f, 0, none⟩), sv path] [FSR f p T] fun F v M => v = okV /\ M = FSR f p T2 :: F) {fd : Nat} (h32 : kv.length < 32) (hfree : kget kv (fd : Int) = none) (hbusy : ∀ j < fd, ∃ v, kget kv ((j : Nat) : Int) = some v /\ ∃ pa a, v = opV pa a) (hfd : fd <= 1073741824) : Spec Tryz.prog 31 #[.pointer (some ⟨t, 0, none⟩), sv path, .bool true] [TB t f kv, FSR f p T] fun F v M => v = .tuple #[nI fd, .int .i64 0] /\ M = TB t f (kput kv (fd : Int) (opV path 0)) :: FSR f p T2 :: F := by
 refine Spec.intro Tryz.func31 rfl rfl fun B F => ?_
 simp only [Tryz.ntmps31, List.cons_append, List.nil_append, env0, Nat.reduceAdd]
 refine .openR (TB.opens t f kv) fun y hy => ?_
 obtain ⟨mp, es, c⟩ := y
 simp only [tbLs, List.cons_append, List.nil_append]
 have hsz : es.size = kv.length := hy.hm.length
 refine .sr (.assign (.assign (.z (.seq (.sr (.move ?_))))))
 refine .eqNil ?_ ptr55
 refine .move ?_
 refine .gT ?_
 refine .move ?_
 refine .gT ?_
 refine .nilCheck ?_
 refine .gT ?_
 refine .fa ?_ fo147_0
 refine .gT ?_
 refine .ld ?_ sc23
 refine .gT ?_
 refine .eqNil ?_ ptr23
 refine .pickF ?_
 refine .z ?_
 refine .condF rfl rfl ?_
 refine .skip (.next (.seq (.sr (.move ?_))))
 refine .nilCheck ?_
 refine .fa ?_ fo147_1
 refine .ld ?_ sc145
 refine .lenM ?_ mp145
 refine .geq ?_
 refine .z ?_
 refine .condF rfl (congrArg Value.bool (by first|simp;done|simp;omega|omega)) ?_
 refine .skip (.next (.sr (.move ?_)))
 refine .nilCheck ?_
 refine .fa ?_ fo147_0
 refine .ld ?_ sc23
 refine .move ?_
 refine .call (hc := Tryz.call25) (sp := fsStat (f := f) (p := p) (T := T) (path := path) ho hT hpl) (h := ?_)
 rintro _ _ ⟨rfl, rfl⟩
 rw [hl]
 refine .move ?_
 refine .extract ?_
 refine .extract ?_
 refine .alloc z51 fun b8 => ?_
 refine .stV ?_ agg51
 refine .assign (.z (.seq (.sr (.move ?_))))
 refine .eqi ?_
 refine .move ?_
 refine .gT ?_
 refine .move ?_
 refine .pickT ?_
 refine .z ?_
 refine .condT rfl rfl ?_
 refine .seq (.sr (.move ?_))
 refine .nilCheck ?_
 refine .fa ?_ fo147_0
 refine .ld ?_ sc23
 refine .move ?_
 refine .call (hc := Tryz.call17) (sp := sp) (h := ?_)
 rintro _ _ ⟨rfl, rfl⟩
 refine .assign (.x (.move ?_))
 refine .nei ?_
 refine .z ?_
 refine .condF rfl (congrArg Value.bool (by first|simp;done|simp;omega|omega)) ?_
 refine .skip (.next (.region (.move ?_)))
 refine .nilCheck ?_
 refine .fa ?_ fo147_0
 refine .ld ?_ sc23
 refine .move ?_
 refine .call (hc := Tryz.call25) (sp := fsStat (f := f) (p := p) (T := T2) (path := path) ho hT2 hpl) (h := ?_)
 rintro _ _ ⟨rfl, rfl⟩
 rw [hl2]
 refine .move ?_
 refine .extract ?_
 refine .extract ?_
 refine .stV ?_ agg51
 refine .assign (.z (.seq (.sr (.move ?_))))
 refine .nei ?_
 refine .z ?_
 refine .condF rfl (congrArg Value.bool (by first|simp;done|simp;omega|omega)) ?_
 refine .skip (.next (.seq (.sr ?_)))
 refine .fa ?_ fo51_0
 refine .ld ?_ sc3
 refine .nei ?_
 refine .z ?_
 refine .condF rfl (congrArg Value.bool (by first|simp;done|simp;omega|omega)) ?_
 refine .skip (.next (.sr (.assign (.z (.block ?_)))))
 refine .loopA (σ := Nat) (fun k => [(0, .pointer (some ⟨t, 0, none⟩)), (1, sv path), (11, .int .i64 ((k : Nat) : Int))]) (fun _ => [pt t (tO f mp), pt mp (.map es c), FSR f p T2] ++ F) (fun k => k <= fd) (fun k => fd - k) 0 (Nat.zero_le _) ?_
 rintro k hkk
 refine .seq (.block (.sr (.move ?_)))
 refine .nilCheck ?_
 refine .fa ?_ fo147_1
 refine .ld ?_ sc145
 refine .move ?_
 by_cases hkf : k = fd
 ·subst hkf
  refine .lookOk (k := (k : Int)) klF hy.hm mp145 zv149 ?_
  refine .cast (d := 75) (u := .tuple #[.agg #[.string ⟨#[]⟩, .int .i64 0], .bool false]) rfl (by rw [hfree]; rfl) ?_
  refine .move ?_
  refine .extract ?_
  refine .extract ?_
  refine .alloc z149 fun b12 => ?_
  refine .stV ?_ agg149
  refine .assign (.x (.move ?_))
  refine .not ?_
  refine .z ?_
  refine .condT rfl rfl ?_
  refine .sr (.move ?_)
  refine .nilCheck ?_
  refine .fa ?_ fo147_1
  refine .ld ?_ sc145
  refine .move (.move ?_)
  refine .build ?_ (bdOp _)
  refine .upd (k := (k : Int)) klF hy.hm mp145 fun es2 c2 hm2 => ?_
  refine .x (.move (.assign (.assign (.z ?_))))
  refine .ret (.blockRet (.thenRet (.thenRet (.blockRet (?_)))))
  refine .shutR (TB.opens t f (kput kv (k : Int) (opV path 0))) (mp, es2, c2) ⟨hm2⟩ ?_
  exact .ret2 (h1 := .tmp (t := 6) rfl) (h2 := .tmp (t := 7) rfl) ⟨_, ⟨rfl, rfl⟩, Am.auto⟩
 ·obtain ⟨v, hv, pa, a, rfl⟩ := hbusy k (by omega)
  refine .lookOk (k := (k : Int)) klF hy.hm mp145 zv149 ?_
  refine .cast (d := 75) (u := .tuple #[.agg #[sv pa, nI a], .bool true]) rfl (by rw [hv]; rfl) ?_
  refine .move ?_
  refine .extract ?_
  refine .extract ?_
  refine .alloc z149 fun b12 => ?_
  refine .stV ?_ agg149
  refine .assign (.x (.move ?_))
  refine .not ?_
  refine .z ?_
  refine .condF rfl rfl ?_
  refine .skip (.blockNormal (.next (.region (.move ?_))))
  refine .add ?_
  refine .assign (.nil ?_)
  refine .cast (d := 11) (u := .int .i64 ((k + 1 : Nat) : Int)) rfl (congrArg (Value.int .i64) (by omega)) ?_
  exact .back (k + 1) (by show k + 1 <= fd; omega) (by show fd - (k + 1) < fd - k; omega)
def pD (n ino : Nat) : Pl := ⟨n, ino, 246, 247, 248, 248 + (ino + 7) / 8, n - (248 + (ino + 7) / 8)⟩
theorem pD_is {n ino : Nat} (h1 : 1 <= ino) (h2 : ino <= 4096) (hn : 249 + (ino + 7) / 8 <= n) (hn2 : n <= 4000) : PlIs (pD n ino) := by
 refine ⟨?_, ?_, ?_, ?_, ?_, ?_, ?_, ?_, ?_, ?_, ?_⟩
 all_goals (simp only [pD]; try first | omega | (left; omega))
theorem tot_rootT (n : Nat) : tot (fmT rootT) n = 0 := by rw [fmT_root]; exact tot_root n
theorem has_64 : has 64 = 1 := rfl
theorem root_least {T : FT} (h : T 0 ≠ none) : ∀ j < 1, T j ≠ none := fun j hj => by rw [show j = 0 from by omega]; exact h
theorem z155 : zeroOf Tryz.prog 155 = some (#[.string ⟨#[]⟩, .int .i64 0, .bool false]) := by kernel_rfl
theorem so151 : sliceOk Tryz.prog 151 155 3 32 = true := by kernel_rfl
theorem bdSto (a b c d e f h : Int) (A : Option Addr) (k cc : Nat) : BuildOk Tryz.prog 247 [(0, .agg #[.int .i64 a, .int .i64 b, .int .i64 c, .int .i64 d, .int .i64 e, .int .i64 f, .int .i64 h]), (1, .slice A k cc)] #[.int .i64 a, .int .i64 b, .int .i64 c, .int .i64 d, .int .i64 e, .int .i64 f, .int .i64 h, .slice A k cc, .int .i64 0, .slice none 0 0] := fun w => by kernel_rfl
theorem bdRF (s : Nat) : BuildOk Tryz.prog 159 [(0, .pointer (some ⟨s, 0, none⟩))] #[.pointer (some ⟨s, 0, none⟩), .pointer none, .bool false] := fun w => by kernel_rfl
theorem bdRT (m : Nat) (A : Option Addr) (k cc : Nat) : BuildOk Tryz.prog 153 [(0, .pointer (some ⟨m, 0, none⟩)), (1, .slice A k cc)] #[.pointer (some ⟨m, 0, none⟩), .slice A k cc] := fun w => by kernel_rfl
theorem p11_is : PlIs (pD 500 40) := pD_is (by decide) (by decide) (by decide) (by decide)
theorem flat_pos {k : Nat} (h : 1 <= k) : 0 < ((List.replicate k [Value.int .i64 0, .slice none 0 0]).flatten).length := by
 obtain ⟨j, rfl⟩ : ∃ j, k = j + 1 := ⟨k - 1, by omega⟩
 rw [List.replicate_succ, List.flatten_cons, List.length_append]
 exact Nat.lt_of_lt_of_le (by decide : 0 < [Value.int .i64 0, Value.slice none 0 0].length) (Nat.le_add_right _ _)
theorem refStore0 {p : Pl} (h1 : 1 <= p.ino) (h2 : p.ino <= 4096) : Spec Tryz.prog 117 #[.agg p.cells] [] fun F v M => ∃ s, v = .pointer (some ⟨s, 0, none⟩) /\ M = F := by
 refine Spec.intro Tryz.func117 rfl rfl fun B F => ?_
 simp only [Tryz.ntmps117, List.cons_append, List.nil_append, env0, Nat.reduceAdd]
 refine .sr ?_
 refine .box fun b1 => ?_
 refine .to (A := pt b1 (.cells p.cells 199 (0, 0))) (A' := pt b1 (.cells p.cells 199 (0, 0))) (fun h hh => hh) ?_
 refine .assign (.z (.seq ?_))
 refine .dr ([pt b1 (.cells p.cells 199 (0, 0))]) [] 7 mixed .autoJ ?_
 refine .tk 0 rfl (.ldA agg199) ?_
 refine .tk 1 rfl (.fa fo199_1) ?_
 refine .tk 2 rfl (.ld sc3) ?_
 refine .on 3 rfl fun hnp => ?_
 refine .mkSt (k := p.ino) (zs := [.int .i64 0, .slice none 0 0]) z244 rfl (by decide) (fun b7 => ?_) so245 (by omega) (by omega)
 refine .nil (.wa hnp ?_)
 refine .tk 4 rfl (.build (bdSto _ _ _ _ _ _ _ _ _ _)) ?_
 refine .on 5 rfl fun hnp => ?_
 refine .box fun b9 => ?_
 refine .nil (.wa hnp ?_)
 refine .tk 6 rfl .assign ?_
 refine .fin ?_
 refine .next (.sr (.move ?_))
 refine .nilCheck ?_
 refine .fa ?_ fo247_1
 refine .ld ?_ sc245
 refine .idx ?_ so245
 refine .fa ?_ fo244_0
 refine .stL (xs := (List.replicate p.ino [Value.int .i64 0, .slice none 0 0]).flatten) (i := 0) ?_ sc3 (flat_pos h1)
 refine .x (.move (.assign (.z ?_)))
 refine .ret (?_)
 exact .ret1 (h1 := .tmp (t := 2) rfl) ⟨_, ⟨b9, rfl, rfl⟩, Am.auto⟩
theorem refMakeOk {p : Pl} (h : PlIs p) : Spec Tryz.prog 116 #[nI p.n, nI p.ino] [] fun F v M => v = .tuple #[.agg p.cells, .int .i64 0] /\ M = F := by
 have h2 := h.bm; have h3 := h.m1; have h4 := h.da; have h5 := h.dc; have h8 := h.n2; have h9 := h.i1; have h10 := h.i2; have h11 := h.d1
 refine Spec.post (refMakeS (n := p.n) (ino := p.ino) (by omega) h8 h9 h10) ?_
 rintro F v M ⟨⟨q, hq, hn, hi, rfl⟩ | ⟨rfl, hno⟩, rfl⟩
 ·rw [hq.one h hn hi]; exact ⟨_, ⟨rfl, rfl⟩, Wk.refl⟩
 ·exact absurd (hno p h rfl rfl) id
theorem refFs0 {p : Pl} (h : PlIs p) : Spec Tryz.prog 57 #[nI p.n, nI p.ino] [] fun F v M => ∃ m, v = .tuple #[.pointer (some ⟨m, 0, none⟩), .int .i64 0] /\ M = F := by
 refine Spec.intro Tryz.func57 rfl rfl fun B F => ?_
 simp only [Tryz.ntmps57, List.cons_append, List.nil_append, env0, Nat.reduceAdd]
 refine .sr (.assign (.assign (.x (.move (.move ?_)))))
 refine .call (hc := Tryz.call116) (sp := refMakeOk h) (h := ?_)
 rintro _ _ ⟨rfl, hM⟩
 obtain rfl := hM.symm
 refine .move ?_
 refine .extract ?_
 refine .extract ?_
 refine .alloc z199 fun b6 => ?_
 refine .stV ?_ agg199
 refine .to (A := pt b6 (.cells p.cells 199 (0, 0))) (A' := pt b6 (.cells p.cells 199 (0, 0))) (fun h hh => hh) ?_
 refine .assign (.z (.seq (.sr (.move ?_))))
 refine .nei ?_
 refine .z ?_
 refine .condF rfl (congrArg Value.bool (by first|simp;done|simp;omega|omega)) ?_
 refine .skip (.next (.sr ?_))
 refine .ldA ?_ agg199
 refine .call (hc := Tryz.call117) (sp := refStore0 (p := p) h.i1 h.i2) (h := ?_)
 rintro _ _ ⟨s, rfl, rfl⟩
 refine .build ?_ (bdRF _)
 refine .box fun b20 => ?_
 refine .assign (.assign (.z ?_))
 refine .ret (?_)
 exact .ret2 (h1 := .tmp (t := 4) rfl) (h2 := .tmp (t := 5) rfl) ⟨_, ⟨b20, rfl, rfl⟩, Am.auto⟩
theorem refTb0 {m : Nat} : Spec Tryz.prog 82 #[.pointer (some ⟨m, 0, none⟩)] [] fun F v M => ∃ u, v = .pointer (some ⟨u, 0, none⟩) /\ M = F := by
 refine Spec.intro Tryz.func82 rfl rfl fun B F => ?_
 simp only [Tryz.ntmps82, List.cons_append, List.nil_append, env0, Nat.reduceAdd]
 refine .sr (.assign (.x (.move ?_)))
 refine .mkSt (k := 32) (zs := [.string ⟨#[]⟩, .int .i64 0, .bool false]) z155 rfl (by decide) (fun b4 => ?_) so151 (by decide) (by decide)
 refine .build ?_ (bdRT _ _ _ _)
 refine .box fun b6 => ?_
 refine .assign (.z ?_)
 refine .ret (?_)
 exact .ret1 (h1 := .tmp (t := 2) rfl) ⟨_, ⟨b6, rfl, rfl⟩, Am.auto⟩
theorem bsB3 (a b c : Int) : BuildSOk Tryz.prog 33 3 [(0, .int .u8 a), (1, .int .u8 b), (2, .int .u8 c)] 5 #[.int .u8 a, .int .u8 b, .int .u8 c] := fun w => by kernel_rfl
theorem litU : litOk Tryz.prog 33 = true := by kernel_rfl
def aT (b : Bytes) : FT := fun i => if i = 0 then some (.dir [some ([97], 1)]) else if i = 1 then some (.file b) else none
theorem aT_ok (b : Bytes) : TOk (aT b) := by
 intro d sl h
 unfold aT at h
 split at h
 ·injection h with h; injection h with h; subst h
  refine ⟨⟨fun q n i h => ?_, fun q r n i j h1 h2 => ?_⟩, by decide⟩
  ·rcases q with _ | q
   ·injection h with h; injection h with h; injection h with h1 h2; subst h1; subst h2; exact ⟨by decide, by decide⟩
   ·simp at h
  ·rcases q with _ | q
   ·rcases r with _ | r
    ·rfl
    ·simp at h2
   ·simp at h1
 ·split at h
  ·injection h with h; cases h
  ·cases h
theorem aT_file (b : Bytes) : fileT (aT b) [47, 97] = (1, 1, b.length, 0) := rfl
theorem aT_leads (b : Bytes) : leadsT (aT b) [47, 97] = (1, 1, b.length, 0) := rfl
theorem aT_1 (b : Bytes) : aT b 1 = some (.file b) := rfl
theorem root_leads : (leadsT rootT [47, 97]).2.2.2 = 4 := rfl
theorem aT_upd (b b' : Bytes) : updT (aT b) 1 (some (.file b')) = aT b' := by
 funext i
 unfold updT aT
 by_cases h : i = 1
 ·subst h; rfl
 ·rw [if_neg h]
  by_cases h0 : i = 0
  ·rw [if_pos h0, if_pos h0]
  ·rw [if_neg h0, if_neg h0, if_neg h, if_neg h]
theorem mkT_a : mkT rootT 0 [] [97] 1 (.file []) = aT [] := by
 funext i
 unfold mkT updT rootT aT
 by_cases h0 : i = 0
 ·rw [if_pos h0, if_pos h0]; rfl
 ·rw [if_neg h0, if_neg h0]
  by_cases h1 : i = 1
  ·rw [if_pos h1, if_neg h0]
  ·rw [if_neg h1, if_neg h0]
theorem tot_aT (b : Bytes) {n : Nat} (h : 2 <= n) : tot (fmT (aT b)) n = 1 + has b.length := by
 obtain ⟨k, rfl⟩ : ∃ k, n = k + 2 := ⟨n - 2, by omega⟩
 clear h
 induction k with
 | zero =>
  show 0 + has 64 + has b.length = _
  rw [has_64]
 | succ k ih =>
  show tot (fmT (aT b)) (k + 2) + hasO (fmT (aT b) (k + 2)) = _
  rw [ih]
  have : fmT (aT b) (k + 2) = none := fmT_none (by unfold aT; rw [if_neg (by omega), if_neg (by omega)])
  rw [this]; rfl
theorem has_up (n : Nat) : has n <= (n + 511) / 512 + 1 := by
 unfold has dat
 split <;> omega
theorem has_dn (n : Nat) : (n + 511) / 512 <= has n := by
 unfold has dat
 split <;> omega
abbrev AFs (f : Nat) (b : Bytes) : HP := FSR f (pD 500 40) (aT b)
theorem fsCreateA {f : Nat} : Spec Tryz.prog 17 #[.pointer (some ⟨f, 0, none⟩), sv [47, 97]] [FSR f (pD 500 40) rootT] fun F v M => v = okV /\ M = AFs f [] :: F := by
 have := fsCreate (f := f) (p := pD 500 40) (T := rootT) (path := [47, 97]) (d := 0) (i := 1) (nm := [97]) (sl := []) (x := .file []) p11_is.ok rootT_ok (by decide) (by decide) rfl rfl rfl (by decide) rfl (root_least (by decide)) rfl rfl (.inr (by decide)) (by rw [tot_rootT]; decide)
 rwa [mkT_a] at this
theorem fsWriteA {f at' m cc : Nat} {b bs : Bytes} {R : HP} {A : Option Addr} (hR : bs = [] ∨ Reads R A (bvs bs)) (hm : bs.length = m) (hcc : m <= cc) (hcb : cc <= maxLen) (hat : at' <= b.length) (hm3 : m <= 4000) (hbg : at' + m <= 60000) (hbl : b.length <= 60000) :
  Spec Tryz.prog 75 #[.pointer (some ⟨f, 0, none⟩), sv [47, 97], nI at', .slice A m cc] [AFs f b, R] fun F v M => v = okV /\ M = AFs f (wrB b at' bs) :: R :: F := by
 have h1 := has_up (max b.length (at' + m))
 have h2 := has_dn b.length
 have := fsWrite (f := f) (p := pD 500 40) (T := aT b) (path := [47, 97]) (at' := at') (bs := bs) (R := R) (A := A) (m := m) (cc := cc) p11_is.ok (aT_ok _) (by decide) (aT_file _) (aT_1 _) hR hm hcc hcb (.inr (by show 248 - 245 + 0 + _ <= 60; omega)) hat (by omega) (by
  rw [tot_aT _ (by decide)]
  have : (pD 500 40).dc = 247 := rfl
  omega)
 rwa [aT_upd] at this
theorem fsReadA {f k n : Nat} {b : Bytes} (hk : k <= 9223372036854775807) (hn : n <= 9223372036854775807) : Spec Tryz.prog 48 #[.pointer (some ⟨f, 0, none⟩), sv [47, 97], nI k, nI n] [AFs f b] fun F v M => ∃ u, v = .tuple #[u, .int .i64 0] /\ M = rowR 5 1 u ((b.drop k).take n).length (bvs ((b.drop k).take n)) :: AFs f b :: F :=
 fsRead p11_is.ok (aT_ok _) (by decide) (aT_file _) (aT_1 _) hk hn
theorem tbOpenMk {t f : Nat} : Spec Tryz.prog 31 #[.pointer (some ⟨t, 0, none⟩), sv [47, 97], .bool true] [TB t f [], FSR f (pD 500 40) rootT] fun F v M => v = .tuple #[.int .i64 0, .int .i64 0] /\ M = TB t f [((0 : Int), opV [47, 97] 0)] :: AFs f [] :: F :=
 tOpenMake (fd := 0) p11_is.ok rootT_ok (by decide) (aT_ok _) root_leads (aT_leads []) fsCreateA (by decide) rfl (fun j hj => absurd hj (Nat.not_lt_zero j)) (by decide)
theorem l11Fresh : Spec Tryz.prog 27 #[] [] fun F v M => ∃ f t m u, v = .tuple #[.pointer (some ⟨f, 0, none⟩), .pointer (some ⟨t, 0, none⟩), .pointer (some ⟨m, 0, none⟩), .pointer (some ⟨u, 0, none⟩), .bool true] /\ M = TB t f [] :: FSR f (pD 500 40) rootT :: F := by
 refine Spec.intro Tryz.func27 rfl rfl fun B F => ?_
 simp only [Tryz.ntmps27, List.cons_append, List.nil_append, env0, Nat.reduceAdd]
 refine .sr (.assign (.assign (.assign (.assign (.assign (.x ?_))))))
 refine .call (hc := Tryz.call62) (sp := devNew (n := 500) (by decide) (by decide)) (h := ?_)
 rintro _ _ ⟨d, rfl, rfl⟩
 refine .move ?_
 refine .extract ?_
 refine .extract ?_
 refine .assign (.assign (.x ?_))
 refine .call (hc := Tryz.call57) (sp := refFs0 p11_is) (h := ?_)
 rintro _ _ ⟨m, rfl, rfl⟩
 refine .move ?_
 refine .extract ?_
 refine .extract ?_
 refine .assign (.assign (.z (.seq (.sr (.move ?_)))))
 refine .nei ?_
 refine .move ?_
 refine .gT ?_
 refine .move ?_
 refine .gT ?_
 refine .nei ?_
 refine .pickF ?_
 refine .move ?_
 refine .gT ?_
 refine .move ?_
 refine .gT ?_
 refine .eqNil ?_ ptr22
 refine .pickF ?_
 refine .move ?_
 refine .gT ?_
 refine .move ?_
 refine .gT ?_
 refine .call (hc := Tryz.call63) (sp := fsMkfs p11_is) (h := ?_)
 rintro _ _ ⟨J, rfl, hJ, rfl⟩
 refine .gT ?_
 refine .nei ?_
 refine .pickF ?_
 refine .z ?_
 refine .condF rfl (congrArg Value.bool (by first|simp;done|simp;omega|omega)) ?_
 refine .skip (.next (.sr (.move ?_)))
 refine .call (hc := Tryz.call64) (sp := fsMountNew p11_is hJ) (h := ?_)
 rintro _ _ ⟨f, rfl, rfl⟩
 refine .move ?_
 refine .extract ?_
 refine .extract ?_
 refine .assign (.assign (.x (.move ?_)))
 refine .call (hc := Tryz.call81) (sp := tbNew (f := f)) (h := ?_)
 rintro _ _ ⟨t, rfl, rfl⟩
 refine .assign (.x (.move (.move (.move (.move ?_)))))
 refine .call (hc := Tryz.call82) (sp := refTb0 (m := m)) (h := ?_)
 rintro _ _ ⟨u, rfl, rfl⟩
 refine .move ?_
 refine .eqi ?_
 refine .move ?_
 refine .gT ?_
 refine .move ?_
 refine .gT ?_
 refine .neNil ?_ ptr23
 refine .pickT ?_
 refine .move ?_
 refine .gT ?_
 refine .move ?_
 refine .gT ?_
 refine .neNil ?_ ptr55
 refine .pickT ?_
 refine .assign (.assign (.assign (.assign (.assign (.z ?_)))))
 refine .ret (?_)
 exact .ret5 (h1 := .tmp (t := 0) rfl) (h2 := .tmp (t := 1) rfl) (h3 := .tmp (t := 2) rfl) (h4 := .tmp (t := 3) rfl) (h5 := .tmp (t := 4) rfl) ⟨_, ⟨f, t, m, u, rfl, rfl⟩, Am.auto⟩
theorem l11Awake : Spec Tryz.prog 26 #[] [] fun F v M => v = .bool true /\ M = F := by
 refine Spec.intro Tryz.func26 rfl rfl fun B F => ?_
 simp only [Tryz.ntmps26, List.cons_append, List.nil_append, env0, Nat.reduceAdd]
 refine .sr (.assign (.x ?_))
 refine .call (hc := Tryz.call27) (sp := l11Fresh) (h := ?_)
 rintro _ _ ⟨f, t, m, u, rfl, rfl⟩
 refine .move ?_
 refine .extract ?_
 refine .extract ?_
 refine .extract ?_
 refine .extract ?_
 refine .extract ?_
 refine .assign (.assign (.assign (.assign (.assign (.z (.seq (.sr (.move ?_))))))))
 refine .not ?_
 refine .z ?_
 refine .condF rfl rfl ?_
 refine .skip (.next (.sr (.move ?_)))
 refine .call (hc := Tryz.call31) (sp := tbOpenMk (t := t) (f := f)) (h := ?_)
 rintro _ _ ⟨rfl, rfl⟩
 refine .move ?_
 refine .extract ?_
 refine .extract ?_
 refine .assign (.assign (.z (.seq (.sr (.move ?_)))))
 refine .nei ?_
 refine .move ?_
 refine .gT ?_
 refine .move ?_
 refine .gT ?_
 refine .nei ?_
 refine .pickF ?_
 refine .move ?_
 refine .cast (d := 30) (u := .bool false) rfl (congrArg Value.bool (by first|simp;done|simp;omega|omega)) ?_
 refine .gT ?_
 refine .move ?_
 refine .gT ?_
 refine .buildS (fun b32 => ?_) (bsB3 _ _ _)
 refine .gT ?_
 refine .cvtLit ?_ litU
 refine .gT ?_
 refine .call (hc := Tryz.call78) (sp := tWriteF (t := t) (f := f) (kv := [((0 : Int), opV [47, 97] 0)]) (fd := 0) (path := [47, 97]) (at' := 0) (m := 3) (cc := 3) (R := pt b32 (.cells #[.int .u8 97, .int .u8 98, .int .u8 99] 5 (3, 4))) (A := some ⟨b32, 0, none⟩) rfl (fsWriteA (b := []) (bs := [97, 98, 99]) (.inr Reads.pt) rfl (Nat.le_refl _) (by decide) (Nat.le_refl _) (by decide) (by decide) (by decide)) (by decide)) (h := ?_)
 rintro _ _ ⟨rfl, rfl⟩
 refine .gT ?_
 refine .nei ?_
 refine .pickF ?_
 refine .move ?_
 refine .cast (d := 37) (u := .bool false) rfl (congrArg Value.bool (by first|simp;done|simp;omega|omega)) ?_
 refine .gT ?_
 refine .move ?_
 refine .gT ?_
 refine .call (hc := Tryz.call79) (sp := tSeek (t := t) (f := f) (kv := [((0 : Int), opV [47, 97] (0 + 3))]) (fd := 0) (path := [47, 97]) (at' := 0 + 3) (k := 1) rfl) (h := ?_)
 rintro _ _ ⟨rfl, rfl⟩
 refine .gT ?_
 refine .nei ?_
 refine .pickF ?_
 refine .z ?_
 refine .condF rfl (congrArg Value.bool (by first|simp;done|simp;omega|omega)) ?_
 refine .skip (.next (.sr (.move ?_)))
 refine .call (hc := Tryz.call80) (sp := tbRead (t := t) (f := f) (kv := [((0 : Int), opV [47, 97] 1)]) (fd := 0) (path := [47, 97]) (at' := 1) (n := 9) rfl (fsReadA (b := wrB [] 0 [97, 98, 99]) (by decide) (by decide)) (by decide)) (h := ?_)
 rintro _ _ ⟨u2, rfl, rfl⟩
 refine .fact (rowR_shape (el := 5) (size := 1) (v := u2) (k := 2) (xs := bvs [98, 99])) (fun ⟨A, cc, hu, hR, hc1, hc2, hlen⟩ => ?_)
 subst hu
 refine .move ?_
 refine .extract ?_
 refine .extract ?_
 refine .assign (.assign (.x (.move ?_)))
 refine .eqi ?_
 refine .move ?_
 refine .gT ?_
 refine .move ?_
 refine .gT ?_
 refine .cvtBS (R := rowR 5 1 (.slice A 2 cc) 2 (bvs [98, 99])) (xs := [98, 99]) ?_ by33 st9 hR rfl
 refine .gT ?_
 refine .eqS [98, 99] [98, 99] ?_
 refine .pickT ?_
 refine .move ?_
 refine .gT ?_
 refine .move ?_
 refine .gT ?_
 refine .call (hc := Tryz.call56) (sp := tClose (t := t) (f := f) (kv := [((0 : Int), opV [47, 97] 3)]) (fd := 0) (path := [47, 97]) (at' := 3) rfl) (h := ?_)
 rintro _ _ ⟨rfl, rfl⟩
 refine .gT ?_
 refine .eqi ?_
 refine .pickT ?_
 refine .move ?_
 refine .gT ?_
 refine .move ?_
 refine .gT ?_
 refine .call (hc := Tryz.call56) (sp := tCloseNo (t := t) (f := f) (kv := []) (fd := 0) rfl) (h := ?_)
 rintro _ _ ⟨rfl, rfl⟩
 refine .gT ?_
 refine .eqi ?_
 refine .pickT ?_
 refine .assign (.z ?_)
 refine .ret (?_)
 exact .ret1 (h1 := .tmp (t := 0) rfl) ⟨_, ⟨rfl, rfl⟩, Am.auto⟩
theorem fo153_1 : fieldOk Tryz.prog 153 1 1 = true := by kernel_rfl
theorem sc151 : scalarOk Tryz.prog 151 = true := by kernel_rfl
theorem sl151 : Tryz.prog.underlying 151 = some (.slice 155) := by kernel_rfl
theorem fo155_2 : fieldOk Tryz.prog 155 2 2 = true := by kernel_rfl
theorem fo153_0 : fieldOk Tryz.prog 153 0 0 = true := by kernel_rfl
theorem sc56 : scalarOk Tryz.prog 56 = true := by kernel_rfl
theorem agg155 : aggOk Tryz.prog 155 3 = true := by kernel_rfl
theorem freeS_no (sl : List Slot) (x : Bytes × Nat) : sl[freeS sl]? ≠ some (some x) := by
 unfold freeS
 cases h : freeF sl sl.length with
 | none => show sl[sl.length]? ≠ _; rw [List.getElem?_eq_none (Nat.le_refl _)]; exact nofun
 | some r => show sl[r]? ≠ _; rw [(freeF_some h).2.1]; exact nofun
section
variable {T : FT} {d i : Nat} {nm : Bytes} {sl : List Slot} {x : NodeT}
theorem newDir (hok : DirOk sl) (hn : nameOk nm = true) (hl : lookS nm sl = none) (hi : i < 65536) : DirOk (setS sl (freeS sl) (some (nm, i))) :=
 hok.set (freeS_le sl) (nameOk_len hn) (by omega) fun r j _ => lookS_none hl r j
theorem RT.new {p : Pl} (h : RT p T) (h16 : p.ino <= 65536) (hd : T d = some (.dir sl)) (hlen : sl.length <= 999) (hfi : findT T d nm = (0, 4)) (hi : i < p.ino) (hx : x.empty) : RT p (mkT T d sl nm i x) := by
 obtain ⟨hn, hl⟩ := findT_no (by rw [hfi]) hd
 have hfr := freeS_le sl
 refine (h.upd hi (empty_rok hx).1).upd (in_ino h hd) (x := .dir (setS sl (freeS sl) (some (nm, i)))) ⟨⟨newDir (h.ok d sl hd).1 hn hl (by omega), ?_⟩, fun q m j hq => ?_⟩
 ·rw [setS_length hfr]; omega
 ·rcases rdir_at hfr hq with he | he
  ·injection he with he; injection he with _ he; omega
  ·exact h.small d sl hd q m j he
theorem mkT_mono (h : T d = some (.dir sl)) {k : Nat} (hk : T k ≠ none) : mkT T d sl nm i x k ≠ none := by
 unfold mkT
 by_cases hkd : k = d
 ·subst hkd; rw [updT_same]; exact nofun
 ·rw [updT_other _ _ hkd]
  by_cases hki : k = i
  ·subst hki; rw [updT_same]; exact nofun
  ·rwa [updT_other _ _ hki]
theorem mkT_d : mkT T d sl nm i x d = some (.dir (setS sl (freeS sl) (some (nm, i)))) := updT_same ..
theorem mkT_i (h : i ≠ d) : mkT T d sl nm i x i = some x := by unfold mkT; rw [updT_other _ _ h, updT_same]
theorem mkT_o {k : Nat} (h : k ≠ d) (h2 : k ≠ i) : mkT T d sl nm i x k = T k := by unfold mkT; rw [updT_other _ _ h, updT_other _ _ h2]
theorem TCl.new (h : TCl T) (hd : T d = some (.dir sl)) (hid : i ≠ d) (hx : x.empty) : TCl (mkT T d sl nm i x) := by
 refine ⟨mkT_mono hd h.root, fun e se q m k he hq => ?_⟩
 by_cases hed : e = d
 ·subst hed
  rw [mkT_d] at he
  injection he with he; injection he with he; subst he
  rcases rdir_at (freeS_le sl) hq with hh | hh
  ·injection hh with hh; injection hh with _ hh; subst hh; rw [mkT_i hid]; exact nofun
  ·exact mkT_mono hd (h.all e sl q m k hd hh)
 ·by_cases hei : e = i
  ·subst hei
   rw [mkT_i hid] at he
   injection he with he; subst he
   cases hx; cases hq
  ·rw [mkT_o hed hei] at he
   exact mkT_mono hd (h.all e se q m k he hq)
theorem findT_mk (hT : TOk T) (hd : T d = some (.dir sl)) (hTi : T i = none) (hi : i < 65536) (hfi : findT T d nm = (0, 4)) {e : Nat} {y : Bytes} (h : (findT T e y).2 = 0) : findT (mkT T d sl nm i x) e y = findT T e y := by
 obtain ⟨k, c, hf⟩ : ∃ k c, findT T e y = (k, c) := ⟨_, _, rfl⟩
 rw [hf] at h ⊢
 obtain rfl : c = 0 := h
 obtain ⟨hn, hl⟩ := findT_no (by rw [hfi]) hd
 obtain ⟨hy, se, q, he, hlk⟩ := findT_ok hf
 by_cases hed : e = d
 ·subst hed
  rw [hd] at he; injection he with he; injection he with he; subst he
  have hq := lookS_some hlk
  have h2 : lookS y (setS sl (freeS sl) (some (nm, i))) = some (q, k) := lookS_of (newDir (hT e sl hd).1 hn hl hi) (by
   rw [setS_other (freeS_le sl) (fun hh => by subst hh; exact freeS_no sl _ hq)]; exact hq)
  unfold findT
  rw [if_pos hy, mkT_d]
  simp only [h2]
 ·have hei : e ≠ i := fun hh => by subst hh; rw [hTi] at he; cases he
  unfold findT at hf ⊢
  rw [mkT_o hed hei]
  exact hf
theorem findT_new (hT : TOk T) (hd : T d = some (.dir sl)) (hi : i < 65536) (hfi : findT T d nm = (0, 4)) : findT (mkT T d sl nm i x) d nm = (i, 0) := by
 obtain ⟨hn, hl⟩ := findT_no (by rw [hfi]) hd
 have h2 : lookS nm (setS sl (freeS sl) (some (nm, i))) = some (freeS sl, i) := lookS_of (newDir (hT d sl hd).1 hn hl hi) (setS_same (freeS_le sl) _)
 unfold findT
 rw [if_pos hn, mkT_d]
 simp only [h2]
theorem walkT_mk (hT : TOk T) (hd : T d = some (.dir sl)) (hTi : T i = none) (hi : i < 65536) (hfi : findT T d nm = (0, 4)) : ∀ {l : List Bytes} {e : Nat}, (walkT T e l).2 = 0 -> walkT (mkT T d sl nm i x) e l = walkT T e l
 | [], e, _ => rfl
 | y :: r, e, h => by
  by_cases hf : (findT T e y).2 = 0
  ·rw [walkT_step hf] at h ⊢
   have h1 := findT_mk (x := x) hT hd hTi hi hfi hf
   rw [walkT_step (by rw [h1]; exact hf), h1]
   exact walkT_mk hT hd hTi hi hfi h
  ·rw [walkT_stop hf] at h; exact absurd h hf
theorem leadsT_mk (hT : TOk T) (hd : T d = some (.dir sl)) (hTi : T i = none) (hi : i < 65536) (hfi : findT T d nm = (0, 4)) {path : Bytes} (hpar : parentT T path = (d, nm, 0)) : leadsT (mkT T d sl nm i x) path = (i, x.kind, x.size, 0) := by
 have hid : i ≠ d := fun h => by subst h; rw [hTi] at hd; cases hd
 unfold parentT at hpar
 unfold leadsT
 cases hp : partsT path with
 | none => rw [hp] at hpar; cases hpar
 | some l =>
  rw [hp] at hpar
  simp only at hpar ⊢
  by_cases hl : l = []
  ·rw [if_pos hl] at hpar; cases hpar
  ·rw [if_neg hl] at hpar
   by_cases hw : (walkT T 0 l.dropLast).2 = 0
   ·rw [if_pos hw] at hpar
    split at hpar
    ·injection hpar with e1 e2
     injection e2 with e2 _
     have h1 := walkT_mk (x := x) hT hd hTi hi hfi hw
     have h2 : walkT (mkT T d sl nm i x) 0 l = (i, 0) := by
      rw [<- dropLast_last hl, walkT_app, h1, if_pos hw, e1, e2, findT_new hT hd hi hfi]
      rfl
     rw [h2]
     simp only [mkT_i hid]
     rfl
    ·cases hpar
   ·rw [if_neg hw] at hpar
    injection hpar with _ e2
    injection e2 with _ e3
    exact absurd e3 hw
theorem makeE_zero {path : Bytes} (h : makeE T path = 0) : path ≠ [47] /\ ∃ d nm sl, parentT T path = (d, nm, 0) /\ findT T d nm = (0, 4) /\ T d = some (.dir sl) := by
 unfold makeE at h
 split at h
 ·cases h
 rename_i hp
 refine ⟨hp, ?_⟩
 split at h
 ·rename_i h2; exact absurd h h2
 rename_i h2
 split at h
 ·rename_i h4
  have hpz : (parentT T path).2.2 = 0 := Decidable.of_not_not h2
  obtain ⟨sl, hsl⟩ := parentT_dir hpz
  refine ⟨(parentT T path).1, (parentT T path).2.1, sl, ?_, ?_, hsl⟩
  ·rw [<- hpz]
  ·have := findT_lt (T := T) (d := (parentT T path).1) (nm := (parentT T path).2.1) (by rw [h4]; decide)
   rw [<- h4, <- this]
 ·rename_i h4
  split at h
  ·cases h
  ·rename_i h5; exact absurd h h5
end
theorem bdFD (b : ByteArray) : BuildOk Tryz.prog 155 [(0, .string b), (2, .bool true)] #[.string b, .int .i64 0, .bool true] := fun w => by kernel_rfl
theorem uNew {m : Nat} : Spec Tryz.prog 82 #[.pointer (some ⟨m, 0, none⟩)] [] fun F v M => ∃ u g, v = .pointer (some ⟨u, 0, none⟩) /\ M = pt u (.cells #[.pointer (some ⟨m, 0, none⟩), .slice (some ⟨g, 0, none⟩) 32 32] 153 (0, 0)) :: row g 155 (List.replicate 32 [Value.string ⟨#[]⟩, .int .i64 0, .bool false]).flatten :: F := by
 refine Spec.intro Tryz.func82 rfl rfl fun B F => ?_
 simp only [Tryz.ntmps82, List.cons_append, List.nil_append, env0, Nat.reduceAdd]
 refine .sr (.assign (.x (.move ?_)))
 refine .mkSt (k := 32) (zs := [.string ⟨#[]⟩, .int .i64 0, .bool false]) z155 rfl (by decide) (fun b4 => ?_) so151 (by decide) (by decide)
 refine .build ?_ (bdRT _ _ _ _)
 refine .box fun b6 => ?_
 refine .assign (.z ?_)
 refine .ret (?_)
 exact .ret1 (h1 := .tmp (t := 2) rfl) ⟨_, ⟨b6, b4, rfl, rfl⟩, Am.auto⟩
theorem uOpenErr {u g m s : Nat} {p : Pl} {T : FT} {os : List (Nat × Obj)} {N : Nat} (hi0 : 1 <= p.ino) (hi1 : p.ino <= 4096) {path : Bytes} (hT : RT p T) (hpl : path.length <= 100000) {mk : Bool} {a b c e : Nat} (hl : leadsT T path = (a, b, c, e)) (he : e ≠ 0) (hm : mk = false ∨ e ≠ 4) : Spec Tryz.prog 32 #[.pointer (some ⟨u, 0, none⟩), sv path, .bool mk] [pt u (.cells #[.pointer (some ⟨m, 0, none⟩), .slice (some ⟨g, 0, none⟩) 32 32] 153 (0, 0)), row g 155 (List.replicate 32 [Value.string ⟨#[]⟩, .int .i64 0, .bool false]).flatten, RF m s, RS s p T os N, frz os] fun F v M => v = .tuple #[.int .i64 0, nI e] /\ M = RF m s :: RS s p T os N :: frz os :: F := by
 refine Spec.intro Tryz.func32 rfl rfl fun B F => ?_
 simp only [Tryz.ntmps32, List.cons_append, List.nil_append, env0, Nat.reduceAdd]
 refine .sr (.assign (.assign (.x (.assign (.z (.seq (.block ?_)))))))
 refine .loopA (σ := Nat) (fun k => [(0, .pointer (some ⟨u, 0, none⟩)), (1, sv path), (2, .bool mk), (8, .int .i64 ((k : Nat) : Int))]) (fun _ => [pt u (.cells #[.pointer (some ⟨m, 0, none⟩), .slice (some ⟨g, 0, none⟩) 32 32] 153 (0, 0)), row g 155 (List.replicate 32 [Value.string ⟨#[]⟩, .int .i64 0, .bool false]).flatten, RF m s, RS s p T os N, frz os] ++ F) (fun k => k <= 0) (fun k => 0 - k) 0 (Nat.zero_le _) ?_
 rintro k hkk
 obtain rfl : k = 0 := by omega
 refine .seq (.sr (.move (.move ?_)))
 refine .nilCheck ?_
 refine .fa ?_ fo153_1
 refine .ld ?_ sc151
 refine .lenS ?_ sl151
 refine .lss ?_
 refine .move ?_
 refine .gT ?_
 refine .move ?_
 refine .gT ?_
 refine .nilCheck ?_
 refine .gT ?_
 refine .fa ?_ fo153_1
 refine .gT ?_
 refine .ld ?_ sc151
 refine .gT ?_
 refine .move ?_
 refine .gT ?_
 refine .idx ?_ so151
 refine .gT ?_
 refine .fa ?_ fo155_2
 refine .gT ?_
 refine .ldL (i := 0 + (((0 : Nat) : Int).toNat * 3) + 2) (xs := (List.replicate 32 [Value.string ⟨#[]⟩, .int .i64 0, .bool false]).flatten) ?_ sc4 rfl
 refine .pickT ?_
 refine .z ?_
 refine .condF rfl (congrArg Value.bool (by first|simp;done|simp;omega|omega)) ?_
 refine .exit (.thenExit (.thenExit (.blockExit (?_))))
 refine .next (.seq (.sr (.move (.move ?_))))
 refine .nilCheck ?_
 refine .fa ?_ fo153_1
 refine .ld ?_ sc151
 refine .lenS ?_ sl151
 refine .eqi ?_
 refine .z ?_
 refine .condF rfl (congrArg Value.bool (by first|simp;done|simp;omega|omega)) ?_
 refine .skip (.next (.sr (.move ?_)))
 refine .nilCheck ?_
 refine .fa ?_ fo153_0
 refine .ld ?_ sc56
 refine .move ?_
 refine .call (hc := Tryz.call33) (sp := rStat (m := m) (s := s) (p := p) (T := T) (os := os) (N := N) hi0 hi1 (path := path) hT hpl) (h := ?_)
 rintro _ _ ⟨rfl, rfl⟩
 rw [hl]
 simp only
 refine .move ?_
 refine .extract ?_
 refine .extract ?_
 refine .alloc z51 fun b9 => ?_
 refine .stV ?_ agg51
 refine .assign (.z (.seq (.sr (.move ?_))))
 refine .eqi ?_
 refine .move ?_
 by_cases he4 : e = 4
 ·subst he4
  obtain rfl : mk = false := hm.resolve_right (fun h => h rfl)
  refine .gT ?_
  refine .move ?_
  refine .pickT ?_
  refine .z ?_
  refine .condF rfl (congrArg Value.bool (by first|simp;done|simp;omega|omega)) ?_
  refine .skip (.next (.seq (.sr (.move ?_))))
  refine .nei ?_
  refine .z ?_
  refine .condT rfl (congrArg Value.bool (by first|simp;done|simp;omega|omega)) ?_
  refine .sr (.move (.assign (.assign (.z ?_))))
  refine .ret (.thenRet (?_))
  exact .ret2 (h1 := .tmp (t := 6) rfl) (h2 := .tmp (t := 7) rfl) ⟨_, ⟨rfl, rfl⟩, Am.auto⟩
 ·refine .cast (d := 48) (u := .bool false) rfl (congrArg Value.bool (by first|simp;done|simp;omega|omega)) ?_
  refine .gF ?_
  refine .pickF ?_
  refine .z ?_
  refine .condF rfl rfl ?_
  refine .skip (.next (.seq (.sr (.move ?_))))
  refine .nei ?_
  refine .z ?_
  refine .condT rfl (congrArg Value.bool (by first|simp;done|simp;omega|omega)) ?_
  refine .sr (.move (.assign (.assign (.z ?_))))
  refine .ret (.thenRet (?_))
  exact .ret2 (h1 := .tmp (t := 6) rfl) (h2 := .tmp (t := 7) rfl) ⟨_, ⟨rfl, rfl⟩, Am.auto⟩
theorem uOpenKind {u g m s : Nat} {p : Pl} {T : FT} {os : List (Nat × Obj)} {N : Nat} (hi0 : 1 <= p.ino) (hi1 : p.ino <= 4096) {path : Bytes} (hT : RT p T) (hpl : path.length <= 100000) {mk : Bool} {a b c : Nat} (hl : leadsT T path = (a, b, c, 0)) (hk : b ≠ 1) : Spec Tryz.prog 32 #[.pointer (some ⟨u, 0, none⟩), sv path, .bool mk] [pt u (.cells #[.pointer (some ⟨m, 0, none⟩), .slice (some ⟨g, 0, none⟩) 32 32] 153 (0, 0)), row g 155 (List.replicate 32 [Value.string ⟨#[]⟩, .int .i64 0, .bool false]).flatten, RF m s, RS s p T os N, frz os] fun F v M => v = .tuple #[.int .i64 0, .int .i64 6] /\ M = RF m s :: RS s p T os N :: frz os :: F := by
 refine Spec.intro Tryz.func32 rfl rfl fun B F => ?_
 simp only [Tryz.ntmps32, List.cons_append, List.nil_append, env0, Nat.reduceAdd]
 refine .sr (.assign (.assign (.x (.assign (.z (.seq (.block ?_)))))))
 refine .loopA (σ := Nat) (fun k => [(0, .pointer (some ⟨u, 0, none⟩)), (1, sv path), (2, .bool mk), (8, .int .i64 ((k : Nat) : Int))]) (fun _ => [pt u (.cells #[.pointer (some ⟨m, 0, none⟩), .slice (some ⟨g, 0, none⟩) 32 32] 153 (0, 0)), row g 155 (List.replicate 32 [Value.string ⟨#[]⟩, .int .i64 0, .bool false]).flatten, RF m s, RS s p T os N, frz os] ++ F) (fun k => k <= 0) (fun k => 0 - k) 0 (Nat.zero_le _) ?_
 rintro k hkk
 obtain rfl : k = 0 := by omega
 refine .seq (.sr (.move (.move ?_)))
 refine .nilCheck ?_
 refine .fa ?_ fo153_1
 refine .ld ?_ sc151
 refine .lenS ?_ sl151
 refine .lss ?_
 refine .move ?_
 refine .gT ?_
 refine .move ?_
 refine .gT ?_
 refine .nilCheck ?_
 refine .gT ?_
 refine .fa ?_ fo153_1
 refine .gT ?_
 refine .ld ?_ sc151
 refine .gT ?_
 refine .move ?_
 refine .gT ?_
 refine .idx ?_ so151
 refine .gT ?_
 refine .fa ?_ fo155_2
 refine .gT ?_
 refine .ldL (i := 0 + (((0 : Nat) : Int).toNat * 3) + 2) (xs := (List.replicate 32 [Value.string ⟨#[]⟩, .int .i64 0, .bool false]).flatten) ?_ sc4 rfl
 refine .pickT ?_
 refine .z ?_
 refine .condF rfl (congrArg Value.bool (by first|simp;done|simp;omega|omega)) ?_
 refine .exit (.thenExit (.thenExit (.blockExit (?_))))
 refine .next (.seq (.sr (.move (.move ?_))))
 refine .nilCheck ?_
 refine .fa ?_ fo153_1
 refine .ld ?_ sc151
 refine .lenS ?_ sl151
 refine .eqi ?_
 refine .z ?_
 refine .condF rfl (congrArg Value.bool (by first|simp;done|simp;omega|omega)) ?_
 refine .skip (.next (.sr (.move ?_)))
 refine .nilCheck ?_
 refine .fa ?_ fo153_0
 refine .ld ?_ sc56
 refine .move ?_
 refine .call (hc := Tryz.call33) (sp := rStat (m := m) (s := s) (p := p) (T := T) (os := os) (N := N) hi0 hi1 (path := path) hT hpl) (h := ?_)
 rintro _ _ ⟨rfl, rfl⟩
 rw [hl]
 simp only
 refine .move ?_
 refine .extract ?_
 refine .extract ?_
 refine .alloc z51 fun b9 => ?_
 refine .stV ?_ agg51
 refine .assign (.z (.seq (.sr (.move ?_))))
 refine .eqi ?_
 refine .move ?_
 refine .gF ?_
 refine .pickF ?_
 refine .z ?_
 refine .condF rfl rfl ?_
 refine .skip (.next (.seq (.sr (.move ?_))))
 refine .nei ?_
 refine .z ?_
 refine .condF rfl (congrArg Value.bool (by first|simp;done|simp;omega|omega)) ?_
 refine .skip (.next (.seq (.sr ?_)))
 refine .fa ?_ fo51_0
 refine .ld ?_ sc3
 refine .nei ?_
 refine .z ?_
 refine .condT rfl (congrArg Value.bool (by first|simp;done|simp;omega|omega)) ?_
 refine .sr (.assign (.assign (.z ?_)))
 refine .ret (.thenRet (?_))
 exact .ret2 (h1 := .tmp (t := 6) rfl) (h2 := .tmp (t := 7) rfl) ⟨_, ⟨rfl, rfl⟩, Am.auto⟩
theorem uOpenOk {u g m s : Nat} {p : Pl} {T : FT} {os : List (Nat × Obj)} {N : Nat} (hi0 : 1 <= p.ino) (hi1 : p.ino <= 4096) {path : Bytes} (hT : RT p T) (hpl : path.length <= 100000) {mk : Bool} {a c : Nat} (hl : leadsT T path = (a, 1, c, 0)) : Spec Tryz.prog 32 #[.pointer (some ⟨u, 0, none⟩), sv path, .bool mk] [pt u (.cells #[.pointer (some ⟨m, 0, none⟩), .slice (some ⟨g, 0, none⟩) 32 32] 153 (0, 0)), row g 155 (List.replicate 32 [Value.string ⟨#[]⟩, .int .i64 0, .bool false]).flatten, RF m s, RS s p T os N, frz os] fun F v M => v = .tuple #[.int .i64 0, .int .i64 0] /\ M = RF m s :: RS s p T os N :: frz os :: F := by
 refine Spec.intro Tryz.func32 rfl rfl fun B F => ?_
 simp only [Tryz.ntmps32, List.cons_append, List.nil_append, env0, Nat.reduceAdd]
 refine .sr (.assign (.assign (.x (.assign (.z (.seq (.block ?_)))))))
 refine .loopA (σ := Nat) (fun k => [(0, .pointer (some ⟨u, 0, none⟩)), (1, sv path), (2, .bool mk), (8, .int .i64 ((k : Nat) : Int))]) (fun _ => [pt u (.cells #[.pointer (some ⟨m, 0, none⟩), .slice (some ⟨g, 0, none⟩) 32 32] 153 (0, 0)), row g 155 (List.replicate 32 [Value.string ⟨#[]⟩, .int .i64 0, .bool false]).flatten, RF m s, RS s p T os N, frz os] ++ F) (fun k => k <= 0) (fun k => 0 - k) 0 (Nat.zero_le _) ?_
 rintro k hkk
 obtain rfl : k = 0 := by omega
 refine .seq (.sr (.move (.move ?_)))
 refine .nilCheck ?_
 refine .fa ?_ fo153_1
 refine .ld ?_ sc151
 refine .lenS ?_ sl151
 refine .lss ?_
 refine .move ?_
 refine .gT ?_
 refine .move ?_
 refine .gT ?_
 refine .nilCheck ?_
 refine .gT ?_
 refine .fa ?_ fo153_1
 refine .gT ?_
 refine .ld ?_ sc151
 refine .gT ?_
 refine .move ?_
 refine .gT ?_
 refine .idx ?_ so151
 refine .gT ?_
 refine .fa ?_ fo155_2
 refine .gT ?_
 refine .ldL (i := 0 + (((0 : Nat) : Int).toNat * 3) + 2) (xs := (List.replicate 32 [Value.string ⟨#[]⟩, .int .i64 0, .bool false]).flatten) ?_ sc4 rfl
 refine .pickT ?_
 refine .z ?_
 refine .condF rfl (congrArg Value.bool (by first|simp;done|simp;omega|omega)) ?_
 refine .exit (.thenExit (.thenExit (.blockExit (?_))))
 refine .next (.seq (.sr (.move (.move ?_))))
 refine .nilCheck ?_
 refine .fa ?_ fo153_1
 refine .ld ?_ sc151
 refine .lenS ?_ sl151
 refine .eqi ?_
 refine .z ?_
 refine .condF rfl (congrArg Value.bool (by first|simp;done|simp;omega|omega)) ?_
 refine .skip (.next (.sr (.move ?_)))
 refine .nilCheck ?_
 refine .fa ?_ fo153_0
 refine .ld ?_ sc56
 refine .move ?_
 refine .call (hc := Tryz.call33) (sp := rStat (m := m) (s := s) (p := p) (T := T) (os := os) (N := N) hi0 hi1 (path := path) hT hpl) (h := ?_)
 rintro _ _ ⟨rfl, rfl⟩
 rw [hl]
 simp only
 refine .move ?_
 refine .extract ?_
 refine .extract ?_
 refine .alloc z51 fun b9 => ?_
 refine .stV ?_ agg51
 refine .assign (.z (.seq (.sr (.move ?_))))
 refine .eqi ?_
 refine .move ?_
 refine .gF ?_
 refine .pickF ?_
 refine .z ?_
 refine .condF rfl rfl ?_
 refine .skip (.next (.seq (.sr (.move ?_))))
 refine .nei ?_
 refine .z ?_
 refine .condF rfl (congrArg Value.bool (by first|simp;done|simp;omega|omega)) ?_
 refine .skip (.next (.seq (.sr ?_)))
 refine .fa ?_ fo51_0
 refine .ld ?_ sc3
 refine .nei ?_
 refine .z ?_
 refine .condF rfl (congrArg Value.bool (by first|simp;done|simp;omega|omega)) ?_
 refine .skip (.next (.sr (.move ?_)))
 refine .nilCheck ?_
 refine .fa ?_ fo153_1
 refine .ld ?_ sc151
 refine .move (.move ?_)
 refine .build ?_ (bdFD _)
 refine .idx ?_ so151
 refine .to (A := row g 155 (List.replicate 32 [Value.string ⟨#[]⟩, .int .i64 0, .bool false]).flatten) (A' := pt g (.cells (List.replicate 32 [Value.string ⟨#[]⟩, .int .i64 0, .bool false]).flatten.toArray 155 (0, 0))) (fun h hh => by unfold row at hh; exact hh) ?_
 refine .stA (cs := (List.replicate 32 [Value.string ⟨#[]⟩, .int .i64 0, .bool false]).flatten.toArray) (off := 0 + ((0 : Nat) : Int).toNat * 3) (us := #[sv path, .int .i64 0, .bool true]) ?_ agg155 rfl (by simp) (by intro x hx; simp only [List.mem_cons, List.not_mem_nil, or_false] at hx; rcases hx with rfl | rfl | rfl <;> rfl) (by decide) rfl
 refine .x (.move (.assign (.assign (.z ?_))))
 refine .ret (?_)
 exact .ret2 (h1 := .tmp (t := 6) rfl) (h2 := .tmp (t := 7) rfl) ⟨_, ⟨rfl, rfl⟩, Am.auto⟩
theorem uOpenMakeE {u g m s : Nat} {p : Pl} {T : FT} {os : List (Nat × Obj)} {N : Nat} (hi0 : 1 <= p.ino) (hi1 : p.ino <= 4096) {path : Bytes} (hT : RT p T) (hpl : path.length <= 100000) (hcl : TCl T) {a b c e : Nat} (hl : leadsT T path = (a, b, c, 4)) (he : makeE T path = e) (he0 : e ≠ 0) : Spec Tryz.prog 32 #[.pointer (some ⟨u, 0, none⟩), sv path, .bool true] [pt u (.cells #[.pointer (some ⟨m, 0, none⟩), .slice (some ⟨g, 0, none⟩) 32 32] 153 (0, 0)), row g 155 (List.replicate 32 [Value.string ⟨#[]⟩, .int .i64 0, .bool false]).flatten, RF m s, RS s p T os N, frz os] fun F v M => v = .tuple #[.int .i64 0, nI e] /\ M = RF m s :: RS s p T os N :: frz os :: F := by
 refine Spec.intro Tryz.func32 rfl rfl fun B F => ?_
 simp only [Tryz.ntmps32, List.cons_append, List.nil_append, env0, Nat.reduceAdd]
 refine .sr (.assign (.assign (.x (.assign (.z (.seq (.block ?_)))))))
 refine .loopA (σ := Nat) (fun k => [(0, .pointer (some ⟨u, 0, none⟩)), (1, sv path), (2, .bool true), (8, .int .i64 ((k : Nat) : Int))]) (fun _ => [pt u (.cells #[.pointer (some ⟨m, 0, none⟩), .slice (some ⟨g, 0, none⟩) 32 32] 153 (0, 0)), row g 155 (List.replicate 32 [Value.string ⟨#[]⟩, .int .i64 0, .bool false]).flatten, RF m s, RS s p T os N, frz os] ++ F) (fun k => k <= 0) (fun k => 0 - k) 0 (Nat.zero_le _) ?_
 rintro k hkk
 obtain rfl : k = 0 := by omega
 refine .seq (.sr (.move (.move ?_)))
 refine .nilCheck ?_
 refine .fa ?_ fo153_1
 refine .ld ?_ sc151
 refine .lenS ?_ sl151
 refine .lss ?_
 refine .move ?_
 refine .gT ?_
 refine .move ?_
 refine .gT ?_
 refine .nilCheck ?_
 refine .gT ?_
 refine .fa ?_ fo153_1
 refine .gT ?_
 refine .ld ?_ sc151
 refine .gT ?_
 refine .move ?_
 refine .gT ?_
 refine .idx ?_ so151
 refine .gT ?_
 refine .fa ?_ fo155_2
 refine .gT ?_
 refine .ldL (i := 0 + (((0 : Nat) : Int).toNat * 3) + 2) (xs := (List.replicate 32 [Value.string ⟨#[]⟩, .int .i64 0, .bool false]).flatten) ?_ sc4 rfl
 refine .pickT ?_
 refine .z ?_
 refine .condF rfl (congrArg Value.bool (by first|simp;done|simp;omega|omega)) ?_
 refine .exit (.thenExit (.thenExit (.blockExit (?_))))
 refine .next (.seq (.sr (.move (.move ?_))))
 refine .nilCheck ?_
 refine .fa ?_ fo153_1
 refine .ld ?_ sc151
 refine .lenS ?_ sl151
 refine .eqi ?_
 refine .z ?_
 refine .condF rfl (congrArg Value.bool (by first|simp;done|simp;omega|omega)) ?_
 refine .skip (.next (.sr (.move ?_)))
 refine .nilCheck ?_
 refine .fa ?_ fo153_0
 refine .ld ?_ sc56
 refine .move ?_
 refine .call (hc := Tryz.call33) (sp := rStat (m := m) (s := s) (p := p) (T := T) (os := os) (N := N) hi0 hi1 (path := path) hT hpl) (h := ?_)
 rintro _ _ ⟨rfl, rfl⟩
 rw [hl]
 simp only
 refine .move ?_
 refine .extract ?_
 refine .extract ?_
 refine .alloc z51 fun b9 => ?_
 refine .stV ?_ agg51
 refine .assign (.z (.seq (.sr (.move ?_))))
 refine .eqi ?_
 refine .move ?_
 refine .gT ?_
 refine .move ?_
 refine .pickT ?_
 refine .z ?_
 refine .condT rfl rfl ?_
 refine .sr (.move ?_)
 refine .nilCheck ?_
 refine .fa ?_ fo153_0
 refine .ld ?_ sc56
 refine .move ?_
 refine .call (hc := Tryz.call30) (sp := rCreateE (m := m) (s := s) (p := p) (T := T) (os := os) (N := N) hi0 hi1 (path := path) hT hcl hpl he he0) (h := ?_)
 rintro _ _ ⟨rfl, rfl⟩
 refine .assign (.z (.seq (.sr (.move ?_))))
 refine .nei ?_
 refine .z ?_
 refine .condT rfl (congrArg Value.bool (by first|simp;done|simp;omega|omega)) ?_
 refine .sr (.move (.assign (.assign (.z ?_))))
 refine .ret (.thenRet (.thenRet (?_)))
 exact .ret2 (h1 := .tmp (t := 6) rfl) (h2 := .tmp (t := 7) rfl) ⟨_, ⟨rfl, rfl⟩, Am.auto⟩
theorem uOpenMake {u g m s : Nat} {p : Pl} {T : FT} {os : List (Nat × Obj)} {N : Nat} (hi0 : 1 <= p.ino) (hi1 : p.ino <= 4096) {path : Bytes} (hT : RT p T) (hpl : path.length <= 100000) {a b c : Nat} (hl : leadsT T path = (a, b, c, 4)) {d i : Nat} {nm : Bytes} {sl : List Slot} (hdc : p.dc <= 1000000) (htot : tot (fmT T) p.ino <= p.dc) (hpar : parentT T path = (d, nm, 0)) (hfi : findT T d nm = (0, 4)) (hd : T d = some (.dir sl)) (hi : i < p.ino) (hTi : T i = none) (hb : ∀ j < i, T j ≠ none) (hfit : tot (fmT T) p.ino + has (max (64 * sl.length) (64 * freeS sl + 64)) <= p.dc + has (64 * sl.length)) : Spec Tryz.prog 32 #[.pointer (some ⟨u, 0, none⟩), sv path, .bool true] [pt u (.cells #[.pointer (some ⟨m, 0, none⟩), .slice (some ⟨g, 0, none⟩) 32 32] 153 (0, 0)), row g 155 (List.replicate 32 [Value.string ⟨#[]⟩, .int .i64 0, .bool false]).flatten, RF m s, RS s p T os N, frz os] fun F v M => v = .tuple #[.int .i64 0, .int .i64 0] /\ ∃ os2, M = RF m s :: RS s p (mkT T d sl nm i (.file [])) os2 (0 + 0 + 1 + (has 64 + 2) + 1) :: frz os2 :: F := by
 refine Spec.intro Tryz.func32 rfl rfl fun B F => ?_
 simp only [Tryz.ntmps32, List.cons_append, List.nil_append, env0, Nat.reduceAdd]
 refine .sr (.assign (.assign (.x (.assign (.z (.seq (.block ?_)))))))
 refine .loopA (σ := Nat) (fun k => [(0, .pointer (some ⟨u, 0, none⟩)), (1, sv path), (2, .bool true), (8, .int .i64 ((k : Nat) : Int))]) (fun _ => [pt u (.cells #[.pointer (some ⟨m, 0, none⟩), .slice (some ⟨g, 0, none⟩) 32 32] 153 (0, 0)), row g 155 (List.replicate 32 [Value.string ⟨#[]⟩, .int .i64 0, .bool false]).flatten, RF m s, RS s p T os N, frz os] ++ F) (fun k => k <= 0) (fun k => 0 - k) 0 (Nat.zero_le _) ?_
 rintro k hkk
 obtain rfl : k = 0 := by omega
 refine .seq (.sr (.move (.move ?_)))
 refine .nilCheck ?_
 refine .fa ?_ fo153_1
 refine .ld ?_ sc151
 refine .lenS ?_ sl151
 refine .lss ?_
 refine .move ?_
 refine .gT ?_
 refine .move ?_
 refine .gT ?_
 refine .nilCheck ?_
 refine .gT ?_
 refine .fa ?_ fo153_1
 refine .gT ?_
 refine .ld ?_ sc151
 refine .gT ?_
 refine .move ?_
 refine .gT ?_
 refine .idx ?_ so151
 refine .gT ?_
 refine .fa ?_ fo155_2
 refine .gT ?_
 refine .ldL (i := 0 + (((0 : Nat) : Int).toNat * 3) + 2) (xs := (List.replicate 32 [Value.string ⟨#[]⟩, .int .i64 0, .bool false]).flatten) ?_ sc4 rfl
 refine .pickT ?_
 refine .z ?_
 refine .condF rfl (congrArg Value.bool (by first|simp;done|simp;omega|omega)) ?_
 refine .exit (.thenExit (.thenExit (.blockExit (?_))))
 refine .next (.seq (.sr (.move (.move ?_))))
 refine .nilCheck ?_
 refine .fa ?_ fo153_1
 refine .ld ?_ sc151
 refine .lenS ?_ sl151
 refine .eqi ?_
 refine .z ?_
 refine .condF rfl (congrArg Value.bool (by first|simp;done|simp;omega|omega)) ?_
 refine .skip (.next (.sr (.move ?_)))
 refine .nilCheck ?_
 refine .fa ?_ fo153_0
 refine .ld ?_ sc56
 refine .move ?_
 refine .call (hc := Tryz.call33) (sp := rStat (m := m) (s := s) (p := p) (T := T) (os := os) (N := N) hi0 hi1 (path := path) hT hpl) (h := ?_)
 rintro _ _ ⟨rfl, rfl⟩
 rw [hl]
 simp only
 refine .move ?_
 refine .extract ?_
 refine .extract ?_
 refine .alloc z51 fun b9 => ?_
 refine .stV ?_ agg51
 refine .assign (.z (.seq (.sr (.move ?_))))
 refine .eqi ?_
 refine .move ?_
 refine .gT ?_
 refine .move ?_
 refine .pickT ?_
 refine .z ?_
 refine .condT rfl rfl ?_
 refine .sr (.move ?_)
 refine .nilCheck ?_
 refine .fa ?_ fo153_0
 refine .ld ?_ sc56
 refine .move ?_
 refine .call (hc := Tryz.call30) (sp := rCreate (m := m) (s := s) (p := p) (T := T) (os := os) (N := N) hi0 hi1 (path := path) (x := .file []) hdc hT htot hpl hpar hfi hd hi hTi hb rfl rfl hfit) (h := ?_)
 rintro _ _ ⟨rfl, os2, hsub, rfl⟩
 refine .assign (.z (.seq (.sr (.move ?_))))
 refine .nei ?_
 refine .z ?_
 refine .condF rfl (congrArg Value.bool (by first|simp;done|simp;omega|omega)) ?_
 refine .skip (.next (.region ?_))
 refine .fa ?_ fo51_0
 refine .st ?_ sc3
 refine .z (.seq (.sr (.move ?_)))
 refine .nei ?_
 refine .z ?_
 refine .condF rfl (congrArg Value.bool (by first|simp;done|simp;omega|omega)) ?_
 refine .skip (.next (.seq (.sr ?_)))
 refine .fa ?_ fo51_0
 refine .ld ?_ sc3
 refine .nei ?_
 refine .z ?_
 refine .condF rfl (congrArg Value.bool (by first|simp;done|simp;omega|omega)) ?_
 refine .skip (.next (.sr (.move ?_)))
 refine .nilCheck ?_
 refine .fa ?_ fo153_1
 refine .ld ?_ sc151
 refine .move (.move ?_)
 refine .build ?_ (bdFD _)
 refine .idx ?_ so151
 refine .to (A := row g 155 (List.replicate 32 [Value.string ⟨#[]⟩, .int .i64 0, .bool false]).flatten) (A' := pt g (.cells (List.replicate 32 [Value.string ⟨#[]⟩, .int .i64 0, .bool false]).flatten.toArray 155 (0, 0))) (fun h hh => by unfold row at hh; exact hh) ?_
 refine .stA (cs := (List.replicate 32 [Value.string ⟨#[]⟩, .int .i64 0, .bool false]).flatten.toArray) (off := 0 + ((0 : Nat) : Int).toNat * 3) (us := #[sv path, .int .i64 0, .bool true]) ?_ agg155 rfl (by simp) (by intro x hx; simp only [List.mem_cons, List.not_mem_nil, or_false] at hx; rcases hx with rfl | rfl | rfl <;> rfl) (by decide) rfl
 refine .x (.move (.assign (.assign (.z ?_))))
 refine .ret (?_)
 exact .ret2 (h1 := .tmp (t := 6) rfl) (h2 := .tmp (t := 7) rfl) ⟨_, ⟨rfl, os2, rfl⟩, Am.auto⟩
end Go.Proofs.YtdmjkjeoamiedaaGreatDoor
end
