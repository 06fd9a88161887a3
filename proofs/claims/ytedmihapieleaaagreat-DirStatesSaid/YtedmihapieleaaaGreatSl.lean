/- The ground of this seat's walks: assertions on memory kept as a list, and the judgements over code. Plain definitions and theorems, over any program. -/
import Derived.Orders
import Derived.Tactics
import Derived.Deep.LoopGhost
set_option linter.unusedVariables false
set_option linter.unusedSimpArgs false
namespace Go.Proofs.YtedmihapieleaaaGreat
open Go

/-- A part of memory: which blocks, whether they may be written, what they hold. -/
abbrev PH := Nat → Option (Bool × Obj)
abbrev HP := PH → Prop

def Le (h : PH) (w : World) : Prop := ∀ b x, h b = some x → w.heap[b]? = some x.2
def Sub (h k : PH) : Prop := ∀ b x, h b = some x → k b = some x
def Dj (h k : PH) : Prop := ∀ b x y, h b = some x → k b = some y → x.1 = false ∧ y.1 = false

theorem Dj.symm {h k : PH} (d : Dj h k) : Dj k h := fun b x y hx hy => (d b y x hy hx).symm
theorem Dj.sub {h h' k : PH} (d : Dj h k) (s : Sub h' h) : Dj h' k := fun b x y hx hy => d b x y (s b x hx) hy
theorem Sub.refl (h : PH) : Sub h h := fun _ _ e => e
theorem Sub.trans {h k l : PH} (a : Sub h k) (b : Sub k l) : Sub h l := fun x y e => b x y (a x y e)
theorem Le.sub {h k : PH} {w : World} (l : Le k w) (s : Sub h k) : Le h w := fun b x e => l b x (s b x e)

def SatL (w : World) : List HP → List PH → Prop
  | [], [] => True
  | A :: L, h :: hs => A h ∧ Le h w ∧ (∀ k ∈ hs, Dj h k) ∧ SatL w L hs
  | _, _ => False

/-- What a call may not turn: the outside world, the tape, the output. -/
structure Base where
  os : Os
  tape : Nat → Question → Nat
  output : Array (Nat × ByteArray)
def Base.of (w : World) : Base := ⟨w.os, w.tape, w.output⟩

def Sat (B : Base) (w : World) (L : List HP) : Prop :=
  w.os = B.os ∧ w.tape = B.tape ∧ w.output = B.output ∧ ∃ hs, SatL w L hs

/-! ### lists of assertions -/
inductive Rem {α : Type _} : List α → α → List α → Prop
  | here {x l} : Rem (x :: l) x l
  | there {x y l r} : Rem l y r → Rem (x :: l) y (x :: r)
inductive Mem {α : Type _} : List α → α → Prop
  | here {x l} : Mem (x :: l) x
  | there {x y l} : Mem l y → Mem (x :: l) y
inductive Repl {α : Type _} : List α → α → α → List α → Prop
  | here {x y l} : Repl (x :: l) x y (y :: l)
  | there {z x y l r} : Repl l x y r → Repl (z :: l) x y (z :: r)
inductive Tk {α : Type _} : List α → List α → List α → Prop
  | nil {l} : Tk l [] l
  | cons {l x m xs r} : Rem l x m → Tk m xs r → Tk l (x :: xs) r

theorem Repl.rem {α : Type _} {l r : List α} {x y : α} (h : Repl l x y r) : ∃ m, Rem l x m ∧ Rem r y m := by
  induction h with
  | here => exact ⟨_, .here, .here⟩
  | there _ ih => obtain ⟨m, a, b⟩ := ih; exact ⟨_, .there a, .there b⟩
theorem Mem.rem {α : Type _} {l : List α} {x : α} (h : Mem l x) : ∃ m, Rem l x m := by
  induction h with
  | here => exact ⟨_, .here⟩
  | there _ ih => obtain ⟨m, a⟩ := ih; exact ⟨_, .there a⟩

theorem SatL.front {w : World} {L M : List HP} {A : HP} (r : Rem L A M) : ∀ {hs}, SatL w L hs → ∃ ks, SatL w (A :: M) ks ∧ ∀ k, k ∈ ks ↔ k ∈ hs := by
  induction r with
  | here => intro hs h; exact ⟨hs, h, fun _ => Iff.rfl⟩
  | @there x y l r _ ih =>
    intro hs h
    match hs, h with
    | h0 :: hs, ⟨hx, hle, hd, hrest⟩ =>
      obtain ⟨ks, hk, hm⟩ := ih hrest
      match ks, hk with
      | k0 :: ks, ⟨ky, kle, kd, krest⟩ =>
        refine ⟨k0 :: h0 :: ks, ⟨ky, kle, ?_, hx, hle, ?_, krest⟩, ?_⟩
        · intro k hk'
          rcases List.mem_cons.1 hk' with rfl | hk'
          · exact (hd k0 ((hm k0).1 (List.mem_cons_self ..))).symm
          · exact kd k hk'
        · intro k hk'
          exact hd k ((hm k).1 (List.mem_cons_of_mem _ hk'))
        · intro k
          have := hm k
          simp only [List.mem_cons] at this ⊢
          grind

theorem SatL.back {w : World} {L M : List HP} {A : HP} (r : Rem L A M) : ∀ {hs}, SatL w (A :: M) hs → ∃ ks, SatL w L ks ∧ ∀ k, k ∈ ks ↔ k ∈ hs := by
  induction r with
  | here => intro hs h; exact ⟨hs, h, fun _ => Iff.rfl⟩
  | @there x y l r _ ih =>
    intro hs h
    match hs, h with
    | k0 :: h0 :: hs, ⟨ky, kle, kd, hx, hle, hd, hrest⟩ =>
      obtain ⟨ks, hk, hm⟩ := ih (hs := k0 :: hs) ⟨ky, kle, fun k hk => kd k (List.mem_cons_of_mem _ hk), hrest⟩
      refine ⟨h0 :: ks, ⟨hx, hle, ?_, hk⟩, ?_⟩
      · intro k hk'
        have := (hm k).1 hk'
        rcases List.mem_cons.1 this with rfl | h2
        · exact (kd h0 (List.mem_cons_self ..)).symm
        · exact hd k h2
      · intro k
        have := hm k
        simp only [List.mem_cons] at this ⊢
        grind

theorem Sat.front {B : Base} {w : World} {L M : List HP} {A : HP} (r : Rem L A M) (h : Sat B w L) : Sat B w (A :: M) := by
  obtain ⟨a, b, c, hs, h⟩ := h
  obtain ⟨ks, hk, _⟩ := h.front r
  exact ⟨a, b, c, ks, hk⟩
theorem Sat.back {B : Base} {w : World} {L M : List HP} {A : HP} (r : Rem L A M) (h : Sat B w (A :: M)) : Sat B w L := by
  obtain ⟨a, b, c, hs, h⟩ := h
  obtain ⟨ks, hk, _⟩ := h.back r
  exact ⟨a, b, c, ks, hk⟩
theorem Sat.tail {B : Base} {w : World} {L : List HP} {A : HP} (h : Sat B w (A :: L)) : Sat B w L := by
  obtain ⟨a, b, c, hs, h⟩ := h
  match hs, h with
  | _ :: hs, h => exact ⟨a, b, c, hs, h.2.2.2⟩

theorem SatL.append_iff {w : World} {L M : List HP} : ∀ {hs}, SatL w (L ++ M) hs ↔ ∃ a b, hs = a ++ b ∧ SatL w L a ∧ SatL w M b ∧ ∀ h ∈ a, ∀ k ∈ b, Dj h k := by
  induction L with
  | nil =>
    intro hs
    constructor
    · intro h; exact ⟨[], hs, rfl, trivial, h, fun _ h => by cases h⟩
    · rintro ⟨a, b, rfl, ha, hb, _⟩
      match a, ha with
      | [], _ => exact hb
  | cons A L ih =>
    intro hs
    constructor
    · intro h
      match hs, h with
      | h0 :: hs, ⟨ha, hle, hd, hr⟩ =>
        obtain ⟨a, b, rfl, h1, h2, h3⟩ := ih.1 hr
        refine ⟨h0 :: a, b, rfl, ⟨ha, hle, fun k hk => hd k (List.mem_append_left _ hk), h1⟩, h2, ?_⟩
        intro h hh k hk
        rcases List.mem_cons.1 hh with rfl | hh
        · exact hd k (List.mem_append_right _ hk)
        · exact h3 h hh k hk
    · rintro ⟨a, b, rfl, ha, hb, hd⟩
      match a, ha with
      | h0 :: a, ⟨hA, hle, hdd, hr⟩ =>
        refine ⟨hA, hle, ?_, ih.2 ⟨a, b, rfl, hr, hb, fun h hh k hk => hd h (List.mem_cons_of_mem _ hh) k hk⟩⟩
        intro k hk
        rcases List.mem_append.1 hk with hk | hk
        · exact hdd k hk
        · exact hd h0 (List.mem_cons_self ..) k hk

theorem SatL.take {w : World} {m xs r : List HP} (t : Tk m xs r) : ∀ {hs}, SatL w m hs → ∃ ks, SatL w (xs ++ r) ks ∧ ∀ k, k ∈ ks ↔ k ∈ hs := by
  induction t with
  | nil => intro hs h; exact ⟨hs, h, fun _ => Iff.rfl⟩
  | @cons l x m xs r hr _ ih =>
    intro hs h
    obtain ⟨ks, hk, hm⟩ := h.front hr
    match ks, hk with
    | k0 :: ks, ⟨ky, kle, kd, krest⟩ =>
      obtain ⟨js, hj, hjm⟩ := ih krest
      refine ⟨k0 :: js, ⟨ky, kle, fun k hk => kd k ((hjm k).1 hk), hj⟩, ?_⟩
      intro k
      have h1 := hm k
      have h2 := hjm k
      simp only [List.mem_cons] at h1 ⊢
      grind
/-- Take some assertions to the front. -/
theorem Sat.take {B : Base} {w : World} {L Ls R : List HP} (t : Tk L Ls R) (h : Sat B w L) : Sat B w (Ls ++ R) := by
  obtain ⟨a, b, c, hs, h⟩ := h
  obtain ⟨ks, hk, _⟩ := h.take t
  exact ⟨a, b, c, ks, hk⟩

/-! ### assertions -/
def pt (b : Nat) (o : Obj) : HP := fun h => h b = some (true, o)
def ro (b : Nat) (o : Obj) : HP := fun h => h b = some (false, o)
/-- Some assertions together, as one. -/
def StarL (h : PH) : List HP → List PH → Prop
  | [], [] => True
  | A :: L, k :: ks => A k ∧ Sub k h ∧ (∀ j ∈ ks, Dj k j) ∧ StarL h L ks
  | _, _ => False
def star (L : List HP) : HP := fun h => ∃ ks, StarL h L ks

def one (b : Nat) (x : Bool × Obj) : PH := fun c => if c = b then some x else none
theorem one_at (b : Nat) (x : Bool × Obj) : one b x b = some x := by simp [one]
theorem one_of {b c : Nat} {x y : Bool × Obj} (h : one b x c = some y) : c = b ∧ y = x := by
  unfold one at h
  split at h
  · exact ⟨‹_›, (Option.some.inj h).symm⟩
  · cases h

theorem StarL.sat {h : PH} {w : World} (hl : Le h w) : ∀ {L ks}, StarL h L ks → SatL w L ks
  | [], [], _ => trivial
  | _ :: _, _ :: _, ⟨a, s, d, r⟩ => ⟨a, hl.sub s, d, StarL.sat hl r⟩
theorem StarL.subs {h : PH} : ∀ {L ks}, StarL h L ks → ∀ k ∈ ks, Sub k h
  | [], [], _, k, hk => by cases hk
  | _ :: _, k0 :: ks, ⟨_, s, _, r⟩, k, hk => by
    rcases List.mem_cons.1 hk with rfl | hk
    · exact s
    · exact StarL.subs r k hk

theorem Sat.unstar {B : Base} {w : World} {L F : List HP} (h : Sat B w (star L :: F)) : Sat B w (L ++ F) := by
  obtain ⟨a, b, c, hs, h⟩ := h
  match hs, h with
  | h0 :: hs, ⟨⟨ks, hk⟩, hle, hd, hr⟩ =>
    exact ⟨a, b, c, ks ++ hs, SatL.append_iff.2 ⟨ks, hs, rfl, hk.sat hle, hr, fun k hk' j hj => (hd j hj).sub (hk.subs k hk')⟩⟩

def union (ks : List PH) : PH := fun b => ks.findSome? fun k => k b

theorem union_sub {w : World} : ∀ {L : List HP} {ks : List PH}, SatL w L ks → ∀ k ∈ ks, Sub k (union ks)
  | [], [], _, k, hk => by cases hk
  | _ :: L, k0 :: ks, ⟨_, le, d, r⟩, k, hk => by
    intro b x hb
    rcases List.mem_cons.1 hk with rfl | hk
    · simp [union, hb]
    · have ih := union_sub r k hk b x hb
      simp only [union, List.findSome?_cons]
      cases h0 : k0 b with
      | none => exact ih
      | some y =>
        have hd := d k hk b y x h0 hb
        have h1 := le b y h0
        have hlek : Le k w := by
          clear ih hd hb d le
          revert r hk
          intro r hk
          have : ∀ {L : List HP} {ks : List PH}, SatL w L ks → ∀ k ∈ ks, Le k w := by
            intro L
            induction L with
            | nil => intro ks h k hk; match ks, h with | [], _ => cases hk
            | cons A L ih =>
              intro ks h k hk
              match ks, h with
              | k1 :: ks, ⟨_, le, _, r⟩ =>
                rcases List.mem_cons.1 hk with rfl | hk
                · exact le
                · exact ih r k hk
          exact this r k hk
        have h2 := hlek b x hb
        rw [h1] at h2
        injection h2 with h2
        show some y = some x
        rcases x with ⟨x1, x2⟩
        rcases y with ⟨y1, y2⟩
        simp only at hd h2
        rw [hd.1, hd.2, h2]
theorem union_of {ks : List PH} {b : Nat} {x : Bool × Obj} (h : union ks b = some x) : ∃ k ∈ ks, k b = some x := by
  unfold union at h
  obtain ⟨k, hk, h⟩ := List.exists_of_findSome?_eq_some h
  exact ⟨k, hk, h⟩
theorem SatL.les {w : World} : ∀ {L : List HP} {ks : List PH}, SatL w L ks → ∀ k ∈ ks, Le k w
  | [], [], _, k, hk => by cases hk
  | _ :: L, k0 :: ks, ⟨_, le, _, r⟩, k, hk => by
    rcases List.mem_cons.1 hk with rfl | hk
    · exact le
    · exact SatL.les r k hk

theorem Sat.star {B : Base} {w : World} {L F : List HP} (h : Sat B w (L ++ F)) : Sat B w (star L :: F) := by
  obtain ⟨a, b, c, hs, h⟩ := h
  obtain ⟨ks, fs, rfl, h1, h2, h3⟩ := SatL.append_iff.1 h
  refine ⟨a, b, c, union ks :: fs, ⟨ks, ?_⟩, ?_, ?_, h2⟩
  · have hs := union_sub h1
    have : ∀ {L : List HP} {js : List PH}, SatL w L js → (∀ k ∈ js, Sub k (union ks)) → StarL (union ks) L js := by
      intro L
      induction L with
      | nil => intro js h _; match js, h with | [], _ => trivial
      | cons A L ih =>
        intro js h hsub
        match js, h with
        | j0 :: js, ⟨ha, _, d, r⟩ => exact ⟨ha, hsub j0 (List.mem_cons_self ..), d, ih r fun k hk => hsub k (List.mem_cons_of_mem _ hk)⟩
    exact this h1 hs
  · intro b x hb
    obtain ⟨k, hk, h⟩ := union_of hb
    exact h1.les k hk b x h
  · intro f hf b x y hx hy
    obtain ⟨k, hk, h⟩ := union_of hx
    exact h3 k hk f hf b x y h hy

theorem Sat.get {B : Base} {w : World} {L : List HP} {b : Nat} {o : Obj} (h : Sat B w L) (m : Mem L (pt b o)) : w.heap[b]? = some o := by
  obtain ⟨M, r⟩ := m.rem
  obtain ⟨_, _, _, hs, h⟩ := h.front r
  match hs, h with
  | h0 :: hs, ⟨hp, hle, _⟩ => exact hle b _ hp
theorem Sat.getRo {B : Base} {w : World} {L : List HP} {b : Nat} {o : Obj} (h : Sat B w L) (m : Mem L (ro b o)) : w.heap[b]? = some o := by
  obtain ⟨M, r⟩ := m.rem
  obtain ⟨_, _, _, hs, h⟩ := h.front r
  match hs, h with
  | h0 :: hs, ⟨hp, hle, _⟩ => exact hle b _ hp

/-! ### what the world does -/
def setB (w : World) (b : Nat) (o : Obj) : World := { w with heap := w.heap.setIfInBounds b o }
theorem setB_at (w : World) (b c : Nat) (o : Obj) : (setB w b o).heap[c]? = if b = c then (if b < w.heap.size then some o else none) else w.heap[c]? := by
  simp only [setB]
  rw [Array.getElem?_setIfInBounds]

theorem SatL.moved {w w' : World} : ∀ {L : List HP} {hs : List PH}, SatL w L hs → (∀ h ∈ hs, ∀ b x, h b = some x → w'.heap[b]? = w.heap[b]?) → SatL w' L hs
  | [], [], _, _ => trivial
  | _ :: L, h0 :: hs, ⟨a, le, d, r⟩, hk => ⟨a, fun b x e => (hk h0 (List.mem_cons_self ..) b x e).trans (le b x e), d, SatL.moved r fun h hh => hk h (List.mem_cons_of_mem _ hh)⟩

theorem Sat.set {B : Base} {w : World} {L L' : List HP} {b : Nat} {o o' : Obj} (h : Sat B w L) (r : Repl L (pt b o) (pt b o') L') : Sat B (setB w b o') L' := by
  obtain ⟨M, r1, r2⟩ := r.rem
  refine Sat.back r2 ?_
  obtain ⟨p, q, s, hs, h⟩ := h.front r1
  match hs, h with
  | h0 :: hs, ⟨hp, hle, hd, hr⟩ =>
    have hin : b < w.heap.size := by
      have := hle b _ hp
      exact (Array.getElem?_eq_some_iff.1 this).1
    refine ⟨p, q, s, one b (true, o') :: hs, one_at _ _, ?_, ?_, hr.moved ?_⟩
    · intro c x hx
      obtain ⟨rfl, rfl⟩ := one_of hx
      rw [setB_at]
      simp [hin]
    · intro k hk c x y hx hy
      obtain ⟨rfl, rfl⟩ := one_of hx
      have := hd k hk c _ y hp hy
      simp at this
    · intro k hk c x hx
      rw [setB_at]
      have : b ≠ c := by
        rintro rfl
        have := hd k hk b _ x hp hx
        simp at this
      simp [this]
theorem Sat.new {B : Base} {w : World} {L : List HP} (h : Sat B w L) (o : Obj) : Sat B (w.alloc o) (pt w.heap.size o :: L) := by
  obtain ⟨p, q, s, hs, h⟩ := h
  refine ⟨p, q, s, one w.heap.size (true, o) :: hs, one_at _ _, ?_, ?_, h.moved ?_⟩
  · intro c x hx
    obtain ⟨rfl, rfl⟩ := one_of hx
    exact Array.getElem?_push_size
  · intro k hk c x y hx hy
    obtain ⟨rfl, rfl⟩ := one_of hx
    have := h.les k hk _ y hy
    simp at this
  · intro k hk c x hx
    have := h.les k hk c x hx
    have hlt := (Array.getElem?_eq_some_iff.1 this).1
    exact (Array.getElem?_push (xs := w.heap) (i := c)).trans (if_neg (Nat.ne_of_lt hlt))
theorem Sat.heap {B : Base} {w w' : World} {L : List HP} (h : Sat B w L) (ho : w'.os = w.os) (ht : w'.tape = w.tape) (hu : w'.output = w.output) (hh : w'.heap = w.heap) : Sat B w' L := by
  obtain ⟨p, q, s, hs, h⟩ := h
  exact ⟨ho.trans p, ht.trans q, hu.trans s, hs, h.moved fun _ _ _ _ _ => by rw [hh]⟩
theorem Sat.drew {B : Base} {w : World} {L : List HP} (h : Sat B w L) : Sat B w.drew L := h.heap rfl rfl rfl rfl

/-- From what may be written to what may not. -/
theorem Sat.freeze {B : Base} {w : World} {L L' : List HP} {b : Nat} {o : Obj} (h : Sat B w L) (r : Repl L (pt b o) (ro b o) L') : Sat B w L' := by
  obtain ⟨M, r1, r2⟩ := r.rem
  refine Sat.back r2 ?_
  obtain ⟨p, q, s, hs, h⟩ := h.front r1
  match hs, h with
  | h0 :: hs, ⟨hp, hle, hd, hr⟩ =>
    refine ⟨p, q, s, one b (false, o) :: hs, one_at _ _, ?_, ?_, hr⟩
    · intro c x hx
      obtain ⟨rfl, rfl⟩ := one_of hx
      exact hle _ (true, o) hp
    · intro k hk c x y hx hy
      obtain ⟨rfl, rfl⟩ := one_of hx
      have := hd k hk c _ y hp hy
      simp at this
theorem Sat.dup {B : Base} {w : World} {L : List HP} {b : Nat} {o : Obj} (h : Sat B w L) (m : Mem L (ro b o)) : Sat B w (ro b o :: L) := by
  obtain ⟨M, r⟩ := m.rem
  have h1 := h.front r
  obtain ⟨p, q, s, hs, h1⟩ := h1
  match hs, h1 with
  | h0 :: hs, ⟨hp, hle, hd, hr⟩ =>
    have h2 : Sat B w (ro b o :: ro b o :: M) := by
      refine ⟨p, q, s, one b (false, o) :: h0 :: hs, one_at _ _, ?_, ?_, hp, hle, hd, hr⟩
      · intro c x hx
        obtain ⟨rfl, rfl⟩ := one_of hx
        exact hle _ _ hp
      · intro k hk c x y hx hy
        obtain ⟨rfl, rfl⟩ := one_of hx
        rcases List.mem_cons.1 hk with rfl | hk
        · have : y = (false, o) := by
            have := hp.symm.trans hy
            injection this with this
            exact this.symm
          simp [this]
        · exact hd k hk c _ y hp hy
    exact Sat.back (.there r) (Sat.front (.there .here) h2)

/-! ### slots -/
abbrev Env := List (Nat × Value)
def look : Env → Nat → Option Value
  | [], _ => none
  | (i, v) :: e, t => bif Nat.beq i t then some v else look e t
def evo (e : Env) : Operand → Option Value
  | .tmp t => look e t
  | .const v => some v
  | .global g => some (.pointer (some ⟨g, 0, none⟩))
  | .func f => some (.func (.func f) #[] #[])
structure Ag (n : Nat) (e : Env) (a : Act) : Prop where
  defers : a.defers = []
  size : a.tmps.size = n
  get : ∀ t v, look e t = some v → a.tmps.getD t undef = v
theorem Ag.eval {n : Nat} {e : Env} {a : Act} (h : Ag n e a) {x : Operand} {v : Value} (hx : evo e x = some v) : a.eval x = v := by
  cases x with
  | tmp t => exact h.get t v hx
  | const u => injection hx
  | global g => injection hx
  | func f => injection hx
theorem look_cons (e : Env) (d t : Nat) (v : Value) : look ((d, v) :: e) t = if d = t then some v else look e t := by
  by_cases h : d = t
  · simp [look, h]
  · have : Nat.beq d t = false := by
      cases hb : Nat.beq d t
      · rfl
      · exact absurd (Nat.eq_of_beq_eq_true hb) h
    simp [look, this, h]
theorem Ag.put {n : Nat} {e : Env} {a : Act} (h : Ag n e a) {d : Nat} (hd : Nat.ble (d + 1) n = true) (v : Value) : Ag n ((d, v) :: e) (a.put (some d) v) := by
  have hd' : d < n := Nat.le_of_ble_eq_true hd
  refine ⟨h.defers, by simp [Act.put, h.size], fun t u hu => ?_⟩
  rw [look_cons] at hu
  by_cases ht : d = t
  · subst ht
    simp only [if_true] at hu
    injection hu with hu
    subst hu
    simp [Act.put, h.size, hd']
  · rw [if_neg ht] at hu
    have := h.get t u hu
    simpa [Act.put, Array.getElem?_setIfInBounds_ne ht] using this
theorem Ag.put_none {n : Nat} {e : Env} {a : Act} (h : Ag n e a) (v : Value) : Ag n e (a.put none v) := h
/-- The slots of the one are among those of the other. -/
def Env.le (e' e : Env) : Prop := ∀ t v, look e' t = some v → look e t = some v
theorem Env.le_nil (e : Env) : Env.le [] e := fun _ _ h => by cases h
theorem Env.le_cons {e' e : Env} {d : Nat} {v : Value} (h : look e d = some v) (r : Env.le e' e) : Env.le ((d, v) :: e') e := by
  intro t u hu
  rw [look_cons] at hu
  split at hu
  · rename_i ht
    subst ht
    injection hu with hu
    subst hu
    exact h
  · exact r t u hu
theorem Ag.weak {n : Nat} {e e' : Env} {a : Act} (h : Ag n e a) (hl : Env.le e' e) : Ag n e' a := ⟨h.defers, h.size, fun t v hv => h.get t v (hl t v hv)⟩

/-! ### judgements -/
section
variable (P : Program) (B : Base) (n : Nat)
def WC (c : Code) (Q : Exit → Act → World → Prop) (e : Env) (L : List HP) : Prop := ∀ a w, Ag n e a → Sat B w L → c.wp P Q a w
def WL (ops : Array Oper) (l : List Oper) (Q : Exit → Act → World → Prop) (e : Env) (L : List HP) : Prop := ∀ a w, Ag n e a → Sat B w L → wpList P ops Q l a w
def WQ (Q : Exit → Act → World → Prop) (x : Exit) (e : Env) (L : List HP) : Prop := ∀ a w, Ag n e a → Sat B w L → Q x a w
end

/-- What a call comes to: from some assertions beside a frame F to what the post says of F. -/
def Spec (P : Program) (f : FuncId) (args : Array Value) (L : List HP) (R : List HP → Value → List HP → Prop) : Prop :=
  ∀ B F w, Sat B w (L ++ F) → Calls P f args w fun e w' => ∃ v M, e = .returned v ∧ R F v M ∧ Sat B w' M
def Post (B : Base) (F : List HP) (R : List HP → Value → List HP → Prop) : Ending → World → Prop :=
  fun e w' => ∃ v M, e = .returned v ∧ R F v M ∧ Sat B w' M
/-- From some assertions to others, memory being what it is. -/
def Wk (L M : List HP) : Prop := ∀ B w, Sat B w L → Sat B w M
theorem Wk.refl {L : List HP} : Wk L L := fun _ _ h => h
theorem Wk.trans {L M N : List HP} (a : Wk L M) (b : Wk M N) : Wk L N := fun B w h => b B w (a B w h)
theorem Wk.skip {L M : List HP} {A : HP} (h : Wk L M) : Wk (A :: L) M := fun B w hs => h B w hs.tail
theorem Wk.under {L M : List HP} {A : HP} (h : ∀ hs w, SatL w L hs → ∃ ks, SatL w M ks ∧ ∀ k ∈ ks, k ∈ hs) : Wk (A :: L) (A :: M) := by
  rintro B w ⟨p, q, s, hs, hh⟩
  match hs, hh with
  | h0 :: hs, ⟨ha, hle, hd, hr⟩ =>
    obtain ⟨ks, hk, hm⟩ := h hs w hr
    exact ⟨p, q, s, h0 :: ks, ha, hle, fun k hk' => hd k (hm k hk'), hk⟩
/-- The assertions of the one are among those of the other, each once. -/
inductive Am : List HP → List HP → Prop
  | refl {L} : Am L L
  | nil {L} : Am L []
  | skip {A L M} : Am L M → Am (A :: L) M
  | take {L A L1 M} : Rem L A L1 → Am L1 M → Am L (A :: M)
theorem Am.satL {L M : List HP} (h : Am L M) : ∀ {w hs}, SatL w L hs → ∃ ks, SatL w M ks ∧ ∀ k ∈ ks, k ∈ hs := by
  induction h with
  | refl => intro w hs h; exact ⟨hs, h, fun _ h => h⟩
  | nil => intro w hs h; exact ⟨[], trivial, fun _ h => by cases h⟩
  | skip _ ih =>
    intro w hs h
    match hs, h with
    | h0 :: hs, ⟨_, _, _, hr⟩ =>
      obtain ⟨ks, hk, hm⟩ := ih hr
      exact ⟨ks, hk, fun k hk' => List.mem_cons_of_mem _ (hm k hk')⟩
  | take r _ ih =>
    intro w hs h
    obtain ⟨js, hj, hjm⟩ := h.front r
    match js, hj with
    | j0 :: js, ⟨ha, hle, hd, hr⟩ =>
      obtain ⟨ks, hk, hm⟩ := ih hr
      refine ⟨j0 :: ks, ⟨ha, hle, fun k hk' => hd k (hm k hk'), hk⟩, fun k hk' => (hjm k).1 ?_⟩
      rcases List.mem_cons.1 hk' with rfl | hk'
      · exact List.mem_cons_self ..
      · exact List.mem_cons_of_mem _ (hm k hk')
theorem Am.wk {L M : List HP} (h : Am L M) : Wk L M := by
  rintro B w ⟨p, q, s, hs, hh⟩
  obtain ⟨ks, hk, _⟩ := h.satL hh
  exact ⟨p, q, s, ks, hk⟩

section
variable {P : Program} {B : Base} {n : Nat} {Q Q' : Exit → Act → World → Prop} {e : Env} {L : List HP} {ops : Array Oper} {l : List Oper}

theorem WC.seq {x y : Code} (h : WC P B n x (Exit.then (y.wp P Q) Q) e L) : WC P B n (.seq x y) Q e L := fun a w ha hs => wp_seq (h a w ha hs)
theorem WC.skip (h : WQ B n Q .normal e L) : WC P B n .skip Q e L := fun a w ha hs => wp_skip (h a w ha hs)
theorem WC.block {id : Nat} {c : Code} (h : WC P B n c (Exit.inBlock id Q) e L) : WC P B n (.block id c) Q e L := fun a w ha hs => wp_block (h a w ha hs)
theorem WC.exit {id : Nat} (h : WQ B n Q (.exit id) e L) : WC P B n (.exit id) Q e L := fun a w ha hs => wp_exit (h a w ha hs)
theorem WC.ret (h : WQ B n Q .ret e L) : WC P B n .ret Q e L := fun a w ha hs => wp_ret (h a w ha hs)
theorem WC.region {id : Nat} {l : List Oper} (h : WL P B n l.toArray l Q e L) : WC P B n (.region id l.toArray false) Q e L := fun a w ha hs => wp_region_lit (h a w ha hs)
theorem WC.condT {c : Operand} {x y : Code} {v : Value} (hc : evo e c = some v) (hv : v = .bool true) (h : WC P B n x Q e L) : WC P B n (.cond c x y) Q e L := by
  subst hv
  exact fun a w ha hs => wp_cond_true (ha.eval hc) (h a w ha hs)
theorem WC.condF {c : Operand} {x y : Code} {v : Value} (hc : evo e c = some v) (hv : v = .bool false) (h : WC P B n y Q e L) : WC P B n (.cond c x y) Q e L := by
  subst hv
  exact fun a w ha hs => wp_cond_false (ha.eval hc) (h a w ha hs)
theorem WC.cond {c : Operand} {x y : Code} {b : Bool} (hc : evo e c = some (.bool b)) (h1 : b = true → WC P B n x Q e L) (h2 : b = false → WC P B n y Q e L) : WC P B n (.cond c x y) Q e L :=
  fun a w ha hs => wp_cond_split (ha.eval hc) (fun hb => h1 hb a w ha hs) (fun hb => h2 hb a w ha hs)

theorem WL.nil (h : WQ B n Q .normal e L) : WL P B n ops [] Q e L := fun a w ha hs => h a w ha hs
theorem WQ.next {y : Code} (h : WC P B n y Q' e L) : WQ B n (Exit.then (y.wp P Q') Q) .normal e L := fun a w ha hs => h a w ha hs
theorem WQ.thenRet {K : Act → World → Prop} (h : WQ B n Q .ret e L) : WQ B n (Exit.then K Q) .ret e L := fun a w ha hs => h a w ha hs
theorem WQ.thenExit {K : Act → World → Prop} {i : Nat} (h : WQ B n Q (.exit i) e L) : WQ B n (Exit.then K Q) (.exit i) e L := fun a w ha hs => h a w ha hs
theorem WQ.blockRet {i : Nat} (h : WQ B n Q .ret e L) : WQ B n (Exit.inBlock i Q) .ret e L := fun a w ha hs => h a w ha hs
theorem WQ.blockNormal {i : Nat} (h : WQ B n Q .normal e L) : WQ B n (Exit.inBlock i Q) .normal e L := fun a w ha hs => h a w ha hs
theorem WQ.blockExit {i : Nat} (h : WQ B n Q .normal e L) : WQ B n (Exit.inBlock i Q) (.exit i) e L := fun a w ha hs => by simpa [Exit.inBlock] using h a w ha hs
theorem WQ.blockPast {i j : Nat} (hij : Nat.beq j i = false) (h : WQ B n Q (.exit j) e L) : WQ B n (Exit.inBlock i Q) (.exit j) e L := fun a w ha hs => by
  have : j ≠ i := fun h => by subst h; simp at hij
  simpa [Exit.inBlock, this] using h a w ha hs
end

/-! ### loops -/
/-- A state of a loop's head: slots, assertions, a measure. -/
def Back (B : Base) (n : Nat) {σ : Type} (E : σ → Env) (I : σ → List HP) (p : σ → Prop) (μ : σ → Nat) (s : σ) : Act → World → Prop :=
  fun a w => ∃ s', p s' ∧ μ s' < μ s ∧ Ag n (E s') a ∧ Sat B w (I s')
theorem WC.loop {P : Program} {B : Base} {n : Nat} {Q : Exit → Act → World → Prop} {e : Env} {L : List HP} {c : Code} {σ : Type} (E : σ → Env) (I : σ → List HP) (p : σ → Prop) (μ : σ → Nat)
    (s0 : σ) (hp : p s0) (he : Env.le (E s0) e) (hI : ∀ w, Sat B w L → Sat B w (I s0))
    (round : ∀ s, p s → WC P B n c (Exit.then (Back B n E I p μ s) Q) (E s) (I s)) : WC P B n (.loop c) Q e L := by
  intro a w ha hs
  refine wp_loop_ghost (fun k a w => ∃ s, μ s = k ∧ p s ∧ Ag n (E s) a ∧ Sat B w (I s)) (μ s0) ⟨s0, rfl, hp, ha.weak he, hI w hs⟩ ?_
  rintro k a w ⟨s, rfl, hp, ha, hs⟩
  refine wp_mono (round s hp a w ha hs) ?_
  intro x a' w' hq
  cases x with
  | normal =>
    obtain ⟨s', hp', hlt, ha', hs'⟩ := hq
    exact ⟨μ s', hlt, s', rfl, hp', ha', hs'⟩
  | exit id => exact hq
  | goto l => exact hq
  | ret => exact hq
  | panic ch => exact hq
  | outgrown => exact hq

attribute [irreducible] pt ro star
end Go.Proofs.YtedmihapieleaaaGreat
