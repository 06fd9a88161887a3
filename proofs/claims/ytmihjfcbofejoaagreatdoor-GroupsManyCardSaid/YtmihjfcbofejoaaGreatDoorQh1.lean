/- A part of the proof of iv: texts of this work put together. -/
import Derived.Orders
import Derived.Tactics
import Derived.Deep.LoopGhost
import Derived.WalkKit
import Derived.RowKit
import Derived.IntWalk
import Derived.Laws.OwnMore
import Derived.Laws.MakeOwn
import Derived.Laws.IdiomCopy
import Derived.Maps.AppendAt
import Derived.Laws.CopyRow
import Derived.WideLaws
import Derived.Laws.StructEq
import Derived.OrdersHeld
import Derived.KernelRfl
import Derived.Laws.BytesString
import Derived.Laws.Strings
import Derived.LoopN
import Derived.Maps.Own
import Derived.Lib.SlKeysI
import Derived.WideShapes
import Derived.Test.YtmihjfcbofejoaaGreatDoorProg
import Derived.WideKeyRuns
import Derived.Laws.RangeAny
import Derived.Lib.OthersKept
import Derived.Lib.Bytealg
import Derived.Lib.IndexBytes
import Derived.Scope
set_option linter.unusedVariables false
set_option linter.unusedSimpArgs false
set_option linter.unusedSectionVars false
section
namespace Go.Proofs.YtmihjfcbofejoaaGreatDoor
open Go
theorem cB9 {a b : Bool} (h : a = b) : Go.Value.bool a = Go.Value.bool b := congrArg _ h
theorem cI9 {k : Go.IntKind} {a b : Int} (h : a = b) : Go.Value.int k a = Go.Value.int k b := congrArg _ h
abbrev PH :=Nat->Option (Bool×Obj)
abbrev HP :=PH->Prop
def Le (h:PH) (w:World):Prop:=∀ b x,h b=some x->w.heap[b]?=some x.2
def Sub (h k:PH):Prop:=∀ b x,h b=some x->k b=some x
def Dj (h k:PH):Prop:=∀ b x y,h b=some x->k b=some y->x.1=false/\y.1=false
theorem Dj.symm {h k:PH} (d:Dj h k):Dj k h:=fun b x y hx hy=>(d b y x hy hx).symm
theorem Dj.sub {h h' k:PH} (d:Dj h k) (s:Sub h' h):Dj h' k:=fun b x y hx hy=>d b x y (s b x hx) hy
theorem Sub.trans {h k l:PH} (a:Sub h k) (b:Sub k l):Sub h l:=fun x y e=>b x y (a x y e)
theorem Le.sub {h k:PH} {w:World} (l:Le k w) (s:Sub h k):Le h w:=fun b x e=>l b x (s b x e)
def SatL (w:World):List HP->List PH->Prop
 | [],[]=>True
 | A :: L,h :: hs=>A h/\Le h w/\(∀ k∈hs,Dj h k)/\SatL w L hs
 | _,_=>False
structure Base where
 os:Os
 tape:Nat->Question->Nat
 output:Array (Nat×ByteArray)
def Base.of (w:World):Base:=⟨w.os,w.tape,w.output⟩
def Sat (B:Base) (w:World) (L:List HP):Prop :=
 w.os=B.os/\w.tape=B.tape/\w.output=B.output/\∃ hs,SatL w L hs
inductive Rem {α:Type _}:List α->α->List α->Prop
 | here {x l}:Rem (x :: l) x l
 | there {x y l r}:Rem l y r->Rem (x :: l) y (x :: r)
inductive Mem {α:Type _}:List α->α->Prop
 | here {x l}:Mem (x :: l) x
 | there {x y l}:Mem l y->Mem (x :: l) y
inductive Repl {α:Type _}:List α->α->α->List α->Prop
 | here {x y l}:Repl (x :: l) x y (y :: l)
 | there {z x y l r}:Repl l x y r->Repl (z :: l) x y (z :: r)
inductive Tk {α:Type _}:List α->List α->List α->Prop
 | nil {l}:Tk l [] l
 | cons {l x m xs r}:Rem l x m->Tk m xs r->Tk l (x :: xs) r
theorem Repl.rem {α:Type _} {l r:List α} {x y:α} (h:Repl l x y r):∃ m,Rem l x m/\Rem r y m:=by
 induction h with
 | here=>exact ⟨_,.here,.here⟩
 | there _ ih=>obtain ⟨m,a,b⟩:=ih;exact ⟨_,.there a,.there b⟩
theorem Mem.rem {α:Type _} {l:List α} {x:α} (h:Mem l x):∃ m,Rem l x m:=by
 induction h with
 | here=>exact ⟨_,.here⟩
 | there _ ih=>obtain ⟨m,a⟩:=ih;exact ⟨_,.there a⟩
theorem SatL.front {w:World} {L M:List HP} {A:HP} (r:Rem L A M):∀ {hs},SatL w L hs->∃ ks,SatL w (A :: M) ks/\∀ k,k∈ks ↔ k∈hs:=by
 induction r with
 | here=>intro hs h;exact ⟨hs,h,fun _=>Iff.rfl⟩
 | @there x y l r _ ih =>
  intro hs h
  match hs,h with
  | h0 :: hs,⟨hx,hle,hd,hrest⟩ =>
   obtain ⟨ks,hk,hm⟩:=ih hrest
   match ks,hk with
   | k0 :: ks,⟨ky,kle,kd,krest⟩ =>
    refine ⟨k0 :: h0 :: ks,⟨ky,kle,?_,hx,hle,?_,krest⟩,?_⟩
    ·intro k hk'
     rcases List.mem_cons.1 hk' with rfl | hk'
     ·exact (hd k0 ((hm k0).1 (List.mem_cons_self ..))).symm
     ·exact kd k hk'
    ·intro k hk'
     exact hd k ((hm k).1 (List.mem_cons_of_mem _ hk'))
    ·intro k
     have:=hm k
     simp only [List.mem_cons] at this ⊢
     grind
theorem SatL.back {w:World} {L M:List HP} {A:HP} (r:Rem L A M):∀ {hs},SatL w (A :: M) hs->∃ ks,SatL w L ks/\∀ k,k∈ks ↔ k∈hs:=by
 induction r with
 | here=>intro hs h;exact ⟨hs,h,fun _=>Iff.rfl⟩
 | @there x y l r _ ih =>
  intro hs h
  match hs,h with
  | k0 :: h0 :: hs,⟨ky,kle,kd,hx,hle,hd,hrest⟩ =>
   obtain ⟨ks,hk,hm⟩:=ih (hs:=k0 :: hs) ⟨ky,kle,fun k hk=>kd k (List.mem_cons_of_mem _ hk),hrest⟩
   refine ⟨h0 :: ks,⟨hx,hle,?_,hk⟩,?_⟩
   ·intro k hk'
    have:=(hm k).1 hk'
    rcases List.mem_cons.1 this with rfl | h2
    ·exact (kd h0 (List.mem_cons_self ..)).symm
    ·exact hd k h2
   ·intro k
    have:=hm k
    simp only [List.mem_cons] at this ⊢
    grind
theorem Sat.front {B:Base} {w:World} {L M:List HP} {A:HP} (r:Rem L A M) (h:Sat B w L):Sat B w (A :: M):=by
 obtain ⟨a,b,c,hs,h⟩:=h
 obtain ⟨ks,hk,_⟩:=h.front r
 exact ⟨a,b,c,ks,hk⟩
theorem Sat.back {B:Base} {w:World} {L M:List HP} {A:HP} (r:Rem L A M) (h:Sat B w (A :: M)):Sat B w L:=by
 obtain ⟨a,b,c,hs,h⟩:=h
 obtain ⟨ks,hk,_⟩:=h.back r
 exact ⟨a,b,c,ks,hk⟩
theorem Sat.tail {B:Base} {w:World} {L:List HP} {A:HP} (h:Sat B w (A :: L)):Sat B w L:=by
 obtain ⟨a,b,c,hs,h⟩:=h
 match hs,h with
 | _ :: hs,h=>exact ⟨a,b,c,hs,h.2.2.2⟩
theorem SatL.append_iff {w:World} {L M:List HP}:∀ {hs},SatL w (L++M) hs ↔ ∃ a b,hs=a++b/\SatL w L a/\SatL w M b/\∀ h∈a,∀ k∈b,Dj h k:=by
 induction L with
 | nil =>
  intro hs
  constructor
  ·intro h;exact ⟨[],hs,rfl,trivial,h,fun _ h=>by cases h⟩
  ·rintro ⟨a,b,rfl,ha,hb,_⟩
   match a,ha with
   | [],_=>exact hb
 | cons A L ih =>
  intro hs
  constructor
  ·intro h
   match hs,h with
   | h0 :: hs,⟨ha,hle,hd,hr⟩ =>
    obtain ⟨a,b,rfl,h1,h2,h3⟩:=ih.1 hr
    refine ⟨h0 :: a,b,rfl,⟨ha,hle,fun k hk=>hd k (List.mem_append_left _ hk),h1⟩,h2,?_⟩
    intro h hh k hk
    rcases List.mem_cons.1 hh with rfl | hh
    ·exact hd k (List.mem_append_right _ hk)
    ·exact h3 h hh k hk
  ·rintro ⟨a,b,rfl,ha,hb,hd⟩
   match a,ha with
   | h0 :: a,⟨hA,hle,hdd,hr⟩ =>
    refine ⟨hA,hle,?_,ih.2 ⟨a,b,rfl,hr,hb,fun h hh k hk=>hd h (List.mem_cons_of_mem _ hh) k hk⟩⟩
    intro k hk
    rcases List.mem_append.1 hk with hk | hk
    ·exact hdd k hk
    ·exact hd h0 (List.mem_cons_self ..) k hk
theorem SatL.take {w:World} {m xs r:List HP} (t:Tk m xs r):∀ {hs},SatL w m hs->∃ ks,SatL w (xs++r) ks/\∀ k,k∈ks ↔ k∈hs:=by
 induction t with
 | nil=>intro hs h;exact ⟨hs,h,fun _=>Iff.rfl⟩
 | @cons l x m xs r hr _ ih =>
  intro hs h
  obtain ⟨ks,hk,hm⟩:=h.front hr
  match ks,hk with
  | k0 :: ks,⟨ky,kle,kd,krest⟩ =>
   obtain ⟨js,hj,hjm⟩:=ih krest
   refine ⟨k0 :: js,⟨ky,kle,fun k hk=>kd k ((hjm k).1 hk),hj⟩,?_⟩
   intro k
   have h1:=hm k
   have h2:=hjm k
   simp only [List.mem_cons] at h1 ⊢
   grind
theorem Sat.take {B:Base} {w:World} {L Ls R:List HP} (t:Tk L Ls R) (h:Sat B w L):Sat B w (Ls++R):=by
 obtain ⟨a,b,c,hs,h⟩:=h
 obtain ⟨ks,hk,_⟩:=h.take t
 exact ⟨a,b,c,ks,hk⟩
def pt (b:Nat) (o:Obj):HP:=fun h=>h b=some (true,o)
def ro (b:Nat) (o:Obj):HP:=fun h=>h b=some (false,o)
def StarL (h:PH):List HP->List PH->Prop
 | [],[]=>True
 | A :: L,k :: ks=>A k/\Sub k h/\(∀ j∈ks,Dj k j)/\StarL h L ks
 | _,_=>False
def star (L:List HP):HP:=fun h=>∃ ks,StarL h L ks
def one (b:Nat) (x:Bool×Obj):PH:=fun c=>if c=b then some x else none
theorem yj (b:Nat) (x:Bool×Obj):one b x b=some x:=by simp [one]
theorem md {b c:Nat} {x y:Bool×Obj} (h:one b x c=some y):c=b/\y=x:=by
 unfold one at h
 split at h
 ·exact ⟨‹_›,(Option.some.inj h).symm⟩
 ·cases h
theorem StarL.sat {h:PH} {w:World} (hl:Le h w):∀ {L ks},StarL h L ks->SatL w L ks
 | [],[],_=>trivial
 | _ :: _,_ :: _,⟨a,s,d,r⟩=>⟨a,hl.sub s,d,StarL.sat hl r⟩
theorem StarL.subs {h:PH}:∀ {L ks},StarL h L ks->∀ k∈ks,Sub k h
 | [],[],_,k,hk=>by cases hk
 | _ :: _,k0 :: ks,⟨_,s,_,r⟩,k,hk=>by
  rcases List.mem_cons.1 hk with rfl | hk
  ·exact s
  ·exact StarL.subs r k hk
theorem Sat.unstar {B:Base} {w:World} {L F:List HP} (h:Sat B w (star L :: F)):Sat B w (L++F):=by
 obtain ⟨a,b,c,hs,h⟩:=h
 match hs,h with
 | h0 :: hs,⟨⟨ks,hk⟩,hle,hd,hr⟩ =>
  exact ⟨a,b,c,ks++hs,SatL.append_iff.2 ⟨ks,hs,rfl,hk.sat hle,hr,fun k hk' j hj=>(hd j hj).sub (hk.subs k hk')⟩⟩
def yk (ks:List PH):PH:=fun b=>ks.findSome? fun k=>k b
theorem yl {w:World}:∀ {L:List HP} {ks:List PH},SatL w L ks->∀ k∈ks,Sub k (yk ks)
 | [],[],_,k,hk=>by cases hk
 | _ :: L,k0 :: ks,⟨_,le,d,r⟩,k,hk=>by
  intro b x hb
  rcases List.mem_cons.1 hk with rfl | hk
  ·simp [yk,hb]
  ·have ih:=yl r k hk b x hb
   simp only [yk,List.findSome?_cons]
   cases h0:k0 b with
   | none=>exact ih
   | some y =>
    have hd:=d k hk b y x h0 hb
    have h1:=le b y h0
    have hlek:Le k w:=by
     clear ih hd hb d le
     revert r hk
     intro r hk
     have:∀ {L:List HP} {ks:List PH},SatL w L ks->∀ k∈ks,Le k w:=by
      intro L
      induction L with
      | nil=>intro ks h k hk;match ks,h with | [],_=>cases hk
      | cons A L ih =>
       intro ks h k hk
       match ks,h with
       | k1 :: ks,⟨_,le,_,r⟩ =>
        rcases List.mem_cons.1 hk with rfl | hk
        ·exact le
        ·exact ih r k hk
     exact this r k hk
    have h2:=hlek b x hb
    rw [h1] at h2
    injection h2 with h2
    show some y=some x
    rcases x with ⟨x1,x2⟩
    rcases y with ⟨y1,y2⟩
    simp only at hd h2
    rw [hd.1,hd.2,h2]
theorem Cc {ks:List PH} {b:Nat} {x:Bool×Obj} (h:yk ks b=some x):∃ k∈ks,k b=some x:=by
 unfold yk at h
 obtain ⟨k,hk,h⟩:=List.exists_of_findSome?_eq_some h
 exact ⟨k,hk,h⟩
theorem SatL.les {w:World}:∀ {L:List HP} {ks:List PH},SatL w L ks->∀ k∈ks,Le k w
 | [],[],_,k,hk=>by cases hk
 | _ :: L,k0 :: ks,⟨_,le,_,r⟩,k,hk=>by
  rcases List.mem_cons.1 hk with rfl | hk
  ·exact le
  ·exact SatL.les r k hk
theorem Sat.star {B:Base} {w:World} {L F:List HP} (h:Sat B w (L++F)):Sat B w (star L :: F):=by
 obtain ⟨a,b,c,hs,h⟩:=h
 obtain ⟨ks,fs,rfl,h1,h2,h3⟩:=SatL.append_iff.1 h
 refine ⟨a,b,c,yk ks :: fs,⟨ks,?_⟩,?_,?_,h2⟩
 ·have hs:=yl h1
  have:∀ {L:List HP} {js:List PH},SatL w L js->(∀ k∈js,Sub k (yk ks))->StarL (yk ks) L js:=by
   intro L
   induction L with
   | nil=>intro js h _;match js,h with | [],_=>trivial
   | cons A L ih =>
    intro js h hsub
    match js,h with
    | j0 :: js,⟨ha,_,d,r⟩=>exact ⟨ha,hsub j0 (List.mem_cons_self ..),d,ih r fun k hk=>hsub k (List.mem_cons_of_mem _ hk)⟩
  exact this h1 hs
 ·intro b x hb
  obtain ⟨k,hk,h⟩:=Cc hb
  exact h1.les k hk b x h
 ·intro f hf b x y hx hy
  obtain ⟨k,hk,h⟩:=Cc hx
  exact h3 k hk f hf b x y h hy
theorem Sat.get {B:Base} {w:World} {L:List HP} {b:Nat} {o:Obj} (h:Sat B w L) (m:Mem L (pt b o)):w.heap[b]?=some o:=by
 obtain ⟨M,r⟩:=m.rem
 obtain ⟨_,_,_,hs,h⟩:=h.front r
 match hs,h with
 | h0 :: hs,⟨hp,hle,_⟩=>exact hle b _ hp
def setB (w:World) (b:Nat) (o:Obj):World:={ w with heap:=w.heap.setIfInBounds b o }
theorem Ai (w:World) (b c:Nat) (o:Obj):(setB w b o).heap[c]?=if b=c then (if b < w.heap.size then some o else none) else w.heap[c]?:=by
 simp only [setB]
 rw [Array.getElem?_setIfInBounds]
theorem SatL.moved {w w':World}:∀ {L:List HP} {hs:List PH},SatL w L hs->(∀ h∈hs,∀ b x,h b=some x->w'.heap[b]?=w.heap[b]?)->SatL w' L hs
 | [],[],_,_=>trivial
 | _ :: L,h0 :: hs,⟨a,le,d,r⟩,hk=>⟨a,fun b x e=>(hk h0 (List.mem_cons_self ..) b x e).trans (le b x e),d,SatL.moved r fun h hh=>hk h (List.mem_cons_of_mem _ hh)⟩
theorem Sat.set {B:Base} {w:World} {L L':List HP} {b:Nat} {o o':Obj} (h:Sat B w L) (r:Repl L (pt b o) (pt b o') L'):Sat B (setB w b o') L':=by
 obtain ⟨M,r1,r2⟩:=r.rem
 refine Sat.back r2 ?_
 obtain ⟨p,q,s,hs,h⟩:=h.front r1
 match hs,h with
 | h0 :: hs,⟨hp,hle,hd,hr⟩ =>
  have hin:b < w.heap.size:=by
   have:=hle b _ hp
   exact (Array.getElem?_eq_some_iff.1 this).1
  refine ⟨p,q,s,one b (true,o') :: hs,yj _ _,?_,?_,hr.moved ?_⟩
  ·intro c x hx
   obtain ⟨rfl,rfl⟩:=md hx
   rw [Ai]
   simp [hin]
  ·intro k hk c x y hx hy
   obtain ⟨rfl,rfl⟩:=md hx
   have:=hd k hk c _ y hp hy
   simp at this
  ·intro k hk c x hx
   rw [Ai]
   have:b≠c:=by
    rintro rfl
    have:=hd k hk b _ x hp hx
    simp at this
   simp [this]
theorem Sat.new {B:Base} {w:World} {L:List HP} (h:Sat B w L) (o:Obj):Sat B (w.alloc o) (pt w.heap.size o :: L):=by
 obtain ⟨p,q,s,hs,h⟩:=h
 refine ⟨p,q,s,one w.heap.size (true,o) :: hs,yj _ _,?_,?_,h.moved ?_⟩
 ·intro c x hx
  obtain ⟨rfl,rfl⟩:=md hx
  exact Array.getElem?_push_size
 ·intro k hk c x y hx hy
  obtain ⟨rfl,rfl⟩:=md hx
  have:=h.les k hk _ y hy
  simp at this
 ·intro k hk c x hx
  have:=h.les k hk c x hx
  have hlt:=(Array.getElem?_eq_some_iff.1 this).1
  exact (Array.getElem?_push (xs:=w.heap) (i:=c)).trans (if_neg (Nat.ne_of_lt hlt))
theorem Sat.heap {B:Base} {w w':World} {L:List HP} (h:Sat B w L) (ho:w'.os=w.os) (ht:w'.tape=w.tape) (hu:w'.output=w.output) (hh:w'.heap=w.heap):Sat B w' L:=by
 obtain ⟨p,q,s,hs,h⟩:=h
 exact ⟨ho.trans p,ht.trans q,hu.trans s,hs,h.moved fun _ _ _ _ _=>by rw [hh]⟩
theorem Sat.drew {B:Base} {w:World} {L:List HP} (h:Sat B w L):Sat B w.drew L:=h.heap rfl rfl rfl rfl
theorem Sat.freeze {B:Base} {w:World} {L L':List HP} {b:Nat} {o:Obj} (h:Sat B w L) (r:Repl L (pt b o) (ro b o) L'):Sat B w L':=by
 obtain ⟨M,r1,r2⟩:=r.rem
 refine Sat.back r2 ?_
 obtain ⟨p,q,s,hs,h⟩:=h.front r1
 match hs,h with
 | h0 :: hs,⟨hp,hle,hd,hr⟩ =>
  refine ⟨p,q,s,one b (false,o) :: hs,yj _ _,?_,?_,hr⟩
  ·intro c x hx
   obtain ⟨rfl,rfl⟩:=md hx
   exact hle _ (true,o) hp
  ·intro k hk c x y hx hy
   obtain ⟨rfl,rfl⟩:=md hx
   have:=hd k hk c _ y hp hy
   simp at this
abbrev Env :=List (Nat×Value)
def look :Env->Nat->Option Value
 | [],_=>none
 | (i,v) :: e,t=>bif Nat.beq i t then some v else look e t
def evo (e:Env):Operand->Option Value
 | .tmp t=>look e t
 | .const v=>some v
 | .global g=>some (.pointer (some ⟨g,0,none⟩))
 | .func f=>some (.func (.func f) #[] #[])
structure Fr where
 k:Nat
 ds:List Deferred
structure Ag (n:Fr) (e:Env) (a:Act):Prop where
 defers:a.defers=n.ds
 size:a.tmps.size=n.k
 get:∀ t v,look e t=some v->a.tmps.getD t undef=v
theorem Ag.eval {n:Fr} {e:Env} {a:Act} (h:Ag n e a) {x:Operand} {v:Value} (hx:evo e x=some v):a.eval x=v:=by
 cases x with
 | tmp t=>exact h.get t v hx
 | const u=>injection hx
 | global g=>injection hx
 | func f=>injection hx
theorem rt (e:Env) (d t:Nat) (v:Value):look ((d,v) :: e) t=if d=t then some v else look e t:=by
 by_cases h:d=t
 ·simp [look,h]
 ·have:Nat.beq d t=false:=by
   cases hb:Nat.beq d t
   ·rfl
   ·exact absurd (Nat.eq_of_beq_eq_true hb) h
  simp [look,this,h]
theorem Ag.put {n:Fr} {e:Env} {a:Act} (h:Ag n e a) {d:Nat} (hd:Nat.ble (d+1) n.k=true) (v:Value):Ag n ((d,v) :: e) (a.put (some d) v):=by
 have hd':d < n.k:=Nat.le_of_ble_eq_true hd
 refine ⟨h.defers,by simp [Act.put,h.size],fun t u hu=>?_⟩
 rw [rt] at hu
 by_cases ht:d=t
 ·subst ht
  simp only [if_true] at hu
  injection hu with hu
  subst hu
  simp [Act.put,h.size,hd']
 ·rw [if_neg ht] at hu
  have:=h.get t u hu
  simpa [Act.put,Array.getElem?_setIfInBounds_ne ht] using this
theorem Ag.put_none {n:Fr} {e:Env} {a:Act} (h:Ag n e a) (v:Value):Ag n e (a.put none v):=h
def Env.le (e' e:Env):Prop:=∀ t v,look e' t=some v->look e t=some v
theorem Env.le_nil (e:Env):Env.le [] e:=fun _ _ h=>by cases h
theorem Env.le_cons {e' e:Env} {d:Nat} {v:Value} (h:look e d=some v) (r:Env.le e' e):Env.le ((d,v) :: e') e:=by
 intro t u hu
 rw [rt] at hu
 split at hu
 ·rename_i ht
  subst ht
  injection hu with hu
  subst hu
  exact h
 ·exact r t u hu
theorem Ag.weak {n:Fr} {e e':Env} {a:Act} (h:Ag n e a) (hl:Env.le e' e):Ag n e' a:=⟨h.defers,h.size,fun t v hv=>h.get t v (hl t v hv)⟩
section
variable (P:Program) (B:Base) (n:Fr)
def WC (c:Code) (Q:Exit->Act->World->Prop) (e:Env) (L:List HP):Prop:=∀ a w,Ag n e a->Sat B w L->c.wp P Q a w
def WL (ops:Array Oper) (l:List Oper) (Q:Exit->Act->World->Prop) (e:Env) (L:List HP):Prop:=∀ a w,Ag n e a->Sat B w L->wpList P ops Q l a w
def WQ (Q:Exit->Act->World->Prop) (x:Exit) (e:Env) (L:List HP):Prop:=∀ a w,Ag n e a->Sat B w L->Q x a w
end
def Spec (P:Program) (f:FuncId) (args:Array Value) (L:List HP) (R:List HP->Value->List HP->Prop):Prop :=
 ∀ B F w,Sat B w (L++F)->Calls P f args w fun e w'=>∃ v M,e=.returned v/\R F v M/\Sat B w' M
def Post (B:Base) (F:List HP) (R:List HP->Value->List HP->Prop):Ending->World->Prop :=
 fun e w'=>∃ v M,e=.returned v/\R F v M/\Sat B w' M
def Wk (L M:List HP):Prop:=∀ B w,Sat B w L->Sat B w M
theorem Wk.refl {L:List HP}:Wk L L:=fun _ _ h=>h
theorem Wk.trans {L M N:List HP} (a:Wk L M) (b:Wk M N):Wk L N:=fun B w h=>b B w (a B w h)
inductive Am :List HP->List HP->Prop
 | refl {L}:Am L L
 | nil {L}:Am L []
 | skip {A L M}:Am L M->Am (A :: L) M
 | take {L A L1 M}:Rem L A L1->Am L1 M->Am L (A :: M)
theorem Am.satL {L M:List HP} (h:Am L M):∀ {w hs},SatL w L hs->∃ ks,SatL w M ks/\∀ k∈ks,k∈hs:=by
 induction h with
 | refl=>intro w hs h;exact ⟨hs,h,fun _ h=>h⟩
 | nil=>intro w hs h;exact ⟨[],trivial,fun _ h=>by cases h⟩
 | skip _ ih =>
  intro w hs h
  match hs,h with
  | h0 :: hs,⟨_,_,_,hr⟩ =>
   obtain ⟨ks,hk,hm⟩:=ih hr
   exact ⟨ks,hk,fun k hk'=>List.mem_cons_of_mem _ (hm k hk')⟩
 | take r _ ih =>
  intro w hs h
  obtain ⟨js,hj,hjm⟩:=h.front r
  match js,hj with
  | j0 :: js,⟨ha,hle,hd,hr⟩ =>
   obtain ⟨ks,hk,hm⟩:=ih hr
   refine ⟨j0 :: ks,⟨ha,hle,fun k hk'=>hd k (hm k hk'),hk⟩,fun k hk'=>(hjm k).1 ?_⟩
   rcases List.mem_cons.1 hk' with rfl | hk'
   ·exact List.mem_cons_self ..
   ·exact List.mem_cons_of_mem _ (hm k hk')
theorem Am.wk {L M:List HP} (h:Am L M):Wk L M:=by
 rintro B w ⟨p,q,s,hs,hh⟩
 obtain ⟨ks,hk,_⟩:=h.satL hh
 exact ⟨p,q,s,ks,hk⟩
section
variable {P:Program} {B:Base} {n:Fr} {Q Q':Exit->Act->World->Prop} {e:Env} {L:List HP} {ops:Array Oper} {l:List Oper}
theorem WC.seq {x y:Code} (h:WC P B n x (Exit.then (y.wp P Q) Q) e L):WC P B n (.seq x y) Q e L:=fun a w ha hs=>wp_seq (h a w ha hs)
theorem WC.skip (h:WQ B n Q .normal e L):WC P B n .skip Q e L:=fun a w ha hs=>wp_skip (h a w ha hs)
theorem WC.block {id:Nat} {c:Code} (h:WC P B n c (Exit.inBlock id Q) e L):WC P B n (.block id c) Q e L:=fun a w ha hs=>wp_block (h a w ha hs)
theorem WC.exit {id:Nat} (h:WQ B n Q (.exit id) e L):WC P B n (.exit id) Q e L:=fun a w ha hs=>wp_exit (h a w ha hs)
theorem WC.ret (h:WQ B n Q .ret e L):WC P B n .ret Q e L:=fun a w ha hs=>wp_ret (h a w ha hs)
theorem WC.region {id:Nat} {l:List Oper} (h:WL P B n l.toArray l Q e L):WC P B n (.region id l.toArray false) Q e L:=fun a w ha hs=>wp_region_lit (h a w ha hs)
theorem WC.condT {c:Operand} {x y:Code} {v:Value} (hc:evo e c=some v) (hv:v=.bool true) (h:WC P B n x Q e L):WC P B n (.cond c x y) Q e L:=by
 subst hv
 exact fun a w ha hs=>wp_cond_true (ha.eval hc) (h a w ha hs)
theorem WC.condF {c:Operand} {x y:Code} {v:Value} (hc:evo e c=some v) (hv:v=.bool false) (h:WC P B n y Q e L):WC P B n (.cond c x y) Q e L:=by
 subst hv
 exact fun a w ha hs=>wp_cond_false (ha.eval hc) (h a w ha hs)
theorem WC.cond {c:Operand} {x y:Code} {b:Bool} (hc:evo e c=some (.bool b)) (h1:b=true->WC P B n x Q e L) (h2:b=false->WC P B n y Q e L):WC P B n (.cond c x y) Q e L :=
 fun a w ha hs=>wp_cond_split (ha.eval hc) (fun hb=>h1 hb a w ha hs) (fun hb=>h2 hb a w ha hs)
theorem WL.nil (h:WQ B n Q .normal e L):WL P B n ops [] Q e L:=fun a w ha hs=>h a w ha hs
theorem WQ.next {y:Code} (h:WC P B n y Q' e L):WQ B n (Exit.then (y.wp P Q') Q) .normal e L:=fun a w ha hs=>h a w ha hs
theorem WQ.thenRet {K:Act->World->Prop} (h:WQ B n Q .ret e L):WQ B n (Exit.then K Q) .ret e L:=fun a w ha hs=>h a w ha hs
theorem WQ.thenExit {K:Act->World->Prop} {i:Nat} (h:WQ B n Q (.exit i) e L):WQ B n (Exit.then K Q) (.exit i) e L:=fun a w ha hs=>h a w ha hs
theorem WQ.blockRet {i:Nat} (h:WQ B n Q .ret e L):WQ B n (Exit.inBlock i Q) .ret e L:=fun a w ha hs=>h a w ha hs
theorem WQ.blockNormal {i:Nat} (h:WQ B n Q .normal e L):WQ B n (Exit.inBlock i Q) .normal e L:=fun a w ha hs=>h a w ha hs
theorem WQ.blockExit {i:Nat} (h:WQ B n Q .normal e L):WQ B n (Exit.inBlock i Q) (.exit i) e L:=fun a w ha hs=>by simpa [Exit.inBlock] using h a w ha hs
theorem WQ.blockPast {i j:Nat} (hij:Nat.beq j i=false) (h:WQ B n Q (.exit j) e L):WQ B n (Exit.inBlock i Q) (.exit j) e L:=fun a w ha hs=>by
 have:j≠i:=fun h=>by subst h;simp at hij
 simpa [Exit.inBlock,this] using h a w ha hs
end
section
variable {P:Program} {B:Base} {n:Fr} {Q Q':Exit->Act->World->Prop} {e:Env} {L:List HP} {ops:Array Oper} {l2:List Oper} {cy:Code} {id:Nat}
theorem WL.x (h:WL P B n l2.toArray l2 (Exit.then (cy.wp P Q') Q') e L):WL P B n ops [] (Exit.then ((Code.seq (.region id l2.toArray false) cy).wp P Q') Q) e L:=WL.nil (WQ.next (WC.seq (WC.region h)))
theorem WL.y (h:WL P B n l2.toArray l2 Q' e L):WL P B n ops [] (Exit.then ((Code.region id l2.toArray false).wp P Q') Q) e L:=WL.nil (WQ.next (WC.region h))
theorem WL.z (h:WC P B n cy Q' e L):WL P B n ops [] (Exit.then (cy.wp P Q') Q) e L:=WL.nil (WQ.next h)
theorem WC.sr (h:WL P B n l2.toArray l2 (Exit.then (cy.wp P Q) Q) e L):WC P B n (.seq (.region id l2.toArray false) cy) Q e L:=WC.seq (WC.region h)
end
def Back (B:Base) (n:Fr) {σ:Type} (E:σ->Env) (I:σ->List HP) (p:σ->Prop) (μ:σ->Nat) (s:σ):Act->World->Prop :=
 fun a w=>∃ s',p s'/\μ s' < μ s/\Ag n (E s') a/\Sat B w (I s')
theorem WC.loop {P:Program} {B:Base} {n:Fr} {Q:Exit->Act->World->Prop} {e:Env} {L:List HP} {c:Code} {σ:Type} (E:σ->Env) (I:σ->List HP) (p:σ->Prop) (μ:σ->Nat)
  (s0:σ) (hp:p s0) (he:Env.le (E s0) e) (hI:∀ w,Sat B w L->Sat B w (I s0))
  (round:∀ s,p s->WC P B n c (Exit.then (Back B n E I p μ s) Q) (E s) (I s)):WC P B n (.loop c) Q e L:=by
 intro a w ha hs
 refine wp_loop_ghost (fun k a w=>∃ s,μ s=k/\p s/\Ag n (E s) a/\Sat B w (I s)) (μ s0) ⟨s0,rfl,hp,ha.weak he,hI w hs⟩ ?_
 rintro k a w ⟨s,rfl,hp,ha,hs⟩
 refine wp_mono (round s hp a w ha hs) ?_
 intro x a' w' hq
 cases x with
 | normal =>
  obtain ⟨s',hp',hlt,ha',hs'⟩:=hq
  exact ⟨μ s',hlt,s',rfl,hp',ha',hs'⟩
 | exit id=>exact hq
 | goto l=>exact hq
 | ret=>exact hq
 | panic ch=>exact hq
 | outgrown=>exact hq
attribute [irreducible] pt ro star
section
variable {P:Program} {B:Base} {n:Fr} {Q Q':Exit->Act->World->Prop} {e:Env} {L:List HP} {ops:Array Oper} {l:List Oper}
theorem WL.step {o:Oper} (hg:o.guard=none)
  (h:∀ a w,Ag n e a->Sat B w L->∃ v w' e' L',(execOp a.eval o).run P w=.ok (.value v) w'/\Ag n e' (a.put o.dst v)/\Sat B w' L'/\WL P B n ops l Q e' L') :
  WL P B n ops (o :: l) Q e L:=by
 intro a w ha hs
 obtain ⟨v,w',e',L',hr,ha',hs',hk⟩:=h a w ha hs
 refine wpList_plain hg fun K hK=>?_
 unfold Oper.wp
 rw [hr]
 exact hK _ _ (hk _ _ ha' hs')
theorem WL.skipStep {o:Oper} (hg:o.guard=none)
  (h:∀ a w,Ag n e a->Sat B w L->∃ w' e' L',(execOp a.eval o).run P w=.ok .skip w'/\Ag n e' (a.put o.dst undef)/\Sat B w' L'/\WL P B n ops l Q e' L') :
  WL P B n ops (o :: l) Q e L:=by
 intro a w ha hs
 obtain ⟨w',e',L',hr,ha',hs',hk⟩:=h a w ha hs
 refine wpList_plain hg fun K hK=>?_
 unfold Oper.wp
 rw [hr]
 exact hK _ _ (hk _ _ ha' hs')
def Qt (P:Program) (B:Base) (n:Fr) (e:Env) (L:List HP) (o:Oper) (v:Value):Prop:=∀ a w,Ag n e a->Sat B w L->(execOp a.eval o).run P w=.ok (.value v) w
theorem Qt.eq {o:Oper} {v v':Value} (h:Qt P B n e L o v) (hv:v=v'):Qt P B n e L o v':=hv ▸ h
theorem WL.pure {d:Nat} {op:Op} {ty:TypeId} {pos:String} {af:Array Edge} {v:Value}
  (h:WL P B n ops l Q ((d,v) :: e) L) (hd:Nat.ble (d+1) n.k=true)
  (hr:Qt P B n e L ⟨some d,op,ty,pos,af,none⟩ v) :
  WL P B n ops (⟨some d,op,ty,pos,af,none⟩ :: l) Q e L :=
 WL.step rfl fun a w ha hs=>⟨v,w,_,L,hr a w ha hs,ha.put hd v,hs,h⟩
variable {d:Nat} {ty:TypeId} {pos:String} {af:Array Edge} {x y z:Operand} {gd:Option (Nat×Bool)}
theorem Qt.move {v:Value} (hx:evo e x=some v:=by rfl) :
  Qt P B n e L ⟨some d,.move x,ty,pos,af,gd⟩ (v) :=
 fun a w ha hs=>by simp [execOp,ha.eval hx]
theorem WL.move {v:Value} (h:WL P B n ops l Q ((d,v) :: e) L) (hx:evo e x=some v:=by rfl) (hd:Nat.ble (d+1) n.k=true:=by rfl) :
  WL P B n ops (⟨some d,.move x,ty,pos,af,none⟩ :: l) Q e L :=
 WL.pure h hd (Qt.move (hx:=hx))
theorem Qt.assign {v:Value} (hx:evo e x=some v:=by rfl) :
  Qt P B n e L ⟨some d,.assign x,ty,pos,af,gd⟩ (v) :=
 fun a w ha hs=>by simp [execOp,ha.eval hx]
theorem WL.assign {v:Value} (h:WL P B n ops l Q ((d,v) :: e) L) (hx:evo e x=some v:=by rfl) (hd:Nat.ble (d+1) n.k=true:=by rfl) :
  WL P B n ops (⟨some d,.assign x,ty,pos,af,none⟩ :: l) Q e L :=
 WL.pure h hd (Qt.assign (hx:=hx))
theorem Qt.pickT {v c:Value} (hc:evo e x=some c:=by rfl) (hb:c=.bool true:=by rfl) (hx:evo e y=some v:=by rfl) :
  Qt P B n e L ⟨some d,.pick x y z,ty,pos,af,gd⟩ (v) :=
 fun a w ha hs=>by subst hb;simp [execOp,ha.eval hx,ha.eval hc,asBool]
theorem WL.pickT {v c:Value} (h:WL P B n ops l Q ((d,v) :: e) L) (hc:evo e x=some c:=by rfl) (hb:c=.bool true:=by rfl) (hx:evo e y=some v:=by rfl) (hd:Nat.ble (d+1) n.k=true:=by rfl) :
  WL P B n ops (⟨some d,.pick x y z,ty,pos,af,none⟩ :: l) Q e L :=
 WL.pure h hd (Qt.pickT (hc:=hc) (hb:=hb) (hx:=hx))
theorem Qt.pickF {v c:Value} (hc:evo e x=some c:=by rfl) (hb:c=.bool false:=by rfl) (hx:evo e z=some v:=by rfl) :
  Qt P B n e L ⟨some d,.pick x y z,ty,pos,af,gd⟩ (v) :=
 fun a w ha hs=>by subst hb;simp [execOp,ha.eval hx,ha.eval hc,asBool]
theorem WL.pickF {v c:Value} (h:WL P B n ops l Q ((d,v) :: e) L) (hc:evo e x=some c:=by rfl) (hb:c=.bool false:=by rfl) (hx:evo e z=some v:=by rfl) (hd:Nat.ble (d+1) n.k=true:=by rfl) :
  WL P B n ops (⟨some d,.pick x y z,ty,pos,af,none⟩ :: l) Q e L :=
 WL.pure h hd (Qt.pickF (hc:=hc) (hb:=hb) (hx:=hx))
theorem Qt.extract {vs:Array Value} {i:Nat} {v:Value} (hx:evo e x=some (.tuple vs):=by rfl) (hi:vs[i]?=some v:=by rfl) :
  Qt P B n e L ⟨some d,.extract x i,ty,pos,af,gd⟩ (v) :=
 fun a w ha hs=>by simp [execOp,ha.eval hx,Instr.extract,hi]
theorem WL.extract {vs:Array Value} {i:Nat} {v:Value} (h:WL P B n ops l Q ((d,v) :: e) L) (hx:evo e x=some (.tuple vs):=by rfl) (hi:vs[i]?=some v:=by rfl) (hd:Nat.ble (d+1) n.k=true:=by rfl) :
  WL P B n ops (⟨some d,.extract x i,ty,pos,af,none⟩ :: l) Q e L :=
 WL.pure h hd (Qt.extract (hx:=hx) (hi:=hi))
theorem Qt.nilCheck {p:Addr} (hx:evo e x=some (.pointer (some p)):=by rfl) :
  Qt P B n e L ⟨some d,.nilCheck x,ty,pos,af,gd⟩ (.pointer (some p)) :=
 fun a w ha hs=>by simp [execOp,ha.eval hx]
theorem WL.nilCheck {p:Addr} (h:WL P B n ops l Q ((d,.pointer (some p)) :: e) L) (hx:evo e x=some (.pointer (some p)):=by rfl) (hd:Nat.ble (d+1) n.k=true:=by rfl) :
  WL P B n ops (⟨some d,.nilCheck x,ty,pos,af,none⟩ :: l) Q e L :=
 WL.pure h hd (Qt.nilCheck (hx:=hx))
theorem Qt.not {b:Bool} (hx:evo e x=some (.bool b):=by rfl) {t:TypeId} :
  Qt P B n e L ⟨some d,.unOp .not t x,ty,pos,af,gd⟩ (.bool (!b)) :=
 fun a w ha hs=>by simp [execOp,ha.eval hx,Op.unary]
theorem WL.not {b:Bool} (h:WL P B n ops l Q ((d,.bool (!b)) :: e) L) (hx:evo e x=some (.bool b):=by rfl) (hd:Nat.ble (d+1) n.k=true:=by rfl) {t:TypeId} :
  WL P B n ops (⟨some d,.unOp .not t x,ty,pos,af,none⟩ :: l) Q e L :=
 WL.pure h hd (Qt.not (hx:=hx))
theorem Qt.makeFunc {fn:Fn} {cs:Array Operand} {vs:Array Value}
  (hx:cs.toList.mapM (evo e)=some vs.toList:=by rfl) :
  Qt P B n e L ⟨some d,.makeFunc fn #[] cs,ty,pos,af,gd⟩ (.func fn #[] vs) :=
 fun a w ha hs=>by
  have key:∀ (cs:List Operand) (vs:List Value),cs.mapM (evo e)=some vs->cs.map a.eval=vs:=by
   intro cs
   induction cs with
   | nil=>intro vs h;simp at h;subst h;rfl
   | cons c cs ih =>
    intro vs h
    simp only [List.mapM_cons,Option.bind_eq_bind,Option.bind_eq_some_iff] at h
    obtain ⟨v,hv,vs',hvs,h⟩:=h
    cases h
    simp [ha.eval hv,ih _ hvs]
  have hk:=key _ _ hx
  have:cs.map a.eval=vs:=by
   apply Array.toList_inj.1
   rw [Array.toList_map]
   exact hk
  simp [execOp,Instr.makeFunc,this]
theorem WL.gT {o:Op} {dd:Option Nat} {j t:Nat} {b:Bool} {v:Value} (h:WL P B n ops (⟨dd,o,ty,pos,af,none⟩ :: l) Q e L)
  (hs:(ops[j]?).bind (·.dst)=some t:=by rfl) (hl:look e t=some v:=by rfl) (hv:v=.bool b:=by rfl) (ht:Nat.ble (t+1) n.k=true:=by rfl) :
  WL P B n ops (⟨dd,o,ty,pos,af,some (j,b)⟩ :: l) Q e L:=by
 intro a w ha hsat
 have h1:=h a w ha hsat
 have hy:yielded ops a.tmps j=some b:=by
  have hg:=ha.get t v hl
  subst hv
  have htn:t < a.tmps.size:=by rw [ha.size];exact Nat.le_of_ble_eq_true ht
  have:a.tmps[t]?=some (.bool b):=by
   rw [Array.getD_eq_getD_getElem?] at hg
   cases hq:a.tmps[t]? with
   | none=>rw [Array.getElem?_eq_none_iff] at hq;omega
   | some u=>rw [hq] at hg;simpa using hg
  simp [yielded,hs,this]
 unfold wpList at h1 ⊢
 simp only [Region.wanted,hy,beq_self_eq_true,if_true] at h1 ⊢
 exact h1
theorem WL.gF {o:Op} {d j t:Nat} {b:Bool} {v:Value} (h:WL P B n ops l Q ((d,undef) :: e) L)
  (hs:(ops[j]?).bind (·.dst)=some t:=by rfl) (hl:look e t=some v:=by rfl) (hv:v=.bool (!b):=by rfl) (ht:Nat.ble (t+1) n.k=true:=by rfl) (hd:Nat.ble (d+1) n.k=true:=by rfl) :
  WL P B n ops (⟨some d,o,ty,pos,af,some (j,b)⟩ :: l) Q e L:=by
 intro a w ha hsat
 have h1:=h _ w (ha.put hd undef) hsat
 have hy:yielded ops a.tmps j=some (!b):=by
  have hg:=ha.get t v hl
  subst hv
  have htn:t < a.tmps.size:=by rw [ha.size];exact Nat.le_of_ble_eq_true ht
  have:a.tmps[t]?=some (.bool (!b)):=by
   rw [Array.getD_eq_getD_getElem?] at hg
   cases hq:a.tmps[t]? with
   | none=>rw [Array.getElem?_eq_none_iff] at hq;omega
   | some u=>rw [hq] at hg;simpa using hg
  simp [yielded,hs,this]
 unfold wpList
 have:Region.wanted (⟨some d,o,ty,pos,af,some (j,b)⟩:Oper) (yielded ops a.tmps)=false:=by
  simp [Region.wanted,hy]
 rw [this]
 exact h1
theorem WL.split {t:Nat} {b:Bool} (hl:look e t=some (.bool b)) (h1:b=true->WL P B n ops l Q ((t,.bool true) :: e) L) (h2:b=false->WL P B n ops l Q ((t,.bool false) :: e) L):WL P B n ops l Q e L:=by
 cases b
 ·intro a w ha hs
  refine h2 rfl a w (ha.weak ?_) hs
  exact Env.le_cons hl fun _ _ h=>h
 ·intro a w ha hs
  refine h1 rfl a w (ha.weak ?_) hs
  exact Env.le_cons hl fun _ _ h=>h
theorem Qt.lss {k:IntKind} {p q:Int} {t u:TypeId} (hx:evo e x=some (.int k p):=by rfl) (hy:evo e y=some (.int k q):=by rfl) :
  Qt P B n e L ⟨some d,.binOp .lss t x y u,ty,pos,af,gd⟩ (.bool (decide (p < q))) :=
 fun a w ha hs=>by simp [execOp,ha.eval hx,ha.eval hy,eqGuard,binOp,Op.intCmp]
theorem WL.lss {k:IntKind} {p q:Int} {t u:TypeId} (h:WL P B n ops l Q ((d,.bool (decide (p < q))) :: e) L) (hx:evo e x=some (.int k p):=by rfl) (hy:evo e y=some (.int k q):=by rfl) (hd:Nat.ble (d+1) n.k=true:=by rfl) :
  WL P B n ops (⟨some d,.binOp .lss t x y u,ty,pos,af,none⟩ :: l) Q e L :=
 WL.pure h hd (Qt.lss (hx:=hx) (hy:=hy))
theorem Qt.leq {k:IntKind} {p q:Int} {t u:TypeId} (hx:evo e x=some (.int k p):=by rfl) (hy:evo e y=some (.int k q):=by rfl) :
  Qt P B n e L ⟨some d,.binOp .leq t x y u,ty,pos,af,gd⟩ (.bool (decide (p<=q))) :=
 fun a w ha hs=>by simp [execOp,ha.eval hx,ha.eval hy,eqGuard,binOp,Op.intCmp]
theorem WL.leq {k:IntKind} {p q:Int} {t u:TypeId} (h:WL P B n ops l Q ((d,.bool (decide (p<=q))) :: e) L) (hx:evo e x=some (.int k p):=by rfl) (hy:evo e y=some (.int k q):=by rfl) (hd:Nat.ble (d+1) n.k=true:=by rfl) :
  WL P B n ops (⟨some d,.binOp .leq t x y u,ty,pos,af,none⟩ :: l) Q e L :=
 WL.pure h hd (Qt.leq (hx:=hx) (hy:=hy))
theorem Qt.gtr {k:IntKind} {p q:Int} {t u:TypeId} (hx:evo e x=some (.int k p):=by rfl) (hy:evo e y=some (.int k q):=by rfl) :
  Qt P B n e L ⟨some d,.binOp .gtr t x y u,ty,pos,af,gd⟩ (.bool (decide (q < p))) :=
 fun a w ha hs=>by simp [execOp,ha.eval hx,ha.eval hy,eqGuard,binOp,Op.intCmp]
theorem WL.gtr {k:IntKind} {p q:Int} {t u:TypeId} (h:WL P B n ops l Q ((d,.bool (decide (q < p))) :: e) L) (hx:evo e x=some (.int k p):=by rfl) (hy:evo e y=some (.int k q):=by rfl) (hd:Nat.ble (d+1) n.k=true:=by rfl) :
  WL P B n ops (⟨some d,.binOp .gtr t x y u,ty,pos,af,none⟩ :: l) Q e L :=
 WL.pure h hd (Qt.gtr (hx:=hx) (hy:=hy))
theorem Qt.geq {k:IntKind} {p q:Int} {t u:TypeId} (hx:evo e x=some (.int k p):=by rfl) (hy:evo e y=some (.int k q):=by rfl) :
  Qt P B n e L ⟨some d,.binOp .geq t x y u,ty,pos,af,gd⟩ (.bool (decide (q<=p))) :=
 fun a w ha hs=>by simp [execOp,ha.eval hx,ha.eval hy,eqGuard,binOp,Op.intCmp]
theorem WL.geq {k:IntKind} {p q:Int} {t u:TypeId} (h:WL P B n ops l Q ((d,.bool (decide (q<=p))) :: e) L) (hx:evo e x=some (.int k p):=by rfl) (hy:evo e y=some (.int k q):=by rfl) (hd:Nat.ble (d+1) n.k=true:=by rfl) :
  WL P B n ops (⟨some d,.binOp .geq t x y u,ty,pos,af,none⟩ :: l) Q e L :=
 WL.pure h hd (Qt.geq (hx:=hx) (hy:=hy))
theorem Qt.eqi {k:IntKind} {p q:Int} {t u:TypeId} (hx:evo e x=some (.int k p):=by rfl) (hy:evo e y=some (.int k q):=by rfl) :
  Qt P B n e L ⟨some d,.binOp .eql t x y u,ty,pos,af,gd⟩ (.bool (decide (p=q))) :=
 fun a w ha hs=>by
  have:(p==q)=decide (p=q):=by by_cases h:p=q<;>simp [h]
  simp [execOp,ha.eval hx,ha.eval hy,eqGuard,binOp,Op.intCmp,this]
theorem WL.eqi {k:IntKind} {p q:Int} {t u:TypeId} (h:WL P B n ops l Q ((d,.bool (decide (p=q))) :: e) L) (hx:evo e x=some (.int k p):=by rfl) (hy:evo e y=some (.int k q):=by rfl) (hd:Nat.ble (d+1) n.k=true:=by rfl) :
  WL P B n ops (⟨some d,.binOp .eql t x y u,ty,pos,af,none⟩ :: l) Q e L :=
 WL.pure h hd (Qt.eqi (hx:=hx) (hy:=hy))
theorem Qt.nei {k:IntKind} {p q:Int} {t u:TypeId} (hx:evo e x=some (.int k p):=by rfl) (hy:evo e y=some (.int k q):=by rfl) :
  Qt P B n e L ⟨some d,.binOp .neq t x y u,ty,pos,af,gd⟩ (.bool (!decide (p=q))) :=
 fun a w ha hs=>by
  have:(p != q)=!decide (p=q):=by by_cases h:p=q<;>simp [h]
  simp [execOp,ha.eval hx,ha.eval hy,eqGuard,binOp,Op.intCmp,this]
theorem WL.nei {k:IntKind} {p q:Int} {t u:TypeId} (h:WL P B n ops l Q ((d,.bool (!decide (p=q))) :: e) L) (hx:evo e x=some (.int k p):=by rfl) (hy:evo e y=some (.int k q):=by rfl) (hd:Nat.ble (d+1) n.k=true:=by rfl) :
  WL P B n ops (⟨some d,.binOp .neq t x y u,ty,pos,af,none⟩ :: l) Q e L :=
 WL.pure h hd (Qt.nei (hx:=hx) (hy:=hy))
def ad (P:Program) (s f fo:Nat):Bool :=
 match P.underlying s with
 | some (.struct fs)=>(match fs[f]? with
  | some fld=>Nat.beq fld.offset fo && (match P.info? fld.type with
   | some i=>!Nat.beq i.size 0
   | none=>false)
  | none=>false)
 | _=>false
def ai (P:Program) (t:Nat):Bool :=
 match P.underlying t with
 | some (.struct _)=>false
 | some (.array _ _)=>false
 | some _=>(match P.info? t with
  | some i=>Nat.beq i.size 1
  | none=>false)
 | none=>false
def c5 (P:Program) (t k:Nat):Bool :=
 match P.underlying t with
 | some (.struct _)=>(match P.info? t with
  | some i=>Nat.beq i.size k
  | none=>false)
 | some (.array _ _)=>(match P.info? t with
  | some i=>Nat.beq i.size k
  | none=>false)
 | _=>false
def ba (P:Program) (t:Nat):Option (Array Value):=((P.info? t).bind (·.zero)).map (·.cells)
theorem bq (b o k:Nat):(⟨b,o,none⟩:Addr).add k=⟨b,o+k,none⟩:=by
 unfold Addr.add
 split
 ·rename_i h
  subst h
  rfl
 ·rfl
theorem Aj {s f fo:Nat} (h:ad P s f fo=true) (b off:Nat) (w:World) :
  (Instr.fieldAt s (.pointer (some ⟨b,off,none⟩)) f).run P w=.ok (.pointer (some ⟨b,off+fo,none⟩)) w:=by
 unfold ad at h
 split at h
 ·rename_i fs hu
  split at h
  ·rename_i fld hf
   simp only [Bool.and_eq_true] at h
   obtain ⟨h1,h2⟩:=h
   have h1:=Nat.eq_of_beq_eq_true h1
   split at h2
   ·rename_i i hi
    have hz:i.size≠0:=by
     intro hz
     rw [hz] at h2
     simp at h2
    simp [Instr.fieldAt,run_underlying hu,hf,Instr.sureAddr,fieldPlace,sizeOf,typeInfo,hi,hz,bq,h1]
   ·cases h2
  ·cases h
 ·cases h
theorem fx {t:Nat} (h:ai P t=true) (w:World):(isAgg t).run P w=.ok false w:=by
 unfold ai at h
 split at h
 ·cases h
 ·cases h
 ·rename_i d h1 h2 h3
  simp only [isAgg,Sem.run_bind,run_underlying h3,Result.andThen_ok]
  cases d<;>first | rfl | exact absurd rfl (h1 _) | exact absurd rfl (h2 _ _)
 ·cases h
theorem ru {t:Nat} (h:ai P t=true) (w:World):(sizeOf t).run P w=.ok 1 w:=by
 unfold ai at h
 split at h
 ·cases h
 ·cases h
 ·split at h
  ·rename_i i hi
   have:=Nat.eq_of_beq_eq_true h
   simp [sizeOf,typeInfo,hi,this]
  ·cases h
 ·cases h
theorem nj {t k:Nat} (h:c5 P t k=true) (w:World):(isAgg t).run P w=.ok true w:=by
 unfold c5 at h
 split at h
 ·rename_i hu;simp [isAgg,run_underlying hu]
 ·rename_i hu;simp [isAgg,run_underlying hu]
 ·cases h
theorem wi {t k:Nat} (h:c5 P t k=true) (w:World):(sizeOf t).run P w=.ok k w:=by
 unfold c5 at h
 split at h
 ·split at h
  ·rename_i i hi
   have:=Nat.eq_of_beq_eq_true h
   simp [sizeOf,typeInfo,hi,this]
  ·cases h
 ·split at h
  ·rename_i i hi
   have:=Nat.eq_of_beq_eq_true h
   simp [sizeOf,typeInfo,hi,this]
  ·cases h
 ·cases h
theorem K3 {t:Nat} {cs:Array Value} (h:ba P t=some cs) (w:World):∃ z,(zeroValue t).run P w=.ok z w/\z.cells=cs:=by
 unfold ba at h
 simp only [Option.map_eq_some_iff,Option.bind_eq_some_iff] at h
 obtain ⟨z,⟨i,hi,hz⟩,hc⟩:=h
 exact ⟨z,by simp [zeroValue,typeInfo,hi,hz],hc⟩
def nthv :List Value->Nat->Option Value
 | [],_=>none
 | v :: _,0=>some v
 | _ :: l,n+1=>nthv l n
theorem Ak :∀ (l:List Value) (n:Nat),nthv l n=l[n]?
 | [],n=>by simp [nthv]
 | v :: l,0=>rfl
 | v :: l,n+1=>by rw [nthv,Ak l n];rfl
theorem Cd {cs:Array Value} {n:Nat} {v:Value} (h:nthv cs.toList n=some v):cs[n]?=some v:=by
 rw [Ak] at h;simpa using h
theorem ms {w:World} {b off:Nat} {cs:Array Value} {t:TypeId} {fr:Nat×Nat} (h:w.heap[b]?=some (.cells cs t fr)):w.cell? ⟨b,off,none⟩=cs[off]?:=by
 simp [World.cell?,h]
theorem Ce {t b off:Nat} {w:World} {v:Value} (hs:ai P t=true) (h:w.cell? ⟨b,off,none⟩=some v):(Instr.loadAt t (.pointer (some ⟨b,off,none⟩))).run P w=.ok v w:=by
 simp [Instr.loadAt,Instr.sureAddr,loadVar,fx hs,load,Sem.run,h]
theorem Qt.fa {s f fo b off:Nat} (hf:ad P s f fo=true) (hx:evo e x=some (.pointer (some ⟨b,off,none⟩)):=by rfl) :
  Qt P B n e L ⟨some d,.fieldAddr s x f,ty,pos,af,gd⟩ (.pointer (some ⟨b,off+fo,none⟩)) :=
 fun a w ha hs=>by simp [execOp,ha.eval hx,Aj hf]
theorem WL.fa {s f fo b off:Nat} (h:WL P B n ops l Q ((d,.pointer (some ⟨b,off+fo,none⟩)) :: e) L) (hf:ad P s f fo=true) (hx:evo e x=some (.pointer (some ⟨b,off,none⟩)):=by rfl) (hd:Nat.ble (d+1) n.k=true:=by rfl) :
  WL P B n ops (⟨some d,.fieldAddr s x f,ty,pos,af,none⟩ :: l) Q e L :=
 WL.pure h hd (Qt.fa (hf:=hf) (hx:=hx))
theorem Qt.ld {t b off:Nat} {cs:Array Value} {t0:TypeId} {fr:Nat×Nat} {v:Value} (hsc:ai P t=true)
  (hx:evo e x=some (.pointer (some ⟨b,off,none⟩)):=by rfl) (hm:Mem L (pt b (.cells cs t0 fr)):=by repeat (first | exact .here | refine .there ?_)) (hc:nthv cs.toList off=some v:=by rfl) :
  Qt P B n e L ⟨some d,.load t x,ty,pos,af,gd⟩ (v) :=
 fun a w ha hs=>by
  have:=hs.get hm
  simp [execOp,ha.eval hx,Ce hsc ((ms this).trans (Cd hc))]
theorem WL.ld {t b off:Nat} {cs:Array Value} {t0:TypeId} {fr:Nat×Nat} {v:Value} (h:WL P B n ops l Q ((d,v) :: e) L) (hsc:ai P t=true)
  (hx:evo e x=some (.pointer (some ⟨b,off,none⟩)):=by rfl) (hm:Mem L (pt b (.cells cs t0 fr)):=by repeat (first | exact .here | refine .there ?_)) (hc:nthv cs.toList off=some v:=by rfl) (hd:Nat.ble (d+1) n.k=true:=by rfl) :
  WL P B n ops (⟨some d,.load t x,ty,pos,af,none⟩ :: l) Q e L :=
 WL.pure h hd (Qt.ld (hsc:=hsc) (hx:=hx) (hm:=hm) (hc:=hc))
def mt (P:Program) (t:Nat):Bool :=
 match P.underlying t with
 | some (.pointer _)=>true
 | _=>false
theorem Ob {t:Nat} (h:mt P t=true):P.underlying t=some (.pointer (P.pointee t)):=by
 unfold mt at h
 split at h
 ·rename_i el hu;simp [Program.pointee,hu]
 ·cases h
theorem k5 {op:BinOp} {t:TypeId} {x y:Operand} {p q:Option Addr} (w:World):(eqGuard op t x y (.pointer p) (.pointer q)).run P w=.ok () w:=by
 cases op<;>simp [eqGuard]
theorem Qt.eqNil {p:Option Addr} {t u:TypeId} (ht:mt P t=true) (hx:evo e x=some (.pointer p):=by rfl) (hy:evo e y=some (.pointer none):=by rfl) :
  Qt P B n e L ⟨some d,.binOp .eql t x y u,ty,pos,af,gd⟩ (.bool p.isNone) :=
 fun a w ha hs=>by simp [execOp,ha.eval hx,ha.eval hy,k5,run_eql_pointer_nil w t p (Ob ht)]
theorem WL.eqNil {p:Option Addr} {t u:TypeId} (h:WL P B n ops l Q ((d,.bool p.isNone) :: e) L) (ht:mt P t=true) (hx:evo e x=some (.pointer p):=by rfl) (hy:evo e y=some (.pointer none):=by rfl) (hd:Nat.ble (d+1) n.k=true:=by rfl) :
  WL P B n ops (⟨some d,.binOp .eql t x y u,ty,pos,af,none⟩ :: l) Q e L :=
 WL.pure h hd (Qt.eqNil (ht:=ht) (hx:=hx) (hy:=hy))
theorem Qt.neNil {p:Option Addr} {t u:TypeId} (ht:mt P t=true) (hx:evo e x=some (.pointer p):=by rfl) (hy:evo e y=some (.pointer none):=by rfl) :
  Qt P B n e L ⟨some d,.binOp .neq t x y u,ty,pos,af,gd⟩ (.bool p.isSome) :=
 fun a w ha hs=>by simp [execOp,ha.eval hx,ha.eval hy,k5,run_neq_pointer_nil w t p (Ob ht)]
theorem WL.neNil {p:Option Addr} {t u:TypeId} (h:WL P B n ops l Q ((d,.bool p.isSome) :: e) L) (ht:mt P t=true) (hx:evo e x=some (.pointer p):=by rfl) (hy:evo e y=some (.pointer none):=by rfl) (hd:Nat.ble (d+1) n.k=true:=by rfl) :
  WL P B n ops (⟨some d,.binOp .neq t x y u,ty,pos,af,none⟩ :: l) Q e L :=
 WL.pure h hd (Qt.neNil (ht:=ht) (hx:=hx) (hy:=hy))
def evos (e:Env):List Operand->Option (List Value)
 | []=>some []
 | x :: xs=>match evo e x,evos e xs with
  | some v,some vs=>some (v :: vs)
  | _,_=>none
theorem fj {a:Act} (ha:Ag n e a):∀ {xs:List Operand} {vs:List Value},evos e xs=some vs->xs.map a.eval=vs
 | [],vs,h=>by simp [evos] at h;subst h;rfl
 | x :: xs,vs,h=>by
  unfold evos at h
  split at h
  ·rename_i v vs' hv hvs
   cases h
   simp [ha.eval hv,fj ha hvs]
  ·cases h
theorem WL.callAt {f:FuncId} {fv:Operand} {cap:Array Value} {xs:List Operand} {tys:Array TypeId} {vs:List Value} {pre Lr:List HP} {R:List HP->Value->List HP->Prop} {dd:Option Nat}
  (hf:evo e fv=some (.func (.func f) #[] cap)) (hx:evos e xs=some vs)
  (hc:∀ args w,(callFunc f args).run P w=.ok (.enter f args) w) (sp:Spec P f (vs.toArray++cap) pre R) (tk:Tk L pre Lr)
  (h:∀ v M,R Lr v M->∀ a w,Ag n e a->Sat B w M->wpList P ops Q l (a.put dd v) w) :
  WL P B n ops (⟨dd,.call ⟨.value fv,xs.toArray,tys⟩,ty,pos,af,none⟩ :: l) Q e L:=by
 intro a w ha hs
 refine wpList_plain rfl fun K hK=>?_
 have hargs:xs.map a.eval=vs:=fj ha hx
 have hrun:(execOp a.eval ⟨dd,.call ⟨.value fv,xs.toArray,tys⟩,ty,pos,af,none⟩).run P w=.ok (.enter f (vs.toArray++cap)) w:=by
  simp [execOp,resolve,Deferred.ofValue,ha.eval hf,invoke,hargs,hc]
 unfold Oper.wp
 rw [hrun]
 simp only [Oper.upon_enter]
 refine (sp B Lr w (hs.take tk)).mono ?_
 rintro _ w' ⟨v,M,rfl,hR,hsat⟩
 exact hK _ _ (h v M hR a w' ha hsat)
theorem WL.call {f:FuncId} {xs:List Operand} {tys:Array TypeId} {vs:List Value} {pre Lr:List HP} {R:List HP->Value->List HP->Prop}
  (hx:evos e xs=some vs:=by rfl)
  (hc:∀ args w,(callFunc f args).run P w=.ok (.enter f args) w) (sp:Spec P f vs.toArray pre R)
  (h:∀ v M,R Lr v M->WL P B n ops l Q ((d,v) :: e) M)
  (tk:Tk L pre Lr:=by repeat (first | exact .nil | (apply Tk.cons;focus ((repeat (first | exact .here | apply Rem.there));done)))) (hd:Nat.ble (d+1) n.k=true:=by rfl) :
  WL P B n ops (⟨some d,.call ⟨.value (.func f),xs.toArray,tys⟩,ty,pos,af,none⟩ :: l) Q e L :=
 WL.callAt (cap:=#[]) rfl hx hc (by simpa using sp) tk fun v M hR a w ha hs=>h v M hR _ w (ha.put hd v) hs
theorem WL.callV {f:FuncId} {t:Nat} {cap:Array Value} {xs:List Operand} {tys:Array TypeId} {vs:List Value} {pre Lr:List HP} {R:List HP->Value->List HP->Prop}
  (hf:evo e (.tmp t)=some (.func (.func f) #[] cap):=by rfl) (hx:evos e xs=some vs:=by rfl)
  (hc:∀ args w,(callFunc f args).run P w=.ok (.enter f args) w) (sp:Spec P f (vs.toArray++cap) pre R)
  (h:∀ v M,R Lr v M->WL P B n ops l Q ((d,v) :: e) M)
  (tk:Tk L pre Lr:=by repeat (first | exact .nil | (apply Tk.cons;focus ((repeat (first | exact .here | apply Rem.there));done)))) (hd:Nat.ble (d+1) n.k=true:=by rfl) :
  WL P B n ops (⟨some d,.call ⟨.value (.tmp t),xs.toArray,tys⟩,ty,pos,af,none⟩ :: l) Q e L :=
 WL.callAt hf hx hc sp tk fun v M hR a w ha hs=>h v M hR _ w (ha.put hd v) hs
def env0 (k:Nat):List Value->Env
 | []=>[]
 | v :: vs=>(k,v) :: env0 (k+1) vs
theorem ym (vas:List Value) (k t:Nat) (v:Value) (h:look (env0 k vas) t=some v):k<=t/\vas[t - k]?=some v:=by
 induction vas generalizing k with
 | nil=>cases h
 | cons a vas ih =>
  rw [env0,rt] at h
  split at h
  ·rename_i hk
   subst hk
   simpa using h
  ·rename_i hk
   have:=ih (k+1) h
   refine ⟨by omega,?_⟩
   rw [show t - k=t - (k+1)+1 from by omega]
   simpa using this.2
theorem Spec.intro {f:FuncId} {fn:Func} {c:Code} {vas:List Value} {pre:List HP} {R:List HP->Value->List HP->Prop}
  (hf:P.funcs[f]?=some fn) (hb:fn.body=some c) (hn:Nat.ble vas.length fn.ntmps=true)
  (h:∀ B F,WC P B ⟨fn.ntmps,[]⟩ c (bodyPost P fn (Post B F R)) (env0 0 vas) (pre++F)):Spec P f vas.toArray pre R:=by
 intro B F w hs
 refine calls_of_wp hf hb ?_
 refine h B F _ w ⟨rfl,?_,?_⟩ hs
 ·have:=Nat.le_of_ble_eq_true hn
  simp;omega
 ·intro t v hv
  have:=ym vas 0 t v hv
  simp only [Nat.sub_zero] at this
  have ht:t < vas.length:=(List.getElem?_eq_some_iff.1 this.2).1
  rw [Array.getD_eq_getD_getElem?,Array.getElem?_append_left (by simpa using ht)]
  simp [this.2]
inductive RV (P:Program) (e:Env) (L:List HP):ResultVar->Value->Prop
 | tmp {t v}:look e t=some v->RV P e L (.tmp t) v
 | cell {a t b off cs t0 fr v}:look e a=some (.pointer (some ⟨b,off,none⟩))->ai P t=true->Mem L (pt b (.cells cs t0 fr))->nthv cs.toList off=some v->RV P e L (.cell a t) v
 | agg {a t b cs t0 fr k}:look e a=some (.pointer (some ⟨b,0,none⟩))->c5 P t k=true->Mem L (pt b (.cells cs t0 fr))->cs.size=k->RV P e L (.cell a t) (.agg cs)
theorem mu {w:World} {b:Nat} {cs:Array Value} {t:TypeId} {fr:Nat×Nat} (h:w.heap[b]?=some (.cells cs t fr)) (off:Nat) :
  ∀ (k i:Nat) (acc:Array Value),off+i+k<=cs.size->(loadCellsFrom ⟨b,off,none⟩ i k acc).run P w=.ok (acc++cs.extract (off+i) (off+i+k)) w:=by
 intro k
 induction k with
 | zero=>intro i acc _;simp [loadCellsFrom];omega
 | succ k ih =>
  intro i acc hle
  have hlt:off+i < cs.size:=by omega
  have hc:w.cell? ⟨b,off+i,none⟩=some cs[off+i]:=by rw [ms h];simp [hlt]
  unfold loadCellsFrom
  simp only [bq,load,Sem.run_bind,Sem.run,hc,Result.andThen_ok]
  rw [ih (i+1) _ (by omega)]
  congr 1
  have:cs.extract (off+i) (off+i+(k+1))=#[cs[off+i]]++cs.extract (off+(i+1)) (off+(i+1)+k):=by
   apply Array.ext
   ·simp;omega
   ·intro j h1 h2
    simp only [Array.size_extract] at h1
    rcases Nat.eq_zero_or_pos j with rfl | hj
    ·simp
    ·rw [Array.getElem_append_right (by simp;omega)]
     simp
     congr 1
     omega
  rw [this,<-Array.append_assoc]
  simp
theorem mv {t k b off:Nat} {w:World} {cs:Array Value} {t0:TypeId} {fr:Nat×Nat} (ha:c5 P t k=true) (h:w.heap[b]?=some (.cells cs t0 fr)) (hk:off+k<=cs.size) :
  (loadVar t ⟨b,off,none⟩).run P w=.ok (.agg (cs.extract off (off+k))) w:=by
 have:=mu (P:=P) h off k 0 #[] (by omega)
 simp only [Nat.add_zero] at this
 simp [loadVar,nj ha,wi ha,loadCells,this]
def resM (tmps:Array Value):ResultVar->Sem Value
 | .tmp t=>pure (tmps.getD t undef)
 | .cell a t=>do loadVar t (<- asAddr (tmps.getD a undef))
theorem i9 (fn:Func) (tmps:Array Value):results fn tmps=(do
  let vs<-fn.results.mapM (resM tmps)
  pure (if h:vs.size=1 then vs[0] else .tuple vs)):=rfl
theorem RV.run {r:ResultVar} {v:Value} (h:RV P e L r v) {a:Act} {w:World} (ha:Ag n e a) (hs:Sat B w L):(resM a.tmps r).run P w=.ok v w:=by
 cases h with
 | tmp h=>simp only [resM,ha.get _ _ h];rfl
 | cell h1 h2 h3 h4=>simp only [resM,ha.get _ _ h1];simp [asAddr,loadVar,fx h2,load,Sem.run,(ms (hs.get h3)).trans (Cd h4)]
 | @agg a' t b cs t0 fr k h1 h2 h3 h4 =>
  have:=mv (P:=P) h2 (hs.get h3) (off:=0) (by omega)
  simp only [resM,ha.get _ _ h1]
  simp [asAddr,this,<-h4]
theorem K4 {fn:Func} {a:Act} {w:World} (h:fn.results=#[]):(results fn a.tmps).run P w=.ok (.tuple #[]) w:=by
 simp [results,h]
theorem K5 {fn:Func} {a:Act} {w:World} {r:ResultVar} {v:Value} (h:fn.results=#[r]) (ha:Ag n e a) (hs:Sat B w L) (h1:RV P e L r v):(results fn a.tmps).run P w=.ok v w:=by
 have k1:=h1.run ha hs
 simp [i9,h,k1]
theorem Cf {fn:Func} {a:Act} {w:World} {r s:ResultVar} {v u:Value} (h:fn.results=#[r,s]) (ha:Ag n e a) (hs:Sat B w L) (h1:RV P e L r v) (h2:RV P e L s u) :
  (results fn a.tmps).run P w=.ok (.tuple #[v,u]) w:=by
 have k1:=h1.run ha hs
 have k2:=h2.run ha hs
 simp [i9,h,k1,k2]
theorem K6 {fn:Func} {a:Act} {w:World} {r s t:ResultVar} {v u y:Value} (h:fn.results=#[r,s,t]) (ha:Ag n e a) (hs:Sat B w L) (h1:RV P e L r v) (h2:RV P e L s u) (h3:RV P e L t y) :
  (results fn a.tmps).run P w=.ok (.tuple #[v,u,y]) w:=by
 have k1:=h1.run ha hs
 have k2:=h2.run ha hs
 have k3:=h3.run ha hs
 simp [i9,h,k1,k2,k3]
theorem Am.auto {L M:List HP} (h:Am L M:=by repeat (first | exact .refl | exact .nil | (apply Am.take;focus ((repeat (first | exact .here | apply Rem.there));done)) | refine .skip ?_)):Am L M:=h
theorem eg {fn:Func} {F:List HP} {R:List HP->Value->List HP->Prop} {a:Act} {w:World} {v:Value} (hr:(results fn a.tmps).run P w=.ok v w) (hd:a.defers=[]) {M:List HP} (hR:R F v M) (hs:Sat B w M) :
  bodyPost P fn (Post B F R) .ret a w:=⟨hd,v,hr,v,M,rfl,hR,hs⟩
variable {fn:Func} {F:List HP} {R:List HP->Value->List HP->Prop}
theorem WQ.ret0 {xt:Exit} (h:∃ M,R F (.tuple #[]) M/\Am L M) (hx:(xt=.ret ∨ xt=.normal):=by first | exact .inl rfl | exact .inr rfl) (hD:n.ds=[]:=by rfl) (hres:fn.results=#[]:=by rfl):WQ B n (bodyPost P fn (Post B F R)) xt e L:=by
 obtain ⟨M,hR,hk⟩:=h
 intro a w ha hs
 rcases hx with rfl | rfl<;>exact eg (K4 hres) (ha.defers.trans hD) hR (hk.wk B w hs)
theorem WQ.ret1 {xt:Exit} {r:ResultVar} {v:Value} (h:∃ M,R F v M/\Am L M) (hres:fn.results=#[r]:=by rfl) (h1:RV P e L r v:=by first | exact .tmp rfl | exact .cell rfl (by kernel_rfl) (by repeat (first | exact .here | refine .there ?_)) rfl | exact .agg rfl (by kernel_rfl) (by repeat (first | exact .here | refine .there ?_)) rfl)
  (hx:(xt=.ret ∨ xt=.normal):=by first | exact .inl rfl | exact .inr rfl) (hD:n.ds=[]:=by rfl):WQ B n (bodyPost P fn (Post B F R)) xt e L:=by
 obtain ⟨M,hR,hk⟩:=h
 intro a w ha hs
 rcases hx with rfl | rfl<;>exact eg (K5 hres ha hs h1) (ha.defers.trans hD) hR (hk.wk B w hs)
theorem WQ.ret2 {xt:Exit} {r s:ResultVar} {v u:Value} (h:∃ M,R F (.tuple #[v,u]) M/\Am L M) (hres:fn.results=#[r,s]:=by rfl) (h1:RV P e L r v:=by first | exact .tmp rfl | exact .cell rfl (by kernel_rfl) (by repeat (first | exact .here | refine .there ?_)) rfl | exact .agg rfl (by kernel_rfl) (by repeat (first | exact .here | refine .there ?_)) rfl)
  (h2:RV P e L s u:=by first | exact .tmp rfl | exact .cell rfl (by kernel_rfl) (by repeat (first | exact .here | refine .there ?_)) rfl | exact .agg rfl (by kernel_rfl) (by repeat (first | exact .here | refine .there ?_)) rfl)
  (hx:(xt=.ret ∨ xt=.normal):=by first | exact .inl rfl | exact .inr rfl) (hD:n.ds=[]:=by rfl):WQ B n (bodyPost P fn (Post B F R)) xt e L:=by
 obtain ⟨M,hR,hk⟩:=h
 intro a w ha hs
 rcases hx with rfl | rfl<;>exact eg (Cf hres ha hs h1 h2) (ha.defers.trans hD) hR (hk.wk B w hs)
theorem WQ.ret3 {xt:Exit} {r s t:ResultVar} {v u y:Value} (h:∃ M,R F (.tuple #[v,u,y]) M/\Am L M) (hres:fn.results=#[r,s,t]:=by rfl) (h1:RV P e L r v:=by first | exact .tmp rfl | exact .cell rfl (by kernel_rfl) (by repeat (first | exact .here | refine .there ?_)) rfl | exact .agg rfl (by kernel_rfl) (by repeat (first | exact .here | refine .there ?_)) rfl)
  (h2:RV P e L s u:=by first | exact .tmp rfl | exact .cell rfl (by kernel_rfl) (by repeat (first | exact .here | refine .there ?_)) rfl | exact .agg rfl (by kernel_rfl) (by repeat (first | exact .here | refine .there ?_)) rfl)
  (h3:RV P e L t y:=by first | exact .tmp rfl | exact .cell rfl (by kernel_rfl) (by repeat (first | exact .here | refine .there ?_)) rfl | exact .agg rfl (by kernel_rfl) (by repeat (first | exact .here | refine .there ?_)) rfl)
  (hx:(xt=.ret ∨ xt=.normal):=by first | exact .inl rfl | exact .inr rfl) (hD:n.ds=[]:=by rfl):WQ B n (bodyPost P fn (Post B F R)) xt e L:=by
 obtain ⟨M,hR,hk⟩:=h
 intro a w ha hs
 rcases hx with rfl | rfl<;>exact eg (K6 hres ha hs h1 h2 h3) (ha.defers.trans hD) hR (hk.wk B w hs)
end
section
variable {P:Program} {B:Base} {n:Fr} {Q Q':Exit->Act->World->Prop} {e:Env} {L:List HP} {ops:Array Oper} {l:List Oper}
variable {d:Nat} {ty:TypeId} {pos:String} {af:Array Edge} {x y z:Operand} {gd:Option (Nat×Bool)}
theorem a6 (op:BinOp) (t:TypeId) (k:IntKind) (p q:Int):binOp op t (.int k p) (.int k q) =
  (match op with
  | .shl | .shr=>Op.shift op k p k q
  | .add | .sub | .mul=>Op.intArith op k p q
  | .quo | .rem=>Op.intDiv op k p q
  | .and | .or | .xor | .andNot=>Op.intBits op k p q
  | _=>Op.intCmp op p q):=by
 cases op<;>simp [binOp]
theorem Qt.bin {op:BinOp} {t u:TypeId} {vx vy r:Value} (hr:∀ w,(do eqGuard op t x y vx vy;binOp op t vx vy:Sem Value).run P w=.ok r w)
  (hx:evo e x=some vx:=by rfl) (hy:evo e y=some vy:=by rfl) :
  Qt P B n e L ⟨some d,.binOp op t x y u,ty,pos,af,gd⟩ r :=
 fun a w ha hs=>by
  have h1:=hr w
  simp only [execOp,ha.eval hx,ha.eval hy]
  rw [Sem.run_bind,h1]
  rfl
theorem WL.bin {op:BinOp} {t u:TypeId} {vx vy r:Value} (h:WL P B n ops l Q ((d,r) :: e) L) (hr:∀ w,(do eqGuard op t x y vx vy;binOp op t vx vy:Sem Value).run P w=.ok r w)
  (hx:evo e x=some vx:=by rfl) (hy:evo e y=some vy:=by rfl) (hd:Nat.ble (d+1) n.k=true:=by rfl) :
  WL P B n ops (⟨some d,.binOp op t x y u,ty,pos,af,none⟩ :: l) Q e L :=
 WL.pure h hd fun a w ha hs=>by
  have h1:=hr w
  simp only [execOp,ha.eval hx,ha.eval hy]
  rw [Sem.run_bind,h1]
  rfl
theorem yn (op:BinOp) (t:TypeId) (x y:Operand) (k k':IntKind) (p q:Int) (w:World):(eqGuard op t x y (.int k p) (.int k' q)).run P w=.ok () w:=by
 cases op<;>simp [eqGuard]
theorem bx {op:BinOp} {t:TypeId} {k k':IntKind} {p q:Int} {r:Value} (h:∀ w,(binOp op t (.int k p) (.int k' q)).run P w=.ok r w) (w:World) :
  (do eqGuard op t x y (.int k p) (.int k' q);binOp op t (.int k p) (.int k' q):Sem Value).run P w=.ok r w:=by
 simp only [Sem.run_bind,yn,Result.andThen_ok,h]
theorem Qt.addw {k:IntKind} {p q:Int} {t u:TypeId} (hx:evo e x=some (.int k p):=by rfl) (hy:evo e y=some (.int k q):=by rfl) :
  Qt P B n e L ⟨some d,.binOp .add t x y u,ty,pos,af,gd⟩ (.int k (k.wrap (p+q))) :=
 Qt.bin (bx fun w=>by simp [a6,Op.intArith]) hx hy
theorem WL.addw {k:IntKind} {p q:Int} {t u:TypeId} (h:WL P B n ops l Q ((d,.int k (k.wrap (p+q))) :: e) L) (hx:evo e x=some (.int k p):=by rfl) (hy:evo e y=some (.int k q):=by rfl) (hd:Nat.ble (d+1) n.k=true:=by rfl) :
  WL P B n ops (⟨some d,.binOp .add t x y u,ty,pos,af,none⟩ :: l) Q e L :=
 WL.pure h hd (Qt.addw (hx:=hx) (hy:=hy))
theorem Qt.subw {k:IntKind} {p q:Int} {t u:TypeId} (hx:evo e x=some (.int k p):=by rfl) (hy:evo e y=some (.int k q):=by rfl) :
  Qt P B n e L ⟨some d,.binOp .sub t x y u,ty,pos,af,gd⟩ (.int k (k.wrap (p - q))) :=
 Qt.bin (bx fun w=>by simp [a6,Op.intArith]) hx hy
theorem WL.subw {k:IntKind} {p q:Int} {t u:TypeId} (h:WL P B n ops l Q ((d,.int k (k.wrap (p - q))) :: e) L) (hx:evo e x=some (.int k p):=by rfl) (hy:evo e y=some (.int k q):=by rfl) (hd:Nat.ble (d+1) n.k=true:=by rfl) :
  WL P B n ops (⟨some d,.binOp .sub t x y u,ty,pos,af,none⟩ :: l) Q e L :=
 WL.pure h hd (Qt.subw (hx:=hx) (hy:=hy))
theorem Qt.add {p q:Int} {t u:TypeId} (hx:evo e x=some (.int .i64 p):=by rfl) (hy:evo e y=some (.int .i64 q):=by rfl) (hb:-9223372036854775808<=p+q/\p+q<=9223372036854775807:=by omega) :
  Qt P B n e L ⟨some d,.binOp .add t x y u,ty,pos,af,gd⟩ (.int .i64 (p+q)) :=
 Qt.bin (bx fun w=>by simp [a6,Op.intArith,IntWalk.i64_in _ hb]) hx hy
theorem WL.add {p q:Int} {t u:TypeId} (h:WL P B n ops l Q ((d,.int .i64 (p+q)) :: e) L) (hx:evo e x=some (.int .i64 p):=by rfl) (hy:evo e y=some (.int .i64 q):=by rfl) (hb:-9223372036854775808<=p+q/\p+q<=9223372036854775807:=by omega) (hd:Nat.ble (d+1) n.k=true:=by rfl) :
  WL P B n ops (⟨some d,.binOp .add t x y u,ty,pos,af,none⟩ :: l) Q e L :=
 WL.pure h hd (Qt.add (hb:=hb) (hx:=hx) (hy:=hy))
theorem Qt.sub {p q:Int} {t u:TypeId} (hx:evo e x=some (.int .i64 p):=by rfl) (hy:evo e y=some (.int .i64 q):=by rfl) (hb:-9223372036854775808<=p - q/\p - q<=9223372036854775807:=by omega) :
  Qt P B n e L ⟨some d,.binOp .sub t x y u,ty,pos,af,gd⟩ (.int .i64 (p - q)) :=
 Qt.bin (bx fun w=>by simp [a6,Op.intArith,IntWalk.i64_in _ hb]) hx hy
theorem WL.sub {p q:Int} {t u:TypeId} (h:WL P B n ops l Q ((d,.int .i64 (p - q)) :: e) L) (hx:evo e x=some (.int .i64 p):=by rfl) (hy:evo e y=some (.int .i64 q):=by rfl) (hb:-9223372036854775808<=p - q/\p - q<=9223372036854775807:=by omega) (hd:Nat.ble (d+1) n.k=true:=by rfl) :
  WL P B n ops (⟨some d,.binOp .sub t x y u,ty,pos,af,none⟩ :: l) Q e L :=
 WL.pure h hd (Qt.sub (hb:=hb) (hx:=hx) (hy:=hy))
theorem Qt.mul {p q:Int} {t u:TypeId} (hx:evo e x=some (.int .i64 p):=by rfl) (hy:evo e y=some (.int .i64 q):=by rfl) (hb:-9223372036854775808<=p * q/\p * q<=9223372036854775807:=by omega) :
  Qt P B n e L ⟨some d,.binOp .mul t x y u,ty,pos,af,gd⟩ (.int .i64 (p * q)) :=
 Qt.bin (bx fun w=>by simp [a6,Op.intArith,IntWalk.i64_in _ hb]) hx hy
theorem WL.mul {p q:Int} {t u:TypeId} (h:WL P B n ops l Q ((d,.int .i64 (p * q)) :: e) L) (hx:evo e x=some (.int .i64 p):=by rfl) (hy:evo e y=some (.int .i64 q):=by rfl) (hb:-9223372036854775808<=p * q/\p * q<=9223372036854775807:=by omega) (hd:Nat.ble (d+1) n.k=true:=by rfl) :
  WL P B n ops (⟨some d,.binOp .mul t x y u,ty,pos,af,none⟩ :: l) Q e L :=
 WL.pure h hd (Qt.mul (hb:=hb) (hx:=hx) (hy:=hy))
theorem Qt.quo {p q:Int} {t u:TypeId} (hx:evo e x=some (.int .i64 p):=by rfl) (hy:evo e y=some (.int .i64 q):=by rfl) (hb:0<=p/\p<=9223372036854775807:=by omega) (hq:1<=q:=by omega) :
  Qt P B n e L ⟨some d,.binOp .quo t x y u,ty,pos,af,gd⟩ (.int .i64 (p / q)) :=
 Qt.bin (bx fun w=>by
  have:q≠0:=by omega
  simp [a6,Op.intDiv,this,IntWalk.i64_quo p q ⟨hb.1,hb.2,hq⟩]) hx hy
theorem WL.quo {p q:Int} {t u:TypeId} (h:WL P B n ops l Q ((d,.int .i64 (p / q)) :: e) L) (hx:evo e x=some (.int .i64 p):=by rfl) (hy:evo e y=some (.int .i64 q):=by rfl) (hb:0<=p/\p<=9223372036854775807:=by omega) (hq:1<=q:=by omega) (hd:Nat.ble (d+1) n.k=true:=by rfl) :
  WL P B n ops (⟨some d,.binOp .quo t x y u,ty,pos,af,none⟩ :: l) Q e L :=
 WL.pure h hd (Qt.quo (hb:=hb) (hq:=hq) (hx:=hx) (hy:=hy))
theorem Qt.rem {p q:Int} {t u:TypeId} (hx:evo e x=some (.int .i64 p):=by rfl) (hy:evo e y=some (.int .i64 q):=by rfl) (hb:0<=p:=by omega) (hq:1<=q:=by omega) :
  Qt P B n e L ⟨some d,.binOp .rem t x y u,ty,pos,af,gd⟩ (.int .i64 (p % q)) :=
 Qt.bin (bx fun w=>by
  have:q≠0:=by omega
  simp [a6,Op.intDiv,this,Int.tmod_eq_emod_of_nonneg hb]) hx hy
theorem WL.rem {p q:Int} {t u:TypeId} (h:WL P B n ops l Q ((d,.int .i64 (p % q)) :: e) L) (hx:evo e x=some (.int .i64 p):=by rfl) (hy:evo e y=some (.int .i64 q):=by rfl) (hb:0<=p:=by omega) (hq:1<=q:=by omega) (hd:Nat.ble (d+1) n.k=true:=by rfl) :
  WL P B n ops (⟨some d,.binOp .rem t x y u,ty,pos,af,none⟩ :: l) Q e L :=
 WL.pure h hd (Qt.rem (hb:=hb) (hq:=hq) (hx:=hx) (hy:=hy))
theorem Qt.shr {k k':IntKind} {p q:Int} {t u:TypeId} (hx:evo e x=some (.int k p):=by rfl) (hy:evo e y=some (.int k' q):=by rfl) (hq:0<=q:=by omega) :
  Qt P B n e L ⟨some d,.binOp .shr t x y u,ty,pos,af,gd⟩ (.int k (p.fdiv (2 ^ (min q.toNat k.bits)))) :=
 Qt.bin (bx fun w=>by
  have:¬ q < 0:=by omega
  simp [binOp,Op.shift,this]) hx hy
theorem WL.shr {k k':IntKind} {p q:Int} {t u:TypeId} (h:WL P B n ops l Q ((d,.int k (p.fdiv (2 ^ (min q.toNat k.bits)))) :: e) L) (hx:evo e x=some (.int k p):=by rfl) (hy:evo e y=some (.int k' q):=by rfl) (hq:0<=q:=by omega) (hd:Nat.ble (d+1) n.k=true:=by rfl) :
  WL P B n ops (⟨some d,.binOp .shr t x y u,ty,pos,af,none⟩ :: l) Q e L :=
 WL.pure h hd (Qt.shr (hq:=hq) (hx:=hx) (hy:=hy))
theorem Qt.shl {k k':IntKind} {p q:Int} {t u:TypeId} (hx:evo e x=some (.int k p):=by rfl) (hy:evo e y=some (.int k' q):=by rfl) (hq:0<=q:=by omega) :
  Qt P B n e L ⟨some d,.binOp .shl t x y u,ty,pos,af,gd⟩ (.int k (k.wrap (p * 2 ^ (min q.toNat k.bits)))) :=
 Qt.bin (bx fun w=>by
  have:¬ q < 0:=by omega
  simp [binOp,Op.shift,this]) hx hy
theorem WL.shl {k k':IntKind} {p q:Int} {t u:TypeId} (h:WL P B n ops l Q ((d,.int k (k.wrap (p * 2 ^ (min q.toNat k.bits)))) :: e) L) (hx:evo e x=some (.int k p):=by rfl) (hy:evo e y=some (.int k' q):=by rfl) (hq:0<=q:=by omega) (hd:Nat.ble (d+1) n.k=true:=by rfl) :
  WL P B n ops (⟨some d,.binOp .shl t x y u,ty,pos,af,none⟩ :: l) Q e L :=
 WL.pure h hd (Qt.shl (hq:=hq) (hx:=hx) (hy:=hy))
def band (k:IntKind) (p q:Int):Int:=k.wrap ((BitVec.ofInt k.bits p &&& BitVec.ofInt k.bits q).toNat:Int)
def bor (k:IntKind) (p q:Int):Int:=k.wrap ((BitVec.ofInt k.bits p ||| BitVec.ofInt k.bits q).toNat:Int)
def bxor (k:IntKind) (p q:Int):Int:=k.wrap ((BitVec.ofInt k.bits p ^^^ BitVec.ofInt k.bits q).toNat:Int)
def Em (k:IntKind) (p q:Int):Int:=k.wrap ((BitVec.ofInt k.bits p &&& ~~~BitVec.ofInt k.bits q).toNat:Int)
theorem Qt.and {k:IntKind} {p q:Int} {t u:TypeId} (hx:evo e x=some (.int k p):=by rfl) (hy:evo e y=some (.int k q):=by rfl) :
  Qt P B n e L ⟨some d,.binOp .and t x y u,ty,pos,af,gd⟩ (.int k (band k p q)) :=
 Qt.bin (bx fun w=>by simp [a6,Op.intBits,band]) hx hy
theorem WL.and {k:IntKind} {p q:Int} {t u:TypeId} (h:WL P B n ops l Q ((d,.int k (band k p q)) :: e) L) (hx:evo e x=some (.int k p):=by rfl) (hy:evo e y=some (.int k q):=by rfl) (hd:Nat.ble (d+1) n.k=true:=by rfl) :
  WL P B n ops (⟨some d,.binOp .and t x y u,ty,pos,af,none⟩ :: l) Q e L :=
 WL.pure h hd (Qt.and (hx:=hx) (hy:=hy))
theorem Qt.or {k:IntKind} {p q:Int} {t u:TypeId} (hx:evo e x=some (.int k p):=by rfl) (hy:evo e y=some (.int k q):=by rfl) :
  Qt P B n e L ⟨some d,.binOp .or t x y u,ty,pos,af,gd⟩ (.int k (bor k p q)) :=
 Qt.bin (bx fun w=>by simp [a6,Op.intBits,bor]) hx hy
theorem WL.or {k:IntKind} {p q:Int} {t u:TypeId} (h:WL P B n ops l Q ((d,.int k (bor k p q)) :: e) L) (hx:evo e x=some (.int k p):=by rfl) (hy:evo e y=some (.int k q):=by rfl) (hd:Nat.ble (d+1) n.k=true:=by rfl) :
  WL P B n ops (⟨some d,.binOp .or t x y u,ty,pos,af,none⟩ :: l) Q e L :=
 WL.pure h hd (Qt.or (hx:=hx) (hy:=hy))
theorem Qt.xor {k:IntKind} {p q:Int} {t u:TypeId} (hx:evo e x=some (.int k p):=by rfl) (hy:evo e y=some (.int k q):=by rfl) :
  Qt P B n e L ⟨some d,.binOp .xor t x y u,ty,pos,af,gd⟩ (.int k (bxor k p q)) :=
 Qt.bin (bx fun w=>by simp [a6,Op.intBits,bxor]) hx hy
theorem WL.xor {k:IntKind} {p q:Int} {t u:TypeId} (h:WL P B n ops l Q ((d,.int k (bxor k p q)) :: e) L) (hx:evo e x=some (.int k p):=by rfl) (hy:evo e y=some (.int k q):=by rfl) (hd:Nat.ble (d+1) n.k=true:=by rfl) :
  WL P B n ops (⟨some d,.binOp .xor t x y u,ty,pos,af,none⟩ :: l) Q e L :=
 WL.pure h hd (Qt.xor (hx:=hx) (hy:=hy))
theorem Qt.andNot {k:IntKind} {p q:Int} {t u:TypeId} (hx:evo e x=some (.int k p):=by rfl) (hy:evo e y=some (.int k q):=by rfl) :
  Qt P B n e L ⟨some d,.binOp .andNot t x y u,ty,pos,af,gd⟩ (.int k (Em k p q)) :=
 Qt.bin (bx fun w=>by simp [a6,Op.intBits,Em]) hx hy
def Pq (P:Program) (t:Nat) (k:IntKind):Bool :=
 match P.underlying t with
 | some (.int k')=>k'==k
 | _=>false
theorem Sh {t:Nat} {k:IntKind} (h:Pq P t k=true):P.underlying t=some (.int k):=by
 unfold Pq at h
 split at h
 ·rename_i k' hu;rw [hu];simp at h;rw [h]
 ·cases h
theorem Qt.cvt {k k':IntKind} {p:Int} {s t:TypeId} {sd:TypeDesc} (hs:P.underlying s=some sd) (ht:P.underlying t=some (.int k)) (hx:evo e x=some (.int k' p):=by rfl) :
  Qt P B n e L ⟨some d,.convert s t x,ty,pos,af,gd⟩ (.int k (k.wrap p)) :=
 fun a w ha hs'=>by simp [execOp,ha.eval hx,convert,run_underlying hs,run_underlying ht,Conv.intToInt]
theorem WL.cvt {k k':IntKind} {p:Int} {s t:TypeId} {sd:TypeDesc} (h:WL P B n ops l Q ((d,.int k (k.wrap p)) :: e) L) (hs:P.underlying s=some sd) (ht:P.underlying t=some (.int k)) (hx:evo e x=some (.int k' p):=by rfl) (hd:Nat.ble (d+1) n.k=true:=by rfl) :
  WL P B n ops (⟨some d,.convert s t x,ty,pos,af,none⟩ :: l) Q e L :=
 WL.pure h hd (Qt.cvt (hs:=hs) (ht:=ht) (hx:=hx))
theorem WL.cast {v u:Value} (hl:look e d=some v) (he:v=u) (h:WL P B n ops l Q ((d,u) :: e) L):WL P B n ops l Q e L:=by
 subst he
 exact fun a w ha hs=>h a w (ha.weak (Env.le_cons hl fun _ _ h=>h)) hs
theorem WQ.cast {v u:Value} {xt:Exit} (hl:look e d=some v) (he:v=u) (h:WQ B n Q xt ((d,u) :: e) L):WQ B n Q xt e L:=by
 subst he
 exact fun a w ha hs=>h a w (ha.weak (Env.le_cons hl fun _ _ h=>h)) hs
theorem WC.cast {c:Code} {v u:Value} (hl:look e d=some v) (he:v=u) (h:WC P B n c Q ((d,u) :: e) L):WC P B n c Q e L:=by
 subst he
 exact fun a w ha hs=>h a w (ha.weak (Env.le_cons hl fun _ _ h=>h)) hs
theorem En {w:World} {b off:Nat} {cs:Array Value} {t:TypeId} {fr:Nat×Nat} (h:w.heap[b]?=some (.cells cs t fr)) (v:Value) :
  w.setCell ⟨b,off,none⟩ v=setB w b (.cells (cs.setIfInBounds off v) t fr):=by
 have hb:=(Array.getElem?_eq_some_iff.1 h).1
 have hv:=(Array.getElem?_eq_some_iff.1 h).2
 unfold World.setCell setB
 congr 1
 apply Array.ext
 ·simp
 ·intro i h1 h2
  simp only [Array.getElem_modify]
  rw [Array.getElem_setIfInBounds (by simpa using h2)]
  by_cases hi:b=i
  ·subst hi
   simp only [if_true,hv]
   rfl
  ·simp [hi]
def Value.single :Value->Bool
 | .agg _=>false
 | .tuple _=>false
 | _=>true
theorem oy {w:World} {b off:Nat} {cs:Array Value} {t:TypeId} {v:Value} (h:w.heap[b]?=some (.cells cs t (0,0))) (ho:off < cs.size) (hv:Value.single v=true) :
  (store ⟨b,off,none⟩ v).run P w=.ok () (setB w b (.cells (cs.setIfInBounds off v) t (0,0))):=by
 have hc:w.cell? ⟨b,off,none⟩=some cs[off]:=by rw [ms h];simp [ho]
 have hf:w.frozen? ⟨b,off,none⟩=false:=by simp [World.frozen?,h]
 cases v<;>first | (simp [Value.single] at hv;done) | (simp only [store,Sem.run,hc,hf,En h];rfl)
theorem qa {v:Value} (hv:Value.single v=true):v.cells=#[v]:=by
 cases v<;>first | rfl | (simp [Value.single] at hv;done)
theorem WL.st {t b off:Nat} {cs:Array Value} {t0:TypeId} {v:Value} {L':List HP} (h:WL P B n ops l Q e L') (hsc:ai P t=true)
  (hx:evo e x=some (.pointer (some ⟨b,off,none⟩)):=by rfl) (hy:evo e y=some v:=by rfl)
  (hr:Repl L (pt b (.cells cs t0 (0,0))) (pt b (.cells (cs.setIfInBounds off v) t0 (0,0))) L':=by repeat (first | exact .here | apply Repl.there)) (ho:Nat.ble (off+1) cs.size=true:=by rfl) (hv:Value.single v=true:=by rfl) :
  WL P B n ops (⟨none,.store t x y,ty,pos,af,none⟩ :: l) Q e L :=
 WL.skipStep rfl fun a w ha hs=>by
  obtain ⟨M,r1,r2⟩:=hr.rem
  have hm:Mem (pt b (.cells cs t0 (0,0)) :: M) (pt b (.cells cs t0 (0,0))):=.here
  have hb:=(hs.front r1).get hm
  refine ⟨setB w b (.cells (cs.setIfInBounds off v) t0 (0,0)),e,L',?_,ha.put_none _,hs.set hr,h⟩
  simp [execOp,ha.eval hx,ha.eval hy,Instr.storeAt,Instr.sureAddr,storeVar,qa hv,ru hsc,storeCells,bq,oy hb (Nat.le_of_ble_eq_true ho) hv]
theorem WL.alloc {t:Nat} {cs:Array Value} (hz:ba P t=some cs) (h:∀ b,WL P B n ops l Q ((d,.pointer (some ⟨b,0,none⟩)) :: e) (pt b (.cells cs t (0,0)) :: L)) (hd:Nat.ble (d+1) n.k=true:=by rfl) :
  WL P B n ops (⟨some d,.alloc t,ty,pos,af,none⟩ :: l) Q e L :=
 WL.step rfl fun a w ha hs=>by
  obtain ⟨zv,hzr,hzc⟩:=K3 hz w
  refine ⟨.pointer (some ⟨w.heap.size,0,none⟩),w.alloc (.cells cs t),_,_,?_,ha.put hd _,hs.new _,h w.heap.size⟩
  simp [execOp,Instr.alloc,hzr,newVar,newRow,newObj,Sem.run,hzc]
theorem WL.box {t:Nat} {v:Value} (h:∀ b,WL P B n ops l Q ((d,.pointer (some ⟨b,0,none⟩)) :: e) (pt b (.cells v.cells t (0,0)) :: L)) (hx:evo e x=some v:=by rfl) (hd:Nat.ble (d+1) n.k=true:=by rfl) :
  WL P B n ops (⟨some d,.box t x,ty,pos,af,none⟩ :: l) Q e L :=
 WL.step rfl fun a w ha hs=>by
  refine ⟨.pointer (some ⟨w.heap.size,0,none⟩),w.alloc (.cells v.cells t),_,_,?_,ha.put hd _,hs.new _,h w.heap.size⟩
  simp [execOp,ha.eval hx,Instr.box,newVar,newRow,newObj,Sem.run]
theorem Qt.ldA {t b k:Nat} {cs:Array Value} {t0:TypeId} {fr:Nat×Nat} (ha':c5 P t k=true)
  (hx:evo e x=some (.pointer (some ⟨b,0,none⟩)):=by rfl) (hm:Mem L (pt b (.cells cs t0 fr)):=by repeat (first | exact .here | refine .there ?_)) (hk:cs.size=k:=by rfl) :
  Qt P B n e L ⟨some d,.load t x,ty,pos,af,gd⟩ (.agg cs) :=
 fun a w ha hs=>by
  have:=mv (P:=P) ha' (hs.get hm) (off:=0) (by omega)
  simp [execOp,ha.eval hx,Instr.loadAt,Instr.sureAddr,this,<-hk]
theorem WL.ldA {t b k:Nat} {cs:Array Value} {t0:TypeId} {fr:Nat×Nat} (h:WL P B n ops l Q ((d,.agg cs) :: e) L) (ha':c5 P t k=true)
  (hx:evo e x=some (.pointer (some ⟨b,0,none⟩)):=by rfl) (hm:Mem L (pt b (.cells cs t0 fr)):=by repeat (first | exact .here | refine .there ?_)) (hk:cs.size=k:=by rfl) (hd:Nat.ble (d+1) n.k=true:=by rfl) :
  WL P B n ops (⟨some d,.load t x,ty,pos,af,none⟩ :: l) Q e L :=
 WL.pure h hd (Qt.ldA (ha':=ha') (hx:=hx) (hm:=hm) (hk:=hk))
theorem Qt.ldP {t b k off:Nat} {cs:Array Value} {t0:TypeId} {fr:Nat×Nat} {us:Array Value} (ha':c5 P t k=true) (hus:(cs.toList.drop off).take k=us.toList) (hk:Nat.ble (off+k) cs.size=true)
  (hx:evo e x=some (.pointer (some ⟨b,off,none⟩)):=by rfl) (hm:Mem L (pt b (.cells cs t0 fr)):=by repeat (first | exact .here | refine .there ?_)) :
  Qt P B n e L ⟨some d,.load t x,ty,pos,af,gd⟩ (.agg us) :=
 fun a w ha hs=>by
  have h1:=mv (P:=P) ha' (hs.get hm) (off:=off) (Nat.le_of_ble_eq_true hk)
  have h2:cs.extract off (off+k)=us:=by
   apply Array.toList_inj.1
   rw [<- hus]
   simp
  simp [execOp,ha.eval hx,Instr.loadAt,Instr.sureAddr,h1,h2]
theorem fg {w:World} {b:Nat} {t:TypeId}:∀ (vs:List Value) (i:Nat) (off:Nat) (cs:Array Value) (w:World),w.heap[b]?=some (.cells cs t (0,0))->off+i+vs.length<=cs.size->(∀ v∈vs,Value.single v=true) ->
  (storeCells ⟨b,off,none⟩ vs i).run P w=.ok () (if vs=[] then w else setB w b (.cells (cs.toList.take (off+i)++vs++cs.toList.drop (off+i+vs.length)).toArray t (0,0)))
 | [],i,off,cs,w,_,_,_=>by simp [storeCells]
 | v :: vs,i,off,cs,w,h,hle,hv=>by
  simp only [List.length_cons] at hle
  have ho:off+i < cs.size:=by omega
  have h1:=oy (P:=P) h ho (hv v (List.mem_cons_self ..))
  simp only [storeCells,bq,Sem.run_bind,h1,Result.andThen_ok]
  have hb:=(Array.getElem?_eq_some_iff.1 h).1
  have h2:(setB w b (.cells (cs.setIfInBounds (off+i) v) t (0,0))).heap[b]?=some (.cells (cs.setIfInBounds (off+i) v) t (0,0)):=by rw [Ai];simp [hb]
  rw [fg (w:=w) vs (i+1) off _ _ h2 (by simp;omega) fun u hu=>hv u (List.mem_cons_of_mem _ hu)]
  congr 1
  have key:∀ (cs:List Value) (k:Nat),k < cs.length->∀ (vs:List Value),(cs.set k v).take (k+1)++vs++(cs.set k v).drop (k+1+vs.length)=cs.take k++v :: vs++cs.drop (k+(vs.length+1)):=by
   intro cs k hk vs
   apply List.ext_getElem?
   intro j
   simp only [List.getElem?_append,List.length_append,List.length_take,List.length_set,List.length_cons,List.getElem?_take,List.getElem?_set,List.getElem?_drop,List.getElem?_cons]
   grind
  by_cases hvs:vs=[]
  ·subst hvs
   simp only [if_true,List.cons_ne_nil,if_false]
   congr 2
   apply Array.toList_inj.1
   have:=key cs.toList (off+i) (by simpa using ho) []
   simp only [List.append_nil,List.length_nil,Nat.add_zero,List.take_append_drop] at this
   simp only [Array.toList_setIfInBounds]
   simpa using this
  ·rw [if_neg hvs,if_neg (List.cons_ne_nil _ _)]
   simp only [setB]
   congr 1
   rw [Array.setIfInBounds_setIfInBounds]
   congr 2
   apply Array.toList_inj.1
   have:=key cs.toList (off+i) (by simpa using ho) vs
   simp only [Array.toList_setIfInBounds,List.length_cons]
   rw [show off+(i+1)=off+i+1 from by omega]
   exact this
theorem WL.stA {t b k off:Nat} {cs us:Array Value} {t0:TypeId} {L':List HP} {ws:List Value} (h:WL P B n ops l Q e L') (hag:c5 P t k=true) (hk:us.size=k) (hk0:us.toList≠[]) (hsing:∀ v∈us.toList,Value.single v=true) (hle:off+k<=cs.size)
  (hws:cs.toList.take off++us.toList++cs.toList.drop (off+us.toList.length)=ws)
  (hx:evo e x=some (.pointer (some ⟨b,off,none⟩)):=by rfl) (hy:evo e y=some (.agg us):=by rfl)
  (hr:Repl L (pt b (.cells cs t0 (0,0))) (pt b (.cells ws.toArray t0 (0,0))) L':=by repeat (first | exact .here | apply Repl.there)) :
  WL P B n ops (⟨none,.store t x y,ty,pos,af,none⟩ :: l) Q e L :=
 WL.skipStep rfl fun a w ha hs=>by
  obtain ⟨M,r1,r2⟩:=hr.rem
  have hm:Mem (pt b (.cells cs t0 (0,0)) :: M) (pt b (.cells cs t0 (0,0))):=.here
  have hb:=(hs.front r1).get hm
  refine ⟨setB w b (.cells ws.toArray t0 (0,0)),e,L',?_,ha.put_none _,hs.set hr,h⟩
  have h1:=fg (P:=P) (w:=w) us.toList 0 off cs w hb (by simp;omega) hsing
  rw [if_neg hk0] at h1
  simp only [Nat.add_zero,hws] at h1
  simp [execOp,ha.eval hx,ha.eval hy,Instr.storeAt,Instr.sureAddr,storeVar,Value.cells,wi hag,hk,h1]
theorem WL.stW {t b k:Nat} {cs us:Array Value} {t0:TypeId} {L':List HP} (h:WL P B n ops l Q e L') (hag:c5 P t k=true) (hk0:Nat.ble 1 k=true:=by rfl) (hk:us.size=k:=by rfl) (hc:cs.size=k:=by rfl) (hsing:us.toList.all Value.single=true:=by rfl)
  (hx:evo e x=some (.pointer (some ⟨b,0,none⟩)):=by rfl) (hy:evo e y=some (.agg us):=by rfl)
  (hr:Repl L (pt b (.cells cs t0 (0,0))) (pt b (.cells us t0 (0,0))) L':=by repeat (first | exact .here | apply Repl.there)) :
  WL P B n ops (⟨none,.store t x y,ty,pos,af,none⟩ :: l) Q e L :=
 by
  have hk1:=Nat.le_of_ble_eq_true hk0
  have h0:us.toList≠[]:=by intro h0;have:=congrArg List.length h0;simp at this;subst this;simp at hk;omega
  have h2:cs.toList.take 0++us.toList++cs.toList.drop (0+us.toList.length)=us.toList:=by
   rw [List.drop_of_length_le (by simp;omega)];simp
  exact WL.stA (ws:=us.toList) h hag hk h0 (fun v hv=>List.all_eq_true.1 hsing v hv) (by omega) h2 hx hy (by simpa using hr)
def av (P:Program) (t:Nat) (parts:List (Nat×Value)) (cs:Array Value):Prop:=∀ w,(Instr.build t parts.toArray).run P w=.ok (.agg cs) w
def evps (e:Env):List (Nat×Operand)->Option (List (Nat×Value))
 | []=>some []
 | (i,x) :: xs=>match evo e x,evps e xs with
  | some v,some vs=>some ((i,v) :: vs)
  | _,_=>none
theorem rx {a:Act} (ha:Ag n e a):∀ {xs:List (Nat×Operand)} {vs:List (Nat×Value)},evps e xs=some vs->xs.map (fun p=>(p.1,a.eval p.2))=vs
 | [],vs,h=>by simp [evps] at h;subst h;rfl
 | (i,x) :: xs,vs,h=>by
  unfold evps at h
  split at h
  ·rename_i v vs' hv hvs
   cases h
   simp [ha.eval hv,rx ha hvs]
  ·cases h
theorem Qt.build {t:Nat} {ps:List (Nat×Operand)} {vs:List (Nat×Value)} {cs:Array Value} (hb:av P t vs cs) (hx:evps e ps=some vs:=by rfl) :
  Qt P B n e L ⟨some d,.build t ps.toArray,ty,pos,af,gd⟩ (.agg cs) :=
 fun a w ha hs=>by
  have h1:=rx ha hx
  have h2:ps.toArray.map (fun p=>(p.1,a.eval p.2))=vs.toArray:=by
   apply Array.toList_inj.1
   simpa using h1
  have:=hb w
  simp only [execOp]
  rw [show (ps.toArray.map fun (i,x)=>(i,a.eval x))=vs.toArray from h2,Sem.run_bind,this]
  rfl
theorem WL.build {t:Nat} {ps:List (Nat×Operand)} {vs:List (Nat×Value)} {cs:Array Value} (h:WL P B n ops l Q ((d,.agg cs) :: e) L) (hb:av P t vs cs) (hx:evps e ps=some vs:=by rfl) (hd:Nat.ble (d+1) n.k=true:=by rfl) :
  WL P B n ops (⟨some d,.build t ps.toArray,ty,pos,af,none⟩ :: l) Q e L :=
 WL.pure h hd (Qt.build (hb:=hb) (hx:=hx))
def bc (P:Program) (t k:Nat) (parts:List (Nat×Value)) (el:Nat) (cs:Array Value):Prop:=∀ w,(Instr.buildSlice t k parts.toArray).run P w=.ok (.slice (some ⟨w.heap.size,0,none⟩) k k) (w.alloc (.cells cs el))
theorem WL.buildS {t k el:Nat} {ps:List (Nat×Operand)} {vs:List (Nat×Value)} {cs:Array Value} (h:∀ b,WL P B n ops l Q ((d,.slice (some ⟨b,0,none⟩) k k) :: e) (pt b (.cells cs el (0,0)) :: L)) (hb:bc P t k vs el cs) (hx:evps e ps=some vs:=by rfl) (hd:Nat.ble (d+1) n.k=true:=by rfl) :
  WL P B n ops (⟨some d,.buildSlice t k ps.toArray,ty,pos,af,none⟩ :: l) Q e L :=
 WL.step rfl fun a w ha hs=>by
  have h1:=rx ha hx
  have h2:ps.toArray.map (fun p=>(p.1,a.eval p.2))=vs.toArray:=by
   apply Array.toList_inj.1
   simpa using h1
  refine ⟨_,w.alloc (.cells cs el),_,_,?_,ha.put hd _,hs.new _,h w.heap.size⟩
  have:=hb w
  simp only [execOp]
  rw [show (ps.toArray.map fun (i,x)=>(i,a.eval x))=vs.toArray from h2,Sem.run_bind,this]
  rfl
end
theorem Sat.imp {B:Base} {w:World} {L M:List HP} {A A':HP} (h:Sat B w (A :: M)) (hi:∀ k,A k->A' k):Sat B w (A' :: M):=by
 obtain ⟨p,q,s,hs,h⟩:=h
 match hs,h with
 | h0 :: hs,⟨ha,r⟩=>exact ⟨p,q,s,h0 :: hs,hi h0 ha,r⟩
theorem Sat.openE {B:Base} {w:World} {M:List HP} {A:HP} (h:Sat B w (A :: M)) {α:Type} {p:α->Prop} {A':α->HP} (hA:∀ k,A k->∃ x,p x/\A' x k):∃ x,p x/\Sat B w (A' x :: M):=by
 obtain ⟨a,b,c,hs,h⟩:=h
 match hs,h with
 | h0 :: hs,⟨ha,r⟩ =>
  obtain ⟨x,hp,hx⟩:=hA h0 ha
  exact ⟨x,hp,a,b,c,h0 :: hs,hx,r⟩
structure Opens (A:HP) {α:Type} (p:α->Prop) (Ls:α->List HP):Prop where
 to:∀ k,A k->∃ x,p x/\star (Ls x) k
 of:∀ x,p x->∀ k,star (Ls x) k->A k
theorem Sat.opens {B:Base} {w:World} {M:List HP} {A:HP} (h:Sat B w (A :: M)) {α:Type} {p:α->Prop} {Ls:α->List HP} (hA:Opens A p Ls):∃ x,p x/\Sat B w (Ls x++M):=by
 obtain ⟨x,hp,hs⟩:=h.openE hA.to
 exact ⟨x,hp,hs.unstar⟩
theorem Sat.shuts {B:Base} {w:World} {M:List HP} {A:HP} {α:Type} {p:α->Prop} {Ls:α->List HP} (hA:Opens A p Ls) {x:α} (hp:p x) (h:Sat B w (Ls x++M)):Sat B w (A :: M) :=
 h.star.imp (L:=[]) (hA.of x hp)
section
variable {P:Program} {B:Base} {n:Fr} {Q Q':Exit->Act->World->Prop} {e:Env} {L:List HP} {ops:Array Oper} {l:List Oper}
variable {d:Nat} {ty:TypeId} {pos:String} {af:Array Edge} {x y z:Operand} {gd:Option (Nat×Bool)}
theorem WL.openR {A:HP} {M:List HP} {α:Type} {p:α->Prop} {Ls:α->List HP} (hA:Opens A p Ls) (h:∀ x,p x->WL P B n ops l Q e (Ls x++M)) (r:Rem L A M:=by repeat (first | exact .here | apply Rem.there)):WL P B n ops l Q e L:=by
 intro a w ha hs
 obtain ⟨x,hp,hs⟩:=(hs.front r).opens hA
 exact h x hp a w ha hs
theorem WC.openR {A:HP} {M:List HP} {α:Type} {p:α->Prop} {Ls:α->List HP} {c:Code} (hA:Opens A p Ls) (h:∀ x,p x->WC P B n c Q e (Ls x++M)) (r:Rem L A M:=by repeat (first | exact .here | apply Rem.there)):WC P B n c Q e L:=by
 intro a w ha hs
 obtain ⟨x,hp,hs⟩:=(hs.front r).opens hA
 exact h x hp a w ha hs
theorem WL.shutR {A:HP} {M:List HP} {α:Type} {p:α->Prop} {Ls:α->List HP} (hA:Opens A p Ls) (x:α) (hp:p x) (h:WL P B n ops l Q e (A :: M)) (t:Tk L (Ls x) M:=by repeat (first | exact .nil | (apply Tk.cons;focus ((repeat (first | exact .here | apply Rem.there));done)))):WL P B n ops l Q e L :=
 fun a w ha hs=>h a w ha (Sat.shuts hA hp (hs.take t))
theorem WC.shutR {A:HP} {M:List HP} {α:Type} {p:α->Prop} {Ls:α->List HP} {c:Code} (hA:Opens A p Ls) (x:α) (hp:p x) (h:WC P B n c Q e (A :: M)) (t:Tk L (Ls x) M:=by repeat (first | exact .nil | (apply Tk.cons;focus ((repeat (first | exact .here | apply Rem.there));done)))):WC P B n c Q e L :=
 fun a w ha hs=>h a w ha (Sat.shuts hA hp (hs.take t))
theorem WQ.shutR {A:HP} {M:List HP} {α:Type} {p:α->Prop} {Ls:α->List HP} {xt:Exit} (hA:Opens A p Ls) (x:α) (hp:p x) (h:WQ B n Q xt e (A :: M)) (t:Tk L (Ls x) M:=by repeat (first | exact .nil | (apply Tk.cons;focus ((repeat (first | exact .here | apply Rem.there));done)))):WQ B n Q xt e L :=
 fun a w ha hs=>h a w ha (Sat.shuts hA hp (hs.take t))
theorem WL.to {A A':HP} {M:List HP} (hi:∀ k,A k->A' k) (h:WL P B n ops l Q e (A' :: M)) (r:Rem L A M:=by repeat (first | exact .here | apply Rem.there)):WL P B n ops l Q e L :=
 fun a w ha hs=>h a w ha ((hs.front r).imp (L:=[]) hi)
theorem WC.to {c:Code} {A A':HP} {M:List HP} (hi:∀ k,A k->A' k) (h:WC P B n c Q e (A' :: M)) (r:Rem L A M:=by repeat (first | exact .here | apply Rem.there)):WC P B n c Q e L :=
 fun a w ha hs=>h a w ha ((hs.front r).imp (L:=[]) hi)
theorem WQ.to {xt:Exit} {A A':HP} {M:List HP} (hi:∀ k,A k->A' k) (h:WQ B n Q xt e (A' :: M)) (r:Rem L A M:=by repeat (first | exact .here | apply Rem.there)):WQ B n Q xt e L :=
 fun a w ha hs=>h a w ha ((hs.front r).imp (L:=[]) hi)
theorem WL.toE {A:HP} {M:List HP} {α:Type} {p:α->Prop} {A':α->HP} (hi:∀ k,A k->∃ x,p x/\A' x k) (h:∀ x,p x->WL P B n ops l Q e (A' x :: M)) (r:Rem L A M:=by repeat (first | exact .here | apply Rem.there)):WL P B n ops l Q e L:=by
 intro a w ha hs
 obtain ⟨x,hp,hs⟩:=(hs.front r).openE hi
 exact h x hp a w ha hs
theorem WC.toE {c:Code} {A:HP} {M:List HP} {α:Type} {p:α->Prop} {A':α->HP} (hi:∀ k,A k->∃ x,p x/\A' x k) (h:∀ x,p x->WC P B n c Q e (A' x :: M)) (r:Rem L A M:=by repeat (first | exact .here | apply Rem.there)):WC P B n c Q e L:=by
 intro a w ha hs
 obtain ⟨x,hp,hs⟩:=(hs.front r).openE hi
 exact h x hp a w ha hs
def buf (g e k:Nat) (xs:List Value):HP:=fun h=>∃ cur:Array Value,h g=some (true,.cells cur e (0,0))/\cur.size=k/\cur.toList.take xs.length=xs/\xs.length<=k
def Reads (R:HP) (A:Option Addr) (xs:List Value):Prop :=
 match A with
 | none=>xs=[]
 | some ⟨g,off,sp⟩=>sp=none/\∀ h,R h->∃ fl cur e fr,h g=some (fl,.cells cur e fr)/\∀ i,i < xs.length->cur[off+i]?=xs[i]?
theorem nk {α:Type _} {l xs:List α} (h:l.take xs.length=xs) (i:Nat) (hi:i < xs.length):l[i]?=xs[i]?:=by
 have:(l.take xs.length)[i]?=xs[i]?:=by rw [h]
 rwa [List.getElem?_take,if_pos hi] at this
theorem Reads.buf {g e k:Nat} {xs:List Value}:Reads (buf g e k xs) (some ⟨g,0,none⟩) xs :=
 ⟨rfl,fun h ⟨cur,hg,hk,ht,hl⟩=>⟨true,cur,e,(0,0),hg,fun i hi=>by
  have:=nk ht i hi
  simpa using this⟩⟩
theorem Reads.pt {g e:Nat} {cs:Array Value} {fr:Nat×Nat}:Reads (pt g (.cells cs e fr)) (some ⟨g,0,none⟩) cs.toList:=by
 refine ⟨rfl,fun h hh=>?_⟩
 unfold Go.Proofs.YtmihjfcbofejoaaGreatDoor.pt at hh
 exact ⟨true,cs,e,fr,hh,fun i hi=>by simp⟩
theorem Reads.nil {R:HP}:Reads R none []:=rfl
theorem Reads.drop {R:HP} {g off:Nat} {xs:List Value} (h:Reads R (some ⟨g,off,none⟩) xs) (k:Nat):Reads R (some ⟨g,off+k,none⟩) (xs.drop k):=by
 refine ⟨rfl,fun hh hR=>?_⟩
 obtain ⟨fl,cur,e,fr,h1,h2⟩:=h.2 hh hR
 refine ⟨fl,cur,e,fr,h1,fun i hi=>?_⟩
 simp only [List.length_drop] at hi
 rw [Nat.add_assoc,h2 (k+i) (by omega),List.getElem?_drop]
theorem Reads.take {R:HP} {A:Option Addr} {xs:List Value} (h:Reads R A xs) (k:Nat):Reads R A (xs.take k):=by
 match A,h with
 | none,h=>have h':xs=[]:=h;subst h';simp [Reads]
 | some ⟨g,off,sp⟩,⟨h0,h1⟩ =>
  refine ⟨h0,fun hh hR=>?_⟩
  obtain ⟨fl,cur,e,fr,h1,h2⟩:=h1 hh hR
  refine ⟨fl,cur,e,fr,h1,fun i hi=>?_⟩
  simp only [List.length_take] at hi
  rw [h2 i (by omega),List.getElem?_take,if_pos (by omega)]
theorem Reads.cell {R:HP} {g off:Nat} {xs:List Value} (h:Reads R (some ⟨g,off,none⟩) xs) {w:World} (hs:Sat B w L) (m:Mem L R) {i:Nat} (hi:i < xs.length):w.cell? ⟨g,off+i,none⟩=xs[i]?:=by
 obtain ⟨M,r⟩:=m.rem
 obtain ⟨_,_,_,hs,hh⟩:=hs.front r
 match hs,hh with
 | h0 :: hs,⟨hR,hle,_⟩ =>
  obtain ⟨fl,cur,e,fr,h1,h2⟩:=h.2 h0 hR
  rw [ms (hle g _ h1),h2 i hi]
theorem c6 {g e:Nat} {cs:Array Value} {xs:List Value} (hx:cs.toList=xs):∀ k,pt g (.cells cs e (0,0)) k->buf g e xs.length xs k:=by
 intro k hk
 unfold pt at hk
 subst hx
 exact ⟨cs,hk,by simp,List.take_of_length_le (Nat.le_refl _),Nat.le_refl _⟩
theorem k7 {g e k:Nat} {xs:List Value}:∀ h,buf g e k xs h->∃ cs:Array Value,(cs.size=k/\cs.toList.take xs.length=xs/\xs.length<=k)/\pt g (.cells cs e (0,0)) h:=by
 rintro h ⟨cur,h1,h2,h3,h4⟩
 exact ⟨cur,⟨h2,h3,h4⟩,by unfold pt;exact h1⟩
attribute [irreducible] buf
def ar (P:Program) (t el size bytes:Nat):Bool :=
 match P.underlying t with
 | some (.slice e)=>Nat.beq e el && (match P.info? el with
  | some i=>Nat.beq i.size size && Nat.beq i.bytes bytes && i.zero.isSome
  | none=>false)
 | _=>false
theorem eh {t el size bytes:Nat} (h:ar P t el size bytes=true):P.underlying t=some (.slice el)/\∃ i z,P.info? el=some i/\i.size=size/\i.bytes=bytes/\i.zero=some z:=by
 unfold ar at h
 split at h
 ·rename_i e' hu
  simp only [Bool.and_eq_true] at h
  obtain ⟨h1,h2⟩:=h
  have h1:=Nat.eq_of_beq_eq_true h1
  subst h1
  split at h2
  ·rename_i i hi
   simp only [Bool.and_eq_true] at h2
   obtain ⟨⟨h2,h3⟩,h4⟩:=h2
   obtain ⟨z,hz⟩:=Option.isSome_iff_exists.1 h4
   exact ⟨hu,i,z,hi,Nat.eq_of_beq_eq_true h2,Nat.eq_of_beq_eq_true h3,hz⟩
  ·cases h2
 ·cases h
theorem wj {t el:Nat} (h:P.underlying t=some (.slice el)):P.elem t=el:=by simp [Program.elem,h]
theorem Qt.lenS {t el k c:Nat} {A:Option Addr} (ht:P.underlying t=some (.slice el)) (hx:evo e x=some (.slice A k c):=by rfl) :
  Qt P B n e L ⟨some d,.call ⟨.builtin .len,#[x],#[t]⟩,ty,pos,af,gd⟩ (.int .i64 (k:Int)) :=
 fun a w ha hs=>by
  simp [execOp,resolve,invoke,builtin,ha.eval hx,Builtin.len_,run_underlying ht,goInt]
theorem WL.lenS {t el k c:Nat} {A:Option Addr} (h:WL P B n ops l Q ((d,.int .i64 (k:Int)) :: e) L) (ht:P.underlying t=some (.slice el)) (hx:evo e x=some (.slice A k c):=by rfl) (hd:Nat.ble (d+1) n.k=true:=by rfl) :
  WL P B n ops (⟨some d,.call ⟨.builtin .len,#[x],#[t]⟩,ty,pos,af,none⟩ :: l) Q e L :=
 WL.pure h hd (Qt.lenS (ht:=ht) (hx:=hx))
theorem oz {op:BinOp} {t:TypeId} {x y:Operand} {A A':Option Addr} {k c k' c':Nat} (w:World):(eqGuard op t x y (.slice A k c) (.slice A' k' c')).run P w=.ok () w:=by
 cases op<;>simp [eqGuard]
theorem Al {t el k c:Nat} {A:Option Addr} (ht:P.underlying t=some (.slice el)) (w:World):(binOp .eql t (.slice A k c) (.slice none 0 0)).run P w=.ok (.bool A.isNone) w:=by
 have key:∀ d,(Op.equalIn (d+1) t (.slice A k c) (.slice none 0 0)).run P w=.ok A.isNone w:=by
  intro d
  cases A<;>simp [Op.equalIn,run_underlying ht]
 have:(Op.equal t (.slice A k c) (.slice none 0 0)).run P w=.ok A.isNone w:=key 9999
 simp only [binOp]
 simp [this]
theorem WL.eqSl {t u el k c:Nat} {A:Option Addr} (h:WL P B n ops l Q ((d,.bool A.isNone) :: e) L) (ht:P.underlying t=some (.slice el)) (hx:evo e x=some (.slice A k c):=by rfl) (hy:evo e y=some (.slice none 0 0):=by rfl) (hd:Nat.ble (d+1) n.k=true:=by rfl) :
  WL P B n ops (⟨some d,.binOp .eql t x y u,ty,pos,af,none⟩ :: l) Q e L :=
 WL.bin h (fun w=>by simp only [Sem.run_bind,oz,Result.andThen_ok,Al ht]) hx hy hd
theorem WL.mkS {t el bytes:Nat} {k:Int} {zv:Value} (hz:ba P el=some #[zv]) (h:∀ b,WL P B n ops l Q ((d,.slice (some ⟨b,0,none⟩) k.toNat k.toNat) :: e) (buf b el k.toNat (List.replicate k.toNat zv) :: L))
  (ht:ar P t el 1 bytes=true) (hk:0<=k) (hb:(bytes:Int) * k<=281474976710656) (hm:k<=9223372036854775807) (hx:evo e x=some (.int .i64 k):=by rfl) (hy:evo e y=some (.int .i64 k):=by rfl) (hd:Nat.ble (d+1) n.k=true:=by rfl) :
  WL P B n ops (⟨some d,.makeSlice t x y,ty,pos,af,none⟩ :: l) Q e L :=
 WL.step rfl fun a w ha hs=>by
  obtain ⟨hu,i,z,hi,hsz,hby,hzz⟩:=eh ht
  have hzc:z.cells=#[zv]:=by
   unfold ba at hz
   simpa [hi,hzz] using hz
  have hr:=run_make (P:=P) w t el i z hu hi hzz .i64 .i64 k k hk (Int.le_refl _) (by rw [hby];exact hb) hm
  rw [hsz,hzc,Nat.mul_one] at hr
  have hcells:(madeCells #[zv] k.toNat).toList=List.replicate k.toNat zv:=by
   apply List.ext_getElem
   ·simp [madeCells]
   ·intro i h1 h2
    simp [madeCells,Nat.mod_one]
  have hb:=c6 (g:=w.heap.size) (e:=el) hcells
  rw [List.length_replicate] at hb
  refine ⟨_,_,_,_,?_,ha.put hd _,(hs.new _).imp (L:=[]) hb,h w.heap.size⟩
  simp only [execOp,ha.eval hx,ha.eval hy]
  rw [Sem.run_bind,hr]
  rfl
theorem Qt.idx {t el size bytes b off k c:Nat} {p:Int} {kk:IntKind} (ht:ar P t el size bytes=true)
  (hx:evo e x=some (.slice (some ⟨b,off,none⟩) k c):=by rfl) (hy:evo e y=some (.int kk p):=by rfl) (hp:0<=p/\p < k:=by omega) :
  Qt P B n e L ⟨some d,.indexAddr t x y,ty,pos,af,gd⟩ (.pointer (some ⟨b,off+p.toNat * size,none⟩)) :=
 fun a w ha hs=>by
  obtain ⟨hu,i,z,hi,hsz,hby,hzz⟩:=eh ht
  simp [execOp,ha.eval hx,ha.eval hy,Instr.indexAt,asIntOf,run_underlying hu,hp,sizeOf,typeInfo,hi,hsz,bq]
theorem WL.idx {t el size bytes b off k c:Nat} {p:Int} {kk:IntKind} (h:WL P B n ops l Q ((d,.pointer (some ⟨b,off+p.toNat * size,none⟩)) :: e) L) (ht:ar P t el size bytes=true)
  (hx:evo e x=some (.slice (some ⟨b,off,none⟩) k c):=by rfl) (hy:evo e y=some (.int kk p):=by rfl) (hp:0<=p/\p < k:=by omega) (hd:Nat.ble (d+1) n.k=true:=by rfl) :
  WL P B n ops (⟨some d,.indexAddr t x y,ty,pos,af,none⟩ :: l) Q e L :=
 WL.pure h hd (Qt.idx (ht:=ht) (hp:=hp) (hx:=hx) (hy:=hy))
theorem Qt.idx1 {t el bytes b off k c:Nat} {p:Int} {kk:IntKind} (ht:ar P t el 1 bytes=true)
  (hx:evo e x=some (.slice (some ⟨b,off,none⟩) k c):=by rfl) (hy:evo e y=some (.int kk p):=by rfl) (hp:0<=p/\p < k:=by omega) :
  Qt P B n e L ⟨some d,.indexAddr t x y,ty,pos,af,gd⟩ (.pointer (some ⟨b,off+p.toNat,none⟩)):=by
 have:=Qt.idx (P:=P) (B:=B) (n:=n) (L:=L) (d:=d) (ty:=ty) (pos:=pos) (af:=af) (gd:=gd) ht hx hy hp
 simpa using this
theorem WL.idx1 {t el bytes b off k c:Nat} {p:Int} {kk:IntKind} (h:WL P B n ops l Q ((d,.pointer (some ⟨b,off+p.toNat,none⟩)) :: e) L) (ht:ar P t el 1 bytes=true)
  (hx:evo e x=some (.slice (some ⟨b,off,none⟩) k c):=by rfl) (hy:evo e y=some (.int kk p):=by rfl) (hp:0<=p/\p < k:=by omega) (hd:Nat.ble (d+1) n.k=true:=by rfl) :
  WL P B n ops (⟨some d,.indexAddr t x y,ty,pos,af,none⟩ :: l) Q e L :=
 WL.idx (by simpa using h) ht hx hy hp hd
theorem Qt.ldR {t b off i:Nat} {R:HP} {xs:List Value} {v:Value} (hsc:ai P t=true) (hR:Reads R (some ⟨b,off,none⟩) xs) (hv:xs[i]?=some v)
  (hx:evo e x=some (.pointer (some ⟨b,off+i,none⟩)):=by rfl) (hm:Mem L R:=by repeat (first | exact .here | refine .there ?_)) :
  Qt P B n e L ⟨some d,.load t x,ty,pos,af,gd⟩ (v) :=
 fun a w ha hs=>by
  have hi:i < xs.length:=(List.getElem?_eq_some_iff.1 hv).1
  have:=hR.cell hs hm hi
  simp [execOp,ha.eval hx,Ce hsc (this.trans hv)]
theorem WL.ldR {t b off i:Nat} {R:HP} {xs:List Value} {v:Value} (h:WL P B n ops l Q ((d,v) :: e) L) (hsc:ai P t=true) (hR:Reads R (some ⟨b,off,none⟩) xs) (hv:xs[i]?=some v)
  (hx:evo e x=some (.pointer (some ⟨b,off+i,none⟩)):=by rfl) (hm:Mem L R:=by repeat (first | exact .here | refine .there ?_)) (hd:Nat.ble (d+1) n.k=true:=by rfl) :
  WL P B n ops (⟨some d,.load t x,ty,pos,af,none⟩ :: l) Q e L :=
 WL.pure h hd (Qt.ldR (hsc:=hsc) (hR:=hR) (hv:=hv) (hx:=hx) (hm:=hm))
theorem Sat.bufSet {w:World} {M:List HP} {g el k:Nat} {xs:List Value} (hs:Sat B w (buf g el k xs :: M)) {i:Nat} {v:Value} (hi:i < xs.length) (hv:Value.single v=true) :
  ∃ w',(store ⟨g,i,none⟩ v).run P w=.ok () w'/\Sat B w' (buf g el k (xs.set i v) :: M):=by
 obtain ⟨cur,⟨h1,h2,h3⟩,hs⟩:=hs.openE k7
 have hb:=hs.get .here
 refine ⟨_,oy hb (by omega) hv,?_⟩
 refine (hs.set (.here (y:=pt g (.cells (cur.setIfInBounds i v) el (0,0))))).imp (L:=[]) fun h hh=>?_
 unfold pt at hh
 unfold buf
 refine ⟨_,hh,by simp [h1],?_,by simpa using h3⟩
 rw [List.length_set,Array.toList_setIfInBounds,List.take_set,h2]
theorem WL.stB {t b k el i:Nat} {xs:List Value} {v:Value} {M:List HP} (h:WL P B n ops l Q e (buf b el k (xs.set i v) :: M)) (hsc:ai P t=true) (hi:i < xs.length)
  (hx:evo e x=some (.pointer (some ⟨b,i,none⟩)):=by rfl) (hy:evo e y=some v:=by rfl) (r:Rem L (buf b el k xs) M:=by repeat (first | exact .here | apply Rem.there)) (hv:Value.single v=true:=by rfl) :
  WL P B n ops (⟨none,.store t x y,ty,pos,af,none⟩ :: l) Q e L :=
 WL.skipStep rfl fun a w ha hs=>by
  obtain ⟨w',h1,h2⟩:=(hs.front r).bufSet (P:=P) hi hv
  refine ⟨w',e,_,?_,ha.put_none _,h2,h⟩
  simp [execOp,ha.eval hx,ha.eval hy,Instr.storeAt,Instr.sureAddr,storeVar,qa hv,ru hsc,storeCells,bq,h1]
theorem Qt.slcLH {t el size bytes b off k c:Nat} {p q:Int} {kp kq:IntKind}
  (ht:ar P t el size bytes=true)
  (hx:evo e x=some (.slice (some ⟨b,off,none⟩) k c):=by rfl) (hy:evo e y=some (.int kp p):=by rfl) (hz:evo e z=some (.int kq q):=by rfl) (hp:0<=p/\p<=q/\q<=c:=by omega) :
  Qt P B n e L ⟨some d,.slice t x (some y) (some z) none,ty,pos,af,gd⟩ (.slice (if c=p.toNat then some ⟨b,off,none⟩ else some ⟨b,off+p.toNat * size,none⟩) (q.toNat - p.toNat) (c - p.toNat)) :=
 fun a w ha hs=>by
  obtain ⟨hu,i,zz,hi,hsz,hby,hzz⟩:=eh ht
  have hel:=wj hu
  have hu':P.underlying t=some (.slice (P.elem t)):=by rw [hel];exact hu
  simp only [execOp,ha.eval hx,Option.map_some,ha.eval hy,ha.eval hz,Option.map_none]
  rw [Sem.run_bind,run_sliceAt_slice w t _ _ _ _ hu',run_slice_lh w t _ k c hu' kp kq p q hp.1 hp.2.1 hp.2.2,hel]
  simp [sizeOf,typeInfo,hi,hsz,sliced,bq]
theorem WL.slcLH {t el size bytes b off k c:Nat} {p q:Int} {kp kq:IntKind} (h:WL P B n ops l Q ((d,.slice (if c=p.toNat then some ⟨b,off,none⟩ else some ⟨b,off+p.toNat * size,none⟩) (q.toNat - p.toNat) (c - p.toNat)) :: e) L)
  (ht:ar P t el size bytes=true)
  (hx:evo e x=some (.slice (some ⟨b,off,none⟩) k c):=by rfl) (hy:evo e y=some (.int kp p):=by rfl) (hz:evo e z=some (.int kq q):=by rfl) (hp:0<=p/\p<=q/\q<=c:=by omega) (hd:Nat.ble (d+1) n.k=true:=by rfl) :
  WL P B n ops (⟨some d,.slice t x (some y) (some z) none,ty,pos,af,none⟩ :: l) Q e L :=
 WL.pure h hd (Qt.slcLH (ht:=ht) (hp:=hp) (hx:=hx) (hy:=hy) (hz:=hz))
theorem Qt.slcL {t el size bytes b off k c:Nat} {p:Int} {kp:IntKind}
  (ht:ar P t el size bytes=true)
  (hx:evo e x=some (.slice (some ⟨b,off,none⟩) k c):=by rfl) (hy:evo e y=some (.int kp p):=by rfl) (hp:0<=p/\p<=k:=by omega) :
  Qt P B n e L ⟨some d,.slice t x (some y) none none,ty,pos,af,gd⟩ (.slice (if c=p.toNat then some ⟨b,off,none⟩ else some ⟨b,off+p.toNat * size,none⟩) (k - p.toNat) (c - p.toNat)) :=
 fun a w ha hs=>by
  obtain ⟨hu,i,zz,hi,hsz,hby,hzz⟩:=eh ht
  have hel:=wj hu
  have hu':P.underlying t=some (.slice (P.elem t)):=by rw [hel];exact hu
  simp only [execOp,ha.eval hx,Option.map_some,ha.eval hy,Option.map_none]
  rw [Sem.run_bind,run_sliceAt_slice w t _ _ _ _ hu',run_slice_l w t _ k c hu' kp p hp.1 hp.2,hel]
  simp [sizeOf,typeInfo,hi,hsz,sliced,bq]
theorem WL.slcL {t el size bytes b off k c:Nat} {p:Int} {kp:IntKind} (h:WL P B n ops l Q ((d,.slice (if c=p.toNat then some ⟨b,off,none⟩ else some ⟨b,off+p.toNat * size,none⟩) (k - p.toNat) (c - p.toNat)) :: e) L)
  (ht:ar P t el size bytes=true)
  (hx:evo e x=some (.slice (some ⟨b,off,none⟩) k c):=by rfl) (hy:evo e y=some (.int kp p):=by rfl) (hp:0<=p/\p<=k:=by omega) (hd:Nat.ble (d+1) n.k=true:=by rfl) :
  WL P B n ops (⟨some d,.slice t x (some y) none none,ty,pos,af,none⟩ :: l) Q e L :=
 WL.pure h hd (Qt.slcL (ht:=ht) (hp:=hp) (hx:=hx) (hy:=hy))
theorem Qt.slcH {t el size bytes b off k c:Nat} {q:Int} {kq:IntKind}
  (ht:ar P t el size bytes=true)
  (hx:evo e x=some (.slice (some ⟨b,off,none⟩) k c):=by rfl) (hz:evo e z=some (.int kq q):=by rfl) (hp:0<=q/\q<=c:=by omega) :
  Qt P B n e L ⟨some d,.slice t x none (some z) none,ty,pos,af,gd⟩ (.slice (some ⟨b,off,none⟩) q.toNat c) :=
 fun a w ha hs=>by
  obtain ⟨hu,i,zz,hi,hsz,hby,hzz⟩:=eh ht
  have hel:=wj hu
  have hu':P.underlying t=some (.slice (P.elem t)):=by rw [hel];exact hu
  simp only [execOp,ha.eval hx,Option.map_some,ha.eval hz,Option.map_none]
  rw [Sem.run_bind,run_sliceAt_slice w t _ _ _ _ hu',run_slice_h w t _ k c hu' kq q hp.1 hp.2,hel]
  simp [sizeOf,typeInfo,hi,hsz,sliced,bq]
theorem WL.slcH {t el size bytes b off k c:Nat} {q:Int} {kq:IntKind} (h:WL P B n ops l Q ((d,.slice (some ⟨b,off,none⟩) q.toNat c) :: e) L)
  (ht:ar P t el size bytes=true)
  (hx:evo e x=some (.slice (some ⟨b,off,none⟩) k c):=by rfl) (hz:evo e z=some (.int kq q):=by rfl) (hp:0<=q/\q<=c:=by omega) (hd:Nat.ble (d+1) n.k=true:=by rfl) :
  WL P B n ops (⟨some d,.slice t x none (some z) none,ty,pos,af,none⟩ :: l) Q e L :=
 WL.pure h hd (Qt.slcH (ht:=ht) (hp:=hp) (hx:=hx) (hz:=hz))
theorem Qt.slcArr {t el k b:Nat} (ht:P.underlying t=some (.array k el)) (hi:(P.info? el).isSome=true)
  (hx:evo e x=some (.pointer (some ⟨b,0,none⟩)):=by rfl) :
  Qt P B n e L ⟨some d,.slice t x none none none,ty,pos,af,gd⟩ (.slice (some ⟨b,0,none⟩) k k) :=
 fun a w ha hs=>by
  obtain ⟨i,hi⟩:=Option.isSome_iff_exists.1 hi
  simp [execOp,ha.eval hx,Instr.sliceAt,run_underlying ht,Instr.sureAddr,Instr.sliceBounds,sizeOf,typeInfo,hi,bq]
theorem WL.slcArr {t el k b:Nat} (h:WL P B n ops l Q ((d,.slice (some ⟨b,0,none⟩) k k) :: e) L) (ht:P.underlying t=some (.array k el)) (hi:(P.info? el).isSome=true)
  (hx:evo e x=some (.pointer (some ⟨b,0,none⟩)):=by rfl) (hd:Nat.ble (d+1) n.k=true:=by rfl) :
  WL P B n ops (⟨some d,.slice t x none none none,ty,pos,af,none⟩ :: l) Q e L :=
 WL.pure h hd (Qt.slcArr (ht:=ht) (hi:=hi) (hx:=hx))
def rowR (e size:Nat) (v:Value) (k:Nat) (xs:List Value):HP:=fun h=>xs.length=k * size/\((v=.slice none 0 0/\k=0) ∨
 ∃ g cap cur,v=.slice (some ⟨g,0,none⟩) k cap/\h g=some (true,.cells cur e (0,0))/\k<=cap/\cap<=maxLen/\cur.size=cap * size/\cur.toList.take (k * size)=xs)
theorem rowR.nil {e size:Nat} (h:PH):rowR e size (.slice none 0 0) 0 [] h:=⟨by simp,.inl ⟨rfl,rfl⟩⟩
theorem di {g el cap:Nat} {xs:List Value} (hc:cap<=maxLen):∀ h,buf g el cap xs h->rowR el 1 (.slice (some ⟨g,0,none⟩) xs.length cap) xs.length xs h:=by
 intro h hh
 unfold buf at hh
 obtain ⟨cur,h1,h2,h3,h4⟩:=hh
 exact ⟨by simp,.inr ⟨g,cap,cur,rfl,h1,h4,hc,by simp [h2],by simpa using h3⟩⟩
theorem Sat.ownsRow {w:World} {M:List HP} {el size:Nat} {v:Value} {k:Nat} {xs:List Value} (hs:Sat B w (rowR el size v k xs :: M)):w.ownsRow 0 el size v k xs:=by
 obtain ⟨_,_,_,hs,h⟩:=hs
 match hs,h with
 | h0 :: hs,⟨⟨h1,h2⟩,hle,_⟩ =>
  refine ⟨h1,?_⟩
  rcases h2 with h2 | ⟨g,cap,cur,h2,h3,h4⟩
  ·exact .inl h2
  ·exact .inr ⟨g,cap,cur,h2,Nat.zero_le _,hle g _ h3,h4⟩
theorem Sat.rowGrown {w w':World} {M:List HP} {el size:Nat} {v v':Value} {k k':Nat} {xs xs':List Value} (hs:Sat B w (rowR el size v k xs :: M)) (ho:w'.ownsRow 0 el size v' k' xs')
  (hg:w.grownBy w' v.ownBlock) (hat:v'.ownBlock=v.ownBlock ∨ v'.ownBlock=some w.heap.size):Sat B w' (rowR el size v' k' xs' :: M):=by
 obtain ⟨p,q,s,hs,h⟩:=hs
 match hs,h with
 | h0 :: hs,⟨⟨h1,h2⟩,hle,hd,hr⟩ =>
  -- the other parts do not hold the old row's block
  have hfar:∀ k∈hs,∀ b x,k b=some x->v.ownBlock≠some b:=by
   intro kk hh b x hb hv
   rcases h2 with ⟨rfl,_⟩ | ⟨g,cap,cur,rfl,h3,_⟩
   ·simp [Value.ownBlock] at hv
   ·have:g=b:=by simpa [Value.ownBlock] using hv
    subst this
    have:=hd kk hh g _ x h3 hb
    simp at this
  have hlt:∀ h∈hs,∀ b x,h b=some x->b < w.heap.size:=fun h hh b x hb=>(Array.getElem?_eq_some_iff.1 (hr.les h hh b x hb)).1
  refine ⟨hg.os.trans p,hg.tape.trans q,hg.output.trans s,?_⟩
  have hmoved:SatL w' M hs:=hr.moved fun h hh b x hb=>hg.block b (hlt h hh b x hb) (fun e=>hfar h hh b x hb e.symm)
  rcases ho.2 with ⟨hv,hk⟩ | ⟨g,cap,cur,hv,_,h3,h4⟩
  ·exact ⟨(fun _=>none) :: hs,⟨ho.1,.inl ⟨hv,hk⟩⟩,fun b x h=>(by cases h),fun _ _ b x y h=>(by cases h),hmoved⟩
  ·refine ⟨one g (true,.cells cur el (0,0)) :: hs,⟨ho.1,.inr ⟨g,cap,cur,hv,yj _ _,h4⟩⟩,?_,?_,hmoved⟩
   ·intro b x hb
    obtain ⟨rfl,rfl⟩:=md hb
    exact h3
   ·intro h hh b x y hb hy
    obtain ⟨rfl,rfl⟩:=md hb
    have hgb:v'.ownBlock=some b:=by rw [hv];rfl
    rcases hat with hat | hat
    ·exact absurd (hat.symm.trans hgb) (hfar h hh b y hy)
    ·rw [hgb] at hat
     injection hat with hat
     have:=hlt h hh b y hy
     omega
theorem WL.append {t el size bytes b off m c:Nat} {v:Value} {k:Nat} {xs news:List Value} {R:HP} {M:List HP} (ht:ar P t el size bytes=true) (hsz:0 < size)
  (r:Rem L (rowR el size v k xs) M) (hR:Reads R (some ⟨b,off,none⟩) news) (hm:Mem M R) (hl:news.length=m * size) (hone:∀ u∈news,Value.single u=true) (h63:k+m<=maxLen) (hbytes:(k+m) * bytes<=140737488355328)
  (hzc:∃ zz,ba P el=some zz/\zz.size=size)
  (h:∀ v',(v'=.slice none 0 0 ↔ v=.slice none 0 0/\m=0)->WL P B n ops l Q ((d,v') :: e) (rowR el size v' (k+m) (xs++news) :: M)) (hx:evo e x=some v:=by rfl) (hy:evo e y=some (.slice (some ⟨b,off,none⟩) m c):=by rfl) (hd:Nat.ble (d+1) n.k=true:=by rfl) :
  WL P B n ops (⟨some d,.call ⟨.builtin .append,#[x,y],#[t,t]⟩,ty,pos,af,none⟩ :: l) Q e L :=
 WL.step rfl fun a w ha hs=>by
  obtain ⟨hu,i,z,hi,hsz',hby,hz⟩:=eh ht
  obtain ⟨zz,hzz,hzs⟩:=hzc
  have hzs':z.cells.size=size:=by
   unfold ba at hzz
   simp [hi,hz] at hzz
   rw [hzz];exact hzs
  have hs1:=hs.front r
  have hcell:∀ j u,news[j]?=some u->w.cell? ((⟨b,off,none⟩:Addr).add j)=some u:=by
   intro j u hj
   rw [bq]
   have hjl:=(List.getElem?_eq_some_iff.1 hj).1
   have hs2:=hs1.tail
   exact (hR.cell hs2 hm hjl).trans hj
  have hone':∀ u∈news,u.oneCell'=true:=by
   intro u hu
   have:=hone u hu
   cases u<;>first | rfl | (simp [Value.single] at this;done)
  obtain ⟨v',w',hr,h2,h3,h4,h5⟩:=run_append_own_at (P:=P) w 0 t ty el i z size bytes hu hi hz hsz' hby hzs' hsz v k xs hs1.ownsRow ⟨b,off,none⟩ m c news hl hcell hone' h63 hbytes (Nat.zero_le _)
  refine ⟨v',w',_,_,?_,ha.put hd _,hs1.rowGrown h2 h3 h5,h v' h4⟩
  simp [execOp,resolve,invoke,builtin,ha.eval hx,ha.eval hy,hr]
end
theorem br {el k:Nat} {v:Value} {xs:List Value} (hv:v≠.slice none 0 0):∀ h,rowR el 1 v k xs h->∃ x:Nat×Nat,(v=.slice (some ⟨x.1,0,none⟩) k x.2/\k<=x.2/\x.2<=maxLen/\xs.length=k)/\buf x.1 el x.2 xs h:=by
 rintro h ⟨h1,h2⟩
 rcases h2 with ⟨rfl,_⟩ | ⟨g,cap,cur,hv',h3,h4,h5,h6,h7⟩
 ·exact absurd rfl hv
 ·refine ⟨(g,cap),⟨hv',h4,h5,by simpa using h1⟩,?_⟩
  unfold buf
  exact ⟨cur,h3,by simpa using h6,by rw [h1];exact h7,by rw [h1];simpa using h4⟩
attribute [irreducible] rowR
section
variable {κ α:Type} [DecidableEq κ]
def kget :List (κ×α)->κ->Option α
 | [],_=>none
 | (k',v) :: l,k=>if k=k' then some v else kget l k
def kput :List (κ×α)->κ->α->List (κ×α)
 | [],k,v=>[(k,v)]
 | (k',v') :: l,k,v=>if k=k' then (k',v) :: l else (k',v') :: kput l k v
theorem cj (l:List (κ×α)) (k k':κ) (v:α):kget (kput l k v) k'=if k'=k then some v else kget l k':=by
 induction l with
 | nil=>simp [kput,kget]
 | cons p l ih =>
  obtain ⟨a,b⟩:=p
  simp only [kput]
  by_cases h:k=a
  ·subst h
   simp only [if_true,kget]
   by_cases h2:k'=k<;>simp [h2]
  ·simp only [if_neg h,kget,ih]
   by_cases h2:k'=a
   ·subst h2
    rw [if_pos rfl,if_pos rfl,if_neg (fun h'=>h h'.symm)]
   ·simp [h2]
theorem yo (l:List (κ×α)) (k:κ) (v:α):(kput l k v).map (·.1)=if k∈l.map (·.1) then l.map (·.1) else l.map (·.1)++[k]:=by
 induction l with
 | nil=>simp [kput]
 | cons p l ih =>
  obtain ⟨a,b⟩:=p
  simp only [kput]
  by_cases h:k=a
  ·simp [h]
  ·simp only [if_neg h,List.map_cons,List.mem_cons,false_or,ih]
   by_cases hk:k∈l.map (·.1)
   ·rw [if_pos hk,if_pos (.inr hk)]
   ·rw [if_neg hk,if_neg (fun h'=>h'.elim h hk)]
    rfl
theorem o0 {l:List (κ×α)} (h:(l.map (·.1)).Nodup) (k:κ) (v:α):((kput l k v).map (·.1)).Nodup:=by
 rw [yo]
 split
 ·exact h
 ·rename_i hk
  rw [List.nodup_append]
  exact ⟨h,by simp,fun a ha b hb=>by simp at hb;subst hb;intro e;subst e;exact hk ha⟩
theorem kget_none {l:List (κ×α)} {k:κ}:kget l k=none ↔ k ∉ l.map (·.1):=by
 induction l with
 | nil=>simp [kget]
 | cons p l ih =>
  obtain ⟨a,b⟩:=p
  simp only [kget,List.map_cons,List.mem_cons,not_or]
  by_cases h:k=a
  ·simp [h]
  ·simp [h,ih]
theorem fh {l:List (κ×α)} (h:(l.map (·.1)).Nodup) {k:κ} {v:α}:kget l k=some v ↔ (k,v)∈l:=by
 induction l with
 | nil=>simp [kget]
 | cons p l ih =>
  obtain ⟨a,b⟩:=p
  simp only [List.map_cons,List.nodup_cons] at h
  simp only [kget,List.mem_cons,Prod.mk.injEq]
  by_cases hk:k=a
  ·subst hk
   simp only [if_true,Option.some.injEq,true_and]
   constructor
   ·intro e;exact .inl e.symm
   ·rintro (e | e)
    ·exact e.symm
    ·exact absurd (List.mem_map_of_mem (f:=Prod.fst) e) h.1
  ·simp only [hk,if_false,false_and,false_or]
   exact ih h.2
theorem mw (l:List (κ×α)) (k:κ) (v:α):(kput l k v).length=if (kget l k).isSome then l.length else l.length+1:=by
 induction l with
 | nil=>simp [kput,kget]
 | cons p l ih =>
  obtain ⟨a,b⟩:=p
  simp only [kput,kget]
  by_cases h:k=a
  ·simp [h]
  ·simp only [h,if_false,List.length_cons,ih]
   split<;>simp
end
section
variable {κ:Type} [DecidableEq κ]
def bz (k:κ):List κ->List MapEntry->Nat->Option (Nat×Value)
 | k' :: ks,e :: es,i=>if k=k' then some (i,e.val) else bz k ks es (i+1)
 | _,_,_=>none
structure KeyLaw (P:Program) (kt:TypeId) (enc:κ->Value):Prop where
 check:∀ emp k w,(Instr.checkKey emp 10000 kt (enc k)).run P w=.ok () w
 find:∀ k (ks:List κ) (es:List MapEntry) w,es.map (·.key)=ks.map enc->(Instr.findKey kt (enc k) es).run P w=.ok (bz k ks es 0) w
 stays:∀ k,Instr.sameBits 10000 (enc k) (enc k)=true
structure MapIs (enc:κ->Value) (es:Array MapEntry) (clock:Nat) (kvs:List (κ×Value)):Prop where
 keys:es.toList.map (·.key)=kvs.map fun p=>enc p.1
 vals:es.toList.map (·.val)=kvs.map (·.2)
 born:(es.toList.map (·.born)).Pairwise (· < ·)
 lt:∀ x∈es.toList,x.born < clock
 nodup:(kvs.map (·.1)).Nodup
theorem MapIs.empty (enc:κ->Value) (c:Nat):MapIs enc #[] c []:=⟨rfl,rfl,by simp,by simp,by simp⟩
theorem MapIs.length {enc:κ->Value} {es:Array MapEntry} {c:Nat} {kvs:List (κ×Value)} (h:MapIs enc es c kvs):es.size=kvs.length:=by
 have:=congrArg List.length h.keys
 simpa using this
theorem jo (k:κ):∀ (ks:List κ) (es:List MapEntry) (kvs:List (κ×Value)) (i:Nat),ks=kvs.map (·.1)->es.map (·.val)=kvs.map (·.2) ->
  (bz k ks es i=none/\kget kvs k=none) ∨ ∃ j v,bz k ks es i=some (i+j,v)/\kget kvs k=some v/\j < es.length/\ks[j]?=some k/\∀ v',kput kvs k v'=kvs.set j (k,v')
 | _,es,[],i,h1,h2=>by
  subst h1
  exact .inl ⟨by simp [bz],rfl⟩
 | _,[],(a,b) :: kvs,i,h1,h2=>by simp at h2
 | ks,e :: es,(a,b) :: kvs,i,h1,h2=>by
  simp only [List.map_cons,List.cons.injEq] at h1 h2
  subst h1
  simp only [bz,kget,kput,List.map_cons]
  by_cases h:k=a
  ·subst h
   simp only [if_true]
   exact .inr ⟨0,e.val,rfl,by rw [h2.1],by simp,by simp,fun v'=>rfl⟩
  ·simp only [h,if_false]
   rcases jo k _ es kvs (i+1) rfl h2.2 with ⟨q1,q2⟩ | ⟨j,v,q1,q2,q3,q4,q5⟩
   ·exact .inl ⟨q1,q2⟩
   ·exact .inr ⟨j+1,v,by rw [q1];congr 2;omega,q2,by simp;omega,by simpa using q4,fun v'=>by rw [q5];rfl⟩
end
theorem ry (t:TypeDesc) (ik:IntKind) (ht:∃ j,t=.int j) (k:Int):∀ (ks:List Int) (es:List MapEntry) (i:Nat),es.map (·.key)=ks.map (Value.int ik) ->
  Instr.findNow t (.int ik k) es i=some (bz k ks es i)
 | [],es,i,h=>by
  have:es=[]:=by simpa using h
  subst this
  simp [Instr.findNow,bz]
 | k' :: ks,[],i,h=>by simp at h
 | k' :: ks,e :: es,i,h=>by
  simp only [List.map_cons,List.cons.injEq] at h
  obtain ⟨j,rfl⟩:=ht
  simp only [Instr.findNow,h.1,Instr.sameNow,if_true,bz]
  by_cases hk:k=k'
  ·subst hk;simp
  ·have:(k==k')=false:=by simp [hk]
   simp only [this,hk,if_false]
   exact ry (.int j) ik ⟨j,rfl⟩ k ks es (i+1) h.2
theorem ii (n:Nat) (j:IntKind) (a:Int):Instr.sameBits n (.int j a) (.int j a)=true:=by
 cases n<;>simp [Instr.sameBits]
theorem ij {P:Program} {kt:TypeId} {j:IntKind} (h:P.underlying kt=some (.int j)) (emp:Bool) (n:Nat) (ik:IntKind) (k:Int) (w:World):(Instr.checkKey emp (n+1) kt (.int ik k)).run P w=.ok () w:=by
 simp [Instr.checkKey,run_underlying h]
theorem intKeys {P:Program} {kt:TypeId} {ik:IntKind} {j:IntKind} (h:P.underlying kt=some (.int j)):KeyLaw P kt (Value.int ik) where
 check emp k w:=ij h _ _ _ _ _
 find k ks es w hk:=by
  simp [Instr.findKey,run_underlying h,ry (.int j) ik ⟨j,rfl⟩ k ks es 0 hk]
 stays k:=ii _ _ _
section
variable {P:Program} {B:Base} {n:Fr} {Q Q':Exit->Act->World->Prop} {e:Env} {L:List HP} {ops:Array Oper} {l:List Oper}
variable {d:Nat} {ty:TypeId} {pos:String} {af:Array Edge} {x y z:Operand} {gd:Option (Nat×Bool)}
variable {κ:Type} [DecidableEq κ] {enc:κ->Value}
theorem ee {w:World} {b:Nat} {es:Array MapEntry} {c:Nat} (h:w.heap[b]?=some (.map es c)):(getObj b).run P w=.ok (.map es c) w:=run_getObj_map w b es c h
theorem o5 {w:World} {b:Nat} {es:Array MapEntry} {c:Nat} (h:w.heap[b]?=some (.map es c)) (o:Obj):(setObj b o).run P w=.ok () (setB w b o):=by
 simp [setObj,Sem.run,h,setB]
theorem ux {w:World} {b t kt et:Nat} {es:Array MapEntry} {c:Nat} {kvs:List (κ×Value)} {zv:Value} (kl:KeyLaw P kt enc) (ht:P.underlying t=some (.map kt et)) (hz:(zeroValue et).run P w=.ok zv w)
  (h:w.heap[b]?=some (.map es c)) (hm:MapIs enc es c kvs) (k:κ) (ok:Bool) :
  (Instr.lookup t (.map (some b)) (enc k) ok).run P w=.ok (if ok then .tuple #[(kget kvs k).getD zv,.bool (kget kvs k).isSome] else (kget kvs k).getD zv) w:=by
 have hf:=kl.find k (kvs.map (·.1)) es.toList w (by rw [hm.keys,List.map_map];rfl)
 simp only [Instr.lookup,Sem.run_bind,run_underlying ht,Result.andThen_ok,ee h,Sem.run_pure,kl.check,hf]
 rcases jo k _ es.toList kvs 0 rfl hm.vals with ⟨q1,q2⟩ | ⟨j,v,q1,q2,_⟩
 ·rw [q1,q2]
  cases ok<;>simp [hz]
 ·rw [q1,q2]
  cases ok<;>simp
def jp (P:Program) (t kt et:Nat):Bool :=
 match P.underlying t with
 | some (.map k e)=>Nat.beq k kt && Nat.beq e et
 | _=>false
theorem uy {t kt et:Nat} (h:jp P t kt et=true):P.underlying t=some (.map kt et):=by
 unfold jp at h
 split at h
 ·rename_i k e hu
  simp only [Bool.and_eq_true] at h
  rw [hu,Nat.eq_of_beq_eq_true h.1,Nat.eq_of_beq_eq_true h.2]
 ·cases h
def zvOf (P:Program) (t:Nat):Option Value:=(P.info? t).bind (·.zero)
theorem Oc {t:Nat} {z:Value} (h:zvOf P t=some z) (w:World):(zeroValue t).run P w=.ok z w:=by
 unfold zvOf at h
 simp only [Option.bind_eq_some_iff] at h
 obtain ⟨i,hi,hz⟩:=h
 simp [zeroValue,typeInfo,hi,hz]
theorem Qt.look {b t kt et:Nat} {es:Array MapEntry} {c:Nat} {kvs:List (κ×Value)} {zv:Value} {k:κ} (kl:KeyLaw P kt enc) (hm:MapIs enc es c kvs) (ht:jp P t kt et=true) (hz:zvOf P et=some zv)
  
  (hx:evo e x=some (.map (some b)):=by rfl) (hy:evo e y=some (enc k):=by rfl) (hmem:Mem L (pt b (.map es c)):=by repeat (first | exact .here | refine .there ?_)) :
  Qt P B n e L ⟨some d,.lookup t x y false,ty,pos,af,gd⟩ ((kget kvs k).getD zv) :=
 fun a w ha hs=>by
  have:=ux kl (uy ht) (Oc hz w) (hs.get hmem) hm k false
  simp [execOp,ha.eval hx,ha.eval hy,this]
theorem WL.look {b t kt et:Nat} {es:Array MapEntry} {c:Nat} {kvs:List (κ×Value)} {zv:Value} {k:κ} (kl:KeyLaw P kt enc) (hm:MapIs enc es c kvs) (ht:jp P t kt et=true) (hz:zvOf P et=some zv)
  (h:WL P B n ops l Q ((d,(kget kvs k).getD zv) :: e) L)
  (hx:evo e x=some (.map (some b)):=by rfl) (hy:evo e y=some (enc k):=by rfl) (hmem:Mem L (pt b (.map es c)):=by repeat (first | exact .here | refine .there ?_)) (hd:Nat.ble (d+1) n.k=true:=by rfl) :
  WL P B n ops (⟨some d,.lookup t x y false,ty,pos,af,none⟩ :: l) Q e L :=
 WL.pure h hd (Qt.look (kl:=kl) (hm:=hm) (ht:=ht) (hz:=hz) (hx:=hx) (hy:=hy) (hmem:=hmem))
theorem Qt.lookOk {b t kt et:Nat} {es:Array MapEntry} {c:Nat} {kvs:List (κ×Value)} {zv:Value} {k:κ} (kl:KeyLaw P kt enc) (hm:MapIs enc es c kvs) (ht:jp P t kt et=true) (hz:zvOf P et=some zv)
  
  (hx:evo e x=some (.map (some b)):=by rfl) (hy:evo e y=some (enc k):=by rfl) (hmem:Mem L (pt b (.map es c)):=by repeat (first | exact .here | refine .there ?_)) :
  Qt P B n e L ⟨some d,.lookup t x y true,ty,pos,af,gd⟩ (.tuple #[(kget kvs k).getD zv,.bool (kget kvs k).isSome]) :=
 fun a w ha hs=>by
  have:=ux kl (uy ht) (Oc hz w) (hs.get hmem) hm k true
  simp [execOp,ha.eval hx,ha.eval hy,this]
theorem WL.lookOk {b t kt et:Nat} {es:Array MapEntry} {c:Nat} {kvs:List (κ×Value)} {zv:Value} {k:κ} (kl:KeyLaw P kt enc) (hm:MapIs enc es c kvs) (ht:jp P t kt et=true) (hz:zvOf P et=some zv)
  (h:WL P B n ops l Q ((d,.tuple #[(kget kvs k).getD zv,.bool (kget kvs k).isSome]) :: e) L)
  (hx:evo e x=some (.map (some b)):=by rfl) (hy:evo e y=some (enc k):=by rfl) (hmem:Mem L (pt b (.map es c)):=by repeat (first | exact .here | refine .there ?_)) (hd:Nat.ble (d+1) n.k=true:=by rfl) :
  WL P B n ops (⟨some d,.lookup t x y true,ty,pos,af,none⟩ :: l) Q e L :=
 WL.pure h hd (Qt.lookOk (kl:=kl) (hm:=hm) (ht:=ht) (hz:=hz) (hx:=hx) (hy:=hy) (hmem:=hmem))
theorem Eo {w:World} {b t kt et:Nat} {es:Array MapEntry} {c:Nat} {kvs:List (κ×Value)} (kl:KeyLaw P kt enc) (ht:P.underlying t=some (.map kt et))
  (h:w.heap[b]?=some (.map es c)) (hm:MapIs enc es c kvs) (k:κ) (v:Value) :
  ∃ es' c',(Instr.mapUpdate t (.map (some b)) (enc k) v).run P w=.ok () (setB w b (.map es' c'))/\MapIs enc es' c' (kput kvs k v):=by
 have hf:=kl.find k (kvs.map (·.1)) es.toList w (by rw [hm.keys,List.map_map];rfl)
 rcases jo k _ es.toList kvs 0 rfl hm.vals with ⟨q1,q2⟩ | ⟨j,u,q1,q2,q3,q4,q5⟩
 ·refine ⟨es.push { key:=enc k,val:=v,born:=c },c+1,?_,?_⟩
  ·simp only [Instr.mapUpdate,Sem.run_bind,run_underlying ht,Result.andThen_ok,ee h,Sem.run_pure,kl.check,hf,q1,o5 h]
  ·have hk:=kget_none.1 q2
   have hp:kput kvs k v=kvs++[(k,v)]:=by
    clear hf q1 hm
    induction kvs with
    | nil=>rfl
    | cons p kvs ih =>
     obtain ⟨a,b⟩:=p
     simp only [List.map_cons,List.mem_cons,not_or] at hk
     simp only [kget,hk.1,if_false] at q2
     simp [kput,hk.1,ih q2 hk.2]
   have hnd:=o0 hm.nodup k v
   rw [hp] at hnd ⊢
   refine ⟨by simp [hm.keys],by simp [hm.vals],?_,?_,hnd⟩
   ·simp only [Array.toList_push,List.map_append,List.map_cons,List.map_nil]
    rw [List.pairwise_append]
    refine ⟨hm.born,by simp,?_⟩
    intro a ha b hb
    obtain ⟨x,hx,rfl⟩:=List.mem_map.1 ha
    simp at hb
    subst hb
    exact hm.lt x hx
   ·intro x hx
    simp only [Array.toList_push,List.mem_append,List.mem_singleton] at hx
    rcases hx with hx | rfl
    ·have:=hm.lt x hx;omega
    ·exact Nat.lt_succ_self _
 ·have hj:j < es.size:=by simpa using q3
  have hkey:(es[j]).key=enc k:=by
   have h1:(es.toList.map (·.key))[j]?=some (enc k):=by
    rw [hm.keys]
    have:(kvs.map fun p=>enc p.1)=(kvs.map (·.1)).map enc:=by simp
    rw [this,List.getElem?_map,q4]
    rfl
   simpa [hj] using h1
  refine ⟨es.modify j fun x=>{ x with key:=enc k,val:=v },c,?_,?_⟩
  ·have hkk:((es[j]?).map (·.key)).getD (enc k)=enc k:=by simp [hj,hkey]
   simp only [Instr.mapUpdate,Sem.run_bind,run_underlying ht,Result.andThen_ok,ee h,Sem.run_pure,kl.check,hf,q1,Nat.zero_add,hkk,Instr.keyThatStays,kl.stays,if_true,Sem.run_pure,o5 h]
  ·have hl:=hm.length
   have hmod:∀ {β:Type} (f:MapEntry->β),(es.modify j fun x=>{ x with key:=enc k,val:=v }).toList.map f=(es.toList.map f).set j (f { es[j] with key:=enc k,val:=v }):=by
    intro β f
    apply List.ext_getElem?
    intro i
    simp only [List.getElem?_map,List.getElem?_set,Array.getElem?_toList,Array.getElem?_modify,List.length_map,Array.length_toList]
    by_cases hij:j=i
    ·subst hij
     simp [hj]
    ·simp [hij]
   refine ⟨?_,?_,?_,?_,o0 hm.nodup k v⟩
   ·rw [hmod,hm.keys,q5,List.map_set]
   ·rw [hmod,hm.vals,q5,List.map_set]
   ·have:(es.modify j fun x=>{ x with key:=enc k,val:=v }).toList.map (·.born)=es.toList.map (·.born):=by
     rw [hmod]
     apply List.ext_getElem?
     intro i
     rw [List.getElem?_set]
     by_cases hij:j=i
     ·subst hij;simp [hj]
     ·simp [hij]
    rw [this]
    exact hm.born
   ·intro x hx
    have:x.born∈(es.modify j fun x=>{ x with key:=enc k,val:=v }).toList.map (·.born):=List.mem_map_of_mem hx
    have h2:(es.modify j fun x=>{ x with key:=enc k,val:=v }).toList.map (·.born)=es.toList.map (·.born):=by
     rw [hmod]
     apply List.ext_getElem?
     intro i
     rw [List.getElem?_set]
     by_cases hij:j=i
     ·subst hij;simp [hj]
     ·simp [hij]
    rw [h2] at this
    obtain ⟨y,hy,hxy⟩:=List.mem_map.1 this
    rw [<- hxy]
    exact hm.lt y hy
theorem WL.upd {b t kt et:Nat} {es:Array MapEntry} {c:Nat} {kvs:List (κ×Value)} {k:κ} {v:Value} {M:List HP} (kl:KeyLaw P kt enc) (hm:MapIs enc es c kvs) (ht:jp P t kt et=true)
  (h:∀ es' c',MapIs enc es' c' (kput kvs k v)->WL P B n ops l Q e (pt b (.map es' c') :: M))
  (hx:evo e x=some (.map (some b)):=by rfl) (hy:evo e y=some (enc k):=by rfl) (hz:evo e z=some v:=by rfl) (r:Rem L (pt b (.map es c)) M:=by repeat (first | exact .here | apply Rem.there)) :
  WL P B n ops (⟨none,.mapUpdate t x y z,ty,pos,af,none⟩ :: l) Q e L :=
 WL.skipStep rfl fun a w ha hs=>by
  have hs1:=hs.front r
  obtain ⟨es',c',hr,hm'⟩:=Eo kl (uy ht) (hs1.get .here) hm k v
  refine ⟨_,e,_,?_,ha.put_none _,hs1.set (.here (y:=pt b (.map es' c'))),h es' c' hm'⟩
  simp [execOp,ha.eval hx,ha.eval hy,ha.eval hz,hr]
theorem WL.mkMap {t:Nat} (h:∀ b,WL P B n ops l Q ((d,.map (some b)) :: e) (pt b (.map #[] 0) :: L)) (hd:Nat.ble (d+1) n.k=true:=by rfl) :
  WL P B n ops (⟨some d,.makeMap t none,ty,pos,af,none⟩ :: l) Q e L :=
 WL.step rfl fun a w ha hs=>by
  refine ⟨_,w.alloc (.map #[] 0),_,_,?_,ha.put hd _,hs.new _,h w.heap.size⟩
  simp [execOp,Instr.makeMap,newObj,Sem.run]
theorem Qt.lenM {t kt et b:Nat} {es:Array MapEntry} {c:Nat} (ht:jp P t kt et=true) (hx:evo e x=some (.map (some b)):=by rfl) (hmem:Mem L (pt b (.map es c)):=by repeat (first | exact .here | refine .there ?_)) :
  Qt P B n e L ⟨some d,.call ⟨.builtin .len,#[x],#[t]⟩,ty,pos,af,gd⟩ (.int .i64 (es.size:Int)) :=
 fun a w ha hs=>by
  simp [execOp,resolve,invoke,builtin,ha.eval hx,Builtin.len_,run_underlying (uy ht),ee (hs.get hmem),goInt]
theorem WL.lenM {t kt et b:Nat} {es:Array MapEntry} {c:Nat} (h:WL P B n ops l Q ((d,.int .i64 (es.size:Int)) :: e) L) (ht:jp P t kt et=true) (hx:evo e x=some (.map (some b)):=by rfl) (hmem:Mem L (pt b (.map es c)):=by repeat (first | exact .here | refine .there ?_)) (hd:Nat.ble (d+1) n.k=true:=by rfl) :
  WL P B n ops (⟨some d,.call ⟨.builtin .len,#[x],#[t]⟩,ty,pos,af,none⟩ :: l) Q e L :=
 WL.pure h hd (Qt.lenM (ht:=ht) (hx:=hx) (hmem:=hmem))
theorem WL.clearM {t kt et b:Nat} {es:Array MapEntry} {c:Nat} {L':List HP} (h:WL P B n ops l Q e L') (ht:jp P t kt et=true) (hx:evo e x=some (.map (some b)):=by rfl)
  (hr:Repl L (pt b (.map es c)) (pt b (.map #[] c)) L':=by repeat (first | exact .here | apply Repl.there)) :
  WL P B n ops (⟨none,.call ⟨.builtin .clear,#[x],#[t]⟩,ty,pos,af,none⟩ :: l) Q e L:=by
 refine WL.step rfl fun a w ha hs=>?_
 obtain ⟨M,r1,r2⟩:=hr.rem
 have hb:=(hs.front r1).get .here
 refine ⟨.tuple #[],_,e,L',?_,ha.put_none _,hs.set hr,h⟩
 simp [execOp,resolve,invoke,builtin,ha.eval hx,Builtin.clear_,run_underlying (uy ht),ee hb,o5 hb]
theorem WL.range {t kt et b:Nat} {es:Array MapEntry} {c:Nat} (ht:jp P t kt et=true) (h:∀ it,WL P B n ops l Q ((d,.pointer (some ⟨it,0,none⟩)) :: e) (pt it (.mapIter (some b) c #[] c) :: L)) (hx:evo e x=some (.map (some b)):=by rfl) (hmem:Mem L (pt b (.map es c)):=by repeat (first | exact .here | refine .there ?_)) (hd:Nat.ble (d+1) n.k=true:=by rfl) :
  WL P B n ops (⟨some d,.range t x,ty,pos,af,none⟩ :: l) Q e L :=
 WL.step rfl fun a w ha hs=>by
  refine ⟨_,w.alloc (.mapIter (some b) c #[] c),_,_,?_,ha.put hd _,hs.new _,h w.heap.size⟩
  simp [execOp,ha.eval hx,Instr.range,run_underlying (uy ht),ee (hs.get hmem),newObj,Sem.run]
def left (es:Array MapEntry) (seen:Array Nat):List MapEntry:=es.toList.filter fun x=>!seen.contains x.born
theorem yp {es:Array MapEntry} {seen:Array Nat} {m:MapEntry} (hm:m∈left es seen):(left es (seen.push m.born)).length < (left es seen).length:=by
 unfold left at hm ⊢
 have:es.toList.filter (fun x=>!(seen.push m.born).contains x.born)=(es.toList.filter fun x=>!seen.contains x.born).filter fun x=>!(x.born==m.born):=by
  rw [List.filter_filter]
  apply List.filter_congr
  intro x _
  rw [Bool.eq_iff_iff]
  simp [Array.mem_push,and_comm]
 rw [this]
 generalize es.toList.filter (fun x=>!seen.contains x.born)=l at hm
 rw [List.length_filter_lt_length_iff_exists]
 exact ⟨m,hm,by simp⟩
theorem WL.next {b it:Nat} {es:Array MapEntry} {c:Nat} {seen:Array Nat} {M:List HP} (hlt:∀ x∈es.toList,x.born < c)
  (h0:left es seen=[]->WL P B n ops l Q ((d,.tuple #[.bool false]) :: e) (pt it (.mapIter (some b) c seen c) :: M))
  (h1:∀ m∈left es seen,WL P B n ops l Q ((d,.tuple #[.bool true,m.key,m.val]) :: e) (pt it (.mapIter (some b) c (seen.push m.born) c) :: M))
  (r:Rem L (pt it (.mapIter (some b) c seen c)) M:=by repeat (first | exact .here | apply Rem.there)) (hmem:Mem M (pt b (.map es c)):=by repeat (first | exact .here | refine .there ?_))
  (hx:evo e x=some (.pointer (some ⟨it,0,none⟩)):=by rfl) (hd:Nat.ble (d+1) n.k=true:=by rfl) :
  WL P B n ops (⟨some d,.next x false,ty,pos,af,none⟩ :: l) Q e L :=
 WL.step rfl fun a w ha hs=>by
  have hs1:=hs.front r
  have hit:=hs1.get .here
  have hb:=hs1.get (.there hmem)
  have hgi:(getObj it).run P w=.ok (.mapIter (some b) c seen c) w:=by simp [getObj,Sem.run,hit]
  have hguard:(!seen.isEmpty && !es.isEmpty && es.all (·.born ≥ c))=false:=by
   cases hes:es.isEmpty
   ·have:es.all (fun x=>decide (x.born ≥ c))=false:=by
     rw [<- Bool.not_eq_true]
     intro hall
     rw [Array.all_eq_true] at hall
     have hpos:0 < es.size:=by
      rcases Nat.eq_zero_or_pos es.size with h | h
      ·simp [Array.isEmpty,h] at hes
      ·exact h
     have h2:=hall 0 hpos
     have h3:=hlt es[0] (by simp)
     simp at h2
     omega
    simp [this]
   ·simp
  have hfil:es.filter (fun e=>!seen.contains e.born)=(left es seen).toArray:=by
   apply Array.toList_inj.1
   simp [left]
  have hold:(left es seen).toArray.filter (fun x=>decide (x.born < c))=(left es seen).toArray:=by
   apply Array.toList_inj.1
   simp only [Array.toList_filter,List.toList_toArray]
   rw [List.filter_eq_self]
   intro x hx
   have:=hlt x ((List.mem_filter.1 hx).1)
   simpa using this
  have hnew:(left es seen).toArray.filter (fun x=>decide (x.born ≥ c))=#[]:=by
   apply Array.toList_inj.1
   simp only [Array.toList_filter,List.toList_toArray]
   rw [List.filter_eq_nil_iff]
   intro x hx
   have:=hlt x ((List.mem_filter.1 hx).1)
   simp;omega
  have hrun:(Instr.next (.pointer (some ⟨it,0,none⟩)) false ty).run P w =
    ((choose (.mapNext ((if (left es seen).toArray.isEmpty then #[none] else #[])++(left es seen).toArray.map some).size)).run P w).andThen fun i w' =>
     (match ((if (left es seen).toArray.isEmpty then #[none] else #[])++(left es seen).toArray.map some)[i]? with
      | some (some m)=>(do setObj it (.mapIter (some b) c (seen.push m.born) c);Pure.pure (Value.tuple #[.bool true,m.key,m.val]):Sem Value)
      | some none=>Pure.pure (Value.tuple #[.bool false])
      | none => stuck "Next: no such candidate").run P w' := by
   simp only [Instr.next,Sem.run_bind,hgi,Result.andThen_ok,ee hb,hguard,Bool.false_eq_true,if_false,hfil,hold,hnew,Array.append_empty]
   rfl
  by_cases hl:left es seen=[]
  ·refine ⟨.tuple #[.bool false],w,_,_,?_,ha.put hd _,hs1,h0 hl⟩
   simp only [execOp,ha.eval hx]
   rw [Sem.run_bind,hrun,hl]
   simp [choose,Sem.run,Question.forced]
  ·have hpos:0 < (left es seen).length:=List.length_pos_iff.2 hl
   have hne:(left es seen).toArray.isEmpty=false:=by simp [hl]
   -- the index that is drawn lies within
   have hch:∃ i w',(choose (.mapNext (left es seen).length)).run P w=.ok i w'/\i < (left es seen).length/\w'.heap=w.heap/\w'.os=w.os/\w'.tape=w.tape/\w'.output=w.output:=by
    by_cases hf:(left es seen).length<=1
    ·exact ⟨0,w,by simp [choose,Sem.run,Question.forced,hf],hpos,rfl,rfl,rfl,rfl⟩
    ·refine ⟨_,{ w with drawn:=w.drawn+1 },by simp only [choose,Sem.run,Question.forced,decide_eq_true_eq,hf,if_false];rfl,?_,rfl,rfl,rfl,rfl⟩
     simp only [Question.cut]
     exact Nat.mod_lt _ hpos
   obtain ⟨i,w',hc,hi,e1,e2,e3,e4⟩:=hch
   have hs2:Sat B w' (pt it (.mapIter (some b) c seen c) :: M):=hs1.heap e2 e3 e4 e1
   have hm:(left es seen)[i]∈left es seen:=List.getElem_mem hi
   have hit':w'.heap[it]?=some (.mapIter (some b) c seen c):=by rw [e1];exact hit
   refine ⟨_,setB w' it (.mapIter (some b) c (seen.push (left es seen)[i].born) c),_,_,?_,ha.put hd _,hs2.set (.here (y:=pt it (.mapIter (some b) c (seen.push (left es seen)[i].born) c))),h1 _ hm⟩
   simp only [execOp,ha.eval hx]
   rw [Sem.run_bind,hrun,hne]
   simp only [Bool.false_eq_true,if_false,Array.empty_append,Array.size_map,List.size_toArray,hc,Result.andThen_ok]
   simp [hi,setObj,Sem.run,hit',setB]
theorem Qt.entry {b it:Nat} {es:Array MapEntry} {c:Nat} {seen:Array Nat} {m:MapEntry} (hm:m∈es.toList) (hp:(es.toList.map (·.born)).Pairwise (· < ·))
  
  (hit:Mem L (pt it (.mapIter (some b) c (seen.push m.born) c)):=by repeat (first | exact .here | refine .there ?_)) (hmem:Mem L (pt b (.map es c)):=by repeat (first | exact .here | refine .there ?_))
  (hx:evo e x=some (.pointer (some ⟨it,0,none⟩)):=by rfl) :
  Qt P B n e L ⟨some d,.entry x,ty,pos,af,gd⟩ (.tuple #[m.key,m.val]) :=
 fun a w ha hs=>by
  have h1:=hs.get hit
  have h2:=hs.get hmem
  have hgi:(getObj it).run P w=.ok (.mapIter (some b) c (seen.push m.born) c) w:=by simp [getObj,Sem.run,h1]
  have hf:es.find? (fun x=>x.born==m.born)=some m:=by
   rw [<- Array.find?_toList]
   generalize es.toList=l at hm hp
   clear h1 h2 hgi
   induction l with
   | nil=>cases hm
   | cons x l ih =>
    simp only [List.map_cons,List.pairwise_cons] at hp
    rcases List.mem_cons.1 hm with rfl | hm
    ·simp
    ·have:=hp.1 m.born (List.mem_map_of_mem hm)
     rw [List.find?_cons_of_neg (by simp;omega)]
     exact ih hm hp.2
  simp [execOp,ha.eval hx,Instr.entry,hgi,ee h2,hf]
theorem WL.entry {b it:Nat} {es:Array MapEntry} {c:Nat} {seen:Array Nat} {m:MapEntry} (hm:m∈es.toList) (hp:(es.toList.map (·.born)).Pairwise (· < ·))
  (h:WL P B n ops l Q ((d,.tuple #[m.key,m.val]) :: e) L)
  (hit:Mem L (pt it (.mapIter (some b) c (seen.push m.born) c)):=by repeat (first | exact .here | refine .there ?_)) (hmem:Mem L (pt b (.map es c)):=by repeat (first | exact .here | refine .there ?_))
  (hx:evo e x=some (.pointer (some ⟨it,0,none⟩)):=by rfl) (hd:Nat.ble (d+1) n.k=true:=by rfl) :
  WL P B n ops (⟨some d,.entry x,ty,pos,af,none⟩ :: l) Q e L :=
 WL.pure h hd (Qt.entry (hm:=hm) (hp:=hp) (hit:=hit) (hmem:=hmem) (hx:=hx))
end
section
variable {P:Program} {ops:Array Oper} {Q:Exit->Act->World->Prop} {S:World->Prop} {ds:List Nat}
def rz (P:Program) (ops:Array Oper) (Q:Exit->Act->World->Prop) (S:World->Prop) (ds:List Nat):Nat->Array Bool->Act->World->Prop
 | 0,listed,a,w=>Region.ready .any ops listed=[]/\Q .normal a w
 | fuel+1,listed,a,w =>
  (Region.ready .any ops listed=[]->Q .normal a w) ∧
  ∀ i∈Region.ready .any ops listed,wpOp P ops Q i (fun a' w'=>(i ∉ ds->S w')/\rz P ops Q S ds fuel (listed.setIfInBounds i true) a' w') a w
theorem r3 :∀ (fuel:Nat) (listed:Array Bool) (a:Act) (w:World),rz P ops Q S ds fuel listed a w->wpAny P .any ops Q fuel listed a w
 | 0,_,_,_,h=>h
 | fuel+1,_,_,_,h=>⟨h.1,fun i hi=>wpOp_mono (fun a' w' h'=>r3 fuel _ a' w' h'.2) (h.2 i hi)⟩
def Si (ops:Array Oper) (ds:List Nat) (i:Nat):Bool :=
 ds.all fun d=>match ops[d]? with
  | some o=>o.after.any fun e=>Region.binds .any e && Nat.beq e.on i
  | none=>true
theorem il {i:Nat} {oi:Oper} {v:Value} (hi:ops[i]?=some oi) (hsel:∀ (j:Nat) (o:Oper) cs b,ops[j]?=some o->o.op≠.select cs b)
  (hQ:∀ c a w,Q (.panic c) (a.put oi.dst v) w->Q (.panic c) a w) (hds:Si ops ds i=true) :
  ∀ (fuel:Nat) (listed:Array Bool) (a:Act) (w:World),
   (∀ j oj,ops[j]?=some oj->j≠i->listed.getD j true=false->(∀ e∈oj.after,Region.binds .any e=true->e.on≠i)->oi.apart ops oj=true) ->
   i∈Region.ready .any ops listed->YieldsIf P ops S oi v a->S w ->
   rz P ops Q S ds fuel (listed.setIfInBounds i true) (a.put oi.dst v) w->rz P ops Q S ds (fuel+1) listed a w:=by
 intro fuel
 induction fuel with
 | zero =>
  intro listed a w _ hr hy hS H
  refine ⟨fun h=>(by rw [h] at hr;cases hr),fun j hj=>?_⟩
  by_cases hji:j=i
  ·subst hji;exact hy.wpOp hi hS ⟨fun _=>hS,H⟩
  ·have:=ready_mono hj hji
   rw [H.1] at this
   cases this
 | succ fuel ih =>
  intro listed a w hfree hr hy hS H
  refine ⟨fun h=>(by rw [h] at hr;cases hr),fun j hj=>?_⟩
  by_cases hji:j=i
  ·subst hji;exact hy.wpOp hi hS ⟨fun _=>hS,H⟩
  ·have h1:=H.2 j (ready_mono hj hji)
   obtain ⟨hjun,oj,hoj,hall⟩:=mem_ready.1 hj
   have hiun:=(mem_ready.1 hr).1
   have hnot:∀ e∈oj.after,Region.binds .any e=true->e.on≠i:=fun e he hb heq=>by
    have h1:=hall e he hb
    rw [heq] at h1
    rcases Nat.lt_or_ge i listed.size with h' | h'
    ·simp [h'] at hiun h1;rw [hiun] at h1;cases h1
    ·simp [Array.getElem?_eq_none h'] at h1
   have hjd:j ∉ ds:=by
    intro hd
    have:=List.all_eq_true.1 hds j hd
    rw [hoj] at this
    simp only [Array.any_eq_true,Bool.and_eq_true] at this
    obtain ⟨k,hk,hb,hon⟩:=this
    exact hnot _ (Array.getElem_mem hk) hb (Nat.eq_of_beq_eq_true hon)
   have h2:=wpOp_putIf hoj (hfree j oj hoj hji hjun hnot) (fun cs b=>hsel i oi cs b hi) (fun cs b=>hsel j oj cs b hoj) hQ hy h1
   have hfree':∀ k ok,ops[k]?=some ok->k≠i->(listed.setIfInBounds j true).getD k true=false ->
     (∀ e∈ok.after,Region.binds .any e=true->e.on≠i)->oi.apart ops ok=true:=fun k ok hk hki hun hno=>by
    refine hfree k ok hk hki ?_ hno
    by_cases hjk:j=k
    ·subst hjk;exact hjun
    ·rw [getD_set_ne true hjk] at hun;exact hun
   refine wpOp_mono (fun a' w' h3=>?_) h2
   obtain ⟨h3a,h3b,h3c⟩:=h3
   exact ⟨h3b,ih (listed.setIfInBounds j true) a' w' hfree' (ready_mono hr (Ne.symm hji)) h3a (h3b hjd) (by rw [Array.setIfInBounds_comm _ _ hji];exact h3c)⟩
end
section
variable {P:Program} {B:Base} {n:Fr} {Q Q':Exit->Act->World->Prop} {e:Env} {L L0:List HP} {ops:Array Oper} {l:List Oper} {ds:List Nat}
def NoPanic (Q:Exit->Act->World->Prop):Prop:=∀ c (a:Act) d v w,Q (.panic c) (a.put d v) w->Q (.panic c) a w
theorem NoPanic.body {fn:Func} {F:List HP} {R:List HP->Value->List HP->Prop}:NoPanic (bodyPost P fn (Post B F R)):=fun c a d v w h=>⟨by have:=h.1;cases d<;>exact this,h.2⟩
theorem NoPanic.then {K:Act->World->Prop} (h:NoPanic Q):NoPanic (Exit.then K Q):=h
theorem NoPanic.block {i:Nat} (h:NoPanic Q):NoPanic (Exit.inBlock i Q):=h
def WD (P:Program) (B:Base) (n:Fr) (ops:Array Oper) (Q:Exit->Act->World->Prop) (L0:List HP) (ds:List Nat) (fuel:Nat) (listed:Array Bool) (e:Env) (L:List HP):Prop :=
 NoPanic Q->∀ a w,Ag n e a->Sat B w L->rz P ops Q (fun w=>Sat B w L0) ds fuel listed a w
def Gd (ops:Array Oper) (k:Nat) (l:Array Bool):Bool:=Nat.beq ops.size k && (Array.replicate k false==l) && Region.noSelect ops
theorem WC.draw {id:Nat} {l:List Oper} (L0:List HP) (ds:List Nat) (k:Nat) (lst:Array Bool) (hm:P.follows .mixedOrders=true) (hst:Gd l.toArray k lst=true) (hQ:NoPanic Q) (h:WD P B n l.toArray Q L0 ds k lst e L):WC P B n (.region id l.toArray true) Q e L:=by
 intro a w ha hs
 simp only [Gd,Bool.and_eq_true,beq_iff_eq] at hst
 obtain ⟨⟨h1,h2⟩,_⟩:=hst
 have h1:=Nat.eq_of_beq_eq_true h1
 refine wp_region_any hm (r3 (S:=fun w=>Sat B w L0) (ds:=ds) _ _ _ _ ?_)
 rw [h1,h2]
 exact h hQ a w.drew ha hs.drew
def r4 (ops:Array Oper) (ds:List Nat) (l l':Array Bool) (i:Nat):Bool :=
 Region.noSelect ops && Region.free .any ops l i && (Region.ready .any ops l).contains i && Si ops ds i && (l.setIfInBounds i true==l')
theorem WD.take {i d fuel:Nat} {o:Op} {ty:TypeId} {pos:String} {af:Array Edge} {v:Value} {lst:Array Bool} (lst':Array Bool) (hi:ops[i]?=some ⟨some d,o,ty,pos,af,none⟩) (hc:r4 ops ds lst lst' i=true)
  (hq:Qt P B n e L0 ⟨some d,o,ty,pos,af,none⟩ v) (h:WD P B n ops Q L0 ds fuel lst' ((d,v) :: e) L) (h0:Am L L0:=by repeat (first | exact .refl | exact .nil | (apply Am.take;focus ((repeat (first | exact .here | apply Rem.there));done)) | refine .skip ?_)) (hd:Nat.ble (d+1) n.k=true:=by rfl):WD P B n ops Q L0 ds (fuel+1) lst e L:=by
 intro hQ a w ha hs
 simp only [r4,Bool.and_eq_true,beq_iff_eq] at hc
 obtain ⟨⟨⟨⟨h1,h2⟩,h3⟩,h4⟩,h5⟩:=hc
 subst h5
 exact il hi (Region.noSelect_spec h1) (fun c a w=>hQ c a _ v w) h4 fuel lst a w (Region.free_spec hi h2) (by simpa using h3)
  (.inl ⟨rfl,fun w' hs'=>hq a w' ha hs'⟩) (h0.wk B w hs) (h hQ _ w (ha.put hd v) hs)
theorem WD.takeOff {i d t j fuel:Nat} {b:Bool} {o:Op} {ty:TypeId} {pos:String} {af:Array Edge} {u:Value} {lst:Array Bool} (lst':Array Bool) (hi:ops[i]?=some ⟨some d,o,ty,pos,af,some (j,b)⟩) (hc:r4 ops ds lst lst' i=true)
  (h:WD P B n ops Q L0 ds fuel lst' ((d,undef) :: e) L) (h0:Am L L0:=by repeat (first | exact .refl | exact .nil | (apply Am.take;focus ((repeat (first | exact .here | apply Rem.there));done)) | refine .skip ?_))
  (hs:(ops[j]?).bind (·.dst)=some t:=by rfl) (hl:look e t=some u:=by rfl) (hv:u=.bool (!b):=by rfl) (ht:Nat.ble (t+1) n.k=true:=by rfl) (hd:Nat.ble (d+1) n.k=true:=by rfl):WD P B n ops Q L0 ds (fuel+1) lst e L:=by
 intro hQ a w ha hsat
 simp only [r4,Bool.and_eq_true,beq_iff_eq] at hc
 obtain ⟨⟨⟨⟨h1,h2⟩,h3⟩,h4⟩,h5⟩:=hc
 subst h5
 have hy:yielded ops a.tmps j=some (!b):=by
  have hg:=ha.get t u hl
  subst hv
  have htn:t < a.tmps.size:=by rw [ha.size];exact Nat.le_of_ble_eq_true ht
  have:a.tmps[t]?=some (.bool (!b)):=by
   rw [Array.getD_eq_getD_getElem?] at hg
   cases hq:a.tmps[t]? with
   | none=>rw [Array.getElem?_eq_none_iff] at hq;omega
   | some u=>rw [hq] at hg;simpa using hg
  simp [yielded,hs,this]
 exact il (v:=undef) hi (Region.noSelect_spec h1) (fun c a w=>hQ c a _ undef w) h4 fuel lst a w (Region.free_spec hi h2) (by simpa using h3)
  (.inr ⟨by simp [Region.wanted,hy],rfl⟩) (h0.wk B w hsat) (h hQ _ w (ha.put hd undef) hsat)
theorem WD.takeOn {i d t j fuel:Nat} {b:Bool} {o:Op} {ty:TypeId} {pos:String} {af:Array Edge} {u v:Value} {lst:Array Bool} (lst':Array Bool) (hi:ops[i]?=some ⟨some d,o,ty,pos,af,some (j,b)⟩) (hc:r4 ops ds lst lst' i=true)
  (hq:Qt P B n e L0 ⟨some d,o,ty,pos,af,some (j,b)⟩ v) (h:WD P B n ops Q L0 ds fuel lst' ((d,v) :: e) L) (h0:Am L L0:=by repeat (first | exact .refl | exact .nil | (apply Am.take;focus ((repeat (first | exact .here | apply Rem.there));done)) | refine .skip ?_))
  (hs:(ops[j]?).bind (·.dst)=some t:=by rfl) (hl:look e t=some u:=by rfl) (hv:u=.bool b:=by rfl) (ht:Nat.ble (t+1) n.k=true:=by rfl) (hd:Nat.ble (d+1) n.k=true:=by rfl):WD P B n ops Q L0 ds (fuel+1) lst e L:=by
 intro hQ a w ha hsat
 simp only [r4,Bool.and_eq_true,beq_iff_eq] at hc
 obtain ⟨⟨⟨⟨h1,h2⟩,h3⟩,h4⟩,h5⟩:=hc
 subst h5
 have hy:yielded ops a.tmps j=some b:=by
  have hg:=ha.get t u hl
  subst hv
  have htn:t < a.tmps.size:=by rw [ha.size];exact Nat.le_of_ble_eq_true ht
  have:a.tmps[t]?=some (.bool b):=by
   rw [Array.getD_eq_getD_getElem?] at hg
   cases hq:a.tmps[t]? with
   | none=>rw [Array.getElem?_eq_none_iff] at hq;omega
   | some u=>rw [hq] at hg;simpa using hg
  simp [yielded,hs,this]
 exact il hi (Region.noSelect_spec h1) (fun c a w=>hQ c a _ v w) h4 fuel lst a w (Region.free_spec hi h2) (by simpa using h3)
  (.inl ⟨by simp [Region.wanted,hy],fun w' hs'=>hq a w' ha hs'⟩) (h0.wk B w hsat) (h hQ _ w (ha.put hd v) hsat)
def Qone (P:Program) (B:Base) (ops:Array Oper) (Q:Exit->Act->World->Prop) (L0:List HP) (ds:List Nat) (i fuel:Nat) (lst:Array Bool):Exit->Act->World->Prop
 | .normal,a,w=>(i ∉ ds->Sat B w L0)/\rz P ops Q (fun w=>Sat B w L0) ds fuel lst a w
 | x,a,w=>Q x a w
def oneC (ops:Array Oper) (l l':Array Bool) (i:Nat):Bool:=(Region.ready .any ops l==[i]) && (l.setIfInBounds i true==l')
theorem WD.one {i fuel:Nat} {o:Oper} {lst:Array Bool} (lst':Array Bool) (hi:ops[i]?=some o) (hc:oneC ops lst lst' i=true) (h:NoPanic Q->WL P B n ops [o] (Qone P B ops Q L0 ds i fuel lst') e L):WD P B n ops Q L0 ds (fuel+1) lst e L:=by
 intro hQ a w ha hs
 simp only [oneC,Bool.and_eq_true,beq_iff_eq] at hc
 obtain ⟨h1,h2⟩:=hc
 subst h2
 refine ⟨(fun h0=>by rw [h1] at h0;cases h0),fun j hj=>?_⟩
 rw [h1] at hj
 have hj:j=i:=by simpa using hj
 subst hj
 have h3:=h hQ a w ha hs
 unfold wpOp
 simp only [hi]
 unfold wpList at h3
 split
 ·rename_i hw
  rw [if_pos hw] at h3
  rcases h3 with h3 | ⟨h4,b,wb,h5⟩
  ·refine .inl ?_
   unfold Oper.wp at h3 ⊢
   generalize (execOp a.eval o).run P w=r at h3 ⊢
   cases r with
   | ok x w' =>
    cases x<;>simp only [Oper.upon] at h3 ⊢<;>exact h3
   | halt x w'=>cases x<;>simp only [Oper.upon] at h3 ⊢<;>exact h3
  ·exact .inr ⟨h4,b,wb,h5⟩
 ·rename_i hw
  rw [if_neg hw] at h3
  exact h3
theorem WQ.wd {i fuel:Nat} {lst:Array Bool} (hQ:NoPanic Q) (h0:Am L L0 ∨ ds.contains i=true) (h:WD P B n ops Q L0 ds fuel lst e L):WQ B n (Qone P B ops Q L0 ds i fuel lst) .normal e L :=
 fun a w ha hs=>⟨fun hd=>by rcases h0 with h0 | h0;exact h0.wk B w hs;exact absurd (by simpa using h0) hd,h hQ a w ha hs⟩
theorem WD.done {fuel:Nat} {lst:Array Bool} (hr:(Region.ready .any ops lst==[])=true) (h:WQ B n Q .normal e L):WD P B n ops Q L0 ds fuel lst e L:=by
 intro hQ a w ha hs
 have hr:Region.ready .any ops lst=[]:=by simpa using hr
 cases fuel with
 | zero=>exact ⟨hr,h a w ha hs⟩
 | succ k=>exact ⟨fun _=>h a w ha hs,fun i hi=>by rw [hr] at hi;cases hi⟩
theorem WC.dr {id:Nat} {l:List Oper} (L0:List HP) (ds:List Nat) (k:Nat) (hm:P.follows .mixedOrders=true) (hQ:NoPanic Q) (h:WD P B n l.toArray Q L0 ds k (Array.replicate k false) e L) (hst:Gd l.toArray k (Array.replicate k false)=true:=by kernel_rfl):WC P B n (.region id l.toArray true) Q e L:=WC.draw L0 ds k _ hm hst hQ h
section
variable {fuel:Nat} {o:Op} {ty:TypeId} {pos:String} {af:Array Edge} {v:Value} {lst:Array Bool}
theorem WD.tk (i:Nat) {d:Nat} (hi:ops[i]?=some ⟨some d,o,ty,pos,af,none⟩) (hq:Qt P B n e L0 ⟨some d,o,ty,pos,af,none⟩ v) (h:WD P B n ops Q L0 ds fuel (lst.setIfInBounds i true) ((d,v) :: e) L) (hc:r4 ops ds lst (lst.setIfInBounds i true) i=true:=by kernel_rfl)
  (h0:Am L L0:=by repeat (first | exact .refl | exact .nil | (apply Am.take;focus ((repeat (first | exact .here | apply Rem.there));done)) | refine .skip ?_)) (hd:Nat.ble (d+1) n.k=true:=by rfl):WD P B n ops Q L0 ds (fuel+1) lst e L:=WD.take _ hi hc hq h h0 hd
theorem WD.tf (i:Nat) {d t j:Nat} {b:Bool} {u:Value} (hi:ops[i]?=some ⟨some d,o,ty,pos,af,some (j,b)⟩) (h:WD P B n ops Q L0 ds fuel (lst.setIfInBounds i true) ((d,undef) :: e) L) (hc:r4 ops ds lst (lst.setIfInBounds i true) i=true:=by kernel_rfl)
  (h0:Am L L0:=by repeat (first | exact .refl | exact .nil | (apply Am.take;focus ((repeat (first | exact .here | apply Rem.there));done)) | refine .skip ?_))
  (hs:(ops[j]?).bind (·.dst)=some t:=by rfl) (hl:look e t=some u:=by rfl) (hv:u=.bool (!b):=by rfl) (ht:Nat.ble (t+1) n.k=true:=by rfl) (hd:Nat.ble (d+1) n.k=true:=by rfl):WD P B n ops Q L0 ds (fuel+1) lst e L:=WD.takeOff _ hi hc h h0 hs hl hv ht hd
theorem WD.tn (i:Nat) {d t j:Nat} {b:Bool} {u:Value} (hi:ops[i]?=some ⟨some d,o,ty,pos,af,some (j,b)⟩) (hq:Qt P B n e L0 ⟨some d,o,ty,pos,af,some (j,b)⟩ v) (h:WD P B n ops Q L0 ds fuel (lst.setIfInBounds i true) ((d,v) :: e) L) (hc:r4 ops ds lst (lst.setIfInBounds i true) i=true:=by kernel_rfl)
  (h0:Am L L0:=by repeat (first | exact .refl | exact .nil | (apply Am.take;focus ((repeat (first | exact .here | apply Rem.there));done)) | refine .skip ?_))
  (hs:(ops[j]?).bind (·.dst)=some t:=by rfl) (hl:look e t=some u:=by rfl) (hv:u=.bool b:=by rfl) (ht:Nat.ble (t+1) n.k=true:=by rfl) (hd:Nat.ble (d+1) n.k=true:=by rfl):WD P B n ops Q L0 ds (fuel+1) lst e L:=WD.takeOn _ hi hc hq h h0 hs hl hv ht hd
theorem WD.on (i:Nat) {o:Oper} (hi:ops[i]?=some o) (h:NoPanic Q->WL P B n ops [o] (Qone P B ops Q L0 ds i fuel (lst.setIfInBounds i true)) e L) (hc:oneC ops lst (lst.setIfInBounds i true) i=true:=by kernel_rfl):WD P B n ops Q L0 ds (fuel+1) lst e L:=WD.one _ hi hc h
theorem WD.fin (h:WQ B n Q .normal e L) (hr:(Region.ready .any ops lst==[])=true:=by kernel_rfl):WD P B n ops Q L0 ds fuel lst e L:=WD.done hr h
theorem WQ.wa {i:Nat} (hQ:NoPanic Q) (h:WD P B n ops Q L0 ds fuel lst e L) (h0:Am L L0:=by repeat (first | exact .refl | exact .nil | (apply Am.take;focus ((repeat (first | exact .here | apply Rem.there));done)) | refine .skip ?_)):WQ B n (Qone P B ops Q L0 ds i fuel lst) .normal e L:=WQ.wd hQ (.inl h0) h
theorem WQ.wb {i:Nat} (hQ:NoPanic Q) (h:WD P B n ops Q L0 ds fuel lst e L) (h0:ds.contains i=true:=by rfl):WQ B n (Qone P B ops Q L0 ds i fuel lst) .normal e L:=WQ.wd hQ (.inr h0) h
end
theorem WC.loopA {c:Code} {σ:Type} (E:σ->Env) (I:σ->List HP) (p:σ->Prop) (μ:σ->Nat) (s0:σ) (hp:p s0)
  (round:∀ s,p s->WC P B n c (Exit.then (Back B n E I p μ s) Q) (E s) (I s)) (he:Env.le (E s0) e:=by repeat (first | exact Env.le_nil _ | refine Env.le_cons rfl ?_)) (hI:Am L (I s0):=by repeat (first | exact .refl | exact .nil | (apply Am.take;focus ((repeat (first | exact .here | apply Rem.there));done)) | refine .skip ?_)):WC P B n (.loop c) Q e L :=
 WC.loop E I p μ s0 hp he (fun w=>hI.wk B w) round
theorem WQ.back {σ:Type} {E:σ->Env} {I:σ->List HP} {p:σ->Prop} {μ:σ->Nat} {s:σ} (s':σ) (hp:p s') (hlt:μ s' < μ s) (he:Env.le (E s') e:=by repeat (first | exact Env.le_nil _ | refine Env.le_cons rfl ?_)) (hI:Am L (I s'):=by repeat (first | exact .refl | exact .nil | (apply Am.take;focus ((repeat (first | exact .here | apply Rem.there));done)) | refine .skip ?_)) :
  WQ B n (Exit.then (Back B n E I p μ s) Q) .normal e L:=fun a w ha hs=>⟨s',hp,hlt,ha.weak he,hI.wk B w hs⟩
end
def ints (xs:List Int):List Value:=xs.map (Value.int .i64)
def nl (P:Program) (t:Nat):Bool :=
 match P.underlying t with
 | some (.int _)=>true
 | _=>false
theorem my {P:Program} {t:Nat} (h:nl P t=true):∃ k,P.underlying t=some (.int k):=by
 unfold nl at h
 split at h
 ·rename_i k hu;exact ⟨k,hu⟩
 ·cases h
def gu (P:Program):List Field->Nat->Bool
 | [],_=>true
 | f :: fs, i => (f.name != "_") && Nat.beq f.offset i && nl P f.type && gu P fs (i + 1)
def r5 (P:Program) (t n:Nat):Bool :=
 match P.underlying t with
 | some (.struct fs)=>Nat.beq fs.toList.length n && gu P fs.toList 0 && !P.stoodInHeld t && !P.eqGuardType P.depth t
 | _=>false
theorem wl {P:Program} {t n:Nat} (h:r5 P t n=true):P.underlying t=some (.struct (P.fieldsOf t))/\(P.fieldsOf t).toList.length=n/\gu P (P.fieldsOf t).toList 0=true/\P.stoodInHeld t=false/\P.eqGuardType P.depth t=false:=by
 unfold r5 at h
 split at h
 ·rename_i fs hu
  simp only [Bool.and_eq_true] at h
  obtain ⟨⟨⟨h1,h2⟩,h3⟩,h4⟩:=h
  have:P.fieldsOf t=fs:=by simp [Program.fieldsOf,hu]
  rw [this]
  exact ⟨hu,Nat.eq_of_beq_eq_true h1,h2,by simpa using h3,by simpa using h4⟩
 ·cases h
section
variable {P:Program}
theorem du {t:Nat} (h:nl P t=true) {cs:Array Value} {i:Nat} {v:Value} (hv:cs[i]?=some v) (w:World):(part t cs i).run P w=.ok v w:=by
 obtain ⟨k,hk⟩:=my h
 simp [part,isAgg,run_underlying hk,hv]
theorem qc (d:Nat) (xs ys:List Int) (hl:xs.length=ys.length):∀ (fs:List Field) (i:Nat),gu P fs i=true->i+fs.length=xs.length->∀ w,
  (Op.eqFields (d+1) (ints xs).toArray (ints ys).toArray fs).run P w=.ok (decide (xs.drop i=ys.drop i)) w
 | [],i,_,he,w=>by
  simp only [List.length_nil,Nat.add_zero] at he
  simp [Op.eqFields,List.drop_of_length_le (show xs.length<=i by omega),List.drop_of_length_le (show ys.length<=i by omega)]
 | f :: fs,i,hf,he,w=>by
  simp only [List.length_cons] at he
  simp only [gu,Bool.and_eq_true] at hf
  obtain ⟨⟨⟨h1,h2⟩,h3⟩,h4⟩:=hf
  have h2:=Nat.eq_of_beq_eq_true h2
  have hn : f.name ≠ "_" := by simpa using h1
  have hx:i < xs.length:=by omega
  have hy:i < ys.length:=by omega
  have px:=du (P:=P) h3 (cs:=(ints xs).toArray) (i:=i) (v:=.int .i64 xs[i]) (by simp [ints,hx]) w
  have py:=du (P:=P) h3 (cs:=(ints ys).toArray) (i:=i) (v:=.int .i64 ys[i]) (by simp [ints,hy]) w
  obtain ⟨k,hk⟩:=my h3
  have pe:=run_equalIn_int (P:=P) w d f.type .i64 k xs[i] ys[i] hk
  have ih:=qc d xs ys hl fs (i+1) h4 (by omega) w
  have hdec:decide (xs.drop i=ys.drop i)=(decide (xs[i]=ys[i]) && decide (xs.drop (i+1)=ys.drop (i+1))):=by
   rw [Bool.eq_iff_iff]
   rw [List.drop_eq_getElem_cons hx,List.drop_eq_getElem_cons hy,decide_eq_true_iff,Bool.and_eq_true,decide_eq_true_iff,decide_eq_true_iff,List.cons.injEq]
  rw [hdec]
  simp only [Op.eqFields,hn,ne_eq,not_false_eq_true,if_true,h2,Sem.run_bind,px,py,pe,Result.andThen_ok]
  by_cases hxy:xs[i]=ys[i]
  ·simp [hxy,ih]
  ·simp [hxy]
theorem me {t n:Nat} (h:r5 P t n=true) (d:Nat) {xs ys:List Int} (hx:xs.length=n) (hy:ys.length=n) (w:World) :
  (Op.equalIn (d+2) t (.agg (ints xs).toArray) (.agg (ints ys).toArray)).run P w=.ok (decide (xs=ys)) w:=by
 obtain ⟨h1,h2,h3,h4,h5⟩:=wl h
 rw [run_equalIn_struct w (d+1) t _ _ h1 h4,qc d xs ys (by omega) _ 0 h3 (by omega)]
 simp
theorem ki (emp:Bool) (m:Nat) (xs:List Int) (w:World):∀ (fs:List Field) (i:Nat),gu P fs i=true->i+fs.length=xs.length ->
  (forIn (m:=Sem) fs PUnit.unit (fun f _=>do
   if f.name ≠ "_" then Instr.checkKey emp (m + 1) f.type (<- part f.type (ints xs).toArray f.offset)
   pure (ForInStep.yield PUnit.unit))).run P w=.ok PUnit.unit w
 | [],i,_,_=>by simp
 | f :: fs,i,hf,he=>by
  simp only [List.length_cons] at he
  simp only [gu,Bool.and_eq_true] at hf
  obtain ⟨⟨⟨h1,h2⟩,h3⟩,h4⟩:=hf
  have h2:=Nat.eq_of_beq_eq_true h2
  have hn : f.name ≠ "_" := by simpa using h1
  have hx:i < xs.length:=by omega
  have px:=du (P:=P) h3 (cs:=(ints xs).toArray) (i:=i) (v:=.int .i64 xs[i]) (by simp [ints,hx]) w
  obtain ⟨k,hk⟩:=my h3
  have pc:=ij hk emp m .i64 xs[i] w
  have ih:=ki emp m xs w fs (i+1) h4 (by omega)
  simp only [List.forIn_cons,hn,ne_eq,not_false_eq_true,if_true,h2,Sem.run_bind,px,Result.andThen_ok,pc,Sem.run_pure]
  exact ih
theorem uk {t n:Nat} (h:r5 P t n=true) (emp:Bool) (m:Nat) {xs:List Int} (hx:xs.length=n) (w:World):(Instr.checkKey emp (m+2) t (.agg (ints xs).toArray)).run P w=.ok () w:=by
 obtain ⟨h1,h2,h3,h4,h5⟩:=wl h
 have:=ki (P:=P) emp m xs w (P.fieldsOf t).toList 0 h3 (by omega)
 rw [Instr.checkKey]
 simp only [Sem.run_bind,run_underlying h1,Result.andThen_ok]
 rw [<- Array.forIn_toList]
 rw [show (forIn (P.fieldsOf t).toList PUnit.unit (fun f (_ : PUnit) => (if f.name ≠ "_" then do
   Instr.checkKey emp (m+1) f.type (<- part f.type (ints xs).toArray f.offset)
   Pure.pure (ForInStep.yield PUnit.unit) else Pure.pure (ForInStep.yield PUnit.unit):Sem (ForInStep PUnit)))).run P w=.ok PUnit.unit w from this]
 rfl
theorem wm (n:Nat) (xs:List Int):Instr.sameBits (n+1) (.agg (ints xs).toArray) (.agg (ints xs).toArray)=true:=by
 simp only [Instr.sameBits,beq_self_eq_true,Bool.true_and,List.all_eq_true]
 intro p hp
 have:∀ (l:List Value),p∈l.zip l->p.1=p.2/\p.1∈l:=by
  intro l
  induction l with
  | nil=>intro h;cases h
  | cons a l ih =>
   intro h
   simp only [List.zip_cons_cons,List.mem_cons] at h
   rcases h with rfl | h
   ·simp
   ·have:=ih h
    exact ⟨this.1,List.mem_cons_of_mem _ this.2⟩
 obtain ⟨h1,h2⟩:=this _ hp
 simp only [List.toList_toArray,ints,List.mem_map] at h2
 obtain ⟨a,_,ha⟩:=h2
 obtain ⟨x,y⟩:=p
 simp only at h1 ha ⊢
 subst h1
 rw [<- ha]
 exact ii _ _ _
theorem uz {κ:Type} [DecidableEq κ] (f:κ->List Int) {kt n:Nat} (h:r5 P kt n=true) (hf:∀ k,(f k).length=n) (inj:∀ a b,f a=f b->a=b):KeyLaw P kt (fun k=>Value.agg (ints (f k)).toArray) where
 check emp k w:=uk h emp 9998 (hf k) w
 find k ks es w hk:=by
  obtain ⟨h1,h2,h3,h4,h5⟩:=wl h
  have hask:∀ (ks:List κ) (es:List MapEntry) (i:Nat) (w:World),es.map (·.key)=ks.map (fun k=>Value.agg (ints (f k)).toArray) ->
    (Instr.findAsking kt (Value.agg (ints (f k)).toArray) es i).run P w=.ok (bz k ks es i) w:=by
   intro ks
   induction ks with
   | nil =>
    intro es i w h
    have:es=[]:=by simpa using h
    subst this
    simp [Instr.findAsking,bz]
   | cons k' ks ih =>
    intro es i w h'
    cases es with
    | nil=>simp at h'
    | cons e es =>
     simp only [List.map_cons,List.cons.injEq] at h'
     have he:(Op.equal kt (Value.agg (ints (f k)).toArray) e.key).run P w=.ok (decide (f k=f k')) w:=by
      rw [h'.1]
      exact me h 9998 (hf k) (hf k') w
     simp only [Instr.findAsking,Sem.run_bind,he,Result.andThen_ok,bz]
     by_cases hkk:k=k'
     ·subst hkk;simp
     ·have:¬ f k=f k':=fun e=>hkk (inj _ _ e)
      simp only [this,decide_false,Bool.false_eq_true,if_false,hkk]
      exact ih es (i+1) w h'.2
  cases es with
  | nil =>
   cases ks with
   | nil=>simp [Instr.findKey,run_underlying h1,Instr.findNow,bz]
   | cons k' ks=>simp at hk
  | cons e es =>
   have hnow:Instr.findNow (.struct (P.fieldsOf kt)) (Value.agg (ints (f k)).toArray) (e :: es) 0=none:=by
    simp [Instr.findNow,Instr.sameNow]
   simp only [Instr.findKey,Sem.run_bind,run_underlying h1,Result.andThen_ok,hnow]
   exact hask ks (e :: es) 0 w hk
 stays k:=wm _ _
end
section
variable {P:Program} {B:Base} {n:Fr} {Q Q':Exit->Act->World->Prop} {e:Env} {L:List HP} {ops:Array Oper} {l:List Oper}
variable {d:Nat} {ty:TypeId} {pos:String} {af:Array Edge} {x y z:Operand} {gd:Option (Nat×Bool)}
theorem Qt.eqStr {t u m:Nat} {xs ys:List Int} (ht:r5 P t m=true) (hx:evo e x=some (.agg (ints xs).toArray):=by rfl) (hy:evo e y=some (.agg (ints ys).toArray):=by rfl) (h1:xs.length=m:=by rfl) (h2:ys.length=m:=by rfl) :
  Qt P B n e L ⟨some d,.binOp .eql t x y u,ty,pos,af,gd⟩ (.bool (decide (xs=ys))) :=
 Qt.bin (fun w=>by
  obtain ⟨_,_,_,_,h5⟩:=wl ht
  have:=me ht 9998 h1 h2 w
  rw [Sem.run_bind,run_eqGuard_agg w .eql t x y _ _ h5,Result.andThen_ok,run_eql_struct,this]
  rfl) hx hy
end
def bv (x:UInt8):Value:=.int .u8 (x.toNat:Int)
abbrev aa :=List UInt8
def bvs (xs:aa):List Value:=xs.map bv
theorem ag (xs:aa):(bvs xs).length=xs.length:=by simp [bvs]
theorem mz {xs:aa} {i:Nat} (h:i < xs.length):(bvs xs)[i]?=some (bv (xs.getD i 0)):=by
 simp [bvs,List.getElem?_eq_getElem h,List.getD_eq_getElem?_getD]
theorem bj (xs ys:aa):bvs (xs++ys)=bvs xs++bvs ys:=by simp [bvs]
theorem ck (xs:aa) (k:Nat):bvs (xs.take k)=(bvs xs).take k:=by simp [bvs,List.map_take]
theorem ei (xs:aa) (k:Nat):bvs (xs.drop k)=(bvs xs).drop k:=by simp [bvs,List.map_drop]
theorem r6 (xs:aa) (k:Nat) (x:UInt8):bvs (xs.set k x)=(bvs xs).set k (bv x):=by simp [bvs,List.map_set]
theorem bw (k:Nat):bvs (List.replicate k 0)=List.replicate k (.int .u8 0):=by simp [bvs,bv]
theorem bo (xs:aa):∀ u∈bvs xs,Value.single u=true:=by
 intro u hu
 simp only [bvs,List.mem_map] at hu
 obtain ⟨x,_,rfl⟩:=hu
 rfl
theorem shr3 {k:Int} (h:0<=k):k.fdiv (2 ^ (min (3:Int).toNat IntKind.i64.bits))=k / 8:=by
 have:(2:Int) ^ (min (3:Int).toNat IntKind.i64.bits)=8:=by decide
 rw [this,Int.fdiv_eq_ediv_of_nonneg _ (by omega)]
theorem cf (a:Nat) (h:a < 2 ^ 64):(BitVec.ofInt 64 (a:Int)).toNat=a:=by
 rw [BitVec.ofInt_natCast,BitVec.toNat_ofNat,Nat.mod_eq_of_lt h]
theorem gj (a:Nat) (h:a < 2 ^ 8):(BitVec.ofInt 8 (a:Int)).toNat=a:=by
 rw [BitVec.ofInt_natCast,BitVec.toNat_ofNat,Nat.mod_eq_of_lt h]
theorem Ge {k:IntKind} (hk:k.bits=64) (a b:Nat) (ha:a < 2 ^ 64) (hb:b < 2 ^ 64):band k (a:Int) (b:Int)=k.wrap ((a &&& b:Nat):Int):=by
 unfold band
 congr 2
 rw [BitVec.toNat_and]
 rw [hk,cf a ha,cf b hb]
theorem Sj (a b:Nat) (ha:a < 2 ^ 8) (hb:b < 2 ^ 8):band .u8 (a:Int) (b:Int)=((a &&& b:Nat):Int):=by
 have h:band .u8 (a:Int) (b:Int)=IntKind.u8.wrap ((a &&& b:Nat):Int):=by
  unfold band
  congr 2
  rw [BitVec.toNat_and]
  rw [show IntKind.u8.bits=8 from rfl,gj a ha,gj b hb]
 have:a &&& b<=a:=Nat.and_le_left
 rw [h,IntWalk.u8_in _ (by omega)]
theorem bor_8 (a b:Nat) (ha:a < 2 ^ 8) (hb:b < 2 ^ 8):bor .u8 (a:Int) (b:Int)=((a ||| b:Nat):Int):=by
 have h:bor .u8 (a:Int) (b:Int)=IntKind.u8.wrap ((a ||| b:Nat):Int):=by
  unfold bor
  congr 2
  rw [BitVec.toNat_or]
  rw [show IntKind.u8.bits=8 from rfl,gj a ha,gj b hb]
 have:a ||| b < 2 ^ 8:=Nat.or_lt_two_pow ha hb
 rw [h,IntWalk.u8_in _ (by omega)]
theorem Pr (a b:Nat) (ha:a < 2 ^ 8) (hb:b < 2 ^ 8):Em .u8 (a:Int) (b:Int)=((a ^^^ (a &&& b):Nat):Int):=by
 have h:Em .u8 (a:Int) (b:Int)=IntKind.u8.wrap ((a ^^^ (a &&& b):Nat):Int):=by
  unfold Em
  congr 2
  rw [show IntKind.u8.bits=8 from rfl]
  have h3:(BitVec.ofInt 8 (a:Int) &&& ~~~BitVec.ofInt 8 (b:Int))=(BitVec.ofInt 8 (a:Int) ^^^ (BitVec.ofInt 8 (a:Int) &&& BitVec.ofInt 8 (b:Int))):=by
   apply BitVec.eq_of_getLsbD_eq
   intro i hi
   simp only [BitVec.getLsbD_and,BitVec.getLsbD_not,BitVec.getLsbD_xor]
   cases (BitVec.ofInt 8 (a:Int)).getLsbD i<;>cases (BitVec.ofInt 8 (b:Int)).getLsbD i<;>simp [hi]
  rw [h3,BitVec.toNat_xor,BitVec.toNat_and,gj a ha,gj b hb]
 have:a ^^^ (a &&& b) < 2 ^ 8:=Nat.xor_lt_two_pow ha (Nat.lt_of_le_of_lt Nat.and_le_left ha)
 rw [h,IntWalk.u8_in _ (by omega)]
theorem and7 {k:Int} (h:0<=k) (h2:k<=9223372036854775807):band .i64 k 7=k % 8:=by
 obtain ⟨m,rfl⟩:=Int.eq_ofNat_of_zero_le h
 rw [show (7:Int)=((7:Nat):Int) from rfl,Ge rfl m 7 (by omega) (by decide),show (7:Nat)=2 ^ 3 - 1 from rfl,Nat.and_two_pow_sub_one_eq_mod,IntWalk.i64_in _ (by omega)]
 omega
theorem Gf (x:UInt8):0<=(x.toNat:Int)/\(x.toNat:Int)<=255:=by
 have:=x.toNat_lt
 omega
theorem Sk (x:UInt8) {j:Int} (h0:0<=j) (h7:j<=7):(x.toNat:Int).fdiv (2 ^ (min j.toNat IntKind.u8.bits))=((x.toNat >>> j.toNat:Nat):Int):=by
 have:min j.toNat IntKind.u8.bits=j.toNat:=by simp only [IntKind.bits];omega
 rw [this,Int.fdiv_eq_ediv_of_nonneg _ (by exact Int.le_of_lt (Int.pow_pos (by decide))),Nat.shiftRight_eq_div_pow]
 simp
theorem and1 (m:Nat) (h:m<=255):band .u8 (m:Int) 1=((m % 2:Nat):Int):=by
 rw [show (1:Int)=((1:Nat):Int) from rfl,Sj m 1 (by omega) (by decide),Nat.and_one_is_mod]
def tb (xs:aa) (k:Nat):Bool:=(xs.getD (k / 8) 0).toNat.testBit (k % 8)
theorem np (x j:Nat):decide (((x >>> j) % 2:Nat)=(1:Nat))=x.testBit j:=by
 rw [Nat.testBit,Nat.and_comm,Nat.and_one_is_mod]
 cases h:(x >>> j) % 2 with
 | zero=>simp
 | succ m =>
  have:m=0:=by omega
  subst this
  simp
theorem shl1 {j:Int} (h0:0<=j) (h7:j<=7):IntKind.u8.wrap (1 * 2 ^ (min j.toNat IntKind.u8.bits))=((2 ^ j.toNat:Nat):Int):=by
 have:min j.toNat IntKind.u8.bits=j.toNat:=by simp only [IntKind.bits];omega
 rw [this,Int.one_mul]
 have h8:2 ^ j.toNat<=2 ^ 7:=Nat.pow_le_pow_right (by decide) (by omega)
 have e:(2:Int) ^ j.toNat=((2 ^ j.toNat:Nat):Int):=by simp
 rw [e]
 generalize 2 ^ j.toNat=q at *
 rw [IntWalk.u8_in _ (by omega)]
def qd (x:UInt8) (j:Nat) (on:Bool):UInt8:=if on then UInt8.ofNat (x.toNat ||| 2 ^ j) else UInt8.ofNat (x.toNat ^^^ (x.toNat &&& 2 ^ j))
theorem An (x:UInt8) (j i:Nat) (on:Bool) (hj:j < 8) (hi:i < 8):(qd x j on).toNat.testBit i=if i=j then on else x.toNat.testBit i:=by
 have hx:=x.toNat_lt
 have hp:2 ^ j < 256:=by
  have:2 ^ j<=2 ^ 7:=Nat.pow_le_pow_right (by decide) (by omega)
  omega
 unfold qd
 cases on
 ·simp only [Bool.false_eq_true,if_false]
  have:x.toNat ^^^ (x.toNat &&& 2 ^ j) < 2 ^ 8:=Nat.xor_lt_two_pow (by omega) (Nat.lt_of_le_of_lt Nat.and_le_left (by omega))
  rw [UInt8.toNat_ofNat',Nat.mod_eq_of_lt this,Nat.testBit_xor,Nat.testBit_and,Nat.testBit_two_pow]
  by_cases h:i=j
  ·subst h;simp
  ·have h':¬ j=i:=fun e=>h e.symm
   simp [h,h']
 ·simp only [if_true]
  have:x.toNat ||| 2 ^ j < 2 ^ 8:=Nat.or_lt_two_pow (by omega) (by omega)
  rw [UInt8.toNat_ofNat',Nat.mod_eq_of_lt this,Nat.testBit_or,Nat.testBit_two_pow]
  by_cases h:i=j
  ·subst h;simp
  ·have h':¬ j=i:=fun e=>h e.symm
   simp [h,h']
theorem Ps (x:UInt8) (j:Nat) (h:j<=7):(Value.int .u8 (bor .u8 (x.toNat:Int) ((2 ^ j:Nat):Int)))=bv (qd x j true):=by
 have hx:=x.toNat_lt
 have hp:2 ^ j < 256:=by
  have:2 ^ j<=2 ^ 7:=Nat.pow_le_pow_right (by decide) h
  omega
 have hl:x.toNat ||| 2 ^ j < 2 ^ 8:=Nat.or_lt_two_pow (by omega) (by omega)
 rw [bor_8 _ _ hx hp]
 unfold bv qd
 simp only [if_true]
 rw [UInt8.toNat_ofNat',Nat.mod_eq_of_lt hl]
theorem Gg (x:UInt8) (j:Nat) (h:j<=7):(Value.int .u8 (Em .u8 (x.toNat:Int) ((2 ^ j:Nat):Int)))=bv (qd x j false):=by
 have hx:=x.toNat_lt
 have hp:2 ^ j < 256:=by
  have:2 ^ j<=2 ^ 7:=Nat.pow_le_pow_right (by decide) h
  omega
 have hl:x.toNat ^^^ (x.toNat &&& 2 ^ j) < 2 ^ 8:=Nat.xor_lt_two_pow (by omega) (Nat.lt_of_le_of_lt Nat.and_le_left (by omega))
 rw [Pr _ _ hx hp]
 unfold bv qd
 simp only [Bool.false_eq_true,if_false]
 rw [UInt8.toNat_ofNat',Nat.mod_eq_of_lt hl]
def ej (xs:aa) (k:Nat) (on:Bool):aa:=xs.set (k / 8) (qd (xs.getD (k / 8) 0) (k % 8) on)
theorem k8 (xs:aa) (k:Nat) (on:Bool):(ej xs k on).length=xs.length:=by simp [ej]
theorem wn (xs:aa) (k i:Nat) (on:Bool) (hk:k / 8 < xs.length):tb (ej xs k on) i=if i=k then on else tb xs i:=by
 unfold tb ej
 rw [List.getD_eq_getElem?_getD,List.getElem?_set]
 by_cases h:k / 8=i / 8
 ·rw [if_pos h]
  simp only [hk,if_true,Option.getD_some,<-h]
  rw [An _ _ _ _ (Nat.mod_lt _ (by decide)) (Nat.mod_lt _ (by decide))]
  have:(i % 8=k % 8) ↔ i=k:=by omega
  simp only [this]
 ·rw [if_neg h]
  have:i≠k:=by rintro rfl;exact h rfl
  simp [this,List.getD_eq_getElem?_getD]
theorem qe (xs:aa) (k:Nat) (on:Bool) (x:UInt8) (hx:x=qd (xs.getD (k / 8) 0) (k % 8) on) (i:Nat) (hi:i=k / 8):(bvs xs).set i (bv x)=bvs (ej xs k on):=by
 subst hx hi
 unfold ej
 rw [r6]
def r7 (xs:aa) (n:Nat):Option Nat:=(List.range n).find? fun k=>!tb xs k
def count1 (xs:aa) (n:Nat):Nat:=((List.range n).filter fun k=>tb xs k).length
theorem Sl {xs:aa} {k:Nat} (h:xs.getD (k / 8) 0=255):tb xs k=true:=by
 unfold tb
 rw [h]
 have:k % 8 < 8:=Nat.mod_lt _ (by decide)
 generalize k % 8=j at this
 have h8:j=0 ∨ j=1 ∨ j=2 ∨ j=3 ∨ j=4 ∨ j=5 ∨ j=6 ∨ j=7:=by omega
 rcases h8 with rfl | rfl | rfl | rfl | rfl | rfl | rfl | rfl<;>decide
theorem r8 {xs:aa} {n k:Nat} (hk:k < n) (h0:tb xs k=false) (hb:∀ j < k,tb xs j=true):r7 xs n=some k:=by
 unfold r7
 rw [List.find?_range_eq_some]
 refine ⟨by simp [h0],by simpa using hk,fun j hj=>by simp [hb j hj]⟩
theorem r9 {xs:aa} {n:Nat} (hb:∀ j < n,tb xs j=true):r7 xs n=none:=by
 unfold r7
 rw [List.find?_eq_none]
 intro j hj
 simp [hb j (by simpa using hj)]
theorem Ao (xs:aa):count1 xs 0=0:=rfl
theorem sa (xs:aa) (n:Nat):count1 xs (n+1)=count1 xs n+(if tb xs n then 1 else 0):=by
 unfold count1
 rw [List.range_succ,List.filter_append,List.length_append]
 by_cases h:tb xs n<;>simp [h]
theorem yq (xs:aa) (n:Nat):count1 xs n<=n:=by
 unfold count1
 exact Nat.le_trans (List.length_filter_le _ _) (by simp)
def ax (l:aa):Nat:=l.foldl (fun a x=>a * 256+x.toNat) 0
theorem Ep (l:aa) (x:UInt8):ax (l++[x])=ax l * 256+x.toNat:=by simp [ax]
theorem wo (l:aa):ax l < 256 ^ l.length:=by
 have key:∀ (l:aa) (a k:Nat),a < 256 ^ k->l.foldl (fun a x=>a * 256+x.toNat) a < 256 ^ (k+l.length):=by
  intro l
  induction l with
  | nil=>intro a k h;simpa using h
  | cons x l ih =>
   intro a k h
   have:=x.toNat_lt
   have h2:a * 256+x.toNat < 256 ^ (k+1):=by rw [Nat.pow_succ];omega
   have h3:=ih _ _ h2
   rw [List.foldl_cons,List.length_cons,show k+(l.length+1)=k+1+l.length from by omega]
   exact h3
 have:=key l 0 0 (by decide)
 simpa [ax] using this
def seg (xs:aa) (p size:Nat) (big:Bool):aa:=let l:=(xs.drop p).take size;if big then l else l.reverse
theorem lz {xs:aa} {p size:Nat} {big:Bool} (h:p+size<=xs.length):(seg xs p size big).length=size:=by
 unfold seg
 cases big<;>simp<;>omega
theorem Pt {xs:aa} {p size:Nat} {big:Bool} (h:p+size<=xs.length) {i:Nat} (hi:i < size):(seg xs p size big)[i]?=some (xs.getD (p+(if big then i else size - 1 - i)) 0):=by
 have hg:∀ j,j < size->((xs.drop p).take size)[j]?=some (xs.getD (p+j) 0):=by
  intro j hj
  rw [List.getElem?_take,if_pos hj,List.getElem?_drop,List.getD_eq_getElem?_getD,List.getElem?_eq_getElem (show p+j < xs.length by omega)]
  rfl
 unfold seg
 cases big
 ·simp only [Bool.false_eq_true,if_false]
  rw [List.getElem?_reverse (by simp;omega)]
  rw [show ((xs.drop p).take size).length - 1 - i=size - 1 - i from by simp;omega]
  exact hg _ (by omega)
 ·simp only [if_true]
  exact hg _ hi
theorem jq {xs:aa} {p size:Nat} {big:Bool} (h:p+size<=xs.length) {i:Nat} (hi:i < size):ax ((seg xs p size big).take (i+1))=ax ((seg xs p size big).take i) * 256+(xs.getD (p+(if big then i else size - 1 - i)) 0).toNat:=by
 rw [List.take_add_one,Pt h hi]
 exact Ep _ _
theorem Cg (a x:Nat) (ha:a < 2 ^ 56) (hx:x < 256):bor .u64 (IntKind.u64.wrap ((a:Int) * 2 ^ (min (8:Int).toNat IntKind.u64.bits))) (x:Int)=((a * 256+x:Nat):Int):=by
 have h8:(2:Int) ^ (min (8:Int).toNat IntKind.u64.bits)=256:=by decide
 rw [h8,IntWalk.u64_in _ (by omega)]
 have e:(a:Int) * 256=((a * 256:Nat):Int):=by omega
 rw [e]
 have h:bor .u64 ((a * 256:Nat):Int) (x:Int)=IntKind.u64.wrap (((a * 256) ||| x:Nat):Int):=by
  unfold bor
  congr 2
  rw [BitVec.toNat_or]
  rw [show IntKind.u64.bits=64 from rfl,cf _ (by omega),cf x (by omega)]
 rw [h]
 have hor:(a * 256) ||| x=a * 256+x:=by
  have:=Nat.two_pow_add_eq_or_of_lt (i:=8) (b:=x) (by omega) a
  rw [show (2:Nat) ^ 8 * a=a * 256 from by omega] at this
  exact this.symm
 rw [hor,IntWalk.u64_in _ (by omega)]
def putN (xs:aa) (p size:Nat) (big:Bool) (v:Nat):Nat->aa
 | 0=>xs
 | i+1=>(putN xs p size big v i).set (p+(if big then size - 1 - i else i)) (UInt8.ofNat (v >>> (8 * i)))
theorem gw (xs:aa) (p size:Nat) (big:Bool) (v:Nat):∀ i,(putN xs p size big v i).length=xs.length
 | 0=>rfl
 | i+1=>by rw [putN,List.length_set,gw]
def put (xs:aa) (p size:Nat) (big:Bool) (v:Nat):aa:=putN xs p size big v size
theorem an (xs:aa) (p size:Nat) (big:Bool) (v:Nat):(put xs p size big v).length=xs.length:=gw ..
theorem Gh (v:Nat) (hv:v < 2 ^ 64) {i:Int} (h0:0<=i) (h8:i < 8):IntKind.u8.wrap ((v:Int).fdiv (2 ^ (min (8 * i).toNat IntKind.u64.bits)))=((UInt8.ofNat (v >>> (8 * i.toNat))).toNat:Int):=by
 have h1:min (8 * i).toNat IntKind.u64.bits=8 * i.toNat:=by simp only [IntKind.bits];omega
 rw [h1,Int.fdiv_eq_ediv_of_nonneg _ (by exact Int.le_of_lt (Int.pow_pos (by decide))),UInt8.toNat_ofNat',Nat.shiftRight_eq_div_pow,IntKind.wrap_u8]
 simp
theorem K7 (xs:aa) (i k:Nat) (hk:k < 8):(((xs.getD i 0).toNat >>> k % 2:Nat):Int)=if tb xs (8 * i+k) then 1 else 0:=by
 have h1:(8 * i+k) / 8=i:=by omega
 have h2:(8 * i+k) % 8=k:=by omega
 unfold tb
 rw [h1,h2,<-np]
 have:((xs.getD i 0).toNat >>> k) % 2=0 ∨ ((xs.getD i 0).toNat >>> k) % 2=1:=by omega
 rcases this with h | h<;>rw [h]<;>simp
section
variable {P:Program} {B:Base} {n:Fr} {Q Q':Exit->Act->World->Prop} {e:Env} {L:List HP} {ops:Array Oper} {l:List Oper}
variable {d:Nat} {ty:TypeId} {pos:String} {af:Array Edge} {x y z:Operand} {gd:Option (Nat×Bool)}
theorem ek {w:World} {g off:Nat} {ys:List Value} (h:∀ i,i < ys.length->w.cell? ⟨g,off+i,none⟩=ys[i]?) :
  ∀ (k i:Nat) (acc:Array Value),i+k<=ys.length->(loadCellsFrom ⟨g,off,none⟩ i k acc).run P w=.ok (acc++((ys.drop i).take k).toArray) w:=by
 intro k
 induction k with
 | zero=>intro i acc _;simp [loadCellsFrom]
 | succ k ih =>
  intro i acc hle
  have hc:=h i (by omega)
  rw [List.getElem?_eq_getElem (show i < ys.length by omega)] at hc
  unfold loadCellsFrom
  simp only [bq,load,Sem.run_bind,Sem.run,hc,Result.andThen_ok]
  rw [ih (i+1) _ (by omega)]
  congr 1
  apply Array.toList_inj.1
  have e1:(ys.drop i).take (k+1)=ys[i] :: (ys.drop (i+1)).take k:=by rw [List.drop_eq_getElem_cons (show i < ys.length by omega)];rfl
  rw [e1]
  simp
theorem K8 {w:World} {M:List HP} {tt dd el bytes g k off dl dc m sc:Nat} {A:Option Addr} {xs ys:List Value} {R:HP} (ht:ar P tt el 1 bytes=true) (hs:Sat B w (buf g dd k xs :: M)) (hR:Reads R A ys) (hm:Mem M R) (hl:ys.length=m) (hd:off+dl<=xs.length) (h1:∀ v∈ys,Value.single v=true) (ta:TypeId) (tb':TypeId) :
  ∃ w',(Builtin.copy_ #[tt,ta] tb' #[.slice (some ⟨g,off,none⟩) dl dc,.slice A m sc]).run P w=.ok (.int .i64 ((min m dl:Nat):Int)) w'/\Sat B w' (buf g dd k (xs.take off++ys.take (min m dl)++xs.drop (off+min m dl)) :: M):=by
 obtain ⟨hu,i,z,hi,hsz,hby,hzz⟩:=eh ht
 have hmin:Nat.min m dl=min m dl:=rfl
 -- what is read
 have hload:(Builtin.firstCells 1 (min m dl) (.slice A m sc)).run P w=.ok (ys.take (min m dl)).toArray w:=by
  match A,hR with
  | none,hR =>
   have:ys=[]:=hR
   subst this
   simp [Builtin.firstCells]
  | some ⟨b,o,sp⟩,hR =>
   have hsp:sp=none:=hR.1
   subst hsp
   have hcell:∀ i,i < ys.length->w.cell? ⟨b,o+i,none⟩=ys[i]?:=fun i hi=>hR.cell hs.tail hm hi
   have:=ek (P:=P) hcell (min m dl) 0 #[] (by omega)
   simpa [Builtin.firstCells,loadCells] using this
 have hlen:(ys.take (min m dl)).length=min m dl:=by simp;omega
 obtain ⟨cur,⟨h3,h4,h5⟩,hs1⟩:=hs.openE k7
 have hb:=hs1.get .here
 have hst:=fg (P:=P) (w:=w) (b:=g) (t:=dd) (ys.take (min m dl)) 0 off cur w hb (by rw [hlen];omega) (fun v hv=>h1 v (List.mem_of_mem_take hv))
 simp only [Nat.add_zero,hlen] at hst
 have hval:(Builtin.copy_ #[tt,ta] tb' #[.slice (some ⟨g,off,none⟩) dl dc,.slice A m sc]).run P w=((storeCells ⟨g,off,none⟩ (ys.take (min m dl))).run P w).andThen fun _ w'=>.ok (.int .i64 ((min m dl:Nat):Int)) w':=by
  have hlo:(Builtin.lenOf (.slice A m sc)).run P w=.ok m w:=rfl
  simp [Builtin.copy_,run_underlying hu,hlo,sizeOf,typeInfo,hi,hsz,hmin,hload,goInt]
 rw [hval,hst,Result.andThen_ok]
 refine ⟨_,rfl,?_⟩
 by_cases h0:ys.take (min m dl)=[]
 ·rw [if_pos h0,h0]
  have hz:min m dl=0:=by rw [<- hlen,h0];rfl
  rw [hz]
  simp only [List.append_nil,Nat.add_zero,List.take_append_drop]
  exact hs
 ·rw [if_neg h0]
  refine (hs1.set (.here (y:=pt g (.cells (cur.toList.take off++ys.take (min m dl)++cur.toList.drop (off+min m dl)).toArray dd (0,0))))).imp (L:=[]) fun h hh=>?_
  unfold pt at hh
  unfold buf
  refine ⟨_,hh,?_,?_,?_⟩
  ·simp;omega
  ·have hx:xs=cur.toList.take xs.length:=h4.symm
   apply List.ext_getElem?
   intro j
   have hg:∀ j,j < xs.length->cur.toList[j]?=xs[j]?:=fun j hj=>nk h4 j hj
   simp only [List.length_append,List.length_take,List.length_drop,List.getElem?_take,List.getElem?_append,List.getElem?_drop,Array.length_toList]
   have hc:cur.size=k:=h3
   have hxk:=h5
   by_cases c1:j < off
   ·have:=hg j (by omega)
    grind
   ·by_cases c2:j < off+min m dl
    ·grind
    ·by_cases c3:j < xs.length
     ·have:=hg j c3
      grind
     ·have:xs[j]?=none:=List.getElem?_eq_none (by omega)
      grind
  ·simp;omega
theorem WL.copy {tt dd el bytes g k off dl dc m sc:Nat} {ta:TypeId} {A:Option Addr} {xs ys:List Value} {R:HP} {M:List HP} (ht:ar P tt el 1 bytes=true) (hR:Reads R A ys) (hl:ys.length=m) (h1:∀ v∈ys,Value.single v=true)
  (h:WL P B n ops l Q ((d,.int .i64 ((min m dl:Nat):Int)) :: e) (buf g dd k (xs.take off++ys.take (min m dl)++xs.drop (off+min m dl)) :: M))
  (hx:evo e x=some (.slice (some ⟨g,off,none⟩) dl dc):=by rfl) (hy:evo e y=some (.slice A m sc):=by rfl) (r:Rem L (buf g dd k xs) M:=by repeat (first | exact .here | apply Rem.there)) (hm:Mem M R:=by repeat (first | exact .here | refine .there ?_)) (hdl:off+dl<=xs.length:=by first | (simp only [List.length_replicate,ag];omega) | (simp;omega)) (hd:Nat.ble (d+1) n.k=true:=by rfl) :
  WL P B n ops (⟨some d,.call ⟨.builtin .copy,#[x,y],#[tt,ta]⟩,ty,pos,af,none⟩ :: l) Q e L :=
 WL.step rfl fun a w ha hs=>by
  obtain ⟨w',h2,h3⟩:=K8 (P:=P) (dc:=dc) (sc:=sc) ht (hs.front r) hR hm hl hdl h1 ta ty
  refine ⟨_,w',_,_,?_,ha.put hd _,h3,h⟩
  simp [execOp,resolve,invoke,builtin,ha.eval hx,ha.eval hy,h2]
theorem WL.mkSN {t el bytes:Nat} (k:Nat) {zv:Value} (hz:ba P el=some #[zv]) (ht:ar P t el 1 bytes=true) (hb:bytes * k<=281474976710656) (hm:k<=9223372036854775807) (h:∀ b,WL P B n ops l Q ((d,.slice (some ⟨b,0,none⟩) k k) :: e) (buf b el k (List.replicate k zv) :: L))
  (hx:evo e x=some (.int .i64 (k:Int)):=by rfl) (hy:evo e y=some (.int .i64 (k:Int)):=by rfl) (hd:Nat.ble (d+1) n.k=true:=by rfl) :
  WL P B n ops (⟨some d,.makeSlice t x y,ty,pos,af,none⟩ :: l) Q e L:=by
 have h1:((bytes * k:Nat):Int)<=281474976710656:=by omega
 rw [Int.natCast_mul] at h1
 exact WL.mkS (k:=(k:Int)) hz (fun b=>by simpa using h b) ht (Int.natCast_nonneg _) h1 (by omega) hx hy hd
theorem Er {xs ys:List Value} {m k:Nat} (hm:m=k) (hy:ys.length=m) (hx:xs.length=k):xs.take 0++ys.take (min m k)++xs.drop (0+min m k)=ys:=by
 subst hm
 rw [List.take_zero,List.nil_append,List.take_of_length_le (by omega),List.drop_of_length_le (by omega),List.append_nil]
theorem Gi {xs:List Value} {k:Nat}:xs.take 0++([]:List Value).take (min 0 k)++xs.drop (0+min 0 k)=xs:=by
 rw [Nat.zero_min]
 rfl
theorem WL.fact {A:HP} {φ:Prop} (hA:∀ h,A h->φ) (h:φ->WL P B n ops l Q e L) (hm:Mem L A:=by repeat (first | exact .here | refine .there ?_)):WL P B n ops l Q e L:=by
 intro a w ha hs
 obtain ⟨M,r⟩:=hm.rem
 have hs1:=hs.front r
 obtain ⟨_,_,_,ks,hk⟩:=hs1
 match ks,hk with
 | k0 :: ks,⟨hA0,_⟩=>exact h (hA k0 hA0) a w ha hs
theorem WC.fact {c:Code} {A:HP} {φ:Prop} (hA:∀ h,A h->φ) (h:φ->WC P B n c Q e L) (hm:Mem L A:=by repeat (first | exact .here | refine .there ?_)):WC P B n c Q e L:=by
 intro a w ha hs
 obtain ⟨M,r⟩:=hm.rem
 have hs1:=hs.front r
 obtain ⟨_,_,_,ks,hk⟩:=hs1
 match ks,hk with
 | k0 :: ks,⟨hA0,_⟩=>exact h (hA k0 hA0) a w ha hs
end
def bi (bl:List (Value×aa)):HP:=fun h=>∀ p∈bl,∃ g c cs el,p.1=.slice (some ⟨g,0,none⟩) p.2.length c/\p.2.length<=c/\h g=some (false,.cells cs el (0,0))/\cs.toList.take p.2.length=bvs p.2
theorem jr {bl:List (Value×aa)} {v:Value} {xs:aa} (hm:(v,xs)∈bl):∀ h,bi bl h->∃ g c,v=.slice (some ⟨g,0,none⟩) xs.length c/\xs.length<=c:=by
 intro h hb
 obtain ⟨g,c,cs,el,h1,h2,_⟩:=hb _ hm
 exact ⟨g,c,h1,h2⟩
theorem Reads.blob {bl:List (Value×aa)} {g c m:Nat} {xs:aa} (hm:(.slice (some ⟨g,0,none⟩) m c,xs)∈bl):Reads (bi bl) (some ⟨g,0,none⟩) (bvs xs):=by
 refine ⟨rfl,fun h hb=>?_⟩
 obtain ⟨g',c',cs,el,h1,h2,h3,h4⟩:=hb _ hm
 have:g=g':=by injection h1 with h1;injection h1 with h1;injection h1
 subst this
 refine ⟨false,cs,el,(0,0),h3,fun i hi=>?_⟩
 rw [<- ag] at h4
 have:=nk h4 i hi
 simpa using this
theorem Sat.blobsNil {B:Base} {w:World} {M:List HP} (hs:Sat B w M):Sat B w (bi [] :: M):=by
 obtain ⟨p,q,s,hs,h⟩:=hs
 exact ⟨p,q,s,(fun _=>none) :: hs,(fun _ h=>by cases h),(fun b x h=>by cases h),(fun _ _ b x y h=>by cases h),h⟩
theorem Sat.blobsAdd {B:Base} {w:World} {M:List HP} {bl:List (Value×aa)} {g el k:Nat} {xs:aa} (hk:xs.length<=k) (hs:Sat B w (buf g el k (bvs xs) :: bi bl :: M)):Sat B w (bi ((.slice (some ⟨g,0,none⟩) xs.length k,xs) :: bl) :: M):=by
 obtain ⟨cur,⟨h1,h2,h3⟩,hs1⟩:=hs.openE k7
 have hb:=hs1.get .here
 have hs2:=hs1.freeze (.here (y:=ro g (.cells cur el (0,0))))
 obtain ⟨p,q,s,hs,h⟩:=hs2
 match hs,h with
 | h0 :: h1' :: hs,⟨hr,hle,hd,hbl,hle1,hd1,hrest⟩ =>
  have hr':h0 g=some (false,.cells cur el (0,0)):=by unfold ro at hr;exact hr
  refine ⟨p,q,s,(fun b=>if b=g then some (false,.cells cur el (0,0)) else h1' b) :: hs,?_,?_,?_,hrest⟩
  ·intro p hp
   rcases List.mem_cons.1 hp with rfl | hp
   ·exact ⟨g,k,cur,el,rfl,hk,by simp,by rw [ag] at h2;exact h2⟩
   ·obtain ⟨g',c',cs,el',e1,e2,e3,e4⟩:=hbl p hp
    refine ⟨g',c',cs,el',e1,e2,?_,e4⟩
    by_cases hg:g'=g
    ·subst hg
     have:=hle1 g' _ e3
     rw [hb] at this
     simp only [Option.some.injEq] at this
     simp [this]
    ·simp [hg,e3]
  ·intro b x hx
   by_cases hg:b=g
   ·subst hg
    simp only [if_true,Option.some.injEq] at hx
    subst hx
    exact hb
   ·simp only [hg,if_false] at hx
    exact hle1 b x hx
  ·intro j hj b x y hx hy
   by_cases hg:b=g
   ·subst hg
    simp only [if_true,Option.some.injEq] at hx
    subst hx
    exact ⟨rfl,(hd j (List.mem_cons_of_mem _ hj) b _ y hr' hy).2⟩
   ·simp only [hg,if_false] at hx
    exact hd1 j hj b x y hx hy
attribute [irreducible] bi
section
variable {P:Program} {B:Base} {n:Fr} {Q Q':Exit->Act->World->Prop} {e:Env} {L:List HP} {ops:Array Oper} {l:List Oper}
theorem WL.blobsAdd {bl:List (Value×aa)} {g el k:Nat} {xs:aa} {M N:List HP} (hk:xs.length<=k) (h:WL P B n ops l Q e (bi ((.slice (some ⟨g,0,none⟩) xs.length k,xs) :: bl) :: N)) (r:Rem L (buf g el k (bvs xs)) M:=by repeat (first | exact .here | apply Rem.there)) (r2:Rem M (bi bl) N:=by repeat (first | exact .here | apply Rem.there)):WL P B n ops l Q e L :=
 fun a w ha hs=>h a w ha (Sat.blobsAdd hk (Sat.take (.cons r (.cons r2 .nil)) hs))
theorem WQ.blobsAdd {xt:Exit} {bl:List (Value×aa)} {g el k:Nat} {xs:aa} {M N:List HP} (hk:xs.length<=k) (h:WQ B n Q xt e (bi ((.slice (some ⟨g,0,none⟩) xs.length k,xs) :: bl) :: N)) (r:Rem L (buf g el k (bvs xs)) M:=by repeat (first | exact .here | apply Rem.there)) (r2:Rem M (bi bl) N:=by repeat (first | exact .here | apply Rem.there)):WQ B n Q xt e L :=
 fun a w ha hs=>h a w ha (Sat.blobsAdd hk (Sat.take (.cons r (.cons r2 .nil)) hs))
theorem WC.blobsNil {c:Code} (h:WC P B n c Q e (bi [] :: L)):WC P B n c Q e L:=fun a w ha hs=>h a w ha hs.blobsNil
theorem WQ.blobsNil {xt:Exit} (h:WQ B n Q xt e (bi [] :: L)):WQ B n Q xt e L:=fun a w ha hs=>h a w ha hs.blobsNil
end
def sv (xs:aa):Value:=.string ⟨xs.toArray⟩
section
variable {P:Program} {B:Base} {n:Fr} {Q Q':Exit->Act->World->Prop} {e:Env} {L:List HP} {ops:Array Oper} {l:List Oper}
variable {d:Nat} {ty:TypeId} {pos:String} {af:Array Edge} {x y z:Operand} {gd:Option (Nat×Bool)}
def kr (P:Program) (t:Nat):Bool :=
 match P.underlying t with
 | some .string=>true
 | _=>false
theorem kj {t:Nat} (h:kr P t=true):P.underlying t=some .string:=by
 unfold kr at h
 split at h
 ·assumption
 ·cases h
def o6 (P:Program) (t:Nat):Bool :=
 match P.underlying t with
 | some (.slice e)=>(match P.underlying e with
  | some (.int .u8)=>true
  | _=>false)
 | _=>false
theorem Ch {t:Nat} (h:o6 P t=true):∃ e,P.underlying t=some (.slice e)/\P.underlying e=some (.int .u8):=by
 unfold o6 at h
 split at h
 ·rename_i e hu
  refine ⟨e,hu,?_⟩
  split at h
  ·assumption
  ·cases h
 ·cases h
theorem Es (ns:List Int) (s:ByteArray):(ns.foldl (fun r n=>r.push (UInt8.ofNat n.toNat)) s)=⟨s.data++(ns.map fun n=>UInt8.ofNat n.toNat).toArray⟩:=by
 induction ns generalizing s with
 | nil=>simp
 | cons n ns ih =>
  rw [List.foldl_cons,ih]
  congr 1
  simp [ByteArray.push]
theorem Qt.cvtBS {s t:Nat} {A:Option Addr} {m c:Nat} {xs:aa} {R:HP} (hs:o6 P s=true) (ht:kr P t=true) (hR:Reads R A (bvs xs)) (hl:xs.length=m)
  (hx:evo e x=some (.slice A m c):=by rfl) (hm:Mem L R:=by repeat (first | exact .here | refine .there ?_)):Qt P B n e L ⟨some d,.convert s t x,ty,pos,af,gd⟩ (sv xs) :=
 fun a w ha hsat=>by
  obtain ⟨el,h1,h2⟩:=Ch hs
  have:(convert s t (.slice A m c)).run P w=.ok (sv xs) w:=by
   rw [run_convert_bytes_string w s t el A m c h1 h2 (kj ht)]
   match A,hR with
   | none,hR =>
    have hb:bvs xs=[]:=hR
    have:xs=[]:=by simpa [bvs] using hb
    subst this
    rfl
   | some ⟨b,o,sp⟩,hR =>
    have hsp:sp=none:=hR.1
    subst hsp
    have hcell:∀ i,i < (bvs xs).length->w.cell? ⟨b,o+i,none⟩=(bvs xs)[i]?:=fun i hi=>hR.cell hsat hm hi
    have hl2:=ek (P:=P) hcell m 0 #[] (by rw [ag];omega)
    have hmap:bvs xs=(xs.map fun x=>(x.toNat:Int)).map (Value.int .u8):=by simp [bvs,bv,Function.comp_def]
    have hload:(loadCells ⟨b,o,none⟩ m).run P w=.ok ((xs.map fun x=>(x.toNat:Int)).map (Value.int .u8)).toArray w:=by
     rw [<- hmap]
     have:((bvs xs).drop 0).take m=bvs xs:=by rw [List.drop_zero,List.take_of_length_le (by rw [ag];omega)]
     rw [this] at hl2
     simpa [loadCells] using hl2
    rw [run_bytesToString w _ m c _ hload,Es]
    unfold sv
    congr 3
    simp [Function.comp_def]
  simp [execOp,ha.eval hx,this]
theorem WL.cvtBS {s t:Nat} {A:Option Addr} {m c:Nat} {xs:aa} {R:HP} (h:WL P B n ops l Q ((d,sv xs) :: e) L) (hs:o6 P s=true) (ht:kr P t=true) (hR:Reads R A (bvs xs)) (hl:xs.length=m)
  (hx:evo e x=some (.slice A m c):=by rfl) (hm:Mem L R:=by repeat (first | exact .here | refine .there ?_)) (hd:Nat.ble (d+1) n.k=true:=by rfl):WL P B n ops (⟨some d,.convert s t x,ty,pos,af,none⟩ :: l) Q e L :=
 WL.pure h hd (Qt.cvtBS (hs:=hs) (ht:=ht) (hR:=hR) (hl:=hl) (hx:=hx) (hm:=hm))
theorem yr (op:BinOp) (t:TypeId) (x y:Operand) (p q:ByteArray) (w:World):(eqGuard op t x y (.string p) (.string q)).run P w=.ok () w:=by
 cases op<;>simp [eqGuard]
theorem Qt.strs {op:BinOp} {t u:TypeId} {xs ys:ByteArray} {r:Value} (hr:∀ w,(binOp op t (.string xs) (.string ys)).run P w=.ok r w) (hx:evo e x=some (.string xs):=by rfl) (hy:evo e y=some (.string ys):=by rfl) :
  Qt P B n e L ⟨some d,.binOp op t x y u,ty,pos,af,gd⟩ r :=
 Qt.bin (fun w=>by simp only [Sem.run_bind,yr,Result.andThen_ok,hr]) hx hy
theorem Od (xs ys:aa):((⟨xs.toArray⟩:ByteArray).toList==(⟨ys.toArray⟩:ByteArray).toList)=decide (xs=ys):=by
 rw [ByteArray.toList_eq,ByteArray.toList_eq]
 by_cases h:xs=ys<;>simp [h]
theorem Qt.eqS {t u:TypeId} (xs ys:aa) (hx:evo e x=some (sv xs):=by rfl) (hy:evo e y=some (sv ys):=by rfl) :
  Qt P B n e L ⟨some d,.binOp .eql t x y u,ty,pos,af,gd⟩ (.bool (decide (xs=ys))) :=
 Qt.strs (fun w=>by rw [binOp_string_eql,<-Od];rfl) hx hy
theorem WL.eqS {t u:TypeId} (xs ys:aa) (h:WL P B n ops l Q ((d,.bool (decide (xs=ys))) :: e) L) (hx:evo e x=some (sv xs):=by rfl) (hy:evo e y=some (sv ys):=by rfl) (hd:Nat.ble (d+1) n.k=true:=by rfl) :
  WL P B n ops (⟨some d,.binOp .eql t x y u,ty,pos,af,none⟩ :: l) Q e L:=WL.pure h hd (Qt.eqS xs ys (hx:=hx) (hy:=hy))
theorem Qt.neS {t u:TypeId} (xs ys:aa) (hx:evo e x=some (sv xs):=by rfl) (hy:evo e y=some (sv ys):=by rfl) :
  Qt P B n e L ⟨some d,.binOp .neq t x y u,ty,pos,af,gd⟩ (.bool (!decide (xs=ys))) :=
 Qt.strs (fun w=>by rw [binOp_string_neq,<-Od];rfl) hx hy
theorem WL.neS {t u:TypeId} (xs ys:aa) (h:WL P B n ops l Q ((d,.bool (!decide (xs=ys))) :: e) L) (hx:evo e x=some (sv xs):=by rfl) (hy:evo e y=some (sv ys):=by rfl) (hd:Nat.ble (d+1) n.k=true:=by rfl) :
  WL P B n ops (⟨some d,.binOp .neq t x y u,ty,pos,af,none⟩ :: l) Q e L:=WL.pure h hd (Qt.neS xs ys (hx:=hx) (hy:=hy))
theorem Sat.storeRow {w:World} {M:List HP} {g dd k:Nat} {xs:List Value} (hs:Sat B w (buf g dd k xs :: M)) (off:Nat) (vs:List Value) (hle:off+vs.length<=xs.length) (h1:∀ v∈vs,Value.single v=true) :
  ∃ w',(storeCells ⟨g,off,none⟩ vs).run P w=.ok () w'/\Sat B w' (buf g dd k (xs.take off++vs++xs.drop (off+vs.length)) :: M):=by
 obtain ⟨cur,⟨h3,h4,h5⟩,hs1⟩:=hs.openE k7
 have hb:=hs1.get .here
 have hst:=fg (P:=P) (w:=w) (b:=g) (t:=dd) vs 0 off cur w hb (by omega) h1
 simp only [Nat.add_zero] at hst
 rw [hst]
 refine ⟨_,rfl,?_⟩
 by_cases h0:vs=[]
 ·rw [if_pos h0,h0]
  simp only [List.append_nil,List.length_nil,Nat.add_zero,List.take_append_drop]
  exact hs
 ·rw [if_neg h0]
  refine (hs1.set (.here (y:=pt g (.cells (cur.toList.take off++vs++cur.toList.drop (off+vs.length)).toArray dd (0,0))))).imp (L:=[]) fun h hh=>?_
  unfold pt at hh
  unfold buf
  refine ⟨_,hh,?_,?_,?_⟩
  ·simp;omega
  ·apply List.ext_getElem?
   intro j
   have hg:∀ j,j < xs.length->cur.toList[j]?=xs[j]?:=fun j hj=>nk h4 j hj
   simp only [List.length_append,List.length_take,List.length_drop,List.getElem?_take,List.getElem?_append,List.getElem?_drop,Array.length_toList]
   have hc:cur.size=k:=h3
   by_cases c1:j < off
   ·have:=hg j (by omega)
    grind
   ·by_cases c2:j < off+vs.length
    ·grind
    ·by_cases c3:j < xs.length
     ·have:=hg j c3
      grind
     ·have:xs[j]?=none:=List.getElem?_eq_none (by omega)
      grind
  ·simp;omega
theorem WL.copyS {tt dd el bytes g k off dl dc:Nat} {ta:TypeId} {xs:List Value} {M:List HP} (ys:aa) (ht:ar P tt el 1 bytes=true)
  (h:WL P B n ops l Q ((d,.int .i64 ((min ys.length dl:Nat):Int)) :: e) (buf g dd k (xs.take off++(bvs ys).take (min ys.length dl)++xs.drop (off+min ys.length dl)) :: M))
  (hx:evo e x=some (.slice (some ⟨g,off,none⟩) dl dc):=by rfl) (hy:evo e y=some (sv ys):=by rfl) (r:Rem L (buf g dd k xs) M:=by repeat (first | exact .here | apply Rem.there)) (hdl:off+dl<=xs.length:=by first | decide | omega | (simp only [List.length_replicate];decide) | (simp only [ag];omega)) (hd:Nat.ble (d+1) n.k=true:=by rfl) :
  WL P B n ops (⟨some d,.call ⟨.builtin .copy,#[x,y],#[tt,ta]⟩,ty,pos,af,none⟩ :: l) Q e L :=
 WL.step rfl fun a w ha hs=>by
  -- like if the text lay in a block of its own
  have hs':Sat B w (buf g dd k xs :: M):=hs.front r
  obtain ⟨hu,i,z,hi,hsz,hby,hzz⟩:=eh ht
  have hlen:((bvs ys).take (min ys.length dl)).length=min ys.length dl:=by rw [List.length_take,ag];omega
  have hcells:(Builtin.firstCells 1 (min ys.length dl) (sv ys)).run P w=.ok ((bvs ys).take (min ys.length dl)).toArray w:=by
   simp [Builtin.firstCells,sv,bvs,bv,List.map_take,Function.comp_def]
   rfl
  obtain ⟨w',h2,h3⟩:=Sat.storeRow (P:=P) hs' off ((bvs ys).take (min ys.length dl)) (by rw [hlen];omega) (fun v hv=>bo ys v (List.mem_of_mem_take hv))
  rw [hlen] at h3
  refine ⟨_,w',_,_,?_,ha.put hd _,h3,h⟩
  have hlo:(Builtin.lenOf (sv ys)).run P w=.ok ys.length w:=by simp [sv,Builtin.lenOf,ByteArray.size]
  simp [execOp,resolve,invoke,builtin,ha.eval hx,ha.eval hy,Builtin.copy_,run_underlying hu,hlo,sizeOf,typeInfo,hi,hsz,show Nat.min ys.length dl=min ys.length dl from rfl,hcells,goInt,h2]
theorem Qt.makeFuncB {fn:Fn} {rs cs:List Operand} {us vs:List Value} (hr:evos e rs=some us:=by rfl) (hx:evos e cs=some vs:=by rfl) :
  Qt P B n e L ⟨some d,.makeFunc fn rs.toArray cs.toArray,ty,pos,af,gd⟩ (.func fn us.toArray vs.toArray) :=
 fun a w ha hs=>by
  have h1:rs.map a.eval=us:=fj ha hr
  have h2:cs.map a.eval=vs:=fj ha hx
  simp [execOp,Instr.makeFunc,h1,h2]
theorem WL.makeFuncB {fn:Fn} {rs cs:List Operand} {us vs:List Value} (h:WL P B n ops l Q ((d,.func fn us.toArray vs.toArray) :: e) L) (hr:evos e rs=some us:=by rfl) (hx:evos e cs=some vs:=by rfl) (hd:Nat.ble (d+1) n.k=true:=by rfl) :
  WL P B n ops (⟨some d,.makeFunc fn rs.toArray cs.toArray,ty,pos,af,none⟩ :: l) Q e L :=
 WL.pure h hd (Qt.makeFuncB (hr:=hr) (hx:=hx))
theorem WL.callF {f:FuncId} {t:Nat} {us cap:Array Value} {xs:List Operand} {tys:Array TypeId} {vs:List Value} {pre Lr:List HP} {R:List HP->Value->List HP->Prop}
  (hf:evo e (.tmp t)=some (.func (.func f) us cap)) (hx:evos e xs=some vs)
  (hc:∀ args w,(callFunc f args).run P w=.ok (.enter f args) w) (sp:Spec P f (us++vs.toArray++cap) pre R)
  (h:∀ v M,R Lr v M->WL P B n ops l Q ((d,v) :: e) M) (tk:Tk L pre Lr) (hd:Nat.ble (d+1) n.k=true:=by rfl) :
  WL P B n ops (⟨some d,.call ⟨.value (.tmp t),xs.toArray,tys⟩,ty,pos,af,none⟩ :: l) Q e L:=by
 intro a w ha hs
 refine wpList_plain rfl fun K hK=>?_
 have hargs:xs.map a.eval=vs:=fj ha hx
 have hrun:(execOp a.eval ⟨some d,.call ⟨.value (.tmp t),xs.toArray,tys⟩,ty,pos,af,none⟩).run P w=.ok (.enter f (us++vs.toArray++cap)) w:=by
  simp [execOp,resolve,Deferred.ofValue,ha.eval hf,invoke,hargs,hc]
 unfold Oper.wp
 rw [hrun]
 simp only [Oper.upon_enter]
 refine (sp B Lr w (hs.take tk)).mono ?_
 rintro _ w' ⟨v,M,rfl,hR,hsat⟩
 exact hK _ _ (h v M hR _ w' (ha.put hd v) hsat)
end
theorem ae {el size k:Nat} {v:Value} {xs:List Value}:∀ h,rowR el size v k xs h->∃ A c,v=.slice A k c/\Reads (rowR el size v k xs) A xs/\k<=c/\c<=maxLen/\xs.length=k * size:=by
 intro h hh
 unfold rowR at hh
 obtain ⟨h1,h2⟩:=hh
 rcases h2 with ⟨rfl,rfl⟩ | ⟨g,cap,cur,rfl,h3,h4,h5,h6,h7⟩
 ·refine ⟨none,0,rfl,?_,Nat.le_refl _,Nat.zero_le _,h1⟩
  show xs=[]
  exact List.eq_nil_of_length_eq_zero (by rw [h1];omega)
 ·refine ⟨some ⟨g,0,none⟩,cap,rfl,⟨rfl,fun h' hh'=>?_⟩,h4,h5,h1⟩
  unfold rowR at hh'
  obtain ⟨q1,q2⟩:=hh'
  rcases q2 with ⟨q2,_⟩ | ⟨g',cap',cur',q2,q3,q4,q5,q6,q7⟩
  ·simp at q2
  ·injection q2 with q21 q22 q23
   injection q21 with q21
   injection q21 with q21
   subst q21
   refine ⟨true,cur',el,(0,0),q3,fun i hi=>?_⟩
   rw [<- q1] at q7
   have:=nk q7 i hi
   simpa using this
section
variable {P:Program} {B:Base} {n:Fr} {Q Q':Exit->Act->World->Prop} {e:Env} {L L0:List HP} {ops:Array Oper} {l:List Oper} {ds:List Nat}
theorem Gj {i fuel:Nat} {o:Oper} {lst':Array Bool} (hi:ops[i]?=some o) {a:Act} {w:World} (h3:wpList P ops (Qone P B ops Q L0 ds i fuel lst') [o] a w) :
  wpOp P ops Q i (fun a' w'=>(i ∉ ds->Sat B w' L0)/\rz P ops Q (fun w=>Sat B w L0) ds fuel lst' a' w') a w:=by
 unfold wpOp
 simp only [hi]
 unfold wpList at h3
 split
 ·rename_i hw
  rw [if_pos hw] at h3
  rcases h3 with h3 | ⟨h4,b,wb,h5⟩
  ·refine .inl ?_
   unfold Oper.wp at h3 ⊢
   generalize (execOp a.eval o).run P w=r at h3 ⊢
   cases r with
   | ok x w' =>
    cases x<;>simp only [Oper.upon] at h3 ⊢<;>exact h3
   | halt x w'=>cases x<;>simp only [Oper.upon] at h3 ⊢<;>exact h3
  ·exact .inr ⟨h4,b,wb,h5⟩
 ·rename_i hw
  rw [if_neg hw] at h3
  exact h3
def twoC (ops:Array Oper) (l l1 l2:Array Bool) (i j:Nat):Bool:=(Region.ready .any ops l==[i,j]) && (l.setIfInBounds i true==l1) && (l.setIfInBounds j true==l2)
theorem WD.two {i j fuel:Nat} {o o':Oper} {lst:Array Bool} (l1 l2:Array Bool) (hi:ops[i]?=some o) (hj:ops[j]?=some o') (hc:twoC ops lst l1 l2 i j=true)
  (h1:NoPanic Q->WL P B n ops [o] (Qone P B ops Q L0 ds i fuel l1) e L) (h2:NoPanic Q->WL P B n ops [o'] (Qone P B ops Q L0 ds j fuel l2) e L):WD P B n ops Q L0 ds (fuel+1) lst e L:=by
 intro hQ a w ha hs
 simp only [twoC,Bool.and_eq_true,beq_iff_eq] at hc
 obtain ⟨⟨h3,h4⟩,h5⟩:=hc
 subst h4
 subst h5
 refine ⟨(fun h0=>by rw [h3] at h0;cases h0),fun k hk=>?_⟩
 rw [h3] at hk
 have hk:k=i ∨ k=j:=by simpa using hk
 rcases hk with rfl | rfl
 ·exact Gj hi (h1 hQ a w ha hs)
 ·exact Gj hj (h2 hQ a w ha hs)
theorem WD.tw {fuel:Nat} {lst:Array Bool} (i j:Nat) {o o':Oper} (hi:ops[i]?=some o) (hj:ops[j]?=some o')
  (h1:NoPanic Q->WL P B n ops [o] (Qone P B ops Q L0 ds i fuel (lst.setIfInBounds i true)) e L) (h2:NoPanic Q->WL P B n ops [o'] (Qone P B ops Q L0 ds j fuel (lst.setIfInBounds j true)) e L) (hc:twoC ops lst (lst.setIfInBounds i true) (lst.setIfInBounds j true) i j=true:=by kernel_rfl):WD P B n ops Q L0 ds (fuel+1) lst e L:=WD.two _ _ hi hj hc h1 h2
def RC (P:Program) (B:Base) (n:Fr) (c:Code) (Q:Exit->Act->World->Prop) (k:Nat) (e:Env) (L:List HP):Prop:=∀ a w,Ag n e a->Sat B w L->Code.rounds P c Q k a w
theorem WC.loopN {c:Code} (k:Nat) (h:RC P B n c Q k e L):WC P B n (.loop c) Q e L:=fun a w ha hs=>wp_loop_rounds k (h a w ha hs)
theorem RC.succ {c:Code} {k:Nat} (h:WC P B n c (Exit.then (Code.rounds P c Q k) Q) e L):RC P B n c Q (k+1) e L:=fun a w ha hs=>h a w ha hs
theorem WQ.again {c:Code} {k:Nat} (h:RC P B n c Q k e L):WQ B n (Exit.then (Code.rounds P c Q k) Q) .normal e L:=fun a w ha hs=>h a w ha hs
end
theorem Mem.mid {I:List HP} {A:HP} {F:List HP}:Mem (I++A :: F) A:=by
 induction I with
 | nil=>exact .here
 | cons x I ih=>exact .there ih
theorem Tk.app {I F:List HP}:Tk (I++F) I F:=by
 induction I with
 | nil=>exact .nil
 | cons x I ih=>exact .cons .here ih
theorem Tk.behind {I F:List HP} {A:HP}:Tk (A :: (I++F)) I (A :: F):=by
 induction I with
 | nil=>exact .nil
 | cons x I ih=>exact .cons (.there .here) ih
theorem Am.app {I F:List HP}:Am (I++F) F:=by
 induction I with
 | nil=>exact .refl
 | cons x I ih=>exact .skip ih
theorem Rem.right {X Y F:List HP} {A:HP} (h:Rem X A Y):Rem (X++F) A (Y++F):=by
 induction h with
 | here=>exact .here
 | there _ ih=>exact .there ih
theorem Am.right {X Y F:List HP} (h:Am X Y):Am (X++F) (Y++F):=by
 induction h with
 | refl=>exact .refl
 | nil=>exact Am.app
 | skip _ ih=>exact .skip ih
 | take r _ ih =>
  exact .take r.right ih
theorem Tk.right {L I K F:List HP} (h:Tk L I K):Tk (L++F) I (K++F):=by
 induction h with
 | nil=>exact .nil
 | cons r _ ih =>
  exact .cons r.right ih
theorem Sat.pure {B:Base} {w:World} {L:List HP} {A:HP} (hA:A fun _=>none) (h:Sat B w L):Sat B w (A :: L):=by
 obtain ⟨a,b,c,hs,h⟩:=h
 exact ⟨a,b,c,(fun _=>none) :: hs,hA,(fun _ _ h=>by cases h),(fun _ _ _ _ _ h=>by cases h),h⟩
section
variable {P:Program} {B:Base} {n:Fr} {Q Q':Exit->Act->World->Prop} {e:Env} {L:List HP} {ops:Array Oper} {l:List Oper}
theorem WL.emp {A:HP} (hA:A fun _=>none) (h:WL P B n ops l Q e (A :: L)):WL P B n ops l Q e L:=fun a w ha hs=>h a w ha (hs.pure hA)
theorem WC.emp {c:Code} {A:HP} (hA:A fun _=>none) (h:WC P B n c Q e (A :: L)):WC P B n c Q e L:=fun a w ha hs=>h a w ha (hs.pure hA)
theorem WQ.emp {x:Exit} {A:HP} (hA:A fun _=>none) (h:WQ B n Q x e (A :: L)):WQ B n Q x e L:=fun a w ha hs=>h a w ha (hs.pure hA)
theorem WL.rowOpen {el size k:Nat} {v:Value} {xs:List Value} (h:∀ A c,v=.slice (some A) k c->Reads (rowR el size v k xs) (some A) xs->k<=c->c<=maxLen->WL P B n ops l Q e L) (hm:Mem L (rowR el size v k xs):=by repeat (first | exact .here | refine .there ?_)) (hx:xs≠[]:=by simp):WL P B n ops l Q e L :=
 WL.fact ae (fun ⟨A,c,h1,h2,h3,h4,h5⟩=>by
  match A,h2 with
  | none,h2=>exact absurd h2 hx
  | some A,h2=>exact h A c h1 h2 h3 h4) hm
theorem Spec.weak {f:FuncId} {args:Array Value} {pre:List HP} {R R':List HP->Value->List HP->Prop} (h:Spec P f args pre R) (hr:∀ F v M,R F v M->∃ M',R' F v M'/\Am M M'):Spec P f args pre R' :=
 fun B F w hs=>(h B F w hs).mono fun e w' ⟨v,M,he,hR,hM⟩=>by
  obtain ⟨M',h1,h2⟩:=hr F v M hR
  exact ⟨v,M',he,h1,h2.wk B w' hM⟩
end
def frz (os:List (Nat×Obj)):HP:=fun h=>∀ p∈os,h p.1=some (false,p.2)
theorem sb :frz [] (fun _=>none):=fun p hp=>by cases hp
theorem Sat.frzAdd {B:Base} {w:World} {M:List HP} {os:List (Nat×Obj)} {b:Nat} {o:Obj} (hs1:Sat B w (pt b o :: frz os :: M)):Sat B w (frz ((b,o) :: os) :: M):=by
 have hb:=hs1.get .here
 have hs2:=hs1.freeze (.here (y:=ro b o))
 obtain ⟨p,q,s,hs,h⟩:=hs2
 match hs,h with
 | h0 :: h1' :: hs,⟨hr,hle,hd,hbl,hle1,hd1,hrest⟩ =>
  have hr':h0 b=some (false,o):=by unfold ro at hr;exact hr
  refine ⟨p,q,s,(fun c=>if c=b then some (false,o) else h1' c) :: hs,?_,?_,?_,hrest⟩
  ·intro p hp
   rcases List.mem_cons.1 hp with rfl | hp
   ·simp
   ·have e3:=hbl p hp
    by_cases hg:p.1=b
    ·have:=hle1 p.1 _ e3
     rw [hg,hb] at this
     simp only [Option.some.injEq] at this
     simp [hg,this]
    ·simp [hg,e3]
  ·intro c x hx
   by_cases hg:c=b
   ·subst hg
    simp only [if_true,Option.some.injEq] at hx
    subst hx
    exact hb
   ·simp only [hg,if_false] at hx
    exact hle1 c x hx
  ·intro j hj c x y hx hy
   by_cases hg:c=b
   ·subst hg
    simp only [if_true,Option.some.injEq] at hx
    subst hx
    exact ⟨rfl,(hd j (List.mem_cons_of_mem _ hj) c _ y hr' hy).2⟩
   ·simp only [hg,if_false] at hx
    exact hd1 j hj c x y hx hy
theorem Reads.frz {os:List (Nat×Obj)} {b e:Nat} {cs:Array Value} {fr:Nat×Nat} (h:(b,Obj.cells cs e fr)∈os):Reads (frz os) (some ⟨b,0,none⟩) cs.toList :=
 ⟨rfl,fun k hk=>⟨false,cs,e,fr,hk _ h,fun i hi=>by simp⟩⟩
attribute [irreducible] frz
section
variable {P:Program} {B:Base} {n:Fr} {Q Q':Exit->Act->World->Prop} {e:Env} {L:List HP} {ops:Array Oper} {l:List Oper}
theorem WL.frzAdd {os:List (Nat×Obj)} {b:Nat} {o:Obj} {M N:List HP} (h:WL P B n ops l Q e (frz ((b,o) :: os) :: N)) (r:Rem L (pt b o) M:=by repeat (first | exact .here | apply Rem.there)) (r2:Rem M (frz os) N:=by repeat (first | exact .here | apply Rem.there)):WL P B n ops l Q e L :=
 fun a w ha hs=>h a w ha (Sat.frzAdd (Sat.take (.cons r (.cons r2 .nil)) hs))
theorem WQ.frzAdd {x:Exit} {os:List (Nat×Obj)} {b:Nat} {o:Obj} {M N:List HP} (h:WQ B n Q x e (frz ((b,o) :: os) :: N)) (r:Rem L (pt b o) M:=by repeat (first | exact .here | apply Rem.there)) (r2:Rem M (frz os) N:=by repeat (first | exact .here | apply Rem.there)):WQ B n Q x e L :=
 fun a w ha hs=>h a w ha (Sat.frzAdd (Sat.take (.cons r (.cons r2 .nil)) hs))
end
section
variable {P:Program} {B:Base} {n:Fr} {Q Q':Exit->Act->World->Prop} {e:Env} {L:List HP} {ops:Array Oper} {l:List Oper}
variable {d:Nat} {ty:TypeId} {pos:String} {af:Array Edge} {x y z:Operand} {gd:Option (Nat×Bool)}
theorem Qt.ldAR {t k b off i:Nat} {R:HP} {xs us:List Value} (hag:c5 P t k=true) (hR:Reads R (some ⟨b,off,none⟩) xs) (hus:(xs.drop i).take k=us) (hk:i+k<=xs.length)
  (hx:evo e x=some (.pointer (some ⟨b,off+i,none⟩)):=by rfl) (hm:Mem L R:=by repeat (first | exact .here | refine .there ?_)):Qt P B n e L ⟨some d,.load t x,ty,pos,af,gd⟩ (.agg us.toArray) :=
 fun a w ha hs=>by
  have hcell:∀ j,j < (xs.drop i).length->w.cell? ⟨b,off+i+j,none⟩=(xs.drop i)[j]?:=fun j hj=>by
   have:=hR.cell hs hm (i:=i+j) (by simp at hj;omega)
   rw [show off+(i+j)=off+i+j from by omega] at this
   rw [this,List.getElem?_drop]
  have hl2:=ek (P:=P) hcell k 0 #[] (by simp;omega)
  have:(loadVar t ⟨b,off+i,none⟩).run P w=.ok (.agg us.toArray) w:=by
   have h3:(loadCells ⟨b,off+i,none⟩ k).run P w=.ok us.toArray w:=by
    rw [List.drop_zero,hus] at hl2
    simpa [loadCells] using hl2
   simp [loadVar,nj hag,wi hag,h3]
  simp [execOp,ha.eval hx,Instr.loadAt,Instr.sureAddr,this]
theorem WL.ldAR {t k b off i:Nat} {R:HP} {xs us:List Value} (h:WL P B n ops l Q ((d,.agg us.toArray) :: e) L) (hag:c5 P t k=true) (hR:Reads R (some ⟨b,off,none⟩) xs) (hus:(xs.drop i).take k=us) (hk:i+k<=xs.length)
  (hx:evo e x=some (.pointer (some ⟨b,off+i,none⟩)):=by rfl) (hm:Mem L R:=by repeat (first | exact .here | refine .there ?_)) (hd:Nat.ble (d+1) n.k=true:=by rfl):WL P B n ops (⟨some d,.load t x,ty,pos,af,none⟩ :: l) Q e L :=
 WL.pure h hd (Qt.ldAR (hag:=hag) (hR:=hR) (hus:=hus) (hk:=hk) (hx:=hx) (hm:=hm))
theorem WL.appendAny {t el size bytes m c:Nat} {A:Option Addr} {v:Value} {k:Nat} {xs news:List Value} {R:HP} {M:List HP} (ht:ar P t el size bytes=true) (hsz:0 < size)
  (r:Rem L (rowR el size v k xs) M) (hR:Reads R A news) (hm:Mem M R) (hl:news.length=m * size) (hone:∀ u∈news,Value.single u=true) (h63:k+m<=maxLen) (hbytes:(k+m) * bytes<=140737488355328)
  (hzc:∃ zz,ba P el=some zz/\zz.size=size)
  (h:∀ v',(v'=.slice none 0 0 ↔ v=.slice none 0 0/\m=0)->WL P B n ops l Q ((d,v') :: e) (rowR el size v' (k+m) (xs++news) :: M)) (hx:evo e x=some v:=by rfl) (hy:evo e y=some (.slice A m c):=by rfl) (hd:Nat.ble (d+1) n.k=true:=by rfl) :
  WL P B n ops (⟨some d,.call ⟨.builtin .append,#[x,y],#[t,t]⟩,ty,pos,af,none⟩ :: l) Q e L:=by
 match A,hR with
 | some ⟨b,off,sp⟩,hR =>
  have hsp:sp=none:=hR.1
  subst hsp
  exact WL.append ht hsz r hR hm hl hone h63 hbytes hzc h hx hy hd
 | none,hR =>
  have hn:news=[]:=hR
  subst hn
  have hm0:m=0:=by
   rcases Nat.eq_zero_or_pos m with h0 | h0
   ·exact h0
   ·have:=Nat.mul_pos h0 hsz
    simp at hl
    omega
  subst hm0
  have h:=h v (by simp)
  rw [List.append_nil,Nat.add_zero] at h
  refine WL.step rfl fun a w ha hs=>⟨v,w,_,_,?_,ha.put hd _,hs.front r,h⟩
  obtain ⟨hu,i,zz,hi,hsz',hby,hz⟩:=eh ht
  have hv:∃ A k' c',v=.slice A k' c'/\k'<=c':=by
   obtain ⟨_,_,_,ks,hk⟩:=hs.front r
   match ks,hk with
   | k0 :: ks,⟨hA0,_⟩ =>
    obtain ⟨A,c',h1,h2,h3,_⟩:=ae _ hA0
    exact ⟨A,k,c',h1,h3⟩
  obtain ⟨A,k',c',rfl,hkc⟩:=hv
  have hni:∀ q,P.underlying t≠some (.int q):=fun q hq=>by rw [hu] at hq;cases hq
  cases A<;>simp [execOp,resolve,invoke,builtin,ha.eval hx,ha.eval hy,Builtin.append_,run_underlying hu,sizeOf,typeInfo,hi,Builtin.lenOf,hkc,Builtin.firstCells,storeCells]
end
def Join (B:Base) (n:Fr) {σ:Type} (E:σ->Env) (I:σ->List HP) (p:σ->Prop) (Q:Exit->Act->World->Prop):Exit->Act->World->Prop
 | .normal,a,w=>∃ s,p s/\Ag n (E s) a/\Sat B w (I s)
 | x,a,w=>Q x a w
section
variable {P:Program} {B:Base} {n:Fr} {Q:Exit->Act->World->Prop} {e:Env} {L:List HP}
theorem WC.join {c:Code} {σ:Type} (E:σ->Env) (I:σ->List HP) (p:σ->Prop) (h:WC P B n c (Join B n E I p Q) e L) (rest:∀ s,p s->WQ B n Q .normal (E s) (I s)):WC P B n c Q e L:=by
 intro a w ha hs
 refine wp_mono (h a w ha hs) ?_
 intro x a' w' hq
 cases x with
 | normal =>
  obtain ⟨s,hp,ha',hs'⟩:=hq
  exact rest s hp a' w' ha' hs'
 | _=>exact hq
theorem WQ.joined {σ:Type} {E:σ->Env} {I:σ->List HP} {p:σ->Prop} (s:σ) (hp:p s) (he:Env.le (E s) e:=by repeat (first | exact Env.le_nil _ | refine Env.le_cons rfl ?_)) (hI:Am L (I s):=by repeat (first | exact .refl | exact .nil | (apply Am.take;focus ((repeat (first | exact .here | apply Rem.there));done)) | refine .skip ?_)) :
  WQ B n (Join B n E I p Q) .normal e L:=fun a w ha hs=>⟨s,hp,ha.weak he,hI.wk B w hs⟩
theorem NoPanic.join {σ:Type} {E:σ->Env} {I:σ->List HP} {p:σ->Prop} (h:NoPanic Q):NoPanic (Join B n E I p Q):=h
theorem NoPanic.autoJ (h:NoPanic Q:=by repeat (first | exact NoPanic.body | refine NoPanic.then ?_ | refine NoPanic.block ?_ | refine NoPanic.join ?_)):NoPanic Q:=h
end
section
variable {P:Program} {B:Base} {n:Fr} {Q:Exit->Act->World->Prop} {e:Env} {L:List HP} {ops:Array Oper} {l:List Oper}
variable {ty:TypeId} {pos:String} {af:Array Edge} {x y:Operand}
theorem WL.stV {t b k:Nat} {cs us:Array Value} {t0:TypeId} {L':List HP} (h:WL P B n ops l Q e L') (hag:c5 P t k=true)
  (hx:evo e x=some (.pointer (some ⟨b,0,none⟩)):=by rfl) (hy:evo e y=some (.agg us):=by rfl)
  (hr:Repl L (pt b (.cells cs t0 (0,0))) (pt b (.cells us t0 (0,0))) L':=by repeat (first | exact .here | apply Repl.there)) (hk0:Nat.ble 1 k=true:=by rfl) (hk:us.size=k:=by rfl) (hc:cs.size=k:=by rfl) (hsing:us.toList.all Value.single=true:=by rfl) :
  WL P B n ops (⟨none,.store t x y,ty,pos,af,none⟩ :: l) Q e L:=WL.stW h hag hk0 hk hc hsing hx hy hr
end
def arrV (xs:aa):Value:=.agg (bvs xs).toArray
section
variable {P:Program} {B:Base} {n:Fr} {Q Q':Exit->Act->World->Prop} {e:Env} {L:List HP} {ops:Array Oper} {l:List Oper}
variable {d:Nat} {ty:TypeId} {pos:String} {af:Array Edge} {x y z:Operand} {gd:Option (Nat×Bool)}
theorem WL.stArr {t b k el:Nat} {cs:Array Value} {xs:aa} {M:List HP} (h:WL P B n ops l Q e (buf b el k (bvs xs) :: M)) (hag:c5 P t k=true) (hk:xs.length=k) (hk0:0 < k) (hc:cs.size=k)
  (hx:evo e x=some (.pointer (some ⟨b,0,none⟩)):=by rfl) (hy:evo e y=some (arrV xs):=by rfl) (r:Rem L (pt b (.cells cs el (0,0))) M:=by repeat (first | exact .here | apply Rem.there)) :
  WL P B n ops (⟨none,.store t x y,ty,pos,af,none⟩ :: l) Q e L:=by
 have hne:(bvs xs)≠[]:=fun h=>by have:=ag xs;rw [h] at this;simp at this;omega
 intro a w ha hs
 have hs1:=hs.front r
 refine WL.stW (L:=pt b (.cells cs el (0,0)) :: M) (L':=pt b (.cells (bvs xs).toArray el (0,0)) :: M) (us:=(bvs xs).toArray) (k:=k) ?_ hag (Nat.ble_eq_true_of_le hk0) (by simp [ag,hk]) hc (List.all_eq_true.2 fun v hv=>bo xs v (by simpa using hv)) hx hy .here a w ha hs1
 intro a w ha hs
 refine h a w ha (hs.imp (L:=[]) ?_)
 intro hh h1
 have h2:=c6 (xs:=bvs xs) (by simp) hh h1
 rw [ag,hk] at h2
 exact h2
theorem Qt.toArr {t el k m c:Nat} {A:Option Addr} (ht:P.underlying t=some (.array k el)) (hx:evo e x=some (.slice A m c):=by rfl) (hk:k<=m:=by omega) :
  Qt P B n e L ⟨some d,.sliceToArrayPointer t x,ty,pos,af,gd⟩ (.pointer A) :=
 fun a w ha hs=>by
  have:¬ m < k:=by omega
  simp [execOp,ha.eval hx,Instr.arrayAt,run_underlying ht,this]
theorem WL.toArr {t el k m c:Nat} {A:Option Addr} (h:WL P B n ops l Q ((d,.pointer A) :: e) L) (ht:P.underlying t=some (.array k el)) (hx:evo e x=some (.slice A m c):=by rfl) (hk:k<=m:=by omega) (hd:Nat.ble (d+1) n.k=true:=by rfl) :
  WL P B n ops (⟨some d,.sliceToArrayPointer t x,ty,pos,af,none⟩ :: l) Q e L :=
 WL.pure h hd (Qt.toArr (ht:=ht) (hx:=hx) (hk:=hk))
end
theorem wq (k:Nat):Array.replicate k (Value.int .u8 0)=(bvs (List.replicate k 0)).toArray:=by
 rw [bw]
 apply Array.toList_inj.1
 rw [Array.toList_replicate]
theorem Gk :Value.agg (Array.replicate 512 (Value.int .u8 0))=arrV (List.replicate 512 0):=by
 unfold arrV;rw [wq]
theorem Sat.below {B:Base} {w w':World} {L:List HP} (h:Sat B w L) (hb:RowKit.Below w.heap.size w w'):Sat B w' L:=by
 obtain ⟨p,q,s,hs,h⟩:=h
 refine ⟨hb.os.trans p,hb.tape.trans q,hb.output.trans s,hs,h.moved fun k hk b x hx=>?_⟩
 exact hb.block b (Array.getElem?_eq_some_iff.1 (h.les k hk b x hx)).1
theorem Sat.newRow {B:Base} {w w':World} {L:List HP} {el size k:Nat} {v:Value} {xs:List Value} (h:Sat B w L) (hb:RowKit.Below w.heap.size w w') (ho:w'.ownsRow w.heap.size el size v k xs):Sat B w' (rowR el size v k xs :: L):=by
 have h':=h.below hb
 rcases ho with ⟨h1,⟨rfl,h2⟩ | ⟨g,cap,cur,rfl,h3,h4,h5,h6,h7,h8⟩⟩
 ·refine h'.pure ?_
  unfold rowR
  exact ⟨h1,.inl ⟨rfl,h2⟩⟩
 ·obtain ⟨p,q,s,hs,hh⟩:=h
  obtain ⟨p',q',s',_⟩:=h'
  refine ⟨p',q',s',one g (true,.cells cur el (0,0)) :: hs,?_,?_,?_,hh.moved fun k hk b x hx=>hb.block b (Array.getElem?_eq_some_iff.1 (hh.les k hk b x hx)).1⟩
  ·unfold rowR
   exact ⟨h1,.inr ⟨g,cap,cur,rfl,yj _ _,h5,h6,h7,h8⟩⟩
  ·intro b x hx
   obtain ⟨rfl,rfl⟩:=md hx
   exact h4
  ·intro k hk b x y hx hy
   obtain ⟨rfl,rfl⟩:=md hx
   have:=(Array.getElem?_eq_some_iff.1 (hh.les k hk _ y hy)).1
   omega
theorem Et {P:Program} {kt:Nat} {w:World} {b c:Nat} {es:Array MapEntry} {kvs:List (Int×Value)} (hk:P.underlying kt=some (.int .i64)) (hb:w.heap[b]?=some (.map es c)) (hm:MapIs (Value.int .i64) es c kvs) (hs:kvs.length<=maxLen)
  (hr:∀ p∈kvs,-9223372036854775808<=p.1/\p.1<=9223372036854775807) :
  ∃ D:DataW Unit,w.ownsMap P kt (fun _=>some (.nil,[])) b kvs.length D/\Maps.size D=kvs.length/\(Go.intKeys D).Perm (kvs.map (·.1)):=by
 have hlen:=hm.length
 have hkey:∀ x∈es.toList,∃ k:Int,x.key=.int .i64 k/\WideElems.rd P kt (fun _=>some ((.nil:DataW Unit),[])) x=some (.int .i64 k,.nil):=by
  intro x hx
  have h1:x.key∈es.toList.map (·.key):=List.mem_map.2 ⟨x,hx,rfl⟩
  rw [hm.keys] at h1
  obtain ⟨p,hp,hpx⟩:=List.mem_map.1 h1
  have hb:=hr p hp
  refine ⟨p.1,hpx.symm,?_⟩
  unfold WideElems.rd
  rw [<- hpx,Maps.keyOf_int_mk hk (by simp [Lit.wf,IntKind.min,IntKind.max,IntKind.bits,IntKind.signed];omega)]
  rfl
 have hrg:(es.toList.map (WideElems.rg P kt (fun _=>some ((.nil:DataW Unit),[])))).map (fun p=>Go.intOf p.1)=kvs.map (·.1):=by
  have h2:(es.toList.map (·.key)).map (fun v=>match v with | .int _ q=>q | _=>0)=kvs.map (·.1):=by
   rw [hm.keys,List.map_map];rfl
  rw [<- h2,List.map_map,List.map_map]
  apply List.map_congr_left
  intro x hx
  obtain ⟨k,h3,h4⟩:=hkey x hx
  simp only [Function.comp_apply,WideElems.rg,h4,Option.getD_some,h3]
  rfl
 refine ⟨_,⟨es,c,hb,⟨by omega,⟨hm.lt,?_,?_⟩,fun x hx=>?_⟩,by omega,rfl⟩,?_,?_⟩
 ·exact hm.born.imp (fun h=>Nat.ne_of_lt h)
 ·rw [hm.keys]
  have:=hm.nodup
  rw [show (kvs.map fun p=>Value.int .i64 p.1)=(kvs.map (·.1)).map (Value.int .i64) from by rw [List.map_map];rfl]
  exact List.Pairwise.map _ (fun a b h1 h2=>h1 (by injection h2)) this
 ·obtain ⟨k,_,h4⟩:=hkey x hx
  exact ⟨_,h4⟩
 ·show (List.foldr DataW.insert [] _).length=_
  rw [DataW.length_sorted,List.length_map]
  simpa using hlen
 ·show ((List.foldr DataW.insert [] _).map fun p=>Go.intOf p.1).Perm _
  rw [<- hrg]
  exact (WideShapes.sorted_perm _).map _
theorem Am.trans_mid {I F:List HP} {A:HP}:Am (I++A :: F) (I++F):=by
 induction I with
 | nil=>exact .skip .refl
 | cons x I ih=>exact .take .here ih
theorem Am.toMid {I F:List HP} {A:HP}:Am (A :: (I++F)) (I++A :: F):=by
 induction I with
 | nil=>exact .refl
 | cons x I ih=>exact .take (.there .here) ih
section
variable {P:Program} {f:FuncId} {args:Array Value} {pre:List HP} {R R':List HP->Value->List HP->Prop}
theorem Spec.opens {A:HP} {α:Type} {p:α->Prop} {Ls:α->List HP} (o:Opens A p Ls) (h:∀ y,p y->Spec P f args (Ls y++pre) R):Spec P f args (A :: pre) R:=by
 intro B F w hs
 obtain ⟨y,hy,h1⟩:=Sat.opens (M:=pre++F) hs o
 exact h y hy B F w (by rw [List.append_assoc];exact h1)
theorem Spec.post (h:Spec P f args pre R) (hr:∀ F v M,R F v M->∃ M',R' F v M'/\Wk M M'):Spec P f args pre R' :=
 fun B F w hs=>(h B F w hs).mono fun e w' ⟨v,M,he,hR,hM⟩=>by
  obtain ⟨M',h1,h2⟩:=hr F v M hR
  exact ⟨v,M',he,h1,h2 B w' hM⟩
theorem Wk.shutR {A:HP} {α:Type} {p:α->Prop} {Ls:α->List HP} {M:List HP} (o:Opens A p Ls) (x:α) (hp:p x):Wk (Ls x++M) (A :: M):=fun _ _ h=>Sat.shuts o hp h
theorem Wk.second {A C:HP} {α:Type} {p:α->Prop} {Ls:α->HP} {M:List HP} (o:Opens A p fun x=>[Ls x]) (x:α) (hp:p x):Wk (C :: Ls x :: M) (C :: A :: M):=fun B w h =>
 Sat.front (.there .here) (Sat.shuts (M:=C :: M) o hp (Sat.front (.there .here) h))
end
section
variable {P:Program} {B:Base} {n:Fr} {Q:Exit->Act->World->Prop} {e:Env} {L:List HP} {ops:Array Oper} {l:List Oper}
variable {d:Nat} {ty:TypeId} {pos:String} {af:Array Edge} {x y z:Operand} {gd:Option (Nat×Bool)}
theorem Qt.minI {p q:Int} {tys:Array TypeId} (hx:evo e x=some (.int .i64 p):=by rfl) (hy:evo e y=some (.int .i64 q):=by rfl) :
  Qt P B n e L ⟨some d,.call ⟨.builtin .min,#[x,y],tys⟩,ty,pos,af,gd⟩ (.int .i64 (if q < p then q else p)) :=
 fun a w ha hs=>by
  simp [execOp,resolve,invoke,builtin,ha.eval hx,ha.eval hy,Builtin.min_,Builtin.min2]
theorem WL.minI {p q:Int} {tys:Array TypeId} (h:WL P B n ops l Q ((d,.int .i64 (if q < p then q else p)) :: e) L) (hx:evo e x=some (.int .i64 p):=by rfl) (hy:evo e y=some (.int .i64 q):=by rfl) (hd:Nat.ble (d+1) n.k=true:=by rfl) :
  WL P B n ops (⟨some d,.call ⟨.builtin .min,#[x,y],tys⟩,ty,pos,af,none⟩ :: l) Q e L:=WL.pure h hd (Qt.minI (hx:=hx) (hy:=hy))
end
section
variable {P:Program} {B:Base} {n:Fr} {e:Env} {L:List HP} {fn:Func} {F:List HP} {R:List HP->Value->List HP->Prop}
theorem K9 {a:Act} {w:World} {r s t q:ResultVar} {v u y x:Value} (h:fn.results=#[r,s,t,q]) (ha:Ag n e a) (hs:Sat B w L) (h1:RV P e L r v) (h2:RV P e L s u) (h3:RV P e L t y) (h4:RV P e L q x) :
  (results fn a.tmps).run P w=.ok (.tuple #[v,u,y,x]) w:=by
 have k1:=h1.run ha hs
 have k2:=h2.run ha hs
 have k3:=h3.run ha hs
 have k4:=h4.run ha hs
 simp [i9,h,k1,k2,k3,k4]
theorem WQ.ret4 {xt:Exit} {r s t q:ResultVar} {v u y x:Value} (h:∃ M,R F (.tuple #[v,u,y,x]) M/\Am L M) (hres:fn.results=#[r,s,t,q]:=by rfl) (h1:RV P e L r v:=by first | exact .tmp rfl | exact .cell rfl (by kernel_rfl) (by repeat (first | exact .here | refine .there ?_)) rfl | exact .agg rfl (by kernel_rfl) (by repeat (first | exact .here | refine .there ?_)) rfl) (h2:RV P e L s u:=by first | exact .tmp rfl | exact .cell rfl (by kernel_rfl) (by repeat (first | exact .here | refine .there ?_)) rfl | exact .agg rfl (by kernel_rfl) (by repeat (first | exact .here | refine .there ?_)) rfl) (h3:RV P e L t y:=by first | exact .tmp rfl | exact .cell rfl (by kernel_rfl) (by repeat (first | exact .here | refine .there ?_)) rfl | exact .agg rfl (by kernel_rfl) (by repeat (first | exact .here | refine .there ?_)) rfl) (h4:RV P e L q x:=by first | exact .tmp rfl | exact .cell rfl (by kernel_rfl) (by repeat (first | exact .here | refine .there ?_)) rfl | exact .agg rfl (by kernel_rfl) (by repeat (first | exact .here | refine .there ?_)) rfl)
  (hx:(xt=.ret ∨ xt=.normal):=by first | exact .inl rfl | exact .inr rfl) (hD:n.ds=[]:=by rfl):WQ B n (bodyPost P fn (Post B F R)) xt e L:=by
 obtain ⟨M,hR,hk⟩:=h
 intro a w ha hs
 rcases hx with rfl | rfl<;>exact eg (K9 hres ha hs h1 h2 h3 h4) (ha.defers.trans hD) hR (hk.wk B w hs)
end
section
variable {P:Program} {B:Base} {n:Fr} {Q:Exit->Act->World->Prop} {e:Env} {L:List HP} {ops:Array Oper} {l:List Oper}
variable {d:Nat} {ty:TypeId} {pos:String} {af:Array Edge} {x y z:Operand} {gd:Option (Nat×Bool)}
theorem Qt.neg {p:Int} {t:TypeId} (hx:evo e x=some (.int .i64 p):=by rfl) (hb:-9223372036854775808<=-p/\-p<=9223372036854775807:=by omega) :
  Qt P B n e L ⟨some d,.unOp .neg t x,ty,pos,af,gd⟩ (.int .i64 (-p)) :=
 fun a w ha hs=>by simp [execOp,ha.eval hx,Op.unary,Op.intArith,IntWalk.i64_in _ hb]
theorem WL.neg {p:Int} {t:TypeId} (h:WL P B n ops l Q ((d,.int .i64 (-p)) :: e) L) (hx:evo e x=some (.int .i64 p):=by rfl) (hb:-9223372036854775808<=-p/\-p<=9223372036854775807:=by omega) (hd:Nat.ble (d+1) n.k=true:=by rfl) :
  WL P B n ops (⟨some d,.unOp .neg t x,ty,pos,af,none⟩ :: l) Q e L:=WL.pure h hd (Qt.neg (hx:=hx) (hb:=hb))
end
def whole (w:World):HP:=fun h=>∀ b o,w.heap[b]?=some o->h b=some (false,o)
theorem Sat.wholeOf (w:World):Sat (Base.of w) w [whole w] :=
 ⟨rfl,rfl,rfl,[fun b=>(w.heap[b]?).map fun o=>(false,o)],fun b o h=>by simp [h],(fun b x h=>by
  simp only [Option.map_eq_some_iff] at h
  obtain ⟨o,h1,rfl⟩:=h
  exact h1),(fun k hk=>by cases hk),trivial⟩
theorem Sat.old {B:Base} {w w':World} {L:List HP} (h:Sat B w' L) (m:Mem L (whole w)) {b:Nat} (hb:b < w.heap.size):w'.heap[b]?=w.heap[b]?:=by
 obtain ⟨M,r⟩:=m.rem
 obtain ⟨_,_,_,hs,h⟩:=h.front r
 match hs,h with
 | h0 :: hs,⟨hp,hle,_⟩ =>
  have h1:w.heap[b]?=some w.heap[b]:=Array.getElem?_eq_getElem hb
  rw [h1]
  exact hle b _ (hp b _ h1)
theorem Sat.belowOld {w w':World} {L:List HP} (h:Sat (Base.of w) w' L) (m:Mem L (whole w)):RowKit.Below w.heap.size w w':=by
 refine ⟨h.1,h.2.1,h.2.2.1,?_,fun k hk=>h.old m hk⟩
 rcases Nat.lt_or_ge w'.heap.size w.heap.size with hlt | hge
 ·have:=h.old m hlt
  rw [Array.getElem?_eq_none (Nat.le_refl _),Array.getElem?_eq_getElem hlt] at this
  cases this
 ·exact hge
theorem Reads.whole {w:World} {b off e:Nat} {cs:Array Value} {fr:Nat×Nat} {xs:List Value} (h:w.heap[b]?=some (.cells cs e fr)) (hx:∀ i,i < xs.length->cs[off+i]?=xs[i]?):Reads (whole w) (some ⟨b,off,none⟩) xs :=
 ⟨rfl,fun k hk=>⟨false,cs,e,fr,hk b _ h,hx⟩⟩
theorem mixed :Tryz.prog.follows .mixedOrders=true:=by kernel_rfl
theorem f9 :c5 Tryz.prog 121 7=true:=by kernel_rfl
theorem qf :c5 Tryz.prog 192 2=true:=by kernel_rfl
theorem yt :c5 Tryz.prog 200 512=true:=by kernel_rfl
theorem k9 :c5 Tryz.prog 205 2=true:=by kernel_rfl
theorem u5 :c5 Tryz.prog 222 2=true:=by kernel_rfl
theorem by79 :o6 Tryz.prog 79=true:=by kernel_rfl
theorem se :ad Tryz.prog 121 1 1=true:=by kernel_rfl
theorem sf :ad Tryz.prog 121 2 2=true:=by kernel_rfl
theorem Ap :ad Tryz.prog 121 3 3=true:=by kernel_rfl
theorem Aq :ad Tryz.prog 121 4 4=true:=by kernel_rfl
theorem Ar :ad Tryz.prog 121 5 5=true:=by kernel_rfl
theorem wu :ad Tryz.prog 121 6 6=true:=by kernel_rfl
theorem wv :ad Tryz.prog 189 0 0=true:=by kernel_rfl
theorem Gl :ad Tryz.prog 189 1 1=true:=by kernel_rfl
theorem As :ad Tryz.prog 189 2 2=true:=by kernel_rfl
theorem sh :ad Tryz.prog 189 3 3=true:=by kernel_rfl
theorem Gm :ad Tryz.prog 189 4 4=true:=by kernel_rfl
theorem Pu :ad Tryz.prog 189 5 5=true:=by kernel_rfl
theorem Gn :ad Tryz.prog 189 6 6=true:=by kernel_rfl
theorem ww :ad Tryz.prog 192 0 0=true:=by kernel_rfl
theorem wx :ad Tryz.prog 192 1 1=true:=by kernel_rfl
theorem wy :ad Tryz.prog 199 0 0=true:=by kernel_rfl
theorem si :ad Tryz.prog 199 1 1=true:=by kernel_rfl
theorem Gp :ad Tryz.prog 199 2 2=true:=by kernel_rfl
theorem jt :ad Tryz.prog 199 3 3=true:=by kernel_rfl
theorem Pv :ad Tryz.prog 205 0 0=true:=by kernel_rfl
theorem At :ad Tryz.prog 205 1 1=true:=by kernel_rfl
theorem la :ad Tryz.prog 210 0 0=true:=by kernel_rfl
theorem iw :ad Tryz.prog 210 1 1=true:=by kernel_rfl
theorem sj :ad Tryz.prog 222 0 0=true:=by kernel_rfl
theorem Au :ad Tryz.prog 222 1 1=true:=by kernel_rfl
theorem ix :ad Tryz.prog 228 0 0=true:=by kernel_rfl
theorem Av :ad Tryz.prog 228 1 1=true:=by kernel_rfl
theorem ec :ad Tryz.prog 228 2 2=true:=by kernel_rfl
theorem Pw :ad Tryz.prog 228 3 3=true:=by kernel_rfl
theorem iy :ad Tryz.prog 228 4 4=true:=by kernel_rfl
theorem m0 :ad Tryz.prog 228 5 5=true:=by kernel_rfl
theorem Gq :ad Tryz.prog 233 0 0=true:=by kernel_rfl
theorem Px :ad Tryz.prog 233 1 1=true:=by kernel_rfl
theorem Aw :jp Tryz.prog 140 3 200=true:=by kernel_rfl
theorem Sm :jp Tryz.prog 185 3 79=true:=by kernel_rfl
theorem Py :jp Tryz.prog 186 321 79=true:=by kernel_rfl
theorem yu :jp Tryz.prog 187 3 3=true:=by kernel_rfl
theorem La :jp Tryz.prog 226 233 79=true:=by kernel_rfl
theorem Gr :mt Tryz.prog 28=true:=by kernel_rfl
theorem Ci :mt Tryz.prog 124=true:=by kernel_rfl
theorem km :mt Tryz.prog 128=true:=by kernel_rfl
theorem qg :mt Tryz.prog 129=true:=by kernel_rfl
theorem sc3 :ai Tryz.prog 3=true:=by kernel_rfl
theorem sc4 :ai Tryz.prog 4=true:=by kernel_rfl
theorem sc5 :ai Tryz.prog 5=true:=by kernel_rfl
theorem sc26 :ai Tryz.prog 26=true:=by kernel_rfl
theorem sc28 :ai Tryz.prog 28=true:=by kernel_rfl
theorem sc34 :ai Tryz.prog 34=true:=by kernel_rfl
theorem sc79 :ai Tryz.prog 79=true:=by kernel_rfl
theorem sc92 :ai Tryz.prog 92=true:=by kernel_rfl
theorem fy :ai Tryz.prog 104=true:=by kernel_rfl
theorem sm :ai Tryz.prog 124=true:=by kernel_rfl
theorem dj :ai Tryz.prog 128=true:=by kernel_rfl
theorem lb :ai Tryz.prog 129=true:=by kernel_rfl
theorem wz :ai Tryz.prog 140=true:=by kernel_rfl
theorem Sn :ai Tryz.prog 185=true:=by kernel_rfl
theorem Pz :ai Tryz.prog 186=true:=by kernel_rfl
theorem Gs :ai Tryz.prog 187=true:=by kernel_rfl
theorem Lb :ai Tryz.prog 190=true:=by kernel_rfl
theorem Ax :ai Tryz.prog 226=true:=by kernel_rfl
theorem sl26 :Tryz.prog.underlying 26=some (.slice 3):=by kernel_rfl
theorem sl79 :Tryz.prog.underlying 79=some (.slice 5):=by kernel_rfl
theorem So :Tryz.prog.underlying 136=some (.slice 92):=by kernel_rfl
theorem sl193 :Tryz.prog.underlying 193=some (.slice 192):=by kernel_rfl
theorem sl207 :Tryz.prog.underlying 207=some (.slice 205):=by kernel_rfl
theorem Ay :Tryz.prog.underlying 216=some (.slice 222):=by kernel_rfl
theorem sl322 :Tryz.prog.underlying 322=some (.slice 104):=by kernel_rfl
theorem so26 :ar Tryz.prog 26 3 1 8=true:=by kernel_rfl
theorem so79 :ar Tryz.prog 79 5 1 1=true:=by kernel_rfl
theorem m7 :ar Tryz.prog 136 92 1 8=true:=by kernel_rfl
theorem Lc :ar Tryz.prog 193 192 2 16=true:=by kernel_rfl
theorem Sp :ar Tryz.prog 207 205 2 16=true:=by kernel_rfl
theorem Ld :ar Tryz.prog 216 222 2 32=true:=by kernel_rfl
theorem so322 :ar Tryz.prog 322 104 1 8=true:=by kernel_rfl
theorem st9 :kr Tryz.prog 9=true:=by kernel_rfl
theorem un3 :Tryz.prog.underlying 3=some (.int .i64):=by kernel_rfl
theorem un5 :Tryz.prog.underlying 5=some (.int .u8):=by kernel_rfl
theorem cx :Tryz.prog.underlying 104=some (.int .u64):=by kernel_rfl
theorem Lf :Tryz.prog.underlying 200=some (.array 512 5):=by kernel_rfl
theorem z3 :ba Tryz.prog 3=some (#[.int .i64 0]):=by kernel_rfl
theorem z5 :ba Tryz.prog 5=some (#[.int .u8 0]):=by kernel_rfl
theorem z34 :ba Tryz.prog 34=some (#[.int .i64 0]):=by kernel_rfl
theorem z79 :ba Tryz.prog 79=some (#[.slice none 0 0]):=by kernel_rfl
theorem z92 :ba Tryz.prog 92=some (#[.nilFunc]):=by kernel_rfl
theorem z104 :ba Tryz.prog 104=some (#[.int .u64 0]):=by kernel_rfl
theorem z121 :ba Tryz.prog 121=some (#[.int .i64 0,.int .i64 0,.int .i64 0,.int .i64 0,.int .i64 0,.int .i64 0,.int .i64 0]):=by kernel_rfl
theorem z192 :ba Tryz.prog 192=some (#[.pointer none,.int .i64 0]):=by kernel_rfl
theorem z200 :ba Tryz.prog 200=some (Array.replicate 512 (.int .u8 0)):=by kernel_rfl
theorem z205 :ba Tryz.prog 205=some (#[.int .i64 0,.int .i64 0]):=by kernel_rfl
theorem z222 :ba Tryz.prog 222=some (#[.int .i64 0,.slice none 0 0]):=by kernel_rfl
theorem zv3 :zvOf Tryz.prog 3=some ((.int .i64 0)):=by kernel_rfl
theorem zv79 :zvOf Tryz.prog 79=some ((.slice none 0 0)):=by kernel_rfl
theorem P0 :zvOf Tryz.prog 200=some (.agg (Array.replicate 512 (.int .u8 0))):=by kernel_rfl
section
variable {P:Program} {B:Base} {n:Fr} {Q Q':Exit->Act->World->Prop} {e:Env} {L:List HP} {ops:Array Oper} {l:List Oper}
variable {d:Nat} {ty:TypeId} {pos:String} {af:Array Edge} {x y z:Operand} {gd:Option (Nat×Bool)}
def row (b el:Nat) (xs:List Value):HP:=pt b (.cells xs.toArray el (0,0))
def mc (P:Program) (t el k size:Nat):Bool :=
 match P.underlying t with
 | some (.array m e)=>Nat.beq m k && Nat.beq e el && (match P.info? el with
  | some i=>Nat.beq i.size size
  | none=>false)
 | _=>false
theorem yv {t el k size:Nat} (h:mc P t el k size=true):P.underlying t=some (.array k el)/\∃ i,P.info? el=some i/\i.size=size:=by
 unfold mc at h
 split at h
 ·rename_i m e hu
  simp only [Bool.and_eq_true] at h
  obtain ⟨⟨h1,h2⟩,h3⟩:=h
  have h1:=Nat.eq_of_beq_eq_true h1
  have h2:=Nat.eq_of_beq_eq_true h2
  subst h1;subst h2
  split at h3
  ·rename_i i hi
   exact ⟨hu,i,hi,Nat.eq_of_beq_eq_true h3⟩
  ·cases h3
 ·cases h
theorem Qt.idxA {t el size b off k:Nat} {p:Int} {kk:IntKind} (ht:mc P t el k size=true)
  (hx:evo e x=some (.pointer (some ⟨b,off,none⟩)):=by rfl) (hy:evo e y=some (.int kk p):=by rfl) (hp:0<=p/\p < k:=by omega) :
  Qt P B n e L ⟨some d,.indexAddr t x y,ty,pos,af,gd⟩ (.pointer (some ⟨b,off+p.toNat * size,none⟩)) :=
 fun a w ha hs=>by
  obtain ⟨hu,i,hi,hsz⟩:=yv ht
  simp [execOp,ha.eval hx,ha.eval hy,Instr.indexAt,asIntOf,run_underlying hu,hp,sizeOf,typeInfo,hi,hsz,bq,Instr.sureAddr]
theorem WL.idxA {t el size b off k:Nat} {p:Int} {kk:IntKind} (h:WL P B n ops l Q ((d,.pointer (some ⟨b,off+p.toNat * size,none⟩)) :: e) L) (ht:mc P t el k size=true)
  (hx:evo e x=some (.pointer (some ⟨b,off,none⟩)):=by rfl) (hy:evo e y=some (.int kk p):=by rfl) (hp:0<=p/\p < k:=by omega) (hd:Nat.ble (d+1) n.k=true:=by rfl) :
  WL P B n ops (⟨some d,.indexAddr t x y,ty,pos,af,none⟩ :: l) Q e L :=
 WL.pure h hd (Qt.idxA (ht:=ht) (hp:=hp) (hx:=hx) (hy:=hy))
theorem Qt.ixV {t el k:Nat} {p:Int} {kk:IntKind} {cs:Array Value} {v:Value} (ht:mc P t el k 1=true) (hsc:ai P el=true) (hv:cs[p.toNat]?=some v)
  (hx:evo e x=some (.agg cs):=by rfl) (hy:evo e y=some (.int kk p):=by rfl) (hp:0<=p/\p < k:=by omega) :
  Qt P B n e L ⟨some d,.index t x y,ty,pos,af,gd⟩ v :=
 fun a w ha hs=>by
  obtain ⟨hu,i,hi,hsz⟩:=yv ht
  have hpart:(part el cs p.toNat).run P w=.ok v w:=by simp [part,fx hsc,hv]
  simp [execOp,ha.eval hx,ha.eval hy,Instr.index,asIntOf,run_underlying hu,hp,sizeOf,typeInfo,hi,hsz,hpart]
theorem WL.ixV {t el k:Nat} {p:Int} {kk:IntKind} {cs:Array Value} {v:Value} (h:WL P B n ops l Q ((d,v) :: e) L) (ht:mc P t el k 1=true) (hsc:ai P el=true) (hv:cs[p.toNat]?=some v)
  (hx:evo e x=some (.agg cs):=by rfl) (hy:evo e y=some (.int kk p):=by rfl) (hp:0<=p/\p < k:=by omega) (hd:Nat.ble (d+1) n.k=true:=by rfl) :
  WL P B n ops (⟨some d,.index t x y,ty,pos,af,none⟩ :: l) Q e L:=WL.pure h hd (Qt.ixV ht hsc hv hx hy hp)
theorem Qt.ldL {t b el i:Nat} {xs:List Value} {v:Value} (hsc:ai P t=true) (hv:xs[i]?=some v)
  (hx:evo e x=some (.pointer (some ⟨b,i,none⟩)):=by rfl) (hm:Mem L (row b el xs):=by repeat (first | exact .here | refine .there ?_)) :
  Qt P B n e L ⟨some d,.load t x,ty,pos,af,gd⟩ v :=
 Qt.ld hsc hx hm (by rw [Ak];exact hv)
theorem WL.ldL {t b el i:Nat} {xs:List Value} {v:Value} (h:WL P B n ops l Q ((d,v) :: e) L) (hsc:ai P t=true) (hv:xs[i]?=some v)
  (hx:evo e x=some (.pointer (some ⟨b,i,none⟩)):=by rfl) (hm:Mem L (row b el xs):=by repeat (first | exact .here | refine .there ?_)) (hd:Nat.ble (d+1) n.k=true:=by rfl) :
  WL P B n ops (⟨some d,.load t x,ty,pos,af,none⟩ :: l) Q e L:=WL.pure h hd (Qt.ldL hsc hv hx hm)
theorem Qt.ldLA {t b el off k:Nat} {xs us:List Value} (hag:c5 P t k=true) (hus:(xs.drop off).take k=us) (hk:off+k<=xs.length)
  (hx:evo e x=some (.pointer (some ⟨b,off,none⟩)):=by rfl) (hm:Mem L (row b el xs):=by repeat (first | exact .here | refine .there ?_)) :
  Qt P B n e L ⟨some d,.load t x,ty,pos,af,gd⟩ (.agg us.toArray) :=
 Qt.ldP (cs:=xs.toArray) (us:=us.toArray) hag (by simpa using hus) (Nat.ble_eq_true_of_le (by simpa using hk)) hx hm
theorem WL.ldLA {t b el off k:Nat} {xs us:List Value} (h:WL P B n ops l Q ((d,.agg us.toArray) :: e) L) (hag:c5 P t k=true) (hus:(xs.drop off).take k=us) (hk:off+k<=xs.length)
  (hx:evo e x=some (.pointer (some ⟨b,off,none⟩)):=by rfl) (hm:Mem L (row b el xs):=by repeat (first | exact .here | refine .there ?_)) (hd:Nat.ble (d+1) n.k=true:=by rfl) :
  WL P B n ops (⟨some d,.load t x,ty,pos,af,none⟩ :: l) Q e L:=WL.pure h hd (Qt.ldLA hag hus hk hx hm)
theorem Qt.ldW {t b el k:Nat} {xs:List Value} (hag:c5 P t k=true) (hk:xs.length=k)
  (hx:evo e x=some (.pointer (some ⟨b,0,none⟩)):=by rfl) (hm:Mem L (row b el xs):=by repeat (first | exact .here | refine .there ?_)) :
  Qt P B n e L ⟨some d,.load t x,ty,pos,af,gd⟩ (.agg xs.toArray) :=
 Qt.ldLA hag (by rw [List.drop_zero,List.take_of_length_le (by omega)]) (by omega) hx hm
theorem WL.ldW {t b el k:Nat} {xs:List Value} (h:WL P B n ops l Q ((d,.agg xs.toArray) :: e) L) (hag:c5 P t k=true) (hk:xs.length=k)
  (hx:evo e x=some (.pointer (some ⟨b,0,none⟩)):=by rfl) (hm:Mem L (row b el xs):=by repeat (first | exact .here | refine .there ?_)) (hd:Nat.ble (d+1) n.k=true:=by rfl) :
  WL P B n ops (⟨some d,.load t x,ty,pos,af,none⟩ :: l) Q e L:=WL.pure h hd (Qt.ldW hag hk hx hm)
theorem P1 {b el i:Nat} {xs:List Value} {v:Value}:pt b (.cells (xs.toArray.setIfInBounds i v) el (0,0))=row b el (xs.set i v):=by
 unfold row
 congr 2
 simp
theorem WL.stL {t b el i:Nat} {xs:List Value} {v:Value} {L':List HP} (h:WL P B n ops l Q e L') (hsc:ai P t=true) (hi:i < xs.length)
  (hx:evo e x=some (.pointer (some ⟨b,i,none⟩)):=by rfl) (hy:evo e y=some v:=by rfl)
  (hr:Repl L (row b el xs) (row b el (xs.set i v)) L':=by repeat (first | exact .here | apply Repl.there)) (hv:Value.single v=true:=by rfl) :
  WL P B n ops (⟨none,.store t x y,ty,pos,af,none⟩ :: l) Q e L :=
 WL.st (cs:=xs.toArray) h hsc hx hy (by rw [P1];exact hr) (Nat.ble_eq_true_of_le (by simp only [List.size_toArray];omega)) hv
theorem WL.stLA {t b k el:Nat} {xs us:List Value} {L':List HP} (h:WL P B n ops l Q e L') (hag:c5 P t k=true) (hk:us.length=k) (hc:xs.length=k) (hsing:∀ v∈us,Value.single v=true) (hk0:Nat.ble 1 k=true:=by rfl)
  (hx:evo e x=some (.pointer (some ⟨b,0,none⟩)):=by rfl) (hy:evo e y=some (.agg us.toArray):=by rfl)
  (hr:Repl L (row b el xs) (row b el us) L':=by repeat (first | exact .here | apply Repl.there)) :
  WL P B n ops (⟨none,.store t x y,ty,pos,af,none⟩ :: l) Q e L :=
 WL.stV h hag hx hy hr hk0 (by simpa using hk) (by simpa using hc) (by simpa [List.all_eq_true] using hsing)
theorem WL.boxL {t:Nat} {us:List Value} (h:∀ b,WL P B n ops l Q ((d,.pointer (some ⟨b,0,none⟩)) :: e) (row b t us :: L)) (hx:evo e x=some (.agg us.toArray):=by rfl) (hd:Nat.ble (d+1) n.k=true:=by rfl) :
  WL P B n ops (⟨some d,.box t x,ty,pos,af,none⟩ :: l) Q e L:=WL.box (v:=.agg us.toArray) h hx hd
theorem WL.allocL {t:Nat} {us:List Value} {cs:Array Value} (hz:ba P t=some cs) (hc:cs=us.toArray) (h:∀ b,WL P B n ops l Q ((d,.pointer (some ⟨b,0,none⟩)) :: e) (row b t us :: L)) (hd:Nat.ble (d+1) n.k=true:=by rfl) :
  WL P B n ops (⟨some d,.alloc t,ty,pos,af,none⟩ :: l) Q e L:=by
 subst hc
 exact WL.alloc hz h hd
theorem RV.aggL {a t b el k:Nat} {xs:List Value} (h:look e a=some (.pointer (some ⟨b,0,none⟩))) (hag:c5 P t k=true) (hm:Mem L (row b el xs)) (hk:xs.length=k):RV P e L (.cell a t) (.agg xs.toArray) :=
 RV.agg h hag hm (by simpa using hk)
attribute [irreducible] row
end
section
variable {P:Program} {B:Base} {n:Fr} {Q Q':Exit->Act->World->Prop} {e:Env} {L:List HP} {ops:Array Oper} {l:List Oper}
variable {d:Nat} {ty:TypeId} {pos:String} {af:Array Edge} {x y z:Operand} {gd:Option (Nat×Bool)}
theorem Qt.maxI {p q:Int} {tys:Array TypeId} (hx:evo e x=some (.int .i64 p):=by rfl) (hy:evo e y=some (.int .i64 q):=by rfl) :
  Qt P B n e L ⟨some d,.call ⟨.builtin .max,#[x,y],tys⟩,ty,pos,af,gd⟩ (.int .i64 (if p < q then q else p)) :=
 fun a w ha hs=>by
  simp [execOp,resolve,invoke,builtin,ha.eval hx,ha.eval hy,Builtin.max_,Builtin.max2]
theorem WL.maxI {p q:Int} {tys:Array TypeId} (h:WL P B n ops l Q ((d,.int .i64 (if p < q then q else p)) :: e) L) (hx:evo e x=some (.int .i64 p):=by rfl) (hy:evo e y=some (.int .i64 q):=by rfl) (hd:Nat.ble (d+1) n.k=true:=by rfl) :
  WL P B n ops (⟨some d,.call ⟨.builtin .max,#[x,y],tys⟩,ty,pos,af,none⟩ :: l) Q e L:=WL.pure h hd (Qt.maxI (hx:=hx) (hy:=hy))
end
section
variable {P:Program}
def l3 (P:Program) (t el k:Nat):Bool:=mc P t el k 1 && nl P el
theorem sn {t el k:Nat} (h:l3 P t el k=true):P.underlying t=some (.array k el)/\(∃ i,P.info? el=some i/\i.size=1)/\nl P el=true:=by
 unfold l3 at h
 rw [Bool.and_eq_true] at h
 obtain ⟨h1,h2⟩:=yv h.1
 exact ⟨h1,h2,h.2⟩
theorem u6 {el:Nat} {i:TypeInfo} (hi:P.info? el=some i):P.cellsOf el=i.size:=by
 unfold Program.cellsOf
 simp [hi]
theorem Gt {xs:aa} {i:Nat} (h:i < xs.length):(bvs xs).toArray[i]?=some (bv xs[i]):=by
 simp [bvs,h]
theorem ja {el:Nat} (hk:nl P el=true) (d:Nat) (xs ys:aa) (w:World):∀ (is:List Nat),(∀ i∈is,i < xs.length/\i < ys.length) ->
  (Op.eqItems (d+1) el 1 (bvs xs).toArray (bvs ys).toArray is).run P w=.ok (decide (∀ i∈is,xs[i]?=ys[i]?)) w
 | [],_=>by simp [Op.eqItems]
 | i :: is,h=>by
  obtain ⟨hx,hy⟩:=h i (List.mem_cons_self ..)
  have px:=du (P:=P) hk (cs:=(bvs xs).toArray) (i:=i) (Gt hx) w
  have py:=du (P:=P) hk (cs:=(bvs ys).toArray) (i:=i) (Gt hy) w
  obtain ⟨k,hu⟩:=my hk
  have pe:=run_equalIn_int (P:=P) w d el .u8 k (xs[i].toNat:Int) (ys[i].toNat:Int) hu
  have ih:=ja hk d xs ys w is (fun j hj=>h j (List.mem_cons_of_mem _ hj))
  rw [Op.eqItems,Nat.mul_one]
  simp only [Sem.run_bind,px,py,Result.andThen_ok]
  rw [show bv xs[i]=.int .u8 (xs[i].toNat:Int) from rfl,show bv ys[i]=.int .u8 (ys[i].toNat:Int) from rfl,pe]
  simp only [Result.andThen_ok]
  by_cases hxy:xs[i]=ys[i]
  ·rw [hxy]
   simp only [beq_self_eq_true,decide_true,Bool.not_true,Bool.false_eq_true,if_false]
   rw [ih]
   congr 1
   rw [decide_eq_decide]
   simp [hx,hy,hxy]
  ·have hne:¬ ((xs[i].toNat:Int)=(ys[i].toNat:Int)):=fun hh=>hxy (UInt8.toNat_inj.1 (by omega))
   have:¬ (∀ j∈i :: is,xs[j]?=ys[j]?):=fun hh=>hxy (by
    have:=hh i (List.mem_cons_self ..)
    rwa [List.getElem?_eq_getElem hx,List.getElem?_eq_getElem hy,Option.some.injEq] at this)
   rw [decide_eq_false this]
   simp [hne]
theorem so {t el n:Nat} (h:l3 P t el n=true) (d:Nat) {xs ys:aa} (hx:xs.length=n) (hy:ys.length=n) (w:World) :
  (Op.equalIn (d+2) t (.agg (bvs xs).toArray) (.agg (bvs ys).toArray)).run P w=.ok (decide (xs=ys)) w:=by
 obtain ⟨hu,⟨i,hi,hs⟩,hk⟩:=sn h
 rw [run_equalIn_array w (d+1) _ _ hu hi,u6 hi,hs,ja hk d xs ys w _ (fun j hj=>by have:=List.mem_range.1 hj;omega)]
 congr 1
 rw [decide_eq_decide]
 constructor
 ·intro hh
  apply List.ext_getElem?
  intro j
  by_cases hj:j < n
  ·exact hh j (List.mem_range.2 hj)
  ·rw [List.getElem?_eq_none (by omega),List.getElem?_eq_none (by omega)]
 ·intro hh j _
  rw [hh]
theorem lc (emp:Bool) (m:Nat) {el:Nat} {i:TypeInfo} (hi:P.info? el=some i) (hs:i.size=1) (hk:nl P el=true) (xs:aa) (w:World):∀ (is:List Nat),(∀ j∈is,j < xs.length) ->
  (forIn (m:=Sem) is PUnit.unit (fun i _=>do
   Instr.checkKey emp (m+1) el (<- part el (bvs xs).toArray (i * (<- sizeOf el)))
   pure (ForInStep.yield PUnit.unit))).run P w=.ok PUnit.unit w
 | [],_=>by simp
 | j :: is,h=>by
  have px:=du (P:=P) hk (cs:=(bvs xs).toArray) (i:=j) (Gt (h j (List.mem_cons_self ..))) w
  obtain ⟨k,hu⟩:=my hk
  have pc:=ij hu emp m .u8 (xs[j]'(h j (List.mem_cons_self ..))).toNat w
  have ih:=lc emp m hi hs hk xs w is (fun q hq=>h q (List.mem_cons_of_mem _ hq))
  simp only [List.forIn_cons,Sem.run_bind,run_sizeOf w hi,Result.andThen_ok,u6 hi,hs,Nat.mul_one,px]
  rw [show bv (xs[j]'(h j (List.mem_cons_self ..)))=.int .u8 ((xs[j]'(h j (List.mem_cons_self ..))).toNat:Int) from rfl,pc]
  simp only [Result.andThen_ok,Sem.run_pure]
  exact ih
theorem su {t el n:Nat} (h:l3 P t el n=true) (emp:Bool) (m:Nat) {xs:aa} (hx:xs.length=n) (w:World):(Instr.checkKey emp (m+2) t (.agg (bvs xs).toArray)).run P w=.ok () w:=by
 obtain ⟨hu,⟨i,hi,hs⟩,hk⟩:=sn h
 have:=lc (P:=P) emp m hi hs hk xs w (List.range' 0 n) (fun j hj=>by have:=List.mem_range'.1 hj;omega)
 rw [Instr.checkKey]
 simp only [Sem.run_bind,run_underlying hu,Result.andThen_ok]
 simp only [Std.Legacy.Range.forIn_eq_forIn_range',Std.Legacy.Range.size,Nat.sub_zero,Nat.add_one_sub_one,Nat.div_one]
 rw [this]
 rfl
theorem ul (n:Nat) (xs:aa):Instr.sameBits (n+1) (.agg (bvs xs).toArray) (.agg (bvs xs).toArray)=true:=by
 simp only [Instr.sameBits,beq_self_eq_true,Bool.true_and,List.all_eq_true]
 intro p hp
 have:∀ (l:List Value),p∈l.zip l->p.1=p.2/\p.1∈l:=by
  intro l
  induction l with
  | nil=>intro h;cases h
  | cons a l ih =>
   intro h
   simp only [List.zip_cons_cons,List.mem_cons] at h
   rcases h with rfl | h
   ·simp
   ·have:=ih h
    exact ⟨this.1,List.mem_cons_of_mem _ this.2⟩
 obtain ⟨h1,h2⟩:=this _ hp
 simp only [List.toList_toArray,bvs,List.mem_map] at h2
 obtain ⟨a,_,ha⟩:=h2
 obtain ⟨x,y⟩:=p
 simp only at h1 ha ⊢
 subst h1
 rw [<- ha]
 exact ii _ _ _
theorem P2 {κ:Type} [DecidableEq κ] (f:κ->aa) {kt el n:Nat} (h:l3 P kt el n=true) (hf:∀ k,(f k).length=n) (inj:∀ a b,f a=f b->a=b):KeyLaw P kt (fun k=>Value.agg (bvs (f k)).toArray) where
 check emp k w:=su h emp 9998 (hf k) w
 find k ks es w hk:=by
  obtain ⟨h1,_⟩:=sn h
  have hask:∀ (ks:List κ) (es:List MapEntry) (i:Nat) (w:World),es.map (·.key)=ks.map (fun k=>Value.agg (bvs (f k)).toArray) ->
    (Instr.findAsking kt (Value.agg (bvs (f k)).toArray) es i).run P w=.ok (bz k ks es i) w:=by
   intro ks
   induction ks with
   | nil =>
    intro es i w h
    have:es=[]:=by simpa using h
    subst this
    simp [Instr.findAsking,bz]
   | cons k' ks ih =>
    intro es i w h'
    cases es with
    | nil=>simp at h'
    | cons e es =>
     simp only [List.map_cons,List.cons.injEq] at h'
     have he:(Op.equal kt (Value.agg (bvs (f k)).toArray) e.key).run P w=.ok (decide (f k=f k')) w:=by
      rw [h'.1]
      exact so h 9998 (hf k) (hf k') w
     simp only [Instr.findAsking,Sem.run_bind,he,Result.andThen_ok,bz]
     by_cases hkk:k=k'
     ·subst hkk;simp
     ·have:¬ f k=f k':=fun e=>hkk (inj _ _ e)
      simp only [this,decide_false,Bool.false_eq_true,if_false,hkk]
      exact ih es (i+1) w h'.2
  rw [run_findKey_eq w (by rw [h1])]
  exact hask ks es 0 w hk
 stays k:=ul _ _
end
def bstr (xs:aa):ByteArray:=⟨xs.toArray⟩
theorem cp (xs:aa):(bstr xs).size=xs.length:=by simp [bstr,ByteArray.size]
theorem nq {xs:aa} {i:Nat} (h:i < (bstr xs).size):(bstr xs)[i]=xs[i]'(by rw [cp] at h;exact h):=by
 have h1:=Lib.data_getElem? (bstr xs) i h
 have h2:(bstr xs).data.toList=xs:=rfl
 rw [h2,List.getElem?_eq_getElem (by rw [cp] at h;exact h),Option.some.injEq] at h1
 exact h1.symm
theorem ex (xs:aa):sv xs=.string (bstr xs):=rfl
section
variable {P:Program} {B:Base} {n:Fr} {Q Q':Exit->Act->World->Prop} {e:Env} {L:List HP} {ops:Array Oper} {l:List Oper}
variable {d:Nat} {ty:TypeId} {pos:String} {af:Array Edge} {x y z:Operand} {gd:Option (Nat×Bool)}
theorem Qt.lenT {t:TypeId} (xs:aa) (ht:kr P t=true) (hx:evo e x=some (sv xs):=by rfl) :
  Qt P B n e L ⟨some d,.call ⟨.builtin .len,#[x],#[t]⟩,ty,pos,af,gd⟩ (.int .i64 (xs.length:Int)) :=
 fun a w ha hs=>by
  simp [execOp,resolve,invoke,builtin,ha.eval hx,Builtin.len_,run_underlying (kj ht),ex,cp,goInt]
theorem WL.lenT {t:TypeId} (xs:aa) (h:WL P B n ops l Q ((d,.int .i64 (xs.length:Int)) :: e) L) (ht:kr P t=true) (hx:evo e x=some (sv xs):=by rfl) (hd:Nat.ble (d+1) n.k=true:=by rfl) :
  WL P B n ops (⟨some d,.call ⟨.builtin .len,#[x],#[t]⟩,ty,pos,af,none⟩ :: l) Q e L:=WL.pure h hd (Qt.lenT xs ht hx)
theorem Qt.ixT {t:Nat} {p:Int} {kk:IntKind} {v:UInt8} (xs:aa) (ht:kr P t=true) (hv:xs[p.toNat]?=some v) (hx:evo e x=some (sv xs):=by rfl) (hy:evo e y=some (.int kk p):=by rfl) (hp:0<=p:=by omega) :
  Qt P B n e L ⟨some d,.index t x y,ty,pos,af,gd⟩ (.int .u8 (v.toNat:Int)) :=
 fun a w ha hs=>by
  have h1:(bstr xs)[p.toNat]?=some v:=by
   have hlt:p.toNat < xs.length:=(List.getElem?_eq_some_iff.1 hv).1
   rw [getElem?_pos (bstr xs) p.toNat (by rw [cp];exact hlt),nq]
   rw [List.getElem?_eq_getElem hlt] at hv
   exact hv
  simp [execOp,ha.eval hx,ha.eval hy,Instr.index,asIntOf,run_underlying (kj ht),ex,hp,h1]
theorem WL.ixT {t:Nat} {p:Int} {kk:IntKind} {v:UInt8} (xs:aa) (h:WL P B n ops l Q ((d,.int .u8 (v.toNat:Int)) :: e) L) (ht:kr P t=true) (hv:xs[p.toNat]?=some v) (hx:evo e x=some (sv xs):=by rfl) (hy:evo e y=some (.int kk p):=by rfl) (hp:0<=p:=by omega) (hd:Nat.ble (d+1) n.k=true:=by rfl) :
  WL P B n ops (⟨some d,.index t x y,ty,pos,af,none⟩ :: l) Q e L:=WL.pure h hd (Qt.ixT xs ht hv hx hy hp)
def strIt (it:Nat) (xs:aa) (k:Nat):HP:=pt it (.stringIter (bstr xs) k)
theorem WL.rangeT {t:Nat} (xs:aa) (ht:kr P t=true) (h:∀ it,WL P B n ops l Q ((d,.pointer (some ⟨it,0,none⟩)) :: e) (strIt it xs 0 :: L)) (hx:evo e x=some (sv xs):=by rfl) (hd:Nat.ble (d+1) n.k=true:=by rfl) :
  WL P B n ops (⟨some d,.range t x,ty,pos,af,none⟩ :: l) Q e L :=
 WL.step rfl fun a w ha hs=>by
  refine ⟨_,w.alloc (.stringIter (bstr xs) 0),_,_,?_,ha.put hd _,hs.new _,h w.heap.size⟩
  simp [execOp,ha.eval hx,Instr.range,run_underlying (kj ht),newObj,Sem.run,ex]
def rune (xs:aa) (k:Nat):Nat×Nat:=Utf8.decode (bstr xs) k
theorem WL.nextT {it k:Nat} (xs:aa) {M:List HP}
  (h0:¬ k < xs.length->WL P B n ops l Q ((d,.tuple #[.bool false]) :: e) (strIt it xs k :: M))
  (h1:k < xs.length->WL P B n ops l Q ((d,.tuple #[.bool true,.int .i64 (k:Int),.int .i32 ((rune xs k).1:Int)]) :: e) (strIt it xs (k+(rune xs k).2) :: M))
  (hx:evo e x=some (.pointer (some ⟨it,0,none⟩)):=by rfl) (r:Rem L (strIt it xs k) M:=by repeat (first | exact .here | apply Rem.there)) (hd:Nat.ble (d+1) n.k=true:=by rfl) :
  WL P B n ops (⟨some d,.next x true,ty,pos,af,none⟩ :: l) Q e L :=
 WL.step rfl fun a w ha hs=>by
  have hs1:=hs.front r
  have hb:=hs1.get .here
  by_cases hk:k < xs.length
  ·refine ⟨_,_,_,_,?_,ha.put hd _,hs1.set (o':=.stringIter (bstr xs) (k+(rune xs k).2)) .here,h1 hk⟩
   have:=Lib.run_next_any_at (P:=P) w it (bstr xs) k ty hb (by rw [cp];exact hk)
   simp only [execOp,ha.eval hx,Sem.run_bind,this,Result.andThen_ok,Sem.run_pure]
   rfl
  ·refine ⟨_,w,_,_,?_,ha.put hd _,hs1,h0 hk⟩
   have:=Lib.run_next_end_at (P:=P) w it (bstr xs) k ty hb (by rw [cp];exact hk)
   simp only [execOp,ha.eval hx,Sem.run_bind,this,Result.andThen_ok,Sem.run_pure]
theorem WL.callX {f:FuncId} {xs:List Operand} {tys:Array TypeId} {vs:List Value} {v:Value} (hx:evos e xs=some vs:=by rfl)
  (hc:∀ w,(callFunc f vs.toArray).run P w=.ok (.value v) w) (h:WL P B n ops l Q ((d,v) :: e) L) (hd:Nat.ble (d+1) n.k=true:=by rfl) :
  WL P B n ops (⟨some d,.call ⟨.value (.func f),xs.toArray,tys⟩,ty,pos,af,none⟩ :: l) Q e L:=by
 intro a w ha hs
 refine wpList_plain rfl fun K hK=>?_
 have hargs:xs.map a.eval=vs:=fj ha hx
 have hrun:(execOp a.eval ⟨some d,.call ⟨.value (.func f),xs.toArray,tys⟩,ty,pos,af,none⟩).run P w=.ok (.value v) w:=by
  have he:a.eval (.func f)=.func (.func f) #[] #[]:=rfl
  simp [execOp,resolve,Deferred.ofValue,he,invoke,hargs,hc]
 unfold Oper.wp
 rw [hrun]
 simp only [Oper.upon_value]
 exact hK _ _ (h _ w (ha.put hd v) hs)
theorem Qt.subT {t:Nat} {p:Int} (xs:aa) (ht:kr P t=true) (hx:evo e x=some (sv xs):=by rfl) (hy:evo e y=some (.int .i64 p):=by rfl) (hp:0<=p/\p<=xs.length:=by omega) :
  Qt P B n e L ⟨some d,.slice t x (some y) none none,ty,pos,af,gd⟩ (sv (xs.drop p.toNat)) :=
 fun a w ha hs=>by
  have h1:(bstr xs).extract p.toNat xs.length=bstr (xs.drop p.toNat):=by
   apply ByteArray.ext
   simp [bstr,ByteArray.data_extract,List.take_of_length_le]
  simp [execOp,ha.eval hx,ha.eval hy,Instr.sliceAt,Instr.sureAddr,Instr.slice,Instr.sliceBounds,Instr.sliceBound,asIntOf,run_underlying (kj ht),ex,hp,h1,cp]
theorem WC.scope {c:Code} (h:WC P B n c (Exit.noGoto Q) e L):WC P B n (.scope c) Q e L:=fun a w ha hs=>wp_scope_straight (h a w ha hs)
theorem WC.label {k:Nat} (h:WQ B n Q .normal e L):WC P B n (.label k) Q e L:=fun a w ha hs=>wp_label (h a w ha hs)
theorem WQ.scopeRet (h:WQ B n Q .ret e L):WQ B n (Exit.noGoto Q) .ret e L:=fun a w ha hs=>h a w ha hs
theorem NoPanic.scope (h:NoPanic Q):NoPanic (Exit.noGoto Q):=h
theorem NoPanic.autoS (h:NoPanic Q:=by repeat (first | exact NoPanic.body | refine NoPanic.then ?_ | refine NoPanic.block ?_ | refine NoPanic.join ?_ | refine NoPanic.scope ?_)):NoPanic Q:=h
theorem Qt.cvtRT {s t:Nat} {k kk:IntKind} {p:Int} (hs:P.underlying s=some (.int k)) (ht:kr P t=true) (hx:evo e x=some (.int kk p):=by rfl) :
  Qt P B n e L ⟨some d,.convert s t x,ty,pos,af,gd⟩ (sv (Utf8.encode p).data.toList) :=
 fun a w ha hs'=>by
  have:(convert s t (.int kk p)).run P w=.ok (.string (Utf8.encode p)) w:=by
   simp [convert,run_underlying hs,run_underlying (kj ht),Conv.intToString]
  simp only [execOp,ha.eval hx,Sem.run_bind,this,Result.andThen_ok,Sem.run_pure]
  rfl
end
section
variable {P:Program} {B:Base} {n:Fr} {Q Q':Exit->Act->World->Prop} {e:Env} {L:List HP} {ops:Array Oper} {l:List Oper}
variable {d:Nat} {ty:TypeId} {pos:String} {af:Array Edge} {x y z:Operand} {gd:Option (Nat×Bool)}
theorem Qt.slcArrL {t el k b:Nat} {q:Int} (ht:mc P t el k 1=true) (hx:evo e x=some (.pointer (some ⟨b,0,none⟩)):=by rfl) (hy:evo e y=some (.int .i64 q):=by rfl) (hq:0<=q/\q < k:=by omega) :
  Qt P B n e L ⟨some d,.slice t x (some y) none none,ty,pos,af,gd⟩ (.slice (some ⟨b,q.toNat,none⟩) (k - q.toNat) (k - q.toNat)) :=
 fun a w ha hs=>by
  obtain ⟨hu,i,hi,hsz⟩:=yv ht
  have h1:¬ k=q.toNat:=by omega
  have h2:q<=(k:Int):=by omega
  simp [execOp,ha.eval hx,ha.eval hy,Instr.sliceAt,run_underlying hu,Instr.sureAddr,Instr.sliceBounds,Instr.sliceBound,asIntOf,sizeOf,typeInfo,hi,hsz,bq,hq.1,h2,h1]
theorem WL.slcArrL {t el k b:Nat} {q:Int} (h:WL P B n ops l Q ((d,.slice (some ⟨b,q.toNat,none⟩) (k - q.toNat) (k - q.toNat)) :: e) L) (ht:mc P t el k 1=true) (hx:evo e x=some (.pointer (some ⟨b,0,none⟩)):=by rfl) (hy:evo e y=some (.int .i64 q):=by rfl) (hq:0<=q/\q < k:=by omega) (hd:Nat.ble (d+1) n.k=true:=by rfl) :
  WL P B n ops (⟨some d,.slice t x (some y) none none,ty,pos,af,none⟩ :: l) Q e L:=WL.pure h hd (Qt.slcArrL ht hx hy hq)
theorem u7 {b el k:Nat} {xs:List Value} (hk:xs.length=k):∀ h,row b el xs h->buf b el k xs h:=by
 intro h hh
 subst hk
 unfold row at hh
 exact c6 (cs:=xs.toArray) rfl h hh
theorem Eu {b el k:Nat} {xs:List Value} (hk:xs.length=k):∀ h,buf b el k xs h->row b el xs h:=by
 intro h hh
 obtain ⟨cs,⟨h1,h2,_⟩,h3⟩:=k7 h hh
 have h4:cs=xs.toArray:=by
  rw [List.take_of_length_le (by rw [Array.length_toList];omega)] at h2
  rw [<- h2]
 unfold row
 rw [<- h4]
 exact h3
end
theorem nr {xs:aa} {k:Nat} (h:k < xs.length) (hb:xs[k].toNat < 128):rune xs k=(xs[k].toNat,1):=by
 unfold rune
 have hk:k < (bstr xs).size:=by rw [cp];exact h
 have:=decode_ascii (bstr xs) k hk (by rw [nq hk];exact hb)
 rw [this,nq hk]
theorem bget {xs:aa} {k:Nat} (h:k < xs.length):(bstr xs).get! k=xs[k]:=by
 have hk:k < (bstr xs).size:=by rw [cp];exact h
 have:=get_at (bstr xs) k hk
 rw [Nat.add_zero] at this
 rw [this,nq hk]
theorem sw {xs:aa} {k:Nat} (h:k < xs.length) (hb:128<=xs[k].toNat) :
  128<=(rune xs k).1/\1<=(rune xs k).2/\∀ j,k<=j->j < k+(rune xs k).2->∀ (hj:j < xs.length),128<=xs[j].toNat:=by
 have hk:k < (bstr xs).size:=by rw [cp];exact h
 have h1:=decode_high (bstr xs) k hk (by rw [nq hk];exact hb)
 refine ⟨h1.1,h1.2,?_⟩
 intro j hj1 hj2 hj
 by_cases hjk:j=k
 ·subst hjk;exact hb
 unfold rune at hj2
 have key:∀ q,1<=q->(decide (k+q < (bstr xs).size) && ((bstr xs).get! (k+q)).toNat / 64==2)=true->∀ (hq:k+q < xs.length),128<=xs[k+q].toNat:=by
  intro q _ hq hlt
  rw [Bool.and_eq_true] at hq
  have:=hq.2
  rw [bget hlt] at this
  have:xs[k+q].toNat / 64=2:=by simpa using this
  omega
 have b0:((bstr xs).get! (k+0)).toNat=xs[k].toNat:=congrArg UInt8.toNat (bget h)
 simp only [Utf8.decode,b0] at hj2
 rw [if_neg (by omega)] at hj2
 obtain ⟨q,rfl⟩:∃ q,j=k+q:=⟨j - k,by omega⟩
 have hq1:1<=q:=by omega
 split at hj2
 ·rename_i hc
  rw [Bool.and_eq_true] at hc
  have:q < 2:=by split at hj2<;>simp only at hj2<;>omega
  obtain rfl:q=1:=by omega
  exact key 1 (by omega) hc.2 hj
 ·split at hj2
  ·rename_i hc
   rw [Bool.and_eq_true,Bool.and_eq_true] at hc
   have:q < 3:=by split at hj2<;>simp only at hj2<;>omega
   rcases (show q=1 ∨ q=2 by omega) with rfl | rfl
   ·exact key 1 (by omega) hc.1.2 hj
   ·exact key 2 (by omega) hc.2 hj
  ·split at hj2
   ·rename_i hc
    rw [Bool.and_eq_true,Bool.and_eq_true,Bool.and_eq_true] at hc
    have:q < 4:=by split at hj2<;>simp only at hj2<;>omega
    rcases (show q=1 ∨ q=2 ∨ q=3 by omega) with rfl | rfl | rfl
    ·exact key 1 (by omega) hc.1.1.2 hj
    ·exact key 2 (by omega) hc.1.2 hj
    ·exact key 3 (by omega) hc.2 hj
   ·simp only at hj2
    omega
theorem Lg {xs:aa} {k:Nat} (h:k < xs.length):1<=(rune xs k).2:=by
 by_cases hb:xs[k].toNat < 128
 ·rw [nr h hb];exact Nat.le_refl _
 ·exact (sw h (by omega)).2.1
theorem P3 (xs:aa) (k:Nat):(rune xs k).1<=2147483647:=decode_le _ _
theorem Az {c:Nat} (h:128<=c):∃ l:aa,(Utf8.encode (c:Int)).data.toList=l/\2<=l.length/\l.length<=4/\(∀ x,l.getLast?=some x->128<=x.toNat):=by
 refine ⟨_,rfl,?_⟩
 have hmod:∀ m:Nat,128<=(UInt8.ofNat (128+m % 64)).toNat:=by
  intro m
  rw [UInt8.toNat_ofNat']
  omega
 unfold Utf8.encode
 have hc:∃ q:Nat,(if Utf8.valid (c:Int) then (c:Int).toNat else Utf8.runeError)=q/\128<=q:=by
  split
  ·exact ⟨c,Int.toNat_natCast c,h⟩
  ·exact ⟨_,rfl,by decide⟩
 obtain ⟨q,hq,hq8⟩:=hc
 simp only [hq]
 rw [if_neg (by omega)]
 split
 ·simp;omega
 ·split
  ·simp;omega
  ·simp;omega
end Go.Proofs.YtmihjfcbofejoaaGreatDoor
end
