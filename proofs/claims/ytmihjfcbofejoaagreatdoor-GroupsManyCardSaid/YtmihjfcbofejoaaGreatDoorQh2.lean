/- A part of the proof of iv: texts of this work put together. -/
import Derived.Test.YtmihjfcbofejoaaGreatDoorQh1
import Derived.Shelf.SlSortCmp.NoneTotal
import Derived.Laws.Cover1
import Derived.Sort.Walk0
import Derived.Defers
import Derived.RangeFuncRecord
import Derived.TacticsIn
import Derived.OrdersIn
import Derived.KernelRfl
import Derived.Shelf.SlIterI.Sorted
import Derived.Shelf.Slices.In.SortNone
import Derived.Shelf.Sort.Plain
set_option linter.unusedVariables false
set_option linter.unusedSimpArgs false
set_option linter.unusedSectionVars false
section
namespace Go.Proofs.YtmihjfcbofejoaaGreatDoor
open Go Go.Sort
theorem u9 {α:Type} [Inhabited α] {enc:α->List Value} {m:Nat} (hk:∀ x,(enc x).length=m) (l:List α):(flatK enc m l.toArray).toList=l.flatMap enc:=by
 have hlen:∀ l:List α,(l.flatMap enc).length=l.length * m:=by
  intro l
  induction l with
  | nil=>simp
  | cons x l ih=>rw [List.flatMap_cons,List.length_append,hk,ih,List.length_cons,Nat.succ_mul];omega
 have hget:∀ (l:List α) (t:Nat),t < l.length * m->(l.flatMap enc)[t]?=(enc l[t / m]!)[t % m]?:=by
  intro l
  induction l with
  | nil=>intro t ht;simp at ht
  | cons x l ih =>
   intro t ht
   have hm:0 < m:=by
    rcases Nat.eq_zero_or_pos m with h | h
    ·subst h;simp at ht
    ·exact h
   rw [List.flatMap_cons]
   by_cases h:t < m
   ·rw [List.getElem?_append_left (by rw [hk];exact h),Nat.div_eq_of_lt h,Nat.mod_eq_of_lt h]
    rfl
   ·rw [List.getElem?_append_right (by rw [hk];omega),hk,ih _ (by rw [List.length_cons,Nat.succ_mul] at ht;omega)]
    have h1:t=(t - m)+m:=by omega
    have h2:t / m=(t - m) / m+1:=by
     conv=>lhs;rw [h1]
     exact Nat.add_div_right _ hm
    have h3:t % m=(t - m) % m:=by
     conv=>lhs;rw [h1]
     exact Nat.add_mod_right _ _
    rw [h2,h3]
    rfl
 apply List.ext_getElem?
 intro t
 by_cases ht:t < l.length * m
 ·rw [hget l t ht]
  have h1:=get_flatK enc m l.toArray t (by simpa using ht)
  have hs:t < (flatK enc m l.toArray).size:=by rw [size_flatK];simpa using ht
  rw [getElem!_pos (flatK enc m l.toArray) t hs] at h1
  rw [Array.getElem?_toList,Array.getElem?_eq_getElem hs,h1]
  have hm:0 < m:=by
   rcases Nat.eq_zero_or_pos m with h | h
   ·subst h;simp at ht
   ·exact h
  have h4:t % m < (enc l[t / m]!).length:=by rw [hk];exact Nat.mod_lt _ hm
  have e:l.toArray[t / m]! = l[t / m]! := by simp
  rw [e,getElem!_pos (enc l[t / m]!) (t % m) h4,List.getElem?_eq_getElem h4]
 ·rw [List.getElem?_eq_none (l:=l.flatMap enc) (by rw [hlen];omega),List.getElem?_eq_none (by simp;omega)]
theorem be {α:Type} {enc:α->List Value} {m:Nat} (hk:∀ x,(enc x).length=m) (l:List α):(l.flatMap enc).length=l.length * m:=by
 induction l with
 | nil=>simp
 | cons x l ih=>rw [List.flatMap_cons,List.length_append,hk,ih,List.length_cons,Nat.succ_mul];omega
section
variable {B:Base} {α:Type} [Inhabited α] {enc:α->List Value} {m:Nat}
theorem Sat.holdsK (hk:∀ x,(enc x).length=m) {w:World} {M:List HP} {el g cap:Nat} {l:List α} (hs:Sat B w (rowR el m (.slice (some ⟨g,0,none⟩) l.length cap) l.length (l.flatMap enc) :: M)) :
  HoldsK enc m w g 0 l.toArray/\g < w.heap.size:=by
 obtain ⟨h1,h2⟩:=Sat.ownsRow hs
 rcases h2 with ⟨h2,_⟩ | ⟨g',cap',cur,h2,_,h3,h4,h5,h6,h7⟩
 ·cases h2
 ·injection h2 with h21 _ h22
  injection h21 with h21
  injection h21 with h21
  subst h21
  refine ⟨fun j hj=>?_,(Array.getElem?_eq_some_iff.1 h3).1⟩
  rw [size_flatK] at hj
  have hj':j < l.length * m:=by simpa using hj
  have hs:j < (flatK enc m l.toArray).size:=by rw [size_flatK];exact hj
  refine ⟨?_,by simp [World.frozen?,h3]⟩
  rw [ms h3,Nat.zero_add]
  have e1:cur[j]?=(cur.toList.take (l.length * m))[j]?:=by rw [List.getElem?_take,if_pos hj'];simp
  rw [e1,h7,<-u9 hk,Array.getElem?_toList,getElem!_pos (flatK enc m l.toArray) j hs]
  exact Array.getElem?_eq_getElem hs
theorem Sat.sortedK (hk:∀ x,(enc x).length=m) {w:World} {M:List HP} {el g cap q:Nat} {os:Array Obj} {l l':List α} (hl:l'.length=l.length) (hs:Sat B w (rowR el m (.slice (some ⟨g,0,none⟩) l.length cap) l.length (l.flatMap enc) :: M)) :
  Sat B (sortWorldK enc m w g 0 q l'.toArray os) (rowR el m (.slice (some ⟨g,0,none⟩) l.length cap) l.length (l'.flatMap enc) :: M):=by
 obtain ⟨h1,h2⟩:=Sat.ownsRow hs
 rcases h2 with ⟨h2,_⟩ | ⟨g',cap',cur,h2,_,h3,h4,h5,h6,h7⟩
 ·cases h2
 ·injection h2 with h21 _ h22
  injection h21 with h21
  injection h21 with h21
  subst h21
  subst h22
  have hgs:=(Array.getElem?_eq_some_iff.1 h3).1
  have hheap:∀ k,k < w.heap.size->(sortWorldK enc m w g 0 q l'.toArray os).heap[k]?=if g=k then some (.cells (putCells id 0 (flatK enc m l'.toArray) cur) el (0,0)) else w.heap[k]?:=by
   intro k hkk
   show (w.heap.modify g (onCells (putCells id 0 (flatK enc m l'.toArray)))++os)[k]?=_
   rw [Array.getElem?_append_left (by simpa using hkk),Array.getElem?_modify]
   by_cases hgk:g=k
   ·subst hgk
    rw [if_pos rfl,if_pos rfl,h3]
    rfl
   ·rw [if_neg hgk,if_neg hgk]
  refine Sat.rowGrown hs ⟨by rw [be hk,hl],.inr ⟨g,cap,putCells id 0 (flatK enc m l'.toArray) cur,rfl,Nat.zero_le _,?_,h4,h5,?_,?_⟩⟩ ⟨rfl,rfl,rfl,?_,?_⟩ (.inl rfl)
  ·rw [hheap g hgs,if_pos rfl]
  ·unfold putCells
   simp [h6]
  ·rw [<- u9 hk]
   have hfs:(flatK enc m l'.toArray).size=l.length * m:=by rw [size_flatK];simp [hl]
   apply List.ext_getElem?
   intro j
   rw [List.getElem?_take]
   by_cases hj:j < l.length * m
   ·rw [if_pos hj]
    have hcur:j < cur.size:=by
     rw [h6]
     exact Nat.lt_of_lt_of_le hj (Nat.mul_le_mul_right _ h4)
    unfold putCells
    rw [Array.getElem?_toList,Array.getElem?_toList,Array.getElem?_mapIdx,Array.getElem?_eq_getElem hcur,Option.map_some,if_pos ⟨Nat.zero_le _,by omega⟩,Nat.sub_zero,getElem!_pos (flatK enc m l'.toArray) j (by omega)]
    exact (Array.getElem?_eq_getElem _).symm
   ·rw [if_neg hj,List.getElem?_eq_none (by rw [Array.length_toList];omega)]
  ·show w.heap.size<=(w.heap.modify g _++os).size
   simp
  ·intro k hkk hne
   rw [hheap k hkk,if_neg]
   intro hgk
   subst hgk
   exact hne rfl
end
def cmpT (a b:aa):Int:=if a < b then -1 else if a=b then 0 else 1
theorem w2 (a b:aa):decide (cmpT a b < 0)=decide (a < b):=by
 unfold cmpT
 by_cases h:a < b
 ·simp [h]
 ·by_cases h2:a=b
  ·subst h2;simp [List.lt_irrefl]
  ·simp [h,h2]
theorem swoT {α:Type} (f:α->aa):SWO (ltOf fun x y:α=>cmpT (f x) (f y)) where
 irrefl x:=by
  show decide (cmpT (f x) (f x) < 0)=false
  rw [w2];exact decide_eq_false (List.lt_irrefl _)
 trans x y z h1 h2:=by
  have h1:decide (cmpT (f x) (f y) < 0)=true:=h1
  have h2:decide (cmpT (f y) (f z) < 0)=true:=h2
  show decide (cmpT (f x) (f z) < 0)=true
  rw [w2] at *
  exact decide_eq_true (List.lt_trans (of_decide_eq_true h1) (of_decide_eq_true h2))
 ntrans x y z h1 h2:=by
  have h1:decide (cmpT (f x) (f y) < 0)=false:=h1
  have h2:decide (cmpT (f y) (f z) < 0)=false:=h2
  show decide (cmpT (f x) (f z) < 0)=false
  rw [w2] at *
  refine decide_eq_false fun h=>?_
  have a1:¬ f x < f y:=of_decide_eq_false h1
  have a2:¬ f y < f z:=of_decide_eq_false h2
  have b1:f y<=f x:=a1
  have b2:f z<=f y:=a2
  exact (List.le_trans b2 b1) h
section
variable {P:Program} {B:Base} {n:Fr} {Q Q':Exit->Act->World->Prop} {e:Env} {L:List HP} {ops:Array Oper} {l:List Oper}
variable {d:Nat} {ty:TypeId} {pos:String} {af:Array Edge} {x y z:Operand} {gd:Option (Nat×Bool)}
theorem Qt.slcArrLH {t el k b:Nat} {p q:Int} {kp kq:IntKind} (ht:mc P t el k 1=true) (hx:evo e x=some (.pointer (some ⟨b,0,none⟩)):=by rfl) (hy:evo e y=some (.int kp p):=by rfl) (hz:evo e z=some (.int kq q):=by rfl) (hp:0<=p/\p<=q:=by omega) (hq:q<=k:=by omega) (hk:p.toNat < k:=by omega) :
  Qt P B n e L ⟨some d,.slice t x (some y) (some z) none,ty,pos,af,gd⟩ (.slice (some ⟨b,p.toNat,none⟩) (q.toNat - p.toNat) (k - p.toNat)) :=
 fun a w ha hs=>by
  obtain ⟨hu,i,hi,hsz⟩:=yv ht
  have h0:0<=q:=by omega
  have h1:¬ k=p.toNat:=by omega
  have h3:p<=((q.toNat:Nat):Int):=by omega
  have h4:p<=max q 0:=by omega
  simp [execOp,ha.eval hx,ha.eval hy,ha.eval hz,Instr.sliceAt,run_underlying hu,Instr.sureAddr,Instr.sliceBounds,Instr.sliceBound,asIntOf,sizeOf,typeInfo,hi,hsz,bq,hp.1,hq,h0,h1,h4]
theorem WL.slcArrLH {t el k b:Nat} {p q:Int} {kp kq:IntKind} (h:WL P B n ops l Q ((d,.slice (some ⟨b,p.toNat,none⟩) (q.toNat - p.toNat) (k - p.toNat)) :: e) L) (ht:mc P t el k 1=true) (hx:evo e x=some (.pointer (some ⟨b,0,none⟩)):=by rfl) (hy:evo e y=some (.int kp p):=by rfl) (hz:evo e z=some (.int kq q):=by rfl) (hp:0<=p/\p<=q:=by omega) (hq:q<=k:=by omega) (hk:p.toNat < k:=by omega) (hd:Nat.ble (d+1) n.k=true:=by rfl) :
  WL P B n ops (⟨some d,.slice t x (some y) (some z) none,ty,pos,af,none⟩ :: l) Q e L:=WL.pure h hd (Qt.slcArrLH ht hx hy hz hp hq hk)
end
theorem Gu {es:Array MapEntry} {seen:Array Nat} {m:MapEntry} (hp:(es.toList.map (·.born)).Pairwise (· < ·)) (hm:m∈left es seen):(left es seen).Perm (m :: left es (seen.push m.born)):=by
 have h1:left es (seen.push m.born)=(left es seen).filter fun x=>!(x.born==m.born):=by
  unfold left
  rw [List.filter_filter]
  apply List.filter_congr
  intro x _
  rw [Bool.eq_iff_iff]
  simp [Array.mem_push,and_comm]
 have hsub:((left es seen).map (·.born)).Pairwise (· < ·):=by
  unfold left
  exact (hp.sublist (List.Sublist.map _ List.filter_sublist))
 rw [h1]
 generalize left es seen=l at hm hsub
 clear h1
 induction l with
 | nil=>cases hm
 | cons x l ih =>
  simp only [List.map_cons,List.pairwise_cons] at hsub
  rcases List.mem_cons.1 hm with rfl | hm
  ·rw [List.filter_cons_of_neg (by simp)]
   have:l.filter (fun x=>!(x.born==m.born))=l:=by
    rw [List.filter_eq_self]
    intro y hy
    have:=hsub.1 y.born (List.mem_map_of_mem hy)
    simp;omega
   rw [this]
  ·have h2:=hsub.1 m.born (List.mem_map_of_mem hm)
   rw [List.filter_cons_of_pos (by simp;omega)]
   exact ((ih hm hsub.2).cons x).trans (List.Perm.swap m x _)
theorem Lh (es:Array MapEntry):left es #[]=es.toList:=by
 unfold left
 rw [List.filter_eq_self]
 intro x _
 simp
theorem Li {κ α:Type} [DecidableEq κ] {l:List (κ×α)} {k:κ} {v:α} (h:kget l k=none):kput l k v=l++[(k,v)]:=by
 induction l with
 | nil=>rfl
 | cons p l ih =>
  obtain ⟨a,b⟩:=p
  simp only [kget] at h
  split at h
  ·cases h
  ·rename_i hne
   simp only [kput,if_neg hne,ih h,List.cons_append]
theorem MapIs.mapped {κ β:Type} [DecidableEq κ] {enc:κ->Value} {es:Array MapEntry} {c:Nat} {kvs:List (κ×Value)} (h:MapIs enc es c kvs) (f:Value->Value->β):(es.toList.map fun m=>f m.key m.val)=kvs.map fun p=>f (enc p.1) p.2:=by
 have hl:es.toList.length=kvs.length:=by simpa using h.length
 apply List.ext_getElem?
 intro i
 have h1:(es.toList.map (·.key))[i]?=(kvs.map fun p=>enc p.1)[i]?:=by rw [h.keys]
 have h2:(es.toList.map (·.val))[i]?=(kvs.map (·.2))[i]?:=by rw [h.vals]
 simp only [List.getElem?_map] at h1 h2 ⊢
 cases hi:es.toList[i]? with
 | none =>
  rw [hi] at h1
  cases hk:kvs[i]? with
  | none=>rfl
  | some p=>rw [hk] at h1;cases h1
 | some m =>
  rw [hi] at h1 h2
  cases hk:kvs[i]? with
  | none=>rw [hk] at h1;cases h1
  | some p =>
   rw [hk] at h1 h2
   simp only [Option.map_some,Option.some.injEq] at h1 h2 ⊢
   rw [h1,h2]
end Go.Proofs.YtmihjfcbofejoaaGreatDoor
end
section
namespace Go.Proofs.YtmihjfcbofejoaaGreatDoor
open Go
def SpecD (P:Program) (f:FuncId) (args:Array Value) (L:List HP) (R:List HP->Value->List HP->Prop):Prop :=
 ∀ B F w u,Sat B w (L++F)->CallsD P f args u w fun e u' w'=>u'=u/\Post B F R e w'
theorem o7 {vas:List Value} {fn:Func} (hn:Nat.ble vas.length fn.ntmps=true):Ag ⟨fn.ntmps,[]⟩ (env0 0 vas) { tmps:=vas.toArray++Array.replicate (fn.ntmps - vas.toArray.size) undef,defers:=[] }:=by
 refine ⟨rfl,?_,?_⟩
 ·have:=Nat.le_of_ble_eq_true hn
  simp;omega
 ·intro t v hv
  have:=ym vas 0 t v hv
  simp only [Nat.sub_zero] at this
  have ht:t < vas.length:=(List.getElem?_eq_some_iff.1 this.2).1
  rw [Array.getD_eq_getD_getElem?,Array.getElem?_append_left (by simpa using ht)]
  simp [this.2]
theorem SpecD.intro {P:Program} {f:FuncId} {fn:Func} {c:Code} {vas:List Value} {pre:List HP} {R:List HP->Value->List HP->Prop}
  (hf:P.funcs[f]?=some fn) (hb:fn.body=some c) (hn:Nat.ble vas.length fn.ntmps=true)
  (h:∀ B F,WC P B ⟨fn.ntmps,[]⟩ c (bodyPost P fn (Post B F R)) (env0 0 vas) (pre++F)):SpecD P f vas.toArray pre R :=
 fun B F w u hs=>callsD_of_wp hf hb (h B F _ w (o7 hn) hs)
theorem Spec.introD {P:Program} {f:FuncId} {fn:Func} {c:Code} {vas:List Value} {pre:List HP} {R:List HP->Value->List HP->Prop}
  (hf:P.funcs[f]?=some fn) (hb:fn.body=some c) (hn:Nat.ble vas.length fn.ntmps=true)
  (h:∀ B F,WC P B ⟨fn.ntmps,[]⟩ c (bodyPostD P fn (Post B F R)) (env0 0 vas) (pre++F)):Spec P f vas.toArray pre R :=
 fun B F w hs=>calls_of_wp_defers hf hb (h B F _ w (o7 hn) hs)
theorem Spec.bound {P:Program} {f:FuncId} {us:Array Value} {L:List HP} {R:List HP->Value->List HP->Prop} (h:Spec P f us L R):Spec P f (us++([]:List Value).toArray++#[]) L R:=by simpa using h
theorem Spec.capt {P:Program} {f:FuncId} {cs:Array Value} {L:List HP} {R:List HP->Value->List HP->Prop} (h:Spec P f cs L R):Spec P f ((#[]:Array Value)++([]:List Value).toArray++cs) L R:=by simpa using h
section
variable {P:Program} {B:Base} {n:Fr} {Q Q':Exit->Act->World->Prop} {e:Env} {L:List HP} {ops:Array Oper} {l:List Oper}
variable {d:Nat} {ty:TypeId} {pos:String} {af:Array Edge} {x y z:Operand} {gd:Option (Nat×Bool)}
theorem WL.defer {f:FuncId} {xs:List Operand} {vs:List Value} {tys:Array TypeId} (h:WL P B ⟨n.k,{ target:=.fn (.func f) #[],args:=vs.toArray } :: n.ds⟩ ops l Q e L) (hx:evos e xs=some vs:=by rfl) :
  WL P B n ops (⟨none,.defer ⟨.value (.func f),xs.toArray,tys⟩,ty,pos,af,none⟩ :: l) Q e L:=by
 intro a w ha hs
 refine wpList_plain rfl fun K hK=>?_
 have hargs:xs.map a.eval=vs:=fj ha hx
 have hrun:(execOp a.eval ⟨none,.defer ⟨.value (.func f),xs.toArray,tys⟩,ty,pos,af,none⟩).run P w=.ok (.defer { target:=.fn (.func f) #[],args:=vs.toArray }) w:=by
  simp [execOp,resolve,Deferred.ofValue,Act.eval,hargs]
 unfold Oper.wp
 rw [hrun]
 refine hK _ _ (h _ w ⟨?_,ha.size,ha.get⟩ hs)
 show _ :: a.defers=_
 rw [ha.defers]
variable {fn:Func} {F:List HP} {R:List HP->Value->List HP->Prop}
theorem WQ.retD1 {g t:Nat} {dargs:Array Value} {v:Value} {pre Lr:List HP} {R':List HP->Value->List HP->Prop} {xt:Exit} (hc:∀ args w,(callFunc g args).run P w=.ok (.enter g args) w) (sp:SpecD P g dargs pre R')
  (h:∀ v' M',R' Lr v' M'->∃ M,R F v M/\Am M' M) (hD:n.ds=[{ target:=.fn (.func g) #[],args:=dargs }]:=by rfl) (hres:fn.results=#[.tmp t]:=by rfl) (hl:look e t=some v:=by rfl)
  (tk:Tk L pre Lr:=by repeat (first | exact .nil | (apply Tk.cons;focus ((repeat (first | exact .here | apply Rem.there));done)))) (hx:(xt=.ret ∨ xt=.normal):=by first | exact .inl rfl | exact .inr rfl):WQ B n (bodyPostD P fn (Post B F R)) xt e L:=by
 intro a w ha hs
 have key:Leaves P fn a.tmps (Post B F R) a.defers .returning w:=by
  rw [ha.defers,hD]
  refine leaves_cons (by simp) (f:=g) (args:=dargs) (by simp [invoke,hc]) ?_
  refine (sp B Lr w .returning (hs.take tk)).mono ?_
  rintro e' u' w' ⟨rfl,v',M',rfl,hR',hs'⟩
  obtain ⟨M,hR,hM⟩:=h v' M' hR'
  refine ⟨v,?_,v,M,rfl,hR,hM.wk B w' hs'⟩
  simp [i9,hres,resM,ha.get _ _ hl]
 rcases hx with rfl | rfl<;>exact key
end
section
variable {P:Program} {B:Base} {n:Fr} {Q Q':Exit->Act->World->Prop} {e:Env} {L:List HP} {ops:Array Oper} {l:List Oper}
variable {d:Nat} {ty:TypeId} {pos:String} {af:Array Edge} {x y z:Operand} {gd:Option (Nat×Bool)}
theorem WQ.openR {A:HP} {M:List HP} {α:Type} {p:α->Prop} {Ls:α->List HP} {xt:Exit} (hA:Opens A p Ls) (h:∀ x,p x->WQ B n Q xt e (Ls x++M)) (r:Rem L A M:=by repeat (first | exact .here | apply Rem.there)):WQ B n Q xt e L:=by
 intro a w ha hs
 obtain ⟨x,hp,hs⟩:=(hs.front r).opens hA
 exact h x hp a w ha hs
theorem Qt.negw {k:IntKind} {p:Int} {t:TypeId} (hx:evo e x=some (.int k p):=by rfl) :
  Qt P B n e L ⟨some d,.unOp .neg t x,ty,pos,af,gd⟩ (.int k (k.wrap (0 - p))) :=
 fun a w ha hs=>by simp [execOp,ha.eval hx,Op.unary,Op.intArith]
theorem WL.negw {k:IntKind} {p:Int} {t:TypeId} (h:WL P B n ops l Q ((d,.int k (k.wrap (0 - p))) :: e) L) (hx:evo e x=some (.int k p):=by rfl) (hd:Nat.ble (d+1) n.k=true:=by rfl) :
  WL P B n ops (⟨some d,.unOp .neg t x,ty,pos,af,none⟩ :: l) Q e L:=WL.pure h hd (Qt.negw (hx:=hx))
def A5 (k:IntKind) (p:Int):Int:=bxor k (if k.signed then -1 else k.max) p
theorem Qt.comp {k:IntKind} {p:Int} {t:TypeId} (hx:evo e x=some (.int k p):=by rfl) :
  Qt P B n e L ⟨some d,.unOp .xor t x,ty,pos,af,gd⟩ (.int k (A5 k p)) :=
 fun a w ha hs=>by
  cases h:k.signed<;>simp [execOp,ha.eval hx,Op.unary,Op.intBits,A5,bxor,h]
theorem WL.comp {k:IntKind} {p:Int} {t:TypeId} (h:WL P B n ops l Q ((d,.int k (A5 k p)) :: e) L) (hx:evo e x=some (.int k p):=by rfl) (hd:Nat.ble (d+1) n.k=true:=by rfl) :
  WL P B n ops (⟨some d,.unOp .xor t x,ty,pos,af,none⟩ :: l) Q e L:=WL.pure h hd (Qt.comp (hx:=hx))
theorem WL.subT {t:Nat} {p:Int} (xs:aa) (h:WL P B n ops l Q ((d,sv (xs.drop p.toNat)) :: e) L) (ht:kr P t=true) (hx:evo e x=some (sv xs):=by rfl) (hy:evo e y=some (.int .i64 p):=by rfl) (hp:0<=p/\p<=xs.length:=by omega) (hd:Nat.ble (d+1) n.k=true:=by rfl) :
  WL P B n ops (⟨some d,.slice t x (some y) none none,ty,pos,af,none⟩ :: l) Q e L:=WL.pure h hd (Qt.subT xs ht hx hy hp)
theorem Qt.subTH {t:Nat} {p:Int} (xs:aa) (ht:kr P t=true) (hx:evo e x=some (sv xs):=by rfl) (hy:evo e y=some (.int .i64 p):=by rfl) (hp:0<=p/\p<=xs.length:=by omega) :
  Qt P B n e L ⟨some d,.slice t x none (some y) none,ty,pos,af,gd⟩ (sv (xs.take p.toNat)) :=
 fun a w ha hs=>by
  have h1:0<=p/\p<=((bstr xs).size:Int):=by rw [cp];exact hp
  have h2:(bstr xs).extract 0 p.toNat=bstr (xs.take p.toNat):=by
   apply ByteArray.ext
   simp [bstr]
  have:(Instr.sliceAt t (sv xs) none (some (.int .i64 p)) none).run P w=.ok (sv (xs.take p.toNat)) w:=by
   rw [ex,ex,<-h2]
   simp [Instr.sliceAt,Instr.slice,run_underlying (kj ht),Instr.sliceBounds,Instr.sliceBound,asIntOf,h1]
  simp [execOp,ha.eval hx,ha.eval hy,this]
theorem WL.subTH {t:Nat} {p:Int} (xs:aa) (h:WL P B n ops l Q ((d,sv (xs.take p.toNat)) :: e) L) (ht:kr P t=true) (hx:evo e x=some (sv xs):=by rfl) (hy:evo e y=some (.int .i64 p):=by rfl) (hp:0<=p/\p<=xs.length:=by omega) (hd:Nat.ble (d+1) n.k=true:=by rfl) :
  WL P B n ops (⟨some d,.slice t x none (some y) none,ty,pos,af,none⟩ :: l) Q e L:=WL.pure h hd (Qt.subTH xs ht hx hy hp)
end
theorem Oe (a c:aa):((⟨a.toArray⟩:ByteArray)==⟨c.toArray⟩)=decide (a=c):=by
 show (a.toArray==c.toArray)=_
 by_cases h:a=c<;>simp [h]
abbrev XV :=Int ⊕ aa
def XV.v :XV->Value
 | .inl n=>.int .i64 n
 | .inr s=>sv s
def XV.k :XV->Bool
 | .inl _=>true
 | .inr _=>false
def xvs (xs:List XV):List Value:=xs.map XV.v
def mixT (P:Program) (t:Nat) (b:Bool):Bool:=if b then nl P t else kr P t
def gy (P:Program):List Field->List Bool->Nat->Bool
 | [],[],_=>true
 | f :: fs, b :: bs, i => (f.name != "_") && Nat.beq f.offset i && mixT P f.type b && gy P fs bs (i + 1)
 | _,_,_=>false
def Gv (P:Program) (t:Nat) (pat:List Bool):Bool :=
 match P.underlying t with
 | some (.struct fs)=>gy P fs.toList pat 0 && !P.stoodInHeld t && !P.eqGuardType P.depth t
 | _=>false
theorem Gw {P:Program} {t:Nat} {pat:List Bool} (h:Gv P t pat=true):P.underlying t=some (.struct (P.fieldsOf t))/\gy P (P.fieldsOf t).toList pat 0=true/\P.stoodInHeld t=false/\P.eqGuardType P.depth t=false:=by
 unfold Gv at h
 split at h
 ·rename_i fs hu
  simp only [Bool.and_eq_true] at h
  obtain ⟨⟨h2,h3⟩,h4⟩:=h
  have:P.fieldsOf t=fs:=by simp [Program.fieldsOf,hu]
  rw [this]
  exact ⟨hu,h2,by simpa using h3,by simpa using h4⟩
 ·cases h
section
variable {P:Program}
theorem lf {t:Nat} {b:Bool} (h:mixT P t b=true) {cs:Array Value} {i:Nat} {v:Value} (hv:cs[i]?=some v) (w:World):(part t cs i).run P w=.ok v w:=by
 cases b
 ·have hk:=kj (P:=P) (t:=t) h
  simp [part,isAgg,run_underlying hk,hv]
 ·exact du h hv w
theorem w4 {t:Nat} {b:Bool} (h:mixT P t b=true) (d:Nat) {x y:XV} (hx:x.k=b) (hy:y.k=b) (w:World):(Op.equalIn (d+1) t x.v y.v).run P w=.ok (decide (x=y)) w:=by
 cases x with
 | inl a =>
  cases y with
  | inl c =>
   subst hx
   obtain ⟨k,hk⟩:=my h
   have:=run_equalIn_int (P:=P) w d t .i64 k a c hk
   show (Op.equalIn (d+1) t (.int .i64 a) (.int .i64 c)).run P w=_
   rw [this]
   congr 1
   by_cases hac:a=c<;>simp [hac]
  | inr c=>subst hx;cases hy
 | inr a =>
  cases y with
  | inl c=>subst hx;cases hy
  | inr c =>
   subst hx
   have hk:=kj (P:=P) (t:=t) h
   have:(Op.equalIn (d+1) t (sv a) (sv c)).run P w=.ok (decide (a=c)) w:=by
    rw [<- Oe]
    simp [Op.equalIn,run_underlying hk,sv]
   show (Op.equalIn (d+1) t (sv a) (sv c)).run P w=_
   rw [this]
   congr 1
   by_cases hac:a=c<;>simp [hac]
theorem Gx {xs:List XV} {i:Nat} (h:i < xs.length):(xvs xs).toArray[i]?=some xs[i].v:=by simp [xvs,h]
theorem lg (d:Nat) (xs ys:List XV):∀ (fs:List Field) (pat:List Bool) (i:Nat),gy P fs pat i=true->(xs.drop i).map XV.k=pat->(ys.drop i).map XV.k=pat->∀ w,
  (Op.eqFields (d+1) (xvs xs).toArray (xvs ys).toArray fs).run P w=.ok (decide (xs.drop i=ys.drop i)) w
 | [],[],i,_,hx,hy,w=>by
  have h1:xs.drop i=[]:=by simpa using hx
  have h2:ys.drop i=[]:=by simpa using hy
  simp [Op.eqFields,h1,h2]
 | f :: fs,b :: bs,i,hf,hx,hy,w=>by
  simp only [gy,Bool.and_eq_true] at hf
  obtain ⟨⟨⟨h1,h2⟩,h3⟩,h4⟩:=hf
  have h2:=Nat.eq_of_beq_eq_true h2
  have hn : f.name ≠ "_" := by simpa using h1
  have hxl:i < xs.length:=by
   have:=congrArg List.length hx
   simp at this;omega
  have hyl:i < ys.length:=by
   have:=congrArg List.length hy
   simp at this;omega
  rw [List.drop_eq_getElem_cons hxl,List.map_cons,List.cons.injEq] at hx
  rw [List.drop_eq_getElem_cons hyl,List.map_cons,List.cons.injEq] at hy
  have px:=lf (P:=P) h3 (Gx hxl) w
  have py:=lf (P:=P) h3 (Gx hyl) w
  have pe:=w4 (P:=P) h3 d hx.1 hy.1 w
  have ih:=lg d xs ys fs bs (i+1) h4 hx.2 hy.2 w
  have hdec:decide (xs.drop i=ys.drop i)=(decide (xs[i]=ys[i]) && decide (xs.drop (i+1)=ys.drop (i+1))):=by
   rw [Bool.eq_iff_iff]
   rw [List.drop_eq_getElem_cons hxl,List.drop_eq_getElem_cons hyl,decide_eq_true_iff,Bool.and_eq_true,decide_eq_true_iff,decide_eq_true_iff,List.cons.injEq]
  rw [hdec]
  simp only [Op.eqFields,hn,ne_eq,not_false_eq_true,if_true,h2,Sem.run_bind,px,py,pe,Result.andThen_ok]
  by_cases hxy:xs[i]=ys[i]
  ·simp [hxy,ih]
  ·simp [hxy]
theorem yw {t:Nat} {pat:List Bool} (h:Gv P t pat=true) (d:Nat) {xs ys:List XV} (hx:xs.map XV.k=pat) (hy:ys.map XV.k=pat) (w:World) :
  (Op.equalIn (d+2) t (.agg (xvs xs).toArray) (.agg (xvs ys).toArray)).run P w=.ok (decide (xs=ys)) w:=by
 obtain ⟨h1,h3,h4,h5⟩:=Gw h
 have:=lg (P:=P) d xs ys _ pat 0 h3 (by simpa using hx) (by simpa using hy) w
 rw [run_equalIn_struct w (d+1) t _ _ h1 h4,this]
 simp
theorem nt (emp:Bool) (m:Nat) (xs:List XV) (w:World):∀ (fs:List Field) (pat:List Bool) (i:Nat),gy P fs pat i=true->(xs.drop i).map XV.k=pat ->
  (forIn (m:=Sem) fs PUnit.unit (fun f _=>do
   if f.name ≠ "_" then Instr.checkKey emp (m + 1) f.type (<- part f.type (xvs xs).toArray f.offset)
   pure (ForInStep.yield PUnit.unit))).run P w=.ok PUnit.unit w
 | [],_,i,_,_=>by simp
 | f :: fs,b :: bs,i,hf,hx=>by
  simp only [gy,Bool.and_eq_true] at hf
  obtain ⟨⟨⟨h1,h2⟩,h3⟩,h4⟩:=hf
  have h2:=Nat.eq_of_beq_eq_true h2
  have hn : f.name ≠ "_" := by simpa using h1
  have hxl:i < xs.length:=by
   have:=congrArg List.length hx
   simp at this;omega
  rw [List.drop_eq_getElem_cons hxl,List.map_cons,List.cons.injEq] at hx
  have px:=lf (P:=P) h3 (Gx hxl) w
  have pc:(Instr.checkKey emp (m+1) f.type xs[i].v).run P w=.ok () w:=by
   obtain ⟨hx1,_⟩:=hx
   cases hv:xs[i] with
   | inl a =>
    rw [hv] at hx1
    subst hx1
    obtain ⟨k,hk⟩:=my h3
    exact ij hk emp m .i64 a w
   | inr a =>
    rw [hv] at hx1
    subst hx1
    have hk:=kj (P:=P) (t:=f.type) h3
    simp [Instr.checkKey,run_underlying hk,XV.v]
  have ih:=nt emp m xs w fs bs (i+1) h4 hx.2
  simp only [List.forIn_cons,hn,ne_eq,not_false_eq_true,if_true,h2,Sem.run_bind,px,Result.andThen_ok,pc,Sem.run_pure]
  exact ih
theorem yx {t:Nat} {pat:List Bool} (h:Gv P t pat=true) (emp:Bool) (m:Nat) {xs:List XV} (hx:xs.map XV.k=pat) (w:World):(Instr.checkKey emp (m+2) t (.agg (xvs xs).toArray)).run P w=.ok () w:=by
 obtain ⟨h1,h3,h4,h5⟩:=Gw h
 have:=nt (P:=P) emp m xs w (P.fieldsOf t).toList pat 0 h3 (by simpa using hx)
 rw [Instr.checkKey]
 simp only [Sem.run_bind,run_underlying h1,Result.andThen_ok]
 rw [<- Array.forIn_toList]
 rw [show (forIn (P.fieldsOf t).toList PUnit.unit (fun f (_ : PUnit) => (if f.name ≠ "_" then do
   Instr.checkKey emp (m+1) f.type (<- part f.type (xvs xs).toArray f.offset)
   Pure.pure (ForInStep.yield PUnit.unit) else Pure.pure (ForInStep.yield PUnit.unit):Sem (ForInStep PUnit)))).run P w=.ok PUnit.unit w from this]
 rfl
theorem yy (n:Nat) (xs:List XV):Instr.sameBits (n+1) (.agg (xvs xs).toArray) (.agg (xvs xs).toArray)=true:=by
 simp only [Instr.sameBits,beq_self_eq_true,Bool.true_and,List.all_eq_true]
 intro p hp
 have:∀ (l:List Value),p∈l.zip l->p.1=p.2/\p.1∈l:=by
  intro l
  induction l with
  | nil=>intro h;cases h
  | cons a l ih =>
   intro h
   simp only [List.zip_cons_cons,List.mem_cons] at h
   rcases h with rfl | h
   ·simp
   ·have:=ih h
    exact ⟨this.1,List.mem_cons_of_mem _ this.2⟩
 obtain ⟨h1,h2⟩:=this _ hp
 simp only [List.toList_toArray,xvs,List.mem_map] at h2
 obtain ⟨a,_,ha⟩:=h2
 obtain ⟨x,y⟩:=p
 simp only at h1 ha ⊢
 subst h1
 rw [<- ha]
 cases a with
 | inl a=>exact ii _ _ _
 | inr a=>cases n<;>simp [XV.v,sv,Instr.sameBits,Oe]
theorem Gy {κ:Type} [DecidableEq κ] (f:κ->List XV) {kt:Nat} (pat:List Bool) (h:Gv P kt pat=true) (hf:∀ k,(f k).map XV.k=pat) (inj:∀ a b,f a=f b->a=b):KeyLaw P kt (fun k=>Value.agg (xvs (f k)).toArray) where
 check emp k w:=yx h emp 9998 (hf k) w
 find k ks es w hk:=by
  obtain ⟨h1,h3,h4,h5⟩:=Gw h
  have hask:∀ (ks:List κ) (es:List MapEntry) (i:Nat) (w:World),es.map (·.key)=ks.map (fun k=>Value.agg (xvs (f k)).toArray) ->
    (Instr.findAsking kt (Value.agg (xvs (f k)).toArray) es i).run P w=.ok (bz k ks es i) w:=by
   intro ks
   induction ks with
   | nil =>
    intro es i w h
    have:es=[]:=by simpa using h
    subst this
    simp [Instr.findAsking,bz]
   | cons k' ks ih =>
    intro es i w h'
    cases es with
    | nil=>simp at h'
    | cons e es =>
     simp only [List.map_cons,List.cons.injEq] at h'
     have he:(Op.equal kt (Value.agg (xvs (f k)).toArray) e.key).run P w=.ok (decide (f k=f k')) w:=by
      rw [h'.1]
      exact yw h 9998 (hf k) (hf k') w
     simp only [Instr.findAsking,Sem.run_bind,he,Result.andThen_ok,bz]
     by_cases hkk:k=k'
     ·subst hkk;simp
     ·have:¬ f k=f k':=fun e=>hkk (inj _ _ e)
      simp only [this,decide_false,Bool.false_eq_true,if_false,hkk]
      exact ih es (i+1) w h'.2
  cases es with
  | nil =>
   cases ks with
   | nil=>simp [Instr.findKey,run_underlying h1,Instr.findNow,bz]
   | cons k' ks=>simp at hk
  | cons e es =>
   have hnow:Instr.findNow (.struct (P.fieldsOf kt)) (Value.agg (xvs (f k)).toArray) (e :: es) 0=none:=by
    simp [Instr.findNow,Instr.sameNow]
   simp only [Instr.findKey,Sem.run_bind,run_underlying h1,Result.andThen_ok,hnow]
   exact hask ks (e :: es) 0 w hk
 stays k:=yy _ _
end
def qv (r:Option Nat):Fence:={ Fence.wide with round:=r }
def NoOut (Q:Exit->Act->World->Prop):Prop:=¬ LetsOut Q
def ju (o:Oper):Bool:=match o.op with
 | .defer _=>false
 | _=>true
theorem Cj {o:Oper} (h:ju o=true) (r:Option Nat) (ρ:Operand->Value):Oper.semAt r ρ o=execOp ρ o:=Oper.semAt_eq _ _ _ fun c hc=>by simp [ju,hc] at h
theorem Rows.wide {P:Program} {row:String} {args:Array Value} {w:World} {R:Value->World->Prop} {r:Option Nat} {k:Nat} (h:Rows P row args w R):RowsIn (qv r) k P row args w R :=
 fun c cs _=>let ⟨v,w',hr,s⟩:=h c cs;⟨v,w',hr,stepsIn_wide.2 s⟩
theorem Calls.wide {P:Program} {f:FuncId} {args:Array Value} {w:World} {R:Ending->World->Prop} {r:Option Nat} {k:Nat} (h:Calls P f args w R):CallsIn (qv r) k P f args w R :=
 (callsIn_wide (n:=k)).2 h
theorem Oper.wp_wide {P:Program} {o:Oper} {a:Act} {w:World} {K K':Act->World->Prop} {Q Q':Exit->Act->World->Prop} {r:Option Nat} (ho:ju o=true) (hK:∀ a w,K a w->K' a w) (hP:∀ c a w,Q (.panic c) a w->Q' (.panic c) a w) (hO:NoOut Q)
  (h:o.wp P a w K Q):o.wpIn (qv r) 0 P a w K' Q':=by
 refine ⟨fun _ _=>trivial,?_⟩
 rw [Cj ho]
 unfold Oper.wp at h
 generalize (execOp a.eval o).run P w=x at *
 cases x with
 | ok n w' =>
  cases n<;>simp only [Oper.upon,Oper.uponIn] at h ⊢ <;>
   first
    | exact hK _ _ h
    | exact ⟨fun hd=>(by cases hd),(Calls.wide h).mono fun e w'' he=>(by cases e<;>first | exact hK _ _ he | exact hP _ _ _ he | exact absurd he hO)⟩
    | exact ⟨fun hd=>(by cases hd),(Rows.wide h).mono fun _ _ he=>hK _ _ he⟩
 | halt x w'=>cases x<;>simp only [Oper.upon,Oper.uponIn] at h ⊢<;>exact hP _ _ _ h
theorem A6 {P:Program} {ops:Array Oper} {Q:Exit->Act->World->Prop} {r:Option Nat} (hO:NoOut Q):∀ (l:List Oper),l.all ju=true->∀ (a:Act) (w:World),wpList P ops Q l a w->wpListIn (qv r) 0 P ops Q l a w:=by
 intro l
 induction l with
 | nil=>exact fun _ _ _ h=>h
 | cons o l ih =>
  intro hl a w h
  simp only [List.all_cons,Bool.and_eq_true] at hl
  unfold wpList at h
  unfold wpListIn
  split
  ·rename_i hw
   rw [if_pos hw] at h
   rcases h with h | ⟨_,h⟩
   ·exact Oper.wp_wide hl.1 (ih hl.2) (fun _ _ _ h=>h) hO h
   ·exact absurd h hO
  ·rename_i hw
   rw [if_neg hw] at h
   exact ⟨fun _ _=>trivial,ih hl.2 _ _ h⟩
section
variable (P:Program) (B:Base) (n:Fr)
def WJ (ll:Nat) (c:Code) (Q:Exit->Act->World->Prop) (e:Env) (L:List HP):Prop:=∀ a w,Ag n e a->Sat B w L->c.wpIn (qv (some ll)) 0 P Q a w
end
section
variable {P:Program} {B:Base} {n:Fr} {Q Q':Exit->Act->World->Prop} {e:Env} {L:List HP} {ops:Array Oper} {l:List Oper} {ll:Nat}
theorem WJ.seq {x y:Code} (h:WJ P B n ll x (Exit.then (y.wpIn (qv (some ll)) 0 P Q) Q) e L):WJ P B n ll (.seq x y) Q e L:=fun a w ha hs=>wpIn_seq (h a w ha hs)
theorem WJ.skip (h:WQ B n Q .normal e L):WJ P B n ll .skip Q e L:=fun a w ha hs=>wpIn_skip (h a w ha hs)
theorem WJ.block {id:Nat} {c:Code} (h:WJ P B n ll c (Exit.inBlock id Q) e L):WJ P B n ll (.block id c) Q e L:=fun a w ha hs=>wpIn_block (h a w ha hs)
theorem WJ.ret (h:WQ B n Q .ret e L):WJ P B n ll .ret Q e L:=fun a w ha hs=>wpIn_ret (h a w ha hs)
theorem WJ.region {id:Nat} {l:List Oper} (hO:NoOut Q) (h:WL P B n l.toArray l Q e L) (hl:l.all ju=true:=by rfl):WJ P B n ll (.region id l.toArray false) Q e L :=
 fun a w ha hs=>wpIn_region_lit (A6 hO l hl a w (h a w ha hs))
theorem WJ.condT {c:Operand} {x y:Code} {v:Value} (hc:evo e c=some v) (hv:v=.bool true) (h:WJ P B n ll x Q e L):WJ P B n ll (.cond c x y) Q e L:=by
 subst hv
 exact fun a w ha hs=>wpIn_cond_true (ha.eval hc) (h a w ha hs)
theorem WJ.condF {c:Operand} {x y:Code} {v:Value} (hc:evo e c=some v) (hv:v=.bool false) (h:WJ P B n ll y Q e L):WJ P B n ll (.cond c x y) Q e L:=by
 subst hv
 exact fun a w ha hs=>wpIn_cond_false (ha.eval hc) (h a w ha hs)
theorem WQ.nextI {y:Code} (h:WJ P B n ll y Q' e L):WQ B n (Exit.then (y.wpIn (qv (some ll)) 0 P Q') Q) .normal e L:=fun a w ha hs=>h a w ha hs
theorem NoOut.then {K:Act->World->Prop} (h:NoOut Q):NoOut (Exit.then K Q):=h
theorem NoOut.block {i:Nat} (h:NoOut Q):NoOut (Exit.inBlock i Q):=h
theorem NoOut.join {σ:Type} {E:σ->Env} {I:σ->List HP} {p:σ->Prop} (h:NoOut Q):NoOut (Join B n E I p Q):=h
theorem NoOut.no :NoOut (fun _ _ _=>False):=fun ⟨_,_,h⟩=>h
theorem NoOut.round {ll:Nat} {R:Ending->World->Prop}:NoOut (roundPost P ll R):=fun ⟨_,_,h⟩=>h
theorem NoOut.body {fn:Func} {F:List HP} {R:List HP->Value->List HP->Prop}:NoOut (bodyPost P fn (Post B F R)):=fun ⟨_,_,h⟩=>by
 obtain ⟨_,_,h,_⟩:=h
 cases h
theorem NoOut.bodyM {F:Fence} {k:Nat} {fn:Func} {G:List HP} {R:List HP->Value->List HP->Prop}:NoOut (bodyPostM F k P fn (Post B G R)):=fun ⟨_,_,h⟩=>by
 obtain ⟨_,_,h,_⟩:=h
 cases h
theorem NoOut.auto (h:NoOut Q:=by repeat (first | exact NoOut.body | exact NoOut.bodyM | exact NoOut.round | exact NoOut.no | refine NoOut.then ?_ | refine NoOut.block ?_ | refine NoOut.join ?_)):NoOut Q:=h
def RSpec (P:Program) (ll:Nat) (vs:List Value) (L:List HP) (R:List HP->Bool->List HP->Prop):Prop :=
 ∀ B F w,Sat B w (L++F)->∃ f tmps assign body,(Instr.yield ll vs.toArray).run P w=.ok (.round ll f tmps assign body) w ∧
  RoundIn Fence.wide 0 P ll f tmps assign body w fun e w'=>∃ b M,e=.returned (.bool b)/\R F b M/\Sat B w' M
abbrev lrec (fn:Nat) (tmps:Array Value) (ps:Array Nat) (assign body:Code) (D:Nat) (st:LoopState) (pe:Option Code):Loop :=
 { state:=st,pending:=pe,fn,tmps,params:=ps,assign,body,defers:=D }
def Ev (B:Base) (F:List HP) (R:List HP->Bool->List HP->Prop):Ending->World->Prop:=fun e w'=>∃ b M,e=.returned (.bool b)/\R F b M/\Sat B w' M
def Lj (P:Program) (ll:Nat) (body:Code) (R:Ending->World->Prop):Exit->Act->World->Prop :=
 Exit.then (fun a₁ w₁=>∃ w₂,(Instr.beginRound ll).run P w₁=.ok () w₂/\body.wpIn (qv (some ll)) 0 P (roundPost P ll R) a₁ w₂) (fun _ _ _=>False)
def envs (e:Env):List Nat->List Value->Env
 | p :: ps,v :: vs=>envs ((p,v) :: e) ps vs
 | _,_=>e
theorem Ag.envs {n:Fr}:∀ (ps:List Nat) (vs:List Value) (e:Env) (a:Act),Ag n e a->ps.all (fun p=>Nat.ble (p+1) n.k)=true ->
  Ag n (envs e ps vs) { a with tmps:=(ps.zip vs).foldl (fun t (p,v)=>t.setIfInBounds p v) a.tmps }:=by
 intro ps
 induction ps with
 | nil=>intro vs e a ha _;cases vs<;>exact ha
 | cons p ps ih =>
  intro vs e a ha hp
  cases vs with
  | nil=>exact ha
  | cons v vs =>
   simp only [List.all_cons,Bool.and_eq_true] at hp
   exact ih vs _ _ (ha.put hp.1 v) hp.2
theorem Lk (ps:List Nat) (vs:List Value) (t:Array Value):(ps.toArray.zip vs.toArray).foldl (fun tmps (x:Nat×Value)=>tmps.setIfInBounds x.1 x.2) t=(ps.zip vs).foldl (fun t (p,v)=>t.setIfInBounds p v) t:=by
 simp [<- Array.foldl_toList]
theorem RSpec.intro {fn D:Nat} {tmps:Array Value} {ps:List Nat} {assign body:Code} {vs:List Value} {M:List HP} {R:List HP->Bool->List HP->Prop} {e0:Env}
  (he:∀ t v,look e0 t=some v->tmps.getD t undef=v) (hlen:vs.length=ps.length) (hps:ps.all (fun p=>Nat.ble (p+1) tmps.size)=true)
  (h:∀ B F,WJ P B ⟨tmps.size,[]⟩ ll assign (Lj P ll body (Ev B F R)) (envs e0 ps vs) (pt ll (.loop (lrec fn tmps ps.toArray assign body D .ready none)) :: M++F)) :
  RSpec P ll vs (pt ll (.loop (lrec fn tmps ps.toArray assign body D .ready none)) :: M) R:=by
 intro B F w hs
 have hl:=hs.get (b:=ll) (Mem.here)
 refine ⟨fn,_,assign,body,run_yield hl (by simp [hlen]),roundIn_of_wpIn trivial ?_⟩
 have ha:=Ag.envs (n:=⟨tmps.size,[]⟩) ps vs e0 ⟨tmps,[]⟩ ⟨rfl,rfl,he⟩ hps
 have:=h B F _ w ha hs
 rw [Lk]
 exact this
theorem WQ.begin {R:Ending->World->Prop} {fn D:Nat} {tmps:Array Value} {ps:Array Nat} {asg body:Code} {L':List HP}
  (h:WJ P B n ll body (roundPost P ll R) e L') (r:Repl L (pt ll (.loop (lrec fn tmps ps asg body D .ready none))) (pt ll (.loop (lrec fn tmps ps asg body D .busy none))) L') :
  WQ B n (Lj P ll body R) .normal e L:=by
 intro a w ha hs
 obtain ⟨m,r1,_⟩:=r.rem
 have hl:=(hs.front r1).get (b:=ll) Mem.here
 exact ⟨_,run_beginRound hl rfl,h a _ ha (hs.set r)⟩
theorem WQ.rnd {F:List HP} {R:List HP->Bool->List HP->Prop} {fn D:Nat} {tmps:Array Value} {ps:Array Nat} {asg body:Code} {L':List HP}
  (h:∃ M,R F true M/\Am L' M) (r:Repl L (pt ll (.loop (lrec fn tmps ps asg body D .busy none))) (pt ll (.loop (lrec fn tmps ps asg body D .ready none))) L') :
  WQ B n (roundPost P ll (Ev B F R)) .normal e L:=by
 obtain ⟨M,hR,hM⟩:=h
 intro a w ha hs
 obtain ⟨m,r1,_⟩:=r.rem
 have hl:=(hs.front r1).get (b:=ll) Mem.here
 exact ⟨_,_,run_endRound none hl,_,M,rfl,hR,hM.wk B _ (hs.set r)⟩
theorem WQ.rndRet {F:List HP} {R:List HP->Bool->List HP->Prop} {fn D:Nat} {tmps:Array Value} {ps:Array Nat} {asg body:Code} {L':List HP}
  (h:∃ M,R F false M/\Am L' M) (r:Repl L (pt ll (.loop (lrec fn tmps ps asg body D .busy none))) (pt ll (.loop (lrec fn tmps ps asg body D .done (some .ret)))) L') :
  WQ B n (roundPost P ll (Ev B F R)) .ret e L:=by
 obtain ⟨M,hR,hM⟩:=h
 intro a w ha hs
 obtain ⟨m,r1,_⟩:=r.rem
 have hl:=(hs.front r1).get (b:=ll) Mem.here
 exact ⟨_,_,run_endRound (some .ret) hl,_,M,rfl,hR,hM.wk B _ (hs.set r)⟩
abbrev um (D:Nat):Deferred:={ target:=.collected D,args:=#[] }
theorem WC.range {g:Operand} {ps:Array Nat} {asg body:Code} {gf:FuncId} {cap:Array Value}
  (hg:evo e g=some (.func (.func gf) #[] cap)) (hc:∀ args w,(callFunc gf args).run P w=.ok (.enter gf args) w)
  (h:∀ (fn D ll:Nat) (tmps:Array Value),tmps.size=n.k->(∀ t v,look e t=some v->tmps.getD t undef=v) ->
   ∃ (pre Lr:List HP) (R:List HP->Value->List HP->Prop),Spec P gf (#[.func (.yield ll) #[] #[]]++cap) pre R ∧
    Tk (pt ll (.loop (lrec fn tmps ps asg body D .ready none)) :: pt D (.deferred (some [])) :: L) pre Lr ∧
    ∀ v M,R Lr v M->∃ st pe M',Rem M (pt ll (.loop (lrec fn tmps ps asg body D st pe))) M'/\st≠.busy ∧
     match pe with
     | none=>WQ B ⟨n.k,um D :: n.ds⟩ Q .normal e M'
     | some c=>WC P B ⟨n.k,um D :: n.ds⟩ c Q e M') :
  WC P B n (.rangeFunc g ps asg body) Q e L:=by
 intro a w ha hs
 refine wpIn_wide (n:=0).1 (wpIn_rangeFunc ?_)
 intro fn _
 have hs1:=(hs.new (.deferred (some []))).new (.loop (lrec fn a.tmps ps asg body w.heap.size .ready none))
 rw [World.size_alloc] at hs1
 have hent:=run_enterLoop_outer (P:=P) (w:=w) fn a.tmps ps asg body
 generalize (w.alloc (.deferred (some []))).alloc (.loop (lrec fn a.tmps ps asg body w.heap.size .ready none))=W1 at hs1 hent
 obtain ⟨pre,Lr,R,sp,tk,hk⟩:=h fn w.heap.size (w.heap.size+1) a.tmps ha.size ha.get
 refine ⟨w.heap.size+1,[um w.heap.size],W1,{ target:=.fn (.func gf) cap,args:=#[.func (.yield (w.heap.size+1)) #[] #[]] },W1,gf,#[.func (.yield (w.heap.size+1)) #[] #[]]++cap,W1,
  hent,?_,fun _ _=>trivial,?_,fun hd=>(by cases hd),?_⟩
 ·simp only [resolve,ha.eval hg]
  simp [go_sem]
 ·simp [invoke,go_sem,hc]
 ·refine (Calls.wide (r:=none) (sp B Lr _ (hs1.take tk))).mono ?_
  rintro ed w3 ⟨v,M,rfl,hR,hs3⟩
  obtain ⟨st,pe,M',hrem,hst,hq⟩:=hk v M hR
  have hs4:=hs3.front hrem
  have hl:=hs4.get (b:=w.heap.size+1) Mem.here
  refine ⟨pe,_,run_endLoop hl hst,?_⟩
  have hs5:Sat B (World.putObj w3 (w.heap.size+1) (.loop { lrec fn a.tmps ps asg body w.heap.size st pe with state:=.exhausted })) M':=(hs4.set .here).tail
  have ha':Ag ⟨n.k,um w.heap.size :: n.ds⟩ e { a with defers:=[um w.heap.size]++a.defers }:=⟨by simp [ha.defers],ha.size,ha.get⟩
  cases pe with
  | none=>exact hq _ _ ha' hs5
  | some c=>exact wpIn_wide.2 (hq _ _ ha' hs5)
theorem Spec.introM {f:FuncId} {fn:Func} {c:Code} {vas:List Value} {pre:List HP} {R:List HP->Value->List HP->Prop}
  (hf:P.funcs[f]?=some fn) (hb:fn.body=some c) (hn:Nat.ble vas.length fn.ntmps=true)
  (h:∀ B F,WC P B ⟨fn.ntmps,[]⟩ c (bodyPostM Fence.wide 0 P fn (Post B F R)) (env0 0 vas) (pre++F)):Spec P f vas.toArray pre R :=
 fun B F w hs=>callsIn_wide.1 (callsIn_of_wp_marks hf hb trivial (wpIn_wide.2 (h B F _ w (o7 hn) hs)))
variable {fn:Func} {F:List HP} {R:List HP->Value->List HP->Prop}
end
def Sq (l:List Oper) (k:Nat) (lst:List Bool):Bool :=
 lst.all id || ((Region.ready .any l.toArray (lst++[false,false]).toArray==Region.ready .any (l.take k).toArray lst.toArray) && !(Region.ready .any (l.take k).toArray lst.toArray).isEmpty)
def Ll (l:List Oper) (k:Nat):Nat->List Bool->Bool
 | 0,_=>true
 | f+1,lst=>Sq l k lst && (Region.ready .any (l.take k).toArray lst.toArray).all fun i=>Ll l k f (lst.set i true)
def Lm (l:List Oper) (k:Nat):Bool:=Nat.beq l.length (k+2) && (l.take k).all (fun o=>ju o && o.guard.isNone) && Ll l k k (List.replicate k false)
def Qy (P:Program) (l:List Oper) (k:Nat) (Q:Exit->Act->World->Prop):Exit->Act->World->Prop
 | .normal,a,w=>wpAnyIn (qv none) 0 P .any l.toArray Q 2 (List.replicate k true++[false,false]).toArray a w
 | x,a,w=>Q x a w
theorem Gz {l:List Bool} {i:Nat} (h:l[i]?=some false):(l.set i true).count false+1=l.count false:=by
 induction l generalizing i with
 | nil=>cases h
 | cons b l ih =>
  cases i with
  | zero =>
   simp only [List.getElem?_cons_zero,Option.some.injEq] at h
   subst h
   simp
  | succ i =>
   simp only [List.getElem?_cons_succ] at h
   have:=ih h
   cases b<;>simp<;>omega
theorem G0 {P:Program} {l:List Oper} {k:Nat} {Q:Exit->Act->World->Prop} (hc:Lm l k=true) (hO:NoOut Q) :
  ∀ (fuel:Nat) (lst:List Bool),Ll l k fuel lst=true->lst.length=k->lst.count false=fuel->∀ a w,wpAny P .any (l.take k).toArray (Qy P l k Q) fuel lst.toArray a w ->
   wpAnyIn (qv none) 0 P .any l.toArray Q (fuel+2) (lst++[false,false]).toArray a w:=by
 simp only [Lm,Bool.and_eq_true] at hc
 obtain ⟨⟨hlen,hplain⟩,_⟩:=hc
 have hlen:=Nat.eq_of_beq_eq_true hlen
 have hO':NoOut (Qy P l k Q):=hO
 intro fuel
 induction fuel with
 | zero =>
  intro lst _ hl hcnt a w h
  have:lst=List.replicate k true:=by
   refine List.eq_replicate_iff.2 ⟨hl,fun b hb=>?_⟩
   cases b
   ·exact absurd hb (List.count_eq_zero.1 hcnt)
   ·rfl
  rw [this]
  exact h.2
 | succ fuel ih =>
  intro lst hgo hl hcnt a w h
  simp only [Ll,Bool.and_eq_true] at hgo
  obtain ⟨hcut,hgo⟩:=hgo
  have hnot:lst.all id=false:=by
   cases hb:lst.all id
   ·rfl
   ·have:lst.count false=0:=List.count_eq_zero.2 fun hm=>by
     have:=List.all_eq_true.1 hb false hm
     cases this
    omega
  simp only [Sq,hnot,Bool.false_or,Bool.and_eq_true,beq_iff_eq] at hcut
  obtain ⟨hready,hne⟩:=hcut
  refine ⟨fun h0=>?_,fun i hi=>?_⟩
  ·rw [hready] at h0
   rw [h0] at hne
   simp at hne
  ·rw [hready] at hi
   have hstep:=h.2 i hi
   obtain ⟨hun,o,ho,_⟩:=mem_ready.1 hi
   have hik:i < lst.length:=by
    rcases Nat.lt_or_ge i lst.length with h' | h'
    ·exact h'
    ·rw [Array.getD_eq_getD_getElem?,Array.getElem?_eq_none (by simpa using h')] at hun
     cases hun
   have hlf:lst[i]?=some false:=by
    have:lst.toArray.getD i true=lst[i]:=by simp [Array.getD_eq_getD_getElem?,hik]
    rw [this] at hun
    rw [List.getElem?_eq_getElem hik,hun]
   have ho2:(l.take k)[i]?=some o:=by simpa using ho
   have hol:l[i]?=some o:=by
    rw [List.getElem?_take] at ho2
    split at ho2
    ·exact ho2
    ·cases ho2
   have hpo:=List.all_eq_true.1 hplain o (List.mem_of_getElem? ho2)
   simp only [Bool.and_eq_true,Option.isNone_iff_eq_none] at hpo
   have hw1:Region.wanted o (yielded (l.take k).toArray a.tmps)=true:=by simp [Region.wanted,hpo.2]
   have hw2:Region.wanted o (yielded l.toArray a.tmps)=true:=by simp [Region.wanted,hpo.2]
   unfold wpOp at hstep
   rw [ho] at hstep
   simp only [hw1,if_true] at hstep
   unfold wpOpIn
   rw [show l.toArray[i]?=some o by simpa using hol]
   simp only [hw2,if_true]
   rcases hstep with hstep | ⟨_,hstep⟩
   ·refine Oper.wp_wide hpo.1 (fun a' w' hk=>?_) (fun _ _ _ h=>h) hO' hstep
    have h1:(lst++[false,false]).toArray.setIfInBounds i true=(lst.set i true++[false,false]).toArray:=by
     simp [List.set_append,hik]
    rw [h1]
    refine ih (lst.set i true) (List.all_eq_true.1 hgo i hi) (by simpa using hl) (by have:=Gz hlf;omega) a' w' ?_
    simpa using hk
   ·exact absurd hstep hO'
section
variable {P:Program} {B:Base} {n:Fr} {Q:Exit->Act->World->Prop} {e:Env} {L:List HP}
theorem WC.drY {id k:Nat} {l:List Oper} (L0:List HP) (ds:List Nat) (hm:P.follows .mixedOrders=true) (hQ:NoPanic Q) (hO:NoOut Q)
  (h:WD P B n (l.take k).toArray (Qy P l k Q) L0 ds k (Array.replicate k false) e L) (hc:Lm l k=true:=by kernel_rfl):WC P B n (.region id l.toArray true) Q e L:=by
 intro a w ha hs
 have hc':=hc
 simp only [Lm,Bool.and_eq_true] at hc'
 have hlen:=Nat.eq_of_beq_eq_true hc'.1.1
 have h1:=r3 (S:=fun w=>Sat B w L0) (ds:=ds) _ _ _ _ (h hQ a w.drew ha hs.drew)
 have h2:=G0 hc hO k (List.replicate k false) hc'.2 (by simp) (by simp) a w.drew (by simpa using h1)
 refine wpIn_wide (n:=0).1 (wpIn_region_any hm ?_)
 have h3:l.toArray.size=k+2:=by simp [hlen]
 rw [h3]
 have h4:Array.replicate (k+2) false=(List.replicate k false++[false,false]).toArray:=by
  apply Array.ext'
  simp [List.replicate_succ']
 rw [h4]
 exact h2
def Of (l:List Oper) (k:Nat):Bool :=
 (Region.ready .any l.toArray (List.replicate k true++[false,false]).toArray==[k]) && (Region.ready .any l.toArray (List.replicate k true++[true,false]).toArray==[k+1]) && (Region.ready .any l.toArray (List.replicate k true++[true,true]).toArray==[])
theorem WQ.yield {k d t ll:Nat} {l:List Oper} {xs:List Operand} {tys:Array TypeId} {ty:TypeId} {pos:String} {af:Array Edge} {o2:Oper} {vs:List Value} {pre Lr:List HP} {R:List HP->Bool->List HP->Prop}
  (h0:l[k]?=some ⟨some d,.call ⟨.value (.tmp t),xs.toArray,tys⟩,ty,pos,af,none⟩) (h1:l[k+1]?=some o2) (sp:RSpec P ll vs pre R) (hO:NoOut Q)
  (h:∀ b M,R Lr b M->WL P B n l.toArray [o2] Q ((d,.bool b) :: e) M)
  (tk:Tk L pre Lr:=by repeat (first | exact .nil | (apply Tk.cons;focus ((repeat (first | exact .here | apply Rem.there));done))))
  (hf:evo e (.tmp t)=some (.func (.yield ll) #[] #[]):=by rfl) (hx:evos e xs=some vs:=by rfl) (ho2:(ju o2 && o2.guard.isNone)=true:=by rfl)
  (hr:Of l k=true:=by kernel_rfl) (hd:Nat.ble (d+1) n.k=true:=by rfl):WQ B n (Qy P l k Q) .normal e L:=by
 simp only [Of,Bool.and_eq_true,beq_iff_eq] at hr
 obtain ⟨⟨hr0,hr1⟩,hr2⟩:=hr
 simp only [Bool.and_eq_true,Option.isNone_iff_eq_none] at ho2
 intro a w ha hs
 have hset0:(List.replicate k true++[false,false]).toArray.setIfInBounds k true=(List.replicate k true++[true,false]).toArray:=by
  simp [List.set_append]
 have hset1:(List.replicate k true++[true,false]).toArray.setIfInBounds (k+1) true=(List.replicate k true++[true,true]).toArray:=by
  simp [List.set_append]
 refine ⟨fun h=>(by rw [hr0] at h;cases h),fun i hi=>?_⟩
 rw [hr0] at hi
 obtain rfl:i=k:=by simpa using hi
 unfold wpOpIn
 rw [show l.toArray[i]?=some _ by simpa using h0]
 simp only [Region.wanted,if_true]
 refine ⟨fun _ _=>trivial,?_⟩
 have hargs:xs.map a.eval=vs:=fj ha hx
 obtain ⟨f,tmps,assign,body,hy,hround⟩:=sp B Lr w (hs.take tk)
 have hrun:(Oper.semAt (qv none).round a.eval ⟨some d,.call ⟨.value (.tmp t),xs.toArray,tys⟩,ty,pos,af,none⟩).run P w=.ok (.round ll f tmps assign body) w:=by
  rw [Cj rfl]
  simp [execOp,resolve,Deferred.ofValue,ha.eval hf,invoke,hargs,hy]
 rw [hrun]
 refine ⟨fun hd=>(by cases hd),hround.mono ?_⟩
 rintro ed w' ⟨b,M,rfl,hR,hs'⟩
 show wpAnyIn (qv none) 0 P .any l.toArray Q 1 _ _ w'
 rw [hset0]
 refine ⟨fun h=>(by rw [hr1] at h;cases h),fun j hj=>?_⟩
 rw [hr1] at hj
 obtain rfl:j=i+1:=by simpa using hj
 have h5:=h b M hR _ w' (ha.put hd (.bool b)) hs'
 have hw:Region.wanted o2 (yielded l.toArray (a.put (some d) (.bool b)).tmps)=true:=by simp [Region.wanted,ho2.2]
 unfold wpOpIn
 rw [show l.toArray[i+1]?=some o2 by simpa using h1]
 simp only [hw,if_true]
 unfold wpList at h5
 rw [if_pos hw] at h5
 rcases h5 with h5 | ⟨_,h5⟩
 ·refine Oper.wp_wide ho2.1 (fun a' w'' hk=>?_) (fun _ _ _ h=>h) hO h5
  rw [hset1]
  exact ⟨hr2,hk⟩
 ·exact absurd h5 hO
end
def exH {α:Type} (p:α->Prop) (Ls:α->List HP):HP:=fun h=>∃ x,p x/\star (Ls x) h
theorem exH.opens {α:Type} {p:α->Prop} {Ls:α->List HP}:Opens (exH p Ls) p Ls:=⟨fun _ h=>h,fun x hp _ h=>⟨x,hp,h⟩⟩
section
variable {P:Program} {B:Base} {n:Fr} {Q:Exit->Act->World->Prop} {e:Env} {L:List HP} {ll:Nat}
theorem Spec.pre' {f:FuncId} {args:Array Value} {pre pre':List HP} {R:List HP->Value->List HP->Prop} (h:Spec P f args pre R) (hp:∀ B w F,Sat B w (pre'++F)->Sat B w (pre++F)):Spec P f args pre' R:=fun B F w hs=>h B F w (hp B w F hs)
theorem Spec.post' {f:FuncId} {args:Array Value} {pre:List HP} {R R':List HP->Value->List HP->Prop} (h:Spec P f args pre R) (hr:∀ F v M B w,R F v M->Sat B w M->∃ M',R' F v M'/\Sat B w M'):Spec P f args pre R' :=
 fun B F w hs=>(h B F w hs).mono fun e w' ⟨v,M,he,hR,hM⟩=>by
  obtain ⟨M',h1,h2⟩:=hr F v M B w' hR hM
  exact ⟨v,M',he,h1,h2⟩
theorem Spec.frame {f:FuncId} {args:Array Value} {pre:List HP} {R:List HP->Value->List HP->Prop} (A:HP) (h:Spec P f args pre R):Spec P f args (A :: pre) (fun F v M=>R (A :: F) v M):=fun B F w hs=>h B (A :: F) w (hs.take Tk.behind)
theorem Spec.ofFact {f:FuncId} {args:Array Value} {pre:List HP} {R:List HP->Value->List HP->Prop} {A:HP} {φ:Prop} (hA:∀ h,A h->φ) (h:φ->Spec P f args pre R) (hm:Mem pre A:=by repeat (first | exact .here | refine .there ?_)):Spec P f args pre R:=by
 intro B F w hs
 obtain ⟨M,r⟩:=hm.rem
 have hs1:=hs.front (Rem.right (F:=F) r)
 obtain ⟨_,_,_,ks,hk⟩:=hs1
 match ks,hk with
 | h0 :: _,⟨h1,_⟩=>exact h (hA _ h1) B F w hs
theorem RSpec.pre' {vs:List Value} {pre pre':List HP} {R:List HP->Bool->List HP->Prop} (h:RSpec P ll vs pre R) (hp:∀ B w F,Sat B w (pre'++F)->Sat B w (pre++F)):RSpec P ll vs pre' R:=fun B F w hs=>h B F w (hp B w F hs)
theorem RSpec.post' {vs:List Value} {pre:List HP} {R R':List HP->Bool->List HP->Prop} (h:RSpec P ll vs pre R) (hr:∀ F b M B w,R F b M->Sat B w M->∃ M',R' F b M'/\Sat B w M'):RSpec P ll vs pre R':=by
 intro B F w hs
 obtain ⟨f,tmps,assign,body,h1,h2⟩:=h B F w hs
 refine ⟨f,tmps,assign,body,h1,h2.mono ?_⟩
 rintro e w' ⟨b,M,he,hR,hM⟩
 obtain ⟨M',h3,h4⟩:=hr F b M B w' hR hM
 exact ⟨b,M',he,h3,h4⟩
theorem RSpec.opens {A:HP} {α:Type} {p:α->Prop} {Ls:α->List HP} {vs:List Value} {pre:List HP} {R:List HP->Bool->List HP->Prop} (o:Opens A p Ls) (h:∀ y,p y->RSpec P ll vs (Ls y++pre) R):RSpec P ll vs (A :: pre) R:=by
 intro B F w hs
 obtain ⟨y,hy,h1⟩:=Sat.opens (M:=pre++F) hs o
 exact h y hy B F w (by rwa [List.append_assoc])
abbrev LRec (mk:LoopState->Option Code->Loop) (fn:Nat) (tmps:Array Value) (ps:Array Nat) (assign body:Code) (D:Nat):Prop:=∀ st pe,mk st pe=lrec fn tmps ps assign body D st pe
variable {mk:LoopState->Option Code->Loop} {fn D:Nat} {tmps:Array Value}
theorem WC.rangeK {g:Operand} {ps:Array Nat} {asg body:Code} {gf:FuncId} {cap:Array Value}
  (hg:evo e g=some (.func (.func gf) #[] cap)) (hc:∀ args w,(callFunc gf args).run P w=.ok (.enter gf args) w)
  (h:∀ (fn D ll:Nat) (tmps:Array Value) (mk:LoopState->Option Code->Loop),LRec mk fn tmps ps asg body D->tmps.size=n.k->(∀ t v,look e t=some v->tmps.getD t undef=v) ->
   ∃ (pre Lr:List HP) (R:List HP->Value->List HP->Prop),Spec P gf (#[.func (.yield ll) #[] #[]]++cap) pre R ∧
    Tk (pt ll (.loop (mk .ready none)) :: pt D (.deferred (some [])) :: L) pre Lr ∧
    ∀ v M,R Lr v M->∃ st pe M',Rem M (pt ll (.loop (mk st pe))) M'/\st≠.busy ∧
     match pe with
     | none=>WQ B ⟨n.k,um D :: n.ds⟩ Q .normal e M'
     | some c=>WC P B ⟨n.k,um D :: n.ds⟩ c Q e M') :
  WC P B n (.rangeFunc g ps asg body) Q e L:=WC.range hg hc fun fn D ll tmps h1 h2=>h fn D ll tmps (fun st pe=>lrec fn tmps ps asg body D st pe) (fun _ _=>rfl) h1 h2
theorem RSpec.introK {ps:List Nat} {asg body:Code} {vs:List Value} {M:List HP} {R:List HP->Bool->List HP->Prop} {e0:Env} {k:Nat}
  (hmk:LRec mk fn tmps ps.toArray asg body D) (hts:tmps.size=k) (he:∀ t v,look e0 t=some v->tmps.getD t undef=v) (hlen:vs.length=ps.length) (hps:ps.all (fun p=>Nat.ble (p+1) k)=true)
  (h:∀ B F,WJ P B ⟨k,[]⟩ ll asg (Lj P ll body (Ev B F R)) (envs e0 ps vs) (pt ll (.loop (mk .ready none)) :: M++F)):RSpec P ll vs (pt ll (.loop (mk .ready none)) :: M) R:=by
 subst hts
 rw [hmk]
 refine RSpec.intro he hlen hps fun B F=>?_
 have:=h B F
 rwa [hmk] at this
theorem WQ.beginK {R:Ending->World->Prop} {ps:Array Nat} {asg body:Code} {L':List HP} (hmk:LRec mk fn tmps ps asg body D)
  (h:WJ P B n ll body (roundPost P ll R) e L') (r:Repl L (pt ll (.loop (mk .ready none))) (pt ll (.loop (mk .busy none))) L'):WQ B n (Lj P ll body R) .normal e L:=by
 rw [hmk,hmk] at r
 exact WQ.begin h r
theorem WQ.rndK {F:List HP} {R:List HP->Bool->List HP->Prop} {ps:Array Nat} {asg body:Code} {L':List HP} (hmk:LRec mk fn tmps ps asg body D)
  (h:∃ M,R F true M/\Am L' M) (r:Repl L (pt ll (.loop (mk .busy none))) (pt ll (.loop (mk .ready none))) L'):WQ B n (roundPost P ll (Ev B F R)) .normal e L:=by
 rw [hmk,hmk] at r
 exact WQ.rnd h r
end
section
variable {P:Program} {B:Base} {n:Fr} {Q:Exit->Act->World->Prop} {e:Env} {L:List HP} {ops:Array Oper} {l:List Oper} {d:Nat} {ty:TypeId} {pos:String} {af:Array Edge} {x y:Operand} {gd:Option (Nat×Bool)}
theorem Qt.slcN {t el size bytes:Nat} {p:Int} {kp:IntKind} (ht:ar P t el size bytes=true)
  (hx:evo e x=some (.slice none 0 0):=by rfl) (hy:evo e y=some (.int kp p):=by rfl) (hp:p=0:=by omega) :
  Qt P B n e L ⟨some d,.slice t x (some y) none none,ty,pos,af,gd⟩ (.slice none 0 0) :=
 fun a w ha hs=>by
  obtain ⟨hu,i,zz,hi,hsz,hby,hzz⟩:=eh ht
  subst hp
  have hel:=wj hu
  have hu':P.underlying t=some (.slice (P.elem t)):=by rw [hel];exact hu
  simp only [execOp,ha.eval hx,Option.map_some,ha.eval hy,Option.map_none]
  rw [Sem.run_bind,run_sliceAt_slice w t _ _ _ _ hu',run_slice_l w t _ 0 0 hu' kp 0 (by decide) (by decide),hel]
  simp [sizeOf,typeInfo,hi,hsz,sliced]
theorem WL.slcN {t el size bytes:Nat} {p:Int} {kp:IntKind} (h:WL P B n ops l Q ((d,.slice none 0 0) :: e) L) (ht:ar P t el size bytes=true)
  (hx:evo e x=some (.slice none 0 0):=by rfl) (hy:evo e y=some (.int kp p):=by rfl) (hp:p=0:=by omega) (hd:Nat.ble (d+1) n.k=true:=by rfl) :
  WL P B n ops (⟨some d,.slice t x (some y) none none,ty,pos,af,none⟩ :: l) Q e L :=
 WL.pure h hd (Qt.slcN (ht:=ht) (hp:=hp) (hx:=hx) (hy:=hy))
end
def io (j:Option Nat) (op ov:Bool) (m:Nat):Obj:=.cells #[.pointer (j.map fun b=>⟨b,0,none⟩),.bool op,.bool ov,.map (some m)] 199 (0,0)
theorem yz {c m:Nat} {j:Option Nat} {op ov:Bool}:Spec Tryz.prog 133 #[.pointer (some ⟨c,0,none⟩)] [pt c (io j op ov m)]
  fun F v M=>v=.bool op/\M=pt c (io j op ov m) :: F:=by
 refine Spec.intro Tryz.func133 rfl rfl fun B F=>?_
 simp only [Tryz.ntmps133,List.cons_append,List.nil_append,env0,Nat.reduceAdd]
 refine .sr (.assign (.x (.move ?_)))
 refine .neNil ?_ km
 refine .move (.gT (.move (.gT (.nilCheck (.gT ?_)))))
 refine .fa ?_ si
 refine .gT ?_
 refine .ld ?_ sc4
 refine .pickT (.assign (.z (.ret (?_))))
 exact .ret1 (h1:=.tmp (t:=2) rfl) ⟨_,⟨rfl,rfl⟩,Am.auto⟩
theorem Sr :bc Tryz.prog 79 0 [] 5 #[]:=fun w=>by kernel_rfl
theorem G1 {R:List HP} {A:Option Addr} {n c:Nat} {at' size:Int} (hn:(n:Int)<=9223372036854775807) (hs:1<=size/\size<=8) (ha:0<=at') (ha':at'<=(n:Int) - size):Spec Tryz.prog 171 #[.slice A n c,.int .i64 at',.int .i64 size] R
  fun F v M=>v=.bool true/\M=R++F:=by
 refine Spec.intro Tryz.func171 rfl rfl fun B F=>?_
 simp only [Tryz.ntmps171,List.cons_append,List.nil_append,env0,Nat.reduceAdd]
 refine .sr (.assign (.x (.move ?_)))
 refine .geq ?_
 refine .move ?_
 refine .cast (d:=9) (u:=.bool true) rfl (cB9 (by first|simp;done|simp;omega|omega)) ?_
 refine .gT (.move (.gT ?_))
 refine .leq ?_
 refine .pickT (.move ?_)
 refine .cast (d:=13) (u:=.bool true) rfl (cB9 (by first|simp;done|simp;omega|omega)) ?_
 refine .gT (.move (.gT ?_))
 refine .geq ?_
 refine .pickT (.move ?_)
 refine .cast (d:=17) (u:=.bool true) rfl (cB9 (by first|simp;done|simp;omega|omega)) ?_
 refine .gT (.move (.gT (.move (.gT ?_))))
 refine .lenS ?_ sl79
 refine .gT (.move (.gT ?_))
 refine .sub ?_
 refine .gT ?_
 refine .leq ?_
 refine .pickT (.assign (.z (.ret (?_))))
 exact .ret1 (h1:=.tmp (t:=6) rfl) ⟨_,⟨cB9 (decide_eq_true (by omega)),rfl⟩,Am.auto⟩
theorem jb {R:HP} {A:Addr} {n c:Nat} {xs:aa} (hR:Reads R (some A) (bvs xs)) (hn:xs.length=n) (hl:n<=1073741824):Spec Tryz.prog 156 #[.slice (some A) n c] [R]
  fun F v M=>∃ g k,(v=.slice (some ⟨g,0,none⟩) n k/\n<=k/\k<=maxLen)/\M=buf g 5 k (bvs xs) :: R :: F:=by
 refine Spec.intro Tryz.func156 rfl rfl fun B F=>?_
 simp only [Tryz.ntmps156,List.cons_append,List.nil_append,env0,Nat.reduceAdd]
 obtain ⟨ab,ao,asp⟩:=A
 have hsp:asp=none:=hR.1
 subst hsp
 refine .sr (.assign (.z (.seq (.sr (.move ?_)))))
 refine .eqSl ?_ sl79
 refine .z ?_
 refine .condF rfl rfl ?_
 refine .skip (.next (.sr ?_))
 refine .buildS (fun b5=>?_) Sr
 refine .move ?_
 refine .to (A':=buf b5 5 0 []) (c6 (xs:=[]) rfl) ?_
 refine .to (di (Nat.zero_le _)) ?_
 refine .append (M:=R :: F) so79 (by decide) .here hR .here (by rw [ag,hn,Nat.mul_one]) (bo xs) (by unfold maxLen;simp only [List.length_nil];omega) (by simp only [List.length_nil];omega) ⟨_,z5,rfl⟩ (fun v' hv'=>?_)
 have hne:v'≠.slice none 0 0:=fun h=>by have:=(hv'.1 h).1;cases this
 refine .toE (br hne) ?_
 rintro ⟨g,k⟩ ⟨rfl,h1,h2,h3⟩
 refine .assign (.z (.ret (?_)))
 exact .ret1 (h1:=.tmp (t:=2) rfl) ⟨_,⟨g,k,⟨by simp,by simpa using h1,h2⟩,rfl⟩,Am.auto⟩
theorem Ck {R:HP} {A:Addr} {n c:Nat} {xs:aa} {k:Int} (hR:Reads R (some A) (bvs xs)) (hn:xs.length=n) (hl:n<=1073741824) (hk:0<=k/\k<=9223372036854775807):Spec Tryz.prog 270 #[.slice (some A) n c,.int .i64 k] [R]
  fun F v M=>v=.bool (tb xs k.toNat)/\M=R :: F:=by
 refine Spec.intro Tryz.func270 rfl rfl fun B F=>?_
 simp only [Tryz.ntmps270,List.cons_append,List.nil_append,env0,Nat.reduceAdd]
 obtain ⟨ab,ao,asp⟩:=A
 have hsp:asp=none:=hR.1
 subst hsp
 refine .sr (.assign (.x (.move ?_)))
 refine .geq ?_
 refine .move ?_
 refine .cast (d:=7) (u:=.bool true) rfl (cB9 (by first|simp;done|simp;omega|omega)) ?_
 refine .gT (.move (.gT ?_))
 refine .shr ?_
 refine .cast (d:=9) (u:=.int .i64 (k / 8)) rfl (cI9 (shr3 hk.1)) ?_
 refine .gT (.move (.gT ?_))
 refine .lenS ?_ sl79
 refine .gT ?_
 refine .lss ?_
 refine .pickT (.move ?_)
 refine .split (t:=14) rfl (fun hb=>?_) (fun hb=>?_)
 ·have hlt:k / 8 < (n:Int):=of_decide_eq_true hb
  have hsm:(xs.getD (k / 8).toNat 0).toNat >>> (k % 8).toNat<=255:=by
   have h1:=(xs.getD (k / 8).toNat 0).toNat_lt
   have h2:(xs.getD (k / 8).toNat 0).toNat >>> (k % 8).toNat<=(xs.getD (k / 8).toNat 0).toNat:=by rw [Nat.shiftRight_eq_div_pow];exact Nat.div_le_self _ _
   omega
  refine .gT (.move (.gT (.move (.gT ?_))))
  refine .shr ?_
  refine .cast (d:=17) (u:=.int .i64 (k / 8)) rfl (cI9 (shr3 hk.1)) ?_
  refine .gT ?_
  refine .idx1 ?_ so79
  refine .gT ?_
  refine .ldR ?_ sc5 hR (mz (show (k / 8).toNat < xs.length by omega))
  refine .gT (.move (.gT ?_))
  refine .and ?_
  refine .cast (d:=21) (u:=.int .i64 (k % 8)) rfl (cI9 (and7 hk.1 hk.2)) ?_
  refine .gT ?_
  refine .shr ?_
  refine .cast (d:=22) rfl (cI9 (Sk (xs.getD (k / 8).toNat 0) (j:=k % 8) (by omega) (by omega))) ?_
  refine .gT ?_
  refine .and ?_
  refine .cast (d:=23) rfl (cI9 (and1 _ hsm)) ?_
  refine .gT ?_
  refine .eqi ?_
  refine .pickT (.assign (.z (.ret (?_))))
  have hfin:tb xs k.toNat=decide ((((xs.getD (k / 8).toNat 0).toNat >>> (k % 8).toNat % 2:Nat):Int)=1):=by
   unfold tb
   rw [<- np,show k.toNat / 8=(k / 8).toNat from by omega,show k.toNat % 8=(k % 8).toNat from by omega]
   rw [decide_eq_decide]
   omega
  exact .ret1 (h1:=.tmp (t:=4) rfl) ⟨_,⟨cB9 hfin.symm,rfl⟩,Am.auto⟩
 ·have hlt:¬ k / 8 < (n:Int):=of_decide_eq_false hb
  refine .gF (.gF (.gF (.gF (.gF (.gF ?_)))))
  refine .gF (.gF (.gF (.gF (.pickF ?_))))
  refine .assign (.z (.ret (?_)))
  have hfin:tb xs k.toNat=false:=by
   unfold tb
   rw [List.getD_eq_getElem?_getD,List.getElem?_eq_none (by omega)]
   simp
  exact .ret1 (h1:=.tmp (t:=4) rfl) ⟨_,⟨cB9 hfin.symm,rfl⟩,Am.auto⟩
theorem P4 {R:HP} {A:Addr} {n c:Nat} {xs:aa} {k:Int} {on:Bool} (hR:Reads R (some A) (bvs xs)) (hn:xs.length=n) (hl:n<=1073741824) (hk:0<=k/\k<=9223372036854775807) (hk2:k / 8 < n):Spec Tryz.prog 271 #[.slice (some A) n c,.int .i64 k,.bool on] [R]
  fun F v M=>∃ g q,(v=.slice (some ⟨g,0,none⟩) n q/\n<=q/\q<=maxLen)/\M=buf g 5 q (bvs (ej xs k.toNat on)) :: R :: F:=by
 refine Spec.intro Tryz.func271 rfl rfl fun B F=>?_
 simp only [Tryz.ntmps271,List.cons_append,List.nil_append,env0,Nat.reduceAdd]
 obtain ⟨ab,ao,asp⟩:=A
 have hsp:asp=none:=hR.1
 subst hsp
 have hlt:(k / 8).toNat < xs.length:=by omega
 refine .sr (.assign (.x (.move ?_)))
 refine .call (hc:=Tryz.call156) (sp:=jb hR hn hl) (h:=?_)
 rintro _ _ ⟨gc,kc,⟨rfl,hc1,hc2⟩,rfl⟩
 refine .assign (.z (.seq (.sr (.move ?_))))
 refine .lss ?_
 refine .move ?_
 refine .cast (d:=12) (u:=.bool false) rfl (cB9 (by first|simp;done|simp;omega|omega)) ?_
 refine .gT (.move (.gT ?_))
 refine .shr ?_
 refine .cast (d:=14) (u:=.int .i64 (k / 8)) rfl (cI9 (shr3 hk.1)) ?_
 refine .gT (.move (.gT ?_))
 refine .lenS ?_ sl79
 refine .gT ?_
 refine .geq ?_
 refine .pickF (.z ?_)
 refine .condF rfl (cB9 (by first|simp;done|simp;omega|omega)) ?_
 refine .skip (.next (.seq (.sr (.move (.z ?_)))))
 refine .cond rfl (fun ho=>?_) (fun ho=>?_)
 ·subst ho
  refine .dr ([buf gc 5 kc (bvs xs)]) [10] 11 mixed .autoJ ?_
  refine .tk 0 rfl .move ?_
  refine .tk 1 rfl .move ?_
  refine .tk 2 rfl ((Qt.shr).eq (cI9 (shr3 hk.1))) ?_
  refine .tk 3 rfl (.idx1 so79) ?_
  refine .tk 4 rfl (Qt.ldR sc5 Reads.buf (mz hlt)) ?_
  refine .tk 5 rfl .move ?_
  refine .tk 6 rfl ((Qt.and).eq (cI9 (and7 hk.1 hk.2))) ?_
  refine .tk 7 rfl ((Qt.shl).eq (cI9 (shl1 (j:=k % 8) (by omega) (by omega)))) ?_
  refine .tk 8 rfl ((Qt.or).eq (Ps _ (k % 8).toNat (by omega))) ?_
  refine .tk 9 rfl (.idx1 so79) ?_
  refine .on 10 rfl fun hnp=>?_
  refine .stB ?_ sc5 (show 0+(k / 8).toNat < (bvs xs).length by rw [ag];omega)
  refine .nil (.wb hnp ?_)
  refine .fin ?_
  refine .to (r:=.here) (A':=buf gc 5 kc (bvs (ej xs k.toNat true))) (fun h hh=>by
   rw [qe xs k.toNat true _ (by rw [show k.toNat / 8=(k / 8).toNat from by omega,show k.toNat % 8=(k % 8).toNat from by omega]) _ (by omega)] at hh;exact hh) ?_
  refine .next (.sr (.move (.assign (.z (.ret (?_))))))
  exact .ret1 (h1:=.tmp (t:=6) rfl) ⟨_,⟨gc,kc,⟨rfl,hc1,hc2⟩,rfl⟩,Am.auto⟩
 ·subst ho
  refine .dr ([buf gc 5 kc (bvs xs)]) [10] 11 mixed .autoJ ?_
  refine .tk 0 rfl .move ?_
  refine .tk 1 rfl .move ?_
  refine .tk 2 rfl ((Qt.shr).eq (cI9 (shr3 hk.1))) ?_
  refine .tk 3 rfl (.idx1 so79) ?_
  refine .tk 4 rfl (Qt.ldR sc5 Reads.buf (mz hlt)) ?_
  refine .tk 5 rfl .move ?_
  refine .tk 6 rfl ((Qt.and).eq (cI9 (and7 hk.1 hk.2))) ?_
  refine .tk 7 rfl ((Qt.shl).eq (cI9 (shl1 (j:=k % 8) (by omega) (by omega)))) ?_
  refine .tk 8 rfl ((Qt.andNot).eq (Gg _ (k % 8).toNat (by omega))) ?_
  refine .tk 9 rfl (.idx1 so79) ?_
  refine .on 10 rfl fun hnp=>?_
  refine .stB ?_ sc5 (show 0+(k / 8).toNat < (bvs xs).length by rw [ag];omega)
  refine .nil (.wb hnp ?_)
  refine .fin ?_
  refine .to (r:=.here) (A':=buf gc 5 kc (bvs (ej xs k.toNat false))) (fun h hh=>by
   rw [qe xs k.toNat false _ (by rw [show k.toNat / 8=(k / 8).toNat from by omega,show k.toNat % 8=(k % 8).toNat from by omega]) _ (by omega)] at hh;exact hh) ?_
  refine .next (.sr (.move (.assign (.z (.ret (?_))))))
  exact .ret1 (h1:=.tmp (t:=6) rfl) ⟨_,⟨gc,kc,⟨rfl,hc1,hc2⟩,rfl⟩,Am.auto⟩
theorem G2 {R:HP} {A:Addr} {n c:Nat} {xs:aa} {m:Int} (hR:Reads R (some A) (bvs xs)) (hn:xs.length=n) (hl:n<=1073741824) (hm:0<=m/\m<=8 * n):Spec Tryz.prog 274 #[.slice (some A) n c,.int .i64 m] [R]
  fun F v M=>v=.int .i64 (match r7 xs m.toNat with | some k=>(k:Int) | none=>-1)/\M=R :: F:=by
 refine Spec.intro Tryz.func274 rfl rfl fun B F=>?_
 simp only [Tryz.ntmps274,List.cons_append,List.nil_append,env0,Nat.reduceAdd]
 obtain ⟨ab,ao,asp⟩:=A
 have hsp:asp=none:=hR.1
 subst hsp
 refine .sr (.assign (.z (.seq (.sr (.move ?_)))))
 refine .lenS ?_ sl79
 refine .move (.z (.block ?_))
 refine .loopA (σ:=Int) (fun i=>[(0,.slice (some ⟨ab,ao,none⟩) n c),(1,.int .i64 m),(8,.slice (some ⟨ab,ao,none⟩) n c),(9,.int .i64 (n:Int)),(10,.int .i64 i)]) (fun _=>R :: F) (fun i=>(0<=i/\i<=n)/\∀ j:Nat,j < 8 * i.toNat->j < m.toNat->tb xs j=true) (fun i=>(n - i).toNat) 0 ⟨by omega,fun j hj=>by omega⟩ ?_
 rintro i hp
 refine .sr ?_
 refine .lss (.z (.seq ?_))
 refine .cond rfl (fun hb=>?_) (fun hb=>?_)
 ·have hlt:i < (n:Int):=of_decide_eq_true hb
  refine .skip (.next (.seq (.block (.sr (.move ?_)))))
  refine .idx1 ?_ so79
  refine .ldR ?_ sc5 hR (mz (show i.toNat < xs.length by omega))
  refine .assign (.assign (.z (.seq (.sr (.move ?_)))))
  refine .eqi (.z ?_)
  refine .cond rfl (fun hf=>?_) (fun hf=>?_)
  ·have h255:xs.getD i.toNat 0=255:=by have:=of_decide_eq_true hf;apply UInt8.toNat_inj.1;show _=255;omega
   refine .exit (.thenExit (.blockExit (?_)))
   refine .next (.region ?_)
   refine .add ?_
   refine .move (.nil ?_)
   exact .back (i+1) ⟨by omega,fun j hj hj2=>if h:j < 8 * i.toNat then hp.2 j h hj2 else Sl (by rw [show j / 8=i.toNat from by omega];exact h255)⟩ (by omega)
  ·refine .skip (.next (.sr (.move ?_)))
   refine .mul ?_
   refine .assign (.z (.block ?_))
   refine .loopA (σ:=Int) (fun k=>[(0,.slice (some ⟨ab,ao,none⟩) n c),(1,.int .i64 m),(5,.int .i64 i),(7,.int .i64 k),(8,.slice (some ⟨ab,ao,none⟩) n c),(9,.int .i64 (n:Int)),(10,.int .i64 i)]) (fun _=>R :: F) (fun k=>(8 * i<=k/\k<=8 * i+8)/\∀ j:Nat,j < k.toNat->j < m.toNat->tb xs j=true) (fun k=>(8 * i+8 - k).toNat) (8 * i) ⟨by omega,fun j hj hj2=>hp.2 j (by omega) hj2⟩ ?_
   rintro k hq
   refine .seq (.sr (.move (.move ?_)))
   refine .mul ?_
   refine .add ?_
   refine .lss ?_
   refine .move ?_
   refine .split (t:=24) rfl (fun hb2=>?_) (fun hb2=>?_)
   ·have hk8:k < 8 * i+8:=of_decide_eq_true hb2
    refine .gT (.move (.gT (.move (.gT ?_))))
    refine .lss ?_
    refine .pickT (.z ?_)
    refine .cond rfl (fun hb3=>?_) (fun hb3=>?_)
    ·have hkm:k < m:=of_decide_eq_true hb3
     refine .skip (.next (.seq (.block (.sr (.move (.move ?_))))))
     refine .call (hc:=Tryz.call270) (sp:=Ck hR hn hl (by omega)) (h:=?_)
     rintro _ _ ⟨rfl,rfl⟩
     refine .not (.z ?_)
     refine .cond rfl (fun hb4=>?_) (fun hb4=>?_)
     ·have h0:tb xs k.toNat=false:=by simpa using hb4
      refine .sr (.move (.assign (.z ?_)))
      refine .ret (.blockRet (.thenRet (.thenRet (.blockRet (.blockRet (.thenRet (.thenRet (.blockRet (.thenRet (?_))))))))))
      have hfin:=r8 (xs:=xs) (n:=m.toNat) (k:=k.toNat) (by omega) h0 (fun j hj=>hq.2 j hj (by omega))
      exact .ret1 (h1:=.tmp (t:=4) rfl) ⟨_,⟨by rw [hfin];exact cI9 (by simp only [];omega),rfl⟩,Am.auto⟩
     ·have h1:tb xs k.toNat=true:=by simpa using hb4
      refine .skip (.blockNormal (.next (.region (.move ?_))))
      refine .add ?_
      refine .assign (.nil ?_)
      exact .back (k+1) ⟨by omega,fun j hj hj2=>if h:j < k.toNat then hq.2 j h hj2 else by rw [show j=k.toNat from by omega];exact h1⟩ (by omega)
    ·have hkm:¬ k < m:=of_decide_eq_false hb3
     refine .exit (.thenExit (.thenExit (.blockExit (?_))))
     refine .blockNormal (.next (.region ?_))
     refine .add ?_
     refine .move (.nil ?_)
     exact .back (i+1) ⟨by omega,fun j hj hj2=>hq.2 j (by omega) hj2⟩ (by omega)
   ·have hk8:¬ k < 8 * i+8:=of_decide_eq_false hb2
    refine .gF (.gF (.gF (.pickF (.z ?_))))
    refine .condF rfl rfl ?_
    refine .exit (.thenExit (.thenExit (.blockExit (?_))))
    refine .blockNormal (.next (.region ?_))
    refine .add ?_
    refine .move (.nil ?_)
    exact .back (i+1) ⟨by omega,fun j hj hj2=>hq.2 j (by omega) hj2⟩ (by omega)
 ·have hge:¬ i < (n:Int):=of_decide_eq_false hb
  refine .exit (.thenExit (.thenExit (.blockExit (?_))))
  refine .next (.sr (.assign (.z (.ret (?_)))))
  have hfin:=r9 (xs:=xs) (n:=m.toNat) (fun j hj=>hp.2 j (by omega) hj)
  exact .ret1 (h1:=.tmp (t:=4) rfl) ⟨_,⟨by rw [hfin],rfl⟩,Am.auto⟩
theorem G3 {R:HP} {A:Addr} {n c:Nat} {xs:aa} {m:Int} (hR:Reads R (some A) (bvs xs)) (hn:xs.length=n) (hl:n<=1073741824) (hm:0<=m/\m<=8 * n):Spec Tryz.prog 306 #[.slice (some A) n c,.int .i64 m] [R]
  fun F v M=>v=.int .i64 (count1 xs m.toNat:Int)/\M=R :: F:=by
 refine Spec.intro Tryz.func306 rfl rfl fun B F=>?_
 simp only [Tryz.ntmps306,List.cons_append,List.nil_append,env0,Nat.reduceAdd]
 obtain ⟨ab,ao,asp⟩:=A
 have hsp:asp=none:=hR.1
 subst hsp
 refine .sr (.assign (.z (.seq (.sr (.move ?_)))))
 refine .lenS ?_ sl79
 refine .move (.z (.block ?_))
 refine .loopA (σ:=Int) (fun i=>[(0,.slice (some ⟨ab,ao,none⟩) n c),(1,.int .i64 m),(4,.int .i64 (count1 xs (min (8 * i).toNat m.toNat):Int)),(8,.slice (some ⟨ab,ao,none⟩) n c),(9,.int .i64 (n:Int)),(10,.int .i64 i)]) (fun _=>R :: F) (fun i=>0<=i/\i<=n) (fun i=>(n - i).toNat) 0 (by omega) ?_
 rintro i hp
 refine .sr ?_
 refine .lss (.z (.seq ?_))
 refine .cond rfl (fun hb=>?_) (fun hb=>?_)
 ·have hlt:i < (n:Int):=of_decide_eq_true hb
  refine .skip (.next (.seq (.block (.sr (.move ?_)))))
  refine .idx1 ?_ so79
  refine .ldR ?_ sc5 hR (mz (show i.toNat < xs.length by omega))
  refine .assign (.assign (.x (.move (.z (.block ?_)))))
  refine .cast (d:=4) rfl (congrArg (fun q=>Value.int .i64 ((count1 xs q:Nat):Int)) (show min (8 * i).toNat m.toNat=min (8 * i+0).toNat m.toNat by omega)) ?_
  refine .loopA (σ:=Int) (fun k=>[(0,.slice (some ⟨ab,ao,none⟩) n c),(1,.int .i64 m),(4,.int .i64 (count1 xs (min (8 * i+k).toNat m.toNat):Int)),(5,.int .i64 i),(6,bv (xs.getD i.toNat 0)),(8,.slice (some ⟨ab,ao,none⟩) n c),(9,.int .i64 (n:Int)),(10,.int .i64 i),(15,.int .i64 k)]) (fun _=>R :: F) (fun k=>0<=k/\k<=8) (fun k=>(8 - k).toNat) 0 (by omega) ?_
  rintro k hq
  refine .sr ?_
  refine .lss (.z (.seq ?_))
  refine .cond rfl (fun hb2=>?_) (fun hb2=>?_)
  ·have hk8:k < 8:=of_decide_eq_true hb2
   have hcl:=yq xs (min (8 * i+k).toNat m.toNat)
   have hsm:(xs.getD i.toNat 0).toNat >>> k.toNat<=255:=by
    have h1:=(xs.getD i.toNat 0).toNat_lt
    have h2:(xs.getD i.toNat 0).toNat >>> k.toNat<=(xs.getD i.toNat 0).toNat:=by rw [Nat.shiftRight_eq_div_pow];exact Nat.div_le_self _ _
    omega
   refine .skip (.next (.seq (.block (.sr (.move (.assign (.x (.move ?_))))))))
   refine .mul ?_
   refine .move ?_
   refine .add ?_
   refine .move ?_
   refine .lss (.z ?_)
   refine .cond rfl (fun hb3=>?_) (fun hb3=>?_)
   ·have hkm:8 * i+k < m:=of_decide_eq_true hb3
    have hte:(if tb xs (8 * i.toNat+k.toNat) then (1:Int) else 0)<=1/\0<=(if tb xs (8 * i.toNat+k.toNat) then (1:Int) else 0):=by split<;>omega
    have hstep:((count1 xs (min (8 * i+k).toNat m.toNat):Nat):Int)+(if tb xs (8 * i.toNat+k.toNat) then (1:Int) else 0)=((count1 xs (min (8 * i+(k+1)).toNat m.toNat):Nat):Int):=by
     rw [show min (8 * i+(k+1)).toNat m.toNat=min (8 * i+k).toNat m.toNat+1 from by omega,sa,show min (8 * i+k).toNat m.toNat=8 * i.toNat+k.toNat from by omega]
     split<;>simp
    refine .region (.move (.move (.move ?_)))
    refine .shr ?_
    refine .cast (d:=27) rfl (cI9 (Sk (xs.getD i.toNat 0) (j:=k) (by omega) (by omega))) ?_
    refine .and ?_
    refine .cast (d:=28) rfl (cI9 (and1 _ hsm)) ?_
    refine .cvt ?_ un5 un3
    refine .cast (d:=29) rfl (cI9 ((IntWalk.i64_in _ (by have:=Nat.mod_lt ((xs.getD i.toNat 0).toNat >>> k.toNat) (show 2 > 0 by decide);omega)).trans (K7 xs i.toNat k.toNat (by omega)))) ?_
    refine .add ?_
    refine .assign (.nil (.blockNormal (.next (.region ?_))))
    refine .add ?_
    refine .move (.nil ?_)
    refine .cast (d:=4) rfl (cI9 hstep) ?_
    exact .back (k+1) (by omega) (by omega)
   ·have hkm:¬ 8 * i+k < m:=of_decide_eq_false hb3
    refine .skip (.blockNormal (.next (.region ?_)))
    refine .add ?_
    refine .move (.nil ?_)
    refine .cast (d:=4) rfl (congrArg (fun q=>Value.int .i64 ((count1 xs q:Nat):Int)) (show min (8 * i+k).toNat m.toNat=min (8 * i+(k+1)).toNat m.toNat by omega)) ?_
    exact .back (k+1) (by omega) (by omega)
  ·have hk8:¬ k < 8:=of_decide_eq_false hb2
   refine .exit (.thenExit (.thenExit (.blockExit (?_))))
   refine .blockNormal (.next (.region ?_))
   refine .add ?_
   refine .move (.nil ?_)
   refine .cast (d:=4) rfl (congrArg (fun q=>Value.int .i64 ((count1 xs q:Nat):Int)) (show min (8 * i+k).toNat m.toNat=min (8 * (i+1)).toNat m.toNat by omega)) ?_
   exact .back (i+1) (by omega) (by omega)
 ·have hge:¬ i < (n:Int):=of_decide_eq_false hb
  refine .exit (.thenExit (.thenExit (.blockExit (?_))))
  refine .next (.sr (.move (.assign (.z (.ret (?_))))))
  exact .ret1 (h1:=.tmp (t:=4) rfl) ⟨_,⟨congrArg (fun q=>Value.int .i64 ((count1 xs q:Nat):Int)) (show min (8 * i).toNat m.toNat=m.toNat by omega),rfl⟩,Am.auto⟩
theorem lh {R:HP} {A:Addr} {n c:Nat} {xs:aa} {p size:Int} {big:Bool} (hR:Reads R (some A) (bvs xs)) (hn:xs.length=n) (hl:n<=1073741824) (hs:1<=size/\size<=8) (h0:0<=p) (h1:p<=(n:Int) - size):Spec Tryz.prog 157 #[.slice (some A) n c,.int .i64 p,.int .i64 size,.bool big] [R]
  fun F v M=>v=.tuple #[.int .u64 (ax (seg xs p.toNat size.toNat big):Int),.bool true]/\M=R :: F:=by
 refine Spec.intro Tryz.func157 rfl rfl fun B F=>?_
 simp only [Tryz.ntmps157,List.cons_append,List.nil_append,env0,Nat.reduceAdd]
 obtain ⟨ab,ao,asp⟩:=A
 have hsp:asp=none:=hR.1
 subst hsp
 have hps:p.toNat+size.toNat<=xs.length:=by omega
 refine .sr (.assign (.assign (.z (.seq (.sr (.move (.move (.move ?_))))))))
 refine .call (hc:=Tryz.call171) (sp:=G1 (R:=[]) (by omega) hs h0 h1) (h:=?_)
 rintro _ _ ⟨rfl,rfl⟩
 refine .not (.z ?_)
 refine .condF rfl rfl ?_
 refine .skip (.next (.seq (.sr (.move (.move (.z (.block ?_)))))))
 refine .loopA (σ:=Int) (fun i=>[(0,.slice (some ⟨ab,ao,none⟩) n c),(1,.int .i64 p),(2,.int .i64 size),(3,.bool big),(8,.int .u64 (ax ((seg xs p.toNat size.toNat big).take i.toNat):Int)),(17,.int .i64 size),(18,.int .i64 i)]) (fun _=>R :: F) (fun i=>0<=i/\i<=size) (fun i=>(size - i).toNat) 0 (by omega) ?_
 rintro i hp
 refine .sr ?_
 refine .lss (.z (.seq ?_))
 refine .cond rfl (fun hb=>?_) (fun hb=>?_)
 ·have hlt:i < size:=of_decide_eq_true hb
  have hacc:ax ((seg xs p.toNat size.toNat big).take i.toNat) < 2 ^ 56:=by
   have h2:=wo ((seg xs p.toNat size.toNat big).take i.toNat)
   rw [List.length_take,lz hps,show min i.toNat size.toNat=i.toNat from by omega] at h2
   have h3:256 ^ i.toNat<=256 ^ 7:=Nat.pow_le_pow_right (by decide) (by omega)
   omega
  refine .skip (.next (.seq (.block (.sr (.move (.assign (.x (.move (.assign ?_)))))))))
  refine .z (.seq (.sr (.move ?_)))
  refine .not (.z ?_)
  refine .cond rfl (fun hbig=>?_) (fun hbig=>?_)
  ·have hbg:big=false:=by simpa using hbig
   subst hbg
   have hlt2:(p+(size - 1 - i)).toNat < xs.length:=by omega
   have hstep:((ax ((seg xs p.toNat size.toNat false).take i.toNat) * 256+(xs.getD (p+(size - 1 - i)).toNat 0).toNat:Nat):Int)=((ax ((seg xs p.toNat size.toNat false).take (i+1).toNat):Nat):Int):=by
    rw [show (i+1).toNat=i.toNat+1 from by omega,jq hps (by omega),show (p+(size - 1 - i)).toNat=p.toNat+(if false then i.toNat else size.toNat - 1 - i.toNat) from by simp;omega]
   refine .region (.move ?_)
   refine .sub ?_
   refine .move ?_
   refine .sub ?_
   refine .assign (.y (.move ?_))
   refine .shl ?_
   refine .move (.move (.move ?_))
   refine .add ?_
   refine .idx1 ?_ so79
   refine .ldR ?_ sc5 hR (mz hlt2)
   refine .cvt ?_ un5 cx
   refine .cast (d:=36) rfl (cI9 (IntWalk.u64_in _ (by have:=Gf (xs.getD (p+(size - 1 - i)).toNat 0);omega))) ?_
   refine .or ?_
   refine .cast (d:=37) rfl (cI9 ((Cg _ _ hacc (xs.getD (p+(size - 1 - i)).toNat 0).toNat_lt).trans hstep)) ?_
   refine .assign (.nil (.blockNormal (.next (.region ?_))))
   refine .add ?_
   refine .move (.nil ?_)
   exact .back (i+1) (by omega) (by omega)
  ·have hbg:big=true:=by simpa using hbig
   subst hbg
   have hlt2:(p+i).toNat < xs.length:=by omega
   have hstep:((ax ((seg xs p.toNat size.toNat true).take i.toNat) * 256+(xs.getD (p+i).toNat 0).toNat:Nat):Int)=((ax ((seg xs p.toNat size.toNat true).take (i+1).toNat):Nat):Int):=by
    rw [show (i+1).toNat=i.toNat+1 from by omega,jq hps (by omega),show (p+i).toNat=p.toNat+(if true then i.toNat else size.toNat - 1 - i.toNat) from by simp;omega]
   refine .skip (.next (.region (.move ?_)))
   refine .shl ?_
   refine .move (.move (.move ?_))
   refine .add ?_
   refine .idx1 ?_ so79
   refine .ldR ?_ sc5 hR (mz hlt2)
   refine .cvt ?_ un5 cx
   refine .cast (d:=36) rfl (cI9 (IntWalk.u64_in _ (by have:=Gf (xs.getD (p+i).toNat 0);omega))) ?_
   refine .or ?_
   refine .cast (d:=37) rfl (cI9 ((Cg _ _ hacc (xs.getD (p+i).toNat 0).toNat_lt).trans hstep)) ?_
   refine .assign (.nil (.blockNormal (.next (.region ?_))))
   refine .add ?_
   refine .move (.nil ?_)
   exact .back (i+1) (by omega) (by omega)
 ·have hge:¬ i < size:=of_decide_eq_false hb
  refine .exit (.thenExit (.thenExit (.blockExit (?_))))
  refine .next (.sr (.move (.assign (.assign (.z ?_)))))
  refine .ret (?_)
  have hfin:(seg xs p.toNat size.toNat big).take i.toNat=seg xs p.toNat size.toNat big:=List.take_of_length_le (by rw [lz hps];omega)
  exact .ret2 (h1:=.tmp (t:=8) rfl) (h2:=.tmp (t:=9) rfl) ⟨_,⟨by rw [hfin],rfl⟩,Am.auto⟩
theorem li {R:HP} {A:Addr} {n c:Nat} {xs:aa} {p size:Int} {big:Bool} {v:Nat} (hR:Reads R (some A) (bvs xs)) (hn:xs.length=n) (hl:n<=1073741824) (hs:1<=size/\size<=8) (h0:0<=p) (h1:p<=(n:Int) - size) (hv:v < 2 ^ 64):Spec Tryz.prog 105 #[.slice (some A) n c,.int .i64 p,.int .i64 size,.bool big,.int .u64 (v:Int)] [R]
  fun F u M=>∃ g q,(u=.tuple #[.slice (some ⟨g,0,none⟩) n q,.bool true]/\n<=q/\q<=maxLen)/\M=buf g 5 q (bvs (put xs p.toNat size.toNat big v)) :: R :: F:=by
 refine Spec.intro Tryz.func105 rfl rfl fun B F=>?_
 simp only [Tryz.ntmps105,List.cons_append,List.nil_append,env0,Nat.reduceAdd]
 obtain ⟨ab,ao,asp⟩:=A
 have hsp:asp=none:=hR.1
 subst hsp
 have hps:p.toNat+size.toNat<=xs.length:=by omega
 refine .sr (.assign (.assign (.z (.seq (.sr (.move (.move (.move ?_))))))))
 refine .call (hc:=Tryz.call171) (sp:=G1 (R:=[]) (by omega) hs h0 h1) (h:=?_)
 rintro _ _ ⟨rfl,rfl⟩
 refine .not (.z ?_)
 refine .condF rfl rfl ?_
 refine .skip (.next (.sr (.move ?_)))
 refine .call (hc:=Tryz.call156) (sp:=jb hR hn hl) (h:=?_)
 rintro _ _ ⟨gc,kc,⟨rfl,hc1,hc2⟩,rfl⟩
 refine .assign (.z (.seq (.sr (.move (.move (.z (.block ?_)))))))
 refine .loopA (σ:=Int) (fun i=>[(0,.slice (some ⟨ab,ao,none⟩) n c),(1,.int .i64 p),(2,.int .i64 size),(3,.bool big),(4,.int .u64 (v:Int)),(12,.slice (some ⟨gc,0,none⟩) n kc),(22,.int .i64 size),(23,.int .i64 i)]) (fun i=>buf gc 5 kc (bvs (putN xs p.toNat size.toNat big v i.toNat)) :: R :: F) (fun i=>0<=i/\i<=size) (fun i=>(size - i).toNat) 0 (by omega) ?_
 rintro i hp
 refine .sr ?_
 refine .lss (.z (.seq ?_))
 refine .cond rfl (fun hb=>?_) (fun hb=>?_)
 ·have hlt:i < size:=of_decide_eq_true hb
  refine .skip (.next (.seq (.block (.sr (.move (.assign (.x (.move (.assign ?_)))))))))
  refine .z (.seq (.sr (.move (.z ?_))))
  refine .cond rfl (fun hbig=>?_) (fun hbig=>?_)
  ·subst hbig
   have hnl:=gw xs p.toNat size.toNat true v i.toNat
   have hstep:(bvs (putN xs p.toNat size.toNat true v i.toNat)).set (0+(p+(size - 1 - i)).toNat) (.int .u8 (IntKind.u8.wrap ((v:Int).fdiv (2 ^ (min (8 * i).toNat IntKind.u64.bits)))))=bvs (putN xs p.toNat size.toNat true v (i+1).toNat):=by
    rw [Gh v hv (by omega) (by omega),show (i+1).toNat=i.toNat+1 from by omega,putN,r6,show 0+(p+(size - 1 - i)).toNat=p.toNat+(if true then size.toNat - 1 - i.toNat else i.toNat) from by simp;omega]
    rfl
   refine .region (.move ?_)
   refine .sub ?_
   refine .move ?_
   refine .sub ?_
   refine .assign (.y (.move (.move (.move ?_))))
   refine .add ?_
   refine .move (.move ?_)
   refine .mul ?_
   refine .shr ?_
   refine .cvt ?_ cx un5
   refine .idx1 ?_ so79
   refine .stB ?_ sc5 (show 0+(p+(size - 1 - i)).toNat < (bvs (putN xs p.toNat size.toNat true v i.toNat)).length by rw [ag];omega)
   refine .nil (.blockNormal (.next (.region ?_)))
   refine .add ?_
   refine .move (.nil ?_)
   refine .to (r:=.here) (A':=buf gc 5 kc (bvs (putN xs p.toNat size.toNat true v (i+1).toNat))) (fun h hh=>by rw [<- hstep];exact hh) ?_
   exact .back (i+1) (by omega) (by omega)
  ·subst hbig
   have hnl:=gw xs p.toNat size.toNat false v i.toNat
   have hstep:(bvs (putN xs p.toNat size.toNat false v i.toNat)).set (0+(p+i).toNat) (.int .u8 (IntKind.u8.wrap ((v:Int).fdiv (2 ^ (min (8 * i).toNat IntKind.u64.bits)))))=bvs (putN xs p.toNat size.toNat false v (i+1).toNat):=by
    rw [Gh v hv (by omega) (by omega),show (i+1).toNat=i.toNat+1 from by omega,putN,r6,show 0+(p+i).toNat=p.toNat+(if false then size.toNat - 1 - i.toNat else i.toNat) from by simp;omega]
    rfl
   refine .skip (.next (.region (.move (.move (.move ?_)))))
   refine .add ?_
   refine .move (.move ?_)
   refine .mul ?_
   refine .shr ?_
   refine .cvt ?_ cx un5
   refine .idx1 ?_ so79
   refine .stB ?_ sc5 (show 0+(p+i).toNat < (bvs (putN xs p.toNat size.toNat false v i.toNat)).length by rw [ag];omega)
   refine .nil (.blockNormal (.next (.region ?_)))
   refine .add ?_
   refine .move (.nil ?_)
   refine .to (r:=.here) (A':=buf gc 5 kc (bvs (putN xs p.toNat size.toNat false v (i+1).toNat))) (fun h hh=>by rw [<- hstep];exact hh) ?_
   exact .back (i+1) (by omega) (by omega)
 ·have hge:¬ i < size:=of_decide_eq_false hb
  have hfin:i.toNat=size.toNat:=by omega
  have hput:put xs p.toNat size.toNat big v=putN xs p.toNat size.toNat big v i.toNat:=by unfold put;rw [hfin]
  refine .exit (.thenExit (.thenExit (.blockExit (?_))))
  refine .next (.sr (.move (.assign (.assign (.z ?_)))))
  refine .ret (?_)
  refine .to (r:=.here) (A':=buf gc 5 kc (bvs (put xs p.toNat size.toNat big v))) (fun h hh=>by rw [hput];exact hh) ?_
  exact .ret2 (h1:=.tmp (t:=10) rfl) (h2:=.tmp (t:=11) rfl) ⟨_,⟨gc,kc,⟨rfl,hc1,hc2⟩,rfl⟩,Am.auto⟩
def devO (n:Nat) (fl wr mn:Nat) (ops left:Int):Obj:=.cells #[.int .i64 (n:Int),.map (some fl),.map (some wr),.map (some mn),.int .i64 ops,.bool false,.int .i64 left] 189 (0,0)
abbrev intE :Int->Value:=Value.int .i64
abbrev sx :Int×Int->Value:=fun k=>Value.agg (ints [k.1,k.2]).toArray
theorem Ss {kt:Nat} (h:Pq Tryz.prog kt .i64=true):KeyLaw Tryz.prog kt intE:=intKeys (Sh h)
theorem klF :KeyLaw Tryz.prog 3 intE:=Ss (by kernel_rfl)
theorem klW :KeyLaw Tryz.prog 321 sx:=uz (fun k:Int×Int=>[k.1,k.2]) (n:=2) (by kernel_rfl) (fun _=>rfl) (fun a b h=>by
 obtain ⟨a1,a2⟩:=a
 obtain ⟨b1,b2⟩:=b
 simp only [List.cons.injEq,and_true] at h
 rw [h.1,h.2])
theorem Og (a b:Int):av Tryz.prog 321 [(0,.int .i64 a),(1,.int .i64 b)] #[.int .i64 a,.int .i64 b]:=fun w=>by kernel_rfl
theorem bdDev (n:Int) (a b c:Nat):av Tryz.prog 189 [(0,.int .i64 n),(1,.map (some a)),(2,.map (some b)),(3,.map (some c))] #[.int .i64 n,.map (some a),.map (some b),.map (some c),.int .i64 0,.bool false,.int .i64 0]:=fun w=>by kernel_rfl
def nilS :Value:=.slice none 0 0
def er (kF:List (Int×Value)) (kW:List ((Int×Int)×Value)) (k c:Int):Value:=if 0 < c then (kget kW (k,c)).getD nilS else (kget kF k).getD nilS
def zeros :aa:=List.replicate 512 0
theorem bg :zeros.length=512:=List.length_replicate
structure DevX where
 fl:Nat
 wr:Nat
 mn:Nat
 esF:Array MapEntry
 esW:Array MapEntry
 esM:Array MapEntry
 cF:Nat
 cW:Nat
 cM:Nat
 kF:List (Int×Value)
 kW:List ((Int×Int)×Value)
 kM:List (Int×Value)
 bl:List (Value×aa)
 ops:Int
 left:Int
def G4 (kF:List (Int×Value)) (kW:List ((Int×Int)×Value)) (bl:List (Value×aa)) (k c:Int) (xs:aa):Prop :=
 (er kF kW k c=nilS/\xs=zeros) ∨ (er kF kW k c,xs)∈bl
structure DevP (n:Nat) (cur:Nat->aa) (t:Nat) (x:DevX):Prop where
 mF:MapIs intE x.esF x.cF x.kF
 mW:MapIs sx x.esW x.cW x.kW
 mM:MapIs intE x.esM x.cM x.kM
 n1:1<=n
 n2:n<=65536
 len:∀ p∈x.bl,p.2.length=512
 many:∀ k v,kget x.kM k=some v->∃ c:Int,v=.int .i64 c/\0<=c/\c<=(t:Int)
 dom:∀ k v,kget x.kM k=some v->0<=k/\k < (n:Int)
 holds:∀ k:Nat,k < n->∀ c:Int,(kget x.kM (k:Int)).getD (.int .i64 0)=.int .i64 c->G4 x.kF x.kW x.bl k c (cur k)
def devL (d n:Nat) (x:DevX):List HP:=[pt d (devO n x.fl x.wr x.mn x.ops x.left),pt x.fl (.map x.esF x.cF),pt x.wr (.map x.esW x.cW),pt x.mn (.map x.esM x.cM),bi x.bl]
def DevR (d n:Nat) (cur:Nat->aa) (t:Nat):HP:=fun h=>∃ x,DevP n cur t x/\star (devL d n x) h
theorem DevR.opens (d n:Nat) (cur:Nat->aa) (t:Nat):Opens (DevR d n cur t) (DevP n cur t) (devL d n):=⟨fun h hh=>hh,fun x hp h hh=>⟨x,hp,hh⟩⟩
attribute [irreducible] DevR
theorem q9 {n t:Nat} {cur:Nat->aa} {x:DevX} (hp:DevP n cur t x) (k:Int):∃ c:Int,(kget x.kM k).getD (.int .i64 0)=.int .i64 c/\0<=c/\c<=(t:Int):=by
 cases h:kget x.kM k with
 | none=>exact ⟨0,rfl,by omega,by omega⟩
 | some v=>obtain ⟨c,rfl,h1,h2⟩:=hp.many k v h;exact ⟨c,rfl,h1,h2⟩
theorem P5 {n:Int}:Spec Tryz.prog 71 #[.int .i64 n] [] fun F v M=>∃ d fl wr mn,v=.pointer (some ⟨d,0,none⟩)/\M=pt d (.cells #[.int .i64 n,.map (some fl),.map (some wr),.map (some mn),.int .i64 0,.bool false,.int .i64 0] 189 (0,0)) :: pt mn (.map #[] 0) :: pt wr (.map #[] 0) :: pt fl (.map #[] 0) :: F:=by
 refine Spec.intro Tryz.func71 rfl rfl fun B F=>?_
 simp only [Tryz.ntmps71,List.cons_append,List.nil_append,env0,Nat.reduceAdd]
 refine .sr (.assign (.x (.move ?_)))
 refine .mkMap fun m4=>?_
 refine .mkMap fun m5=>?_
 refine .mkMap fun m6=>?_
 refine .build ?_ (bdDev _ _ _ _)
 refine .box fun b8=>?_
 refine .assign (.z (.ret (?_)))
 exact .ret1 (h1:=.tmp (t:=2) rfl) ⟨_,⟨_,_,_,_,rfl,rfl⟩,Am.auto⟩
theorem St {n:Nat} (h1:1<=n) (h2:n<=65536):Spec Tryz.prog 35 #[.int .i64 (n:Int)] [] fun F v M=>∃ d,v=.tuple #[.pointer (some ⟨d,0,none⟩),.int .i64 0]/\M=DevR d n (fun _=>zeros) 0 :: F:=by
 refine Spec.intro Tryz.func35 rfl rfl fun B F=>?_
 simp only [Tryz.ntmps35,List.cons_append,List.nil_append,env0,Nat.reduceAdd]
 refine .sr (.assign (.assign (.z (.seq (.sr (.move ?_))))))
 refine .lss ?_
 refine .move ?_
 refine .cast (d:=6) (u:=.bool false) rfl (cB9 (by first|simp;done|simp;omega|omega)) ?_
 refine .gT (.move (.gT ?_))
 refine .gtr ?_
 refine .pickF (.z ?_)
 refine .condF rfl (cB9 (by first|simp;done|simp;omega|omega)) ?_
 refine .skip (.next (.sr (.move ?_)))
 refine .call (hc:=Tryz.call71) (sp:=P5) (h:=?_)
 rintro _ _ ⟨d,fl,wr,mn,rfl,rfl⟩
 refine .assign (.assign (.z (.ret (?_))))
 refine .blobsNil ?_
 refine .shutR (DevR.opens d n (fun _=>zeros) 0) ⟨fl,wr,mn,#[],#[],#[],0,0,0,[],[],[],[],0,0⟩ ⟨MapIs.empty _ _,MapIs.empty _ _,MapIs.empty _ _,h1,h2,by simp,by simp [kget],by simp [kget],?_⟩ ?_
 ·intro k hk c hc
  simp only [kget,Option.getD_none,Value.int.injEq,true_and] at hc
  subst hc
  exact .inl ⟨rfl,rfl⟩
 exact .ret2 (h1:=.tmp (t:=2) rfl) (h2:=.tmp (t:=3) rfl) ⟨_,⟨d,rfl,rfl⟩,Am.auto⟩
theorem ey {d n t:Nat} {cur:Nat->aa}:Spec Tryz.prog 73 #[.pointer (some ⟨d,0,none⟩)] [DevR d n cur t] fun F v M=>v=.int .i64 (n:Int)/\M=DevR d n cur t :: F:=by
 refine Spec.intro Tryz.func73 rfl rfl fun B F=>?_
 simp only [Tryz.ntmps73,List.cons_append,List.nil_append,env0,Nat.reduceAdd]
 refine .openR (DevR.opens d n cur t) fun x hp=>?_
 simp only [devL,List.cons_append,List.nil_append]
 refine .sr (.assign (.z (.seq (.sr (.move ?_)))))
 refine .eqNil ?_ Gr
 refine .z ?_
 refine .condF rfl rfl ?_
 refine .skip (.next (.sr (.move (.nilCheck ?_))))
 refine .fa ?_ wv
 refine .ld ?_ sc3
 refine .assign (.z (.ret (?_)))
 refine .shutR (DevR.opens d n cur t) x hp ?_
 exact .ret1 (h1:=.tmp (t:=2) rfl) ⟨_,⟨rfl,rfl⟩,Am.auto⟩
theorem Su {d n fl wr mn:Nat} {ops left:Int} (hn:1<=n):Spec Tryz.prog 221 #[.pointer (some ⟨d,0,none⟩)] [pt d (devO n fl wr mn ops left)] fun F v M=>∃ ops' left',v=.bool true/\M=pt d (devO n fl wr mn ops' left') :: F:=by
 refine Spec.intro Tryz.func221 rfl rfl fun B F=>?_
 simp only [Tryz.ntmps221,List.cons_append,List.nil_append,env0,Nat.reduceAdd]
 refine .sr (.assign (.z (.seq (.sr (.move ?_)))))
 refine .eqNil ?_ Gr
 refine .move (.gT (.move (.gT (.nilCheck (.gT ?_)))))
 refine .fa ?_ wv
 refine .gT ?_
 refine .ld ?_ sc3
 refine .gT ?_
 refine .eqi ?_
 refine .pickF (.z ?_)
 refine .condF rfl (cB9 (by first|simp;done|simp;omega|omega)) ?_
 refine .skip (.next (.sr (.move (.nilCheck ?_))))
 refine .fa ?_ Gm
 refine .ld ?_ sc3
 refine .addw ?_
 refine .nilCheck ?_
 refine .fa ?_ Gm
 refine .st ?_ sc3
 refine .z (.seq (.sr (.move (.nilCheck ?_))))
 refine .fa ?_ Pu
 refine .ld ?_ sc4
 refine .move (.gF (.gF (.gF (.gF (.gF ?_)))))
 refine .pickF (.z ?_)
 refine .condF rfl rfl ?_
 refine .skip (.next (.sr (.move (.nilCheck ?_))))
 refine .fa ?_ Gn
 refine .ld ?_ sc3
 refine .subw ?_
 refine .nilCheck ?_
 refine .fa ?_ Gn
 refine .st ?_ sc3
 refine .x (.assign (.z (.ret (?_))))
 exact .ret1 (h1:=.tmp (t:=2) rfl) ⟨_,⟨_,_,rfl,rfl⟩,Am.auto⟩
theorem G5 {d n fl wr mn:Nat} {ops left k c:Int} {esF esW esM:Array MapEntry} {cF cW cM:Nat} {kF:List (Int×Value)} {kW:List ((Int×Int)×Value)} {kM:List (Int×Value)} (mF:MapIs intE esF cF kF) (mW:MapIs sx esW cW kW) (mM:MapIs intE esM cM kM) (hc:(kget kM k).getD (.int .i64 0)=.int .i64 c) :
  Spec Tryz.prog 220 #[.pointer (some ⟨d,0,none⟩),.int .i64 k] [pt d (devO n fl wr mn ops left),pt fl (.map esF cF),pt wr (.map esW cW),pt mn (.map esM cM)] fun F v M=>v=er kF kW k c/\M=pt d (devO n fl wr mn ops left) :: pt fl (.map esF cF) :: pt wr (.map esW cW) :: pt mn (.map esM cM) :: F:=by
 refine Spec.intro Tryz.func220 rfl rfl fun B F=>?_
 simp only [Tryz.ntmps220,List.cons_append,List.nil_append,env0,Nat.reduceAdd]
 refine .sr (.assign (.z (.seq (.sr (.move ?_)))))
 refine .nilCheck ?_
 refine .fa ?_ sh
 refine .ld ?_ Gs
 refine .move ?_
 refine .look klF mM yu zv3 ?_
 refine .cast (d:=11) rfl hc ?_
 refine .assign (.x (.move ?_))
 refine .gtr (.z ?_)
 refine .cond rfl (fun hb=>?_) (fun hb=>?_)
 ·have hpos:0 < c:=of_decide_eq_true hb
  refine .sr (.move (.nilCheck ?_))
  refine .fa ?_ As
  refine .ld ?_ Pz
  refine .move (.move ?_)
  refine .build ?_ (Og _ _)
  refine .look (k:=(k,c)) klW mW Py zv79 ?_
  refine .assign (.z ?_)
  refine .ret (.thenRet (?_))
  exact .ret1 (h1:=.tmp (t:=4) rfl) ⟨_,⟨by unfold er;rw [if_pos hpos];rfl,rfl⟩,Am.auto⟩
 ·have hpos:¬ 0 < c:=of_decide_eq_false hb
  refine .skip (.next (.sr (.move (.nilCheck ?_))))
  refine .fa ?_ Gl
  refine .ld ?_ Sn
  refine .move ?_
  refine .look klF mF Sm zv79 ?_
  refine .assign (.z (.ret (?_)))
  exact .ret1 (h1:=.tmp (t:=4) rfl) ⟨_,⟨by unfold er;rw [if_neg hpos];rfl,rfl⟩,Am.auto⟩
theorem sy {d n t k:Nat} {cur:Nat->aa} (hk:k < n):Spec Tryz.prog 149 #[.pointer (some ⟨d,0,none⟩),.int .i64 (k:Int)] [DevR d n cur t] fun F v M=>∃ g q,v=.tuple #[.slice (some ⟨g,0,none⟩) 512 q,.int .i64 0]/\(512<=q/\q<=maxLen/\(cur k).length=512)/\M=buf g 5 q (bvs (cur k)) :: DevR d n cur t :: F:=by
 refine Spec.intro Tryz.func149 rfl rfl fun B F=>?_
 simp only [Tryz.ntmps149,List.cons_append,List.nil_append,env0,Nat.reduceAdd]
 refine .openR (DevR.opens d n cur t) fun x hp=>?_
 simp only [devL,List.cons_append,List.nil_append]
 obtain ⟨c,hc,hc0,hct⟩:=q9 hp (k:Int)
 have hn2:=hp.n2
 have hold:=hp.holds k hk c hc
 refine .sr (.assign (.assign (.z (.seq (.sr (.move ?_))))))
 refine .eqNil ?_ Gr
 refine .move (.gT (.move (.gT ?_)))
 refine .lss ?_
 refine .pickF (.move ?_)
 refine .cast (d:=13) (u:=.bool false) rfl (cB9 (by first|simp;done|simp;omega|omega)) ?_
 refine .gT (.move (.gT (.move (.gT (.nilCheck ?_)))))
 refine .gT ?_
 refine .fa ?_ wv
 refine .gT ?_
 refine .ld ?_ sc3
 refine .gT ?_
 refine .geq ?_
 refine .pickF (.z ?_)
 refine .condF rfl (cB9 (by first|simp;done|simp;omega|omega)) ?_
 refine .skip (.next (.sr ?_))
 refine .mkSN 512 z5 so79 (by decide) (by decide) fun b21=>?_
 refine .assign (.x (.move (.move (.move ?_))))
 refine .call (hc:=Tryz.call220) (sp:=G5 hp.mF hp.mW hp.mM hc) (h:=?_)
 rintro _ _ ⟨rfl,rfl⟩
 rcases hold with ⟨hnil,hzero⟩ | hbl
 ·refine .cast (d:=25) rfl (hnil:er x.kF x.kW (k:Int) c=nilS) ?_
  refine .copy (R:=bi x.bl) (ys:=[]) so79 Reads.nil rfl (by simp) ?_
  have hxs:(List.replicate 512 (Value.int .u8 0)).take 0++([]:List Value).take (min 0 512)++(List.replicate 512 (Value.int .u8 0)).drop (0+min 0 512)=bvs (cur k):=by
   rw [hzero];unfold zeros;rw [bw];exact Gi
  have hlen:(cur k).length=512:=by rw [hzero];exact bg
  refine .x (.move (.assign (.assign (.z (.ret (?_))))))
  refine .to (r:=.here) (A':=buf b21 5 512 (bvs (cur k))) (fun h hh=>by rw [<- hxs];exact hh) ?_
  refine .shutR (DevR.opens d n cur t) x hp ?_
  exact .ret2 (h1:=.tmp (t:=4) rfl) (h2:=.tmp (t:=5) rfl) ⟨_,⟨_,_,rfl,⟨by decide,by decide,hlen⟩,rfl⟩,Am.auto⟩
 ·refine .fact (jr hbl) fun hsh=>?_
  obtain ⟨gb,cb,hv,hcb⟩:=hsh
  rw [hv] at hbl
  have hl5:(cur k).length=512:=hp.len _ hbl
  refine .cast (d:=25) rfl (hv:er x.kF x.kW (k:Int) c=_) ?_
  refine .copy (R:=bi x.bl) (ys:=bvs (cur k)) so79 (Reads.blob hbl) (ag _) (bo _) ?_
  have hxs:(List.replicate 512 (Value.int .u8 0)).take 0++(bvs (cur k)).take (min (cur k).length 512)++(List.replicate 512 (Value.int .u8 0)).drop (0+min (cur k).length 512)=bvs (cur k):=by
   exact Er hl5 (ag _) List.length_replicate
  have hlen:(cur k).length=512:=hl5
  refine .x (.move (.assign (.assign (.z (.ret (?_))))))
  refine .to (r:=.here) (A':=buf b21 5 512 (bvs (cur k))) (fun h hh=>by rw [<- hxs];exact hh) ?_
  refine .shutR (DevR.opens d n cur t) x hp ?_
  exact .ret2 (h1:=.tmp (t:=4) rfl) (h2:=.tmp (t:=5) rfl) ⟨_,⟨_,_,rfl,⟨by decide,by decide,hlen⟩,rfl⟩,Am.auto⟩
def wr (cur:Nat->aa) (k:Nat) (xs:aa):Nat->aa:=fun j=>if j=k then xs else cur j
theorem DevP.write {n t:Nat} {cur:Nat->aa} {x:DevX} (hp:DevP n cur t x) {k:Nat} (hk:k < n) {c:Int} (hc0:0<=c) (hct:c<=(t:Int)) {v:Value} {xs:aa} (hx:xs.length=512) {esW' esM':Array MapEntry} {cW' cM':Nat}
  (mW':MapIs sx esW' cW' (kput x.kW ((k:Int),c+1) v)) (mM':MapIs intE esM' cM' (kput x.kM (k:Int) (.int .i64 (c+1)))) (ops left:Int) :
  DevP n (wr cur k xs) (t+1) ⟨x.fl,x.wr,x.mn,x.esF,esW',esM',x.cF,cW',cM',x.kF,kput x.kW ((k:Int),c+1) v,kput x.kM (k:Int) (.int .i64 (c+1)),(v,xs) :: x.bl,ops,left⟩:=by
 refine ⟨hp.mF,mW',mM',hp.n1,hp.n2,?_,?_,?_,?_⟩
 ·intro p hp'
  rcases List.mem_cons.1 hp' with rfl | hp'
  ·exact hx
  ·exact hp.len p hp'
 ·intro j u hj
  simp only [cj] at hj
  split at hj
  ·injection hj with hj
   exact ⟨c+1,hj.symm,by omega,by omega⟩
  ·obtain ⟨c',h1,h2,h3⟩:=hp.many j u hj
   exact ⟨c',h1,h2,by omega⟩
 ·intro j u hj
  simp only [cj] at hj
  split at hj
  ·rename_i h;subst h;omega
  ·exact hp.dom j u hj
 ·intro j hj c' hc'
  simp only [cj] at hc'
  by_cases hjk:j=k
  ·subst hjk
   simp only [if_true,Option.getD_some,Value.int.injEq,true_and] at hc'
   subst hc'
   right
   simp only [wr,if_true]
   have:er x.kF (kput x.kW ((j:Int),c+1) v) (j:Int) (c+1)=v:=by
    unfold er
    rw [if_pos (by omega),cj,if_pos rfl]
    rfl
   rw [this]
   exact List.mem_cons_self ..
  ·have hjk':¬ (j:Int)=(k:Int):=by omega
   rw [if_neg hjk'] at hc'
   have h1:=hp.holds j hj c' hc'
   have hl:er x.kF (kput x.kW ((k:Int),c+1) v) (j:Int) c'=er x.kF x.kW (j:Int) c':=by
    unfold er
    rw [cj,if_neg (show ¬ ((j:Int),c')=((k:Int),c+1) from fun h=>hjk' (congrArg Prod.fst h))]
   unfold G4 at h1 ⊢
   simp only [wr,hjk,if_false]
   rw [hl]
   rcases h1 with h1 | h1
   ·exact .inl h1
   ·exact .inr (List.mem_cons_of_mem _ h1)
theorem l4 {d n t k m c':Nat} {cur:Nat->aa} {R:HP} {A:Addr} {xs:aa} (hR:Reads R (some A) (bvs xs)) (hm:xs.length=m) (hm5:m=512) (hk:k < n) (ht:t<=1000000):Spec Tryz.prog 207 #[.pointer (some ⟨d,0,none⟩),.int .i64 (k:Int),.slice (some A) m c'] [DevR d n cur t,R] fun F v M=>v=.int .i64 0/\M=DevR d n (wr cur k xs) (t+1) :: R :: F:=by
 refine Spec.intro Tryz.func207 rfl rfl fun B F=>?_
 simp only [Tryz.ntmps207,List.cons_append,List.nil_append,env0,Nat.reduceAdd]
 refine .openR (DevR.opens d n cur t) fun x hp=>?_
 simp only [devL,List.cons_append,List.nil_append]
 obtain ⟨c,hc,hc0,hct⟩:=q9 hp (k:Int)
 have hn2:=hp.n2
 have hn1:=hp.n1
 subst hm
 have hn:xs.length=xs.length:=rfl
 have hl:xs.length<=1073741824:=by omega
 refine .sr (.assign (.z (.seq (.sr (.move ?_)))))
 refine .call (hc:=Tryz.call221) (sp:=Su hn1) (h:=?_)
 rintro _ _ ⟨ops',left',rfl,rfl⟩
 refine .not (.z ?_)
 refine .condF rfl rfl ?_
 refine .skip (.next (.seq (.sr (.move ?_))))
 refine .lss ?_
 refine .move ?_
 refine .cast (d:=12) (u:=.bool false) rfl (cB9 (by first|simp;done|simp;omega|omega)) ?_
 refine .gT (.move (.gT (.move (.gT (.nilCheck ?_)))))
 refine .gT ?_
 refine .fa ?_ wv
 refine .gT ?_
 refine .ld ?_ sc3
 refine .gT ?_
 refine .geq ?_
 refine .pickF (.move ?_)
 refine .cast (d:=20) (u:=.bool false) rfl (cB9 (by first|simp;done|simp;omega|omega)) ?_
 refine .gT (.move (.gT ?_))
 refine .lenS ?_ sl79
 refine .gT ?_
 refine .nei ?_
 refine .pickF (.z ?_)
 refine .condF rfl (cB9 (by first|simp;done|simp;omega|omega)) ?_
 refine .skip (.next (.sr (.move (.nilCheck ?_))))
 refine .fa ?_ sh
 refine .ld ?_ Gs
 refine .move ?_
 refine .look klF hp.mM yu zv3 ?_
 refine .cast (d:=30) rfl hc ?_
 refine .add ?_
 refine .upd klF hp.mM yu fun es_1 c_1 hm_1=>?_
 refine .z (.seq ?_)
 refine .dr ([pt d (devO n x.fl x.wr x.mn ops' left'),pt x.mn (.map es_1 c_1)]) [14] 15 mixed .autoJ ?_
 refine .tk 0 rfl .move ?_
 refine .tk 1 rfl .nilCheck ?_
 refine .tk 2 rfl (.fa As) ?_
 refine .tk 3 rfl (.ld Pz) ?_
 refine .tk 4 rfl .move ?_
 refine .tk 5 rfl .move ?_
 refine .tk 6 rfl .nilCheck ?_
 refine .tk 7 rfl (.fa sh) ?_
 refine .tk 8 rfl (.ld Gs) ?_
 refine .tk 9 rfl .move ?_
 refine .tk 10 rfl ((Qt.look (k:=(k:Int)) klF hm_1 yu zv3).eq (v':=.int .i64 (c+1)) (by rw [cj,if_pos rfl];rfl)) ?_
 refine .tk 11 rfl (.build (Og _ _)) ?_
 refine .tk 12 rfl .move ?_
 refine .on 13 rfl fun hnp=>?_
 refine .call (hc:=Tryz.call156) (sp:=jb hR hn hl) (h:=?_)
 rintro _ _ ⟨gc,kc,⟨rfl,hc1,hc2⟩,rfl⟩
 refine .nil (.wa hnp ?_)
 refine .on 14 rfl fun hnp=>?_
 refine .upd (k:=((k:Int),c+1)) klW hp.mW Py fun es_2 c_2 hm_2=>?_
 refine .nil (.wb hnp ?_)
 refine .fin ?_
 refine .next (.sr (.assign (.z (.ret (?_)))))
 refine .blobsAdd (bl:=x.bl) hc1 ?_
 refine .shutR (DevR.opens d n (wr cur k xs) (t+1)) _ (hp.write hk hc0 hct hm5 hm_2 hm_1 ops' left') ?_
 exact .ret1 (h1:=.tmp (t:=6) rfl) ⟨_,⟨rfl,rfl⟩,Am.auto⟩
def w5 (kM:List (Int×Value)) (k:Int):Int:=match (kget kM k).getD (.int .i64 0) with | .int _ c=>c | _=>0
def valF (kF:List (Int×Value)) (k:Int):Value:=(kget kF k).getD nilS
structure FlushI (x:DevX) (seen:Array Nat) (esF:Array MapEntry) (cF:Nat) (kF:List (Int×Value)):Prop where
 mF:MapIs intE esF cF kF
 each:∀ j,valF kF j=valF x.kF j ∨ valF kF j=er x.kF x.kW j (w5 x.kM j)
 met:∀ m∈x.esM.toList,seen.contains m.born=true->∀ j,m.key=intE j->valF kF j=er x.kF x.kW j (w5 x.kM j)
theorem FlushI.start {n t:Nat} {cur:Nat->aa} {x:DevX} (hp:DevP n cur t x):FlushI x #[] x.esF x.cF x.kF:=⟨hp.mF,fun _=>.inl rfl,fun m _ h=>by simp at h⟩
theorem MapIs.entry {κ:Type} [DecidableEq κ] {enc:κ->Value} {es:Array MapEntry} {c:Nat} {kvs:List (κ×Value)} (h:MapIs enc es c kvs) {m:MapEntry} (hm:m∈es.toList):∃ k,m.key=enc k/\kget kvs k=some m.val:=by
 obtain ⟨i,hi,rfl⟩:=List.mem_iff_getElem.1 hm
 have hl:es.toList.length=kvs.length:=by simpa using h.length
 have h1:(es.toList.map (·.key))[i]?=(kvs.map fun p=>enc p.1)[i]?:=by rw [h.keys]
 have h2:(es.toList.map (·.val))[i]?=(kvs.map (·.2))[i]?:=by rw [h.vals]
 have hk:i < kvs.length:=by omega
 rw [List.getElem?_map,List.getElem?_map,List.getElem?_eq_getElem hi,List.getElem?_eq_getElem hk] at h1 h2
 injection h1 with h1
 injection h2 with h2
 exact ⟨kvs[i].1,h1,(fh h.nodup).2 (by
  have:(kvs[i].1,es.toList[i].val)=kvs[i]:=Prod.ext rfl h2
  rw [this]
  exact List.getElem_mem hk)⟩
theorem MapIs.has {κ:Type} [DecidableEq κ] {enc:κ->Value} {es:Array MapEntry} {c:Nat} {kvs:List (κ×Value)} (h:MapIs enc es c kvs) {k:κ} {v:Value} (hk:kget kvs k=some v):∃ m∈es.toList,m.key=enc k:=by
 have hm:=(fh h.nodup).1 hk
 have:enc k∈es.toList.map (·.key):=by
  rw [h.keys]
  exact List.mem_map.2 ⟨_,hm,rfl⟩
 obtain ⟨m,h1,h2⟩:=List.mem_map.1 this
 exact ⟨m,h1,h2⟩
theorem FlushI.step {n t:Nat} {cur:Nat->aa} {x:DevX} (hp:DevP n cur t x) {seen:Array Nat} {esF esF':Array MapEntry} {cF cF':Nat} {kF:List (Int×Value)} (h:FlushI x seen esF cF kF) {m:MapEntry} (hm:m∈left x.esM seen) {k c:Int} (hk:m.key=intE k)
  (hc:(kget x.kM k).getD (.int .i64 0)=.int .i64 c) (mF':MapIs intE esF' cF' (kput kF k (er kF x.kW k c))):FlushI x (seen.push m.born) esF' cF' (kput kF k (er kF x.kW k c)):=by
 have hcnt:w5 x.kM k=c:=by unfold w5;rw [hc]
 have hl:er kF x.kW k c=er x.kF x.kW k c:=by
  unfold er
  split
  ·rfl
  ·rename_i h0
   rcases h.each k with h1 | h1
   ·exact h1
   ·refine h1.trans ?_
    rw [hcnt];unfold er;rw [if_neg h0]
 have hv:∀ j,valF (kput kF k (er kF x.kW k c)) j=if j=k then er x.kF x.kW k c else valF kF j:=by
  intro j
  unfold valF
  rw [cj]
  split
  ·exact hl
  ·rfl
 refine ⟨mF',fun j=>?_,fun m' hm' hs j hj=>?_⟩
 ·rw [hv]
  split
  ·rename_i he;subst he;rw [hcnt];exact .inr rfl
  ·exact h.each j
 ·rw [hv]
  split
  ·rename_i he;subst he;rw [hcnt]
  ·rename_i hne
   refine h.met m' hm' ?_ j hj
   rw [Array.contains_push] at hs
   simp only [Bool.or_eq_true,beq_iff_eq] at hs
   rcases hs with hs | hs
   ·exact hs
   ·exfalso
    have hmm:=(List.mem_filter.1 hm).1
    have:m'=m:=by
     have hb:=hp.mM.born
     obtain ⟨i,hi,rfl⟩:=List.mem_iff_getElem.1 hm'
     obtain ⟨i',hi',rfl⟩:=List.mem_iff_getElem.1 hmm
     have hpw:=List.pairwise_iff_getElem.1 hb
     rcases Nat.lt_trichotomy i i' with hlt | heq | hgt
     ·have:=hpw i i' (by simpa using hi) (by simpa using hi') hlt
      simp only [List.getElem_map] at this;omega
     ·subst heq;rfl
     ·have:=hpw i' i (by simpa using hi') (by simpa using hi) hgt
      simp only [List.getElem_map] at this;omega
    subst this
    rw [hk] at hj
    injection hj with _ hj
    exact hne hj.symm
theorem FlushI.done {n t:Nat} {cur:Nat->aa} {x:DevX} (hp:DevP n cur t x) {seen:Array Nat} {esF:Array MapEntry} {cF:Nat} {kF:List (Int×Value)} (h:FlushI x seen esF cF kF) (h0:left x.esM seen=[]) (ops left':Int) :
  DevP n cur 0 ⟨x.fl,x.wr,x.mn,esF,#[],#[],cF,x.cW,x.cM,kF,[],[],x.bl,ops,left'⟩:=by
 have hall:∀ j,valF kF j=er x.kF x.kW j (w5 x.kM j):=by
  intro j
  cases hk:kget x.kM j with
  | some v =>
   obtain ⟨m,h1,h2⟩:=hp.mM.has hk
   refine h.met m h1 ?_ j h2
   cases hs:seen.contains m.born with
   | true=>rfl
   | false =>
    have:m∈left x.esM seen:=List.mem_filter.2 ⟨h1,by simp only [hs];rfl⟩
    rw [h0] at this;cases this
  | none =>
   have hc:w5 x.kM j=0:=by unfold w5;rw [hk];rfl
   rcases h.each j with h1 | h1
   ·rw [h1,hc];unfold er;rw [if_neg (by decide)];rfl
   ·exact h1
 refine ⟨h.mF,MapIs.empty _ _,MapIs.empty _ _,hp.n1,hp.n2,hp.len,by simp [kget],by simp [kget],?_⟩
 intro k hk c hc
 simp only [kget,Option.getD_none,Value.int.injEq,true_and] at hc
 subst hc
 obtain ⟨c,hc,_⟩:=q9 hp (k:Int)
 have h1:=hp.holds k hk c hc
 have hcnt:w5 x.kM (k:Int)=c:=by unfold w5;rw [hc]
 have h2:er kF [] (k:Int) 0=er x.kF x.kW (k:Int) c:=by
  have:=hall (k:Int)
  rw [hcnt] at this
  rw [<- this]
  unfold er valF
  rw [if_neg (by decide)]
 unfold G4 at h1 ⊢
 simp only [h2]
 exact h1
theorem Ln {d n t:Nat} {cur:Nat->aa}:Spec Tryz.prog 153 #[.pointer (some ⟨d,0,none⟩)] [DevR d n cur t] fun F v M=>v=.int .i64 0/\M=DevR d n cur 0 :: F:=by
 refine Spec.intro Tryz.func153 rfl rfl fun B F=>?_
 simp only [Tryz.ntmps153,List.cons_append,List.nil_append,env0,Nat.reduceAdd]
 refine .openR (DevR.opens d n cur t) fun x hp=>?_
 simp only [devL,List.cons_append,List.nil_append]
 have hn1:=hp.n1
 refine .sr (.assign (.z (.seq (.sr (.move ?_)))))
 refine .call (hc:=Tryz.call221) (sp:=Su hn1) (h:=?_)
 rintro _ _ ⟨ops',left',rfl,rfl⟩
 refine .not (.z ?_)
 refine .condF rfl rfl ?_
 refine .skip (.next (.seq (.sr (.move (.nilCheck ?_)))))
 refine .fa ?_ sh
 refine .ld ?_ Gs
 refine .range yu fun it=>?_
 refine .z (.block ?_)
 refine .loopA (σ:=Array Nat×Array MapEntry×Nat×List (Int×Value)) (fun s=>[(0,.pointer (some ⟨d,0,none⟩)),(11,.pointer (some ⟨it,0,none⟩))]) (fun s=>pt it (.mapIter (some x.mn) x.cM s.1 x.cM) :: pt d (devO n x.fl x.wr x.mn ops' left') :: pt x.fl (.map s.2.1 s.2.2.1) :: pt x.wr (.map x.esW x.cW) :: pt x.mn (.map x.esM x.cM) :: bi x.bl :: F) (fun s=>FlushI x s.1 s.2.1 s.2.2.1 s.2.2.2) (fun s=>(left x.esM s.1).length) (#[],x.esF,x.cF,x.kF) (FlushI.start hp) ?_
 rintro ⟨seen,esF',cF',kF⟩ hi
 refine .sr ?_
 refine .next hp.mM.lt (fun h0=>?_) (fun m hm=>?_)
 ·refine .extract (.z (.seq ?_))
  refine .condF rfl rfl ?_
  refine .exit (.thenExit (.thenExit (.blockExit (?_))))
  refine .next (.sr (.move (.nilCheck ?_)))
  refine .fa ?_ As
  refine .ld ?_ Pz
  refine .clearM ?_ Py
  refine .x (.move (.nilCheck ?_))
  refine .fa ?_ sh
  refine .ld ?_ Gs
  refine .clearM ?_ yu
  refine .x (.assign (.z (.ret (?_))))
  refine .shutR (DevR.opens d n cur 0) _ (hi.done hp h0 ops' left') ?_
  exact .ret1 (h1:=.tmp (t:=2) rfl) ⟨_,⟨rfl,rfl⟩,Am.auto⟩
 ·obtain ⟨k,hk,hkv⟩:=hp.mM.entry (List.mem_filter.1 hm).1
  obtain ⟨c,hc,hc0,hct⟩:=q9 hp k
  refine .extract (.z (.seq ?_))
  refine .condT rfl rfl ?_
  refine .skip (.next (.block (.sr ?_)))
  refine .entry (List.mem_filter.1 hm).1 hp.mM.born ?_
  refine .extract ?_
  refine .cast (d:=15) rfl hk ?_
  refine .assign (.z ?_)
  refine .dr ([pt d (devO n x.fl x.wr x.mn ops' left')]) [8] 9 mixed .autoJ ?_
  refine .tk 0 rfl .move ?_
  refine .tk 1 rfl .nilCheck ?_
  refine .tk 2 rfl (.fa Gl) ?_
  refine .tk 3 rfl (.ld Sn) ?_
  refine .tk 4 rfl .move ?_
  refine .tk 5 rfl .move ?_
  refine .tk 6 rfl .move ?_
  refine .on 7 rfl fun hnp=>?_
  refine .call (hc:=Tryz.call220) (sp:=G5 hi.mF hp.mW hp.mM hc) (h:=?_)
  rintro _ _ ⟨rfl,rfl⟩
  refine .nil (.wa hnp ?_)
  refine .on 8 rfl fun hnp=>?_
  refine .upd (k:=k) klF hi.mF Sm fun es_1 c_1 hm_1=>?_
  refine .nil (.wb hnp ?_)
  refine .fin ?_
  refine .blockNormal ?_
  exact .back (seen.push m.born,es_1,c_1,kput kF k (er kF x.kW k c)) (hi.step hp hm hk hc hm_1) (yp hm)
theorem iz (a b:Int):av Tryz.prog 233 [(0,.int .i64 a),(1,.int .i64 b)] #[.int .i64 a,.int .i64 b]:=fun w=>by kernel_rfl
def u64s (l:List Nat):List Value:=l.map fun v=>.int .u64 ((v:Nat):Int)
theorem Lo {l:List Nat} {i:Nat} (h:i < l.length):(u64s l)[i]?=some (.int .u64 (l.getD i 0:Nat)):=by
 unfold u64s
 rw [List.getElem?_map,List.getElem?_eq_getElem h,List.getD_eq_getElem?_getD,List.getElem?_eq_getElem h]
 rfl
theorem s5 (a:Nat):IntKind.u64.wrap ((a:Int)+1)=(((a+1) % 2 ^ 64:Nat):Int):=by
 have:IntKind.u64.wrap ((a:Int)+1)=((a:Int)+1) % 2 ^ 64:=by simp [IntKind.wrap,IntKind.bits,IntKind.signed]
 rw [this];omega
def jc (ys:aa) (nums:List Nat):Nat->aa
 | 0=>ys++List.replicate (512 - ys.length) 0
 | i+1=>put (jc ys nums i) (8 * (i+1)) 8 false (nums.getD i 0)
def s6 (ys:aa) (nums:List Nat):aa:=jc ys nums nums.length
theorem fk {ys:aa} (h:ys.length<=512) (nums:List Nat):∀ i,(jc ys nums i).length=512
 | 0=>by rw [jc,List.length_append,List.length_replicate];omega
 | i+1=>by rw [jc,an];exact fk h nums i
def slotAt (a b:Nat):Nat:=1+a * 61+b
def dt :aa:=[66,79,76,76,65,82,68,74]
def lj :aa:=[66,79,76,76,65,82,68,72]
theorem o9 (f0:Fn) (u0 c0:Array Value):bc Tryz.prog 136 1 [(0,.func f0 u0 c0)] 92 #[.func f0 u0 c0]:=fun w=>by kernel_rfl
theorem G6 (f0:Fn) (u0 c0:Array Value) (f1:Fn) (u1 c1:Array Value):bc Tryz.prog 136 2 [(0,.func f0 u0 c0),(1,.func f1 u1 c1)] 92 #[.func f0 u0 c0,.func f1 u1 c1]:=fun w=>by kernel_rfl
theorem Ba (f0:Fn) (u0 c0:Array Value) (f1:Fn) (u1 c1:Array Value) (f2:Fn) (u2 c2:Array Value):bc Tryz.prog 136 3 [(0,.func f0 u0 c0),(1,.func f1 u1 c1),(2,.func f2 u2 c2)] 92 #[.func f0 u0 c0,.func f1 u1 c1,.func f2 u2 c2]:=fun w=>by kernel_rfl
theorem P6 (v0:Int):bc Tryz.prog 322 1 [(0,.int .u64 v0)] 104 #[.int .u64 v0]:=fun w=>by kernel_rfl
theorem G7 (v0:Int) (v1:Int) (v2:Int):bc Tryz.prog 322 3 [(0,.int .u64 v0),(1,.int .u64 v1),(2,.int .u64 v2)] 104 #[.int .u64 v0,.int .u64 v1,.int .u64 v2]:=fun w=>by kernel_rfl
theorem m9 {a b:Nat} (h:a<=3/\b<=60):Spec Tryz.prog 150 #[.agg #[.int .i64 (a:Int),.int .i64 (b:Int)]] [] fun F v M=>v=.int .i64 ((slotAt a b:Nat):Int)/\M=F:=by
 refine Spec.intro Tryz.func150 rfl rfl fun B F=>?_
 simp only [Tryz.ntmps150,List.cons_append,List.nil_append,env0,Nat.reduceAdd]
 refine .sr ?_
 refine .box fun b1=>?_
 refine .assign (.x ?_)
 refine .fa ?_ Gq
 refine .ld ?_ sc3
 refine .mul ?_
 refine .add ?_
 refine .fa ?_ Px
 refine .ld ?_ sc3
 refine .add ?_
 refine .assign (.z (.ret (?_)))
 exact .ret1 (h1:=.tmp (t:=2) rfl) ⟨_,⟨cI9 (by unfold slotAt;omega),rfl⟩,Am.auto⟩
theorem Ew {a:Nat}:Spec Tryz.prog 148 #[.int .u64 (a:Int)] [] fun F v M=>v=.int .i64 ((a % 4:Nat):Int)/\M=F:=by
 refine Spec.intro Tryz.func148 rfl rfl fun B F=>?_
 simp only [Tryz.ntmps148,List.cons_append,List.nil_append,env0,Nat.reduceAdd]
 refine .sr (.assign (.x (.move ?_)))
 refine .bin (r:=.int .u64 ((a:Int) % 4)) ?_ (bx fun w=>by simp [a6,Op.intDiv,Int.tmod_eq_emod_of_nonneg (Int.natCast_nonneg a)]) rfl rfl rfl
 refine .cvt ?_ cx un3
 refine .cast (d:=5) (u:=.int .i64 ((a % 4:Nat):Int)) rfl (cI9 (by rw [IntWalk.i64_in _ (by omega)];omega)) ?_
 refine .assign (.z (.ret (?_)))
 exact .ret1 (h1:=.tmp (t:=2) rfl) ⟨_,⟨rfl,rfl⟩,Am.auto⟩
theorem jGet {R:HP} {A:Addr} {n c:Nat} {xs:aa} {k:Int} (hR:Reads R (some A) (bvs xs)) (hn:xs.length=n) (hl:n<=1073741824) (hk:0<=k) (hk2:8 * k+8<=n):Spec Tryz.prog 219 #[.slice (some A) n c,.int .i64 k] [R] fun F v M=>v=.int .u64 (ax (seg xs (8 * k).toNat 8 false):Int)/\M=R :: F:=by
 refine Spec.intro Tryz.func219 rfl rfl fun B F=>?_
 simp only [Tryz.ntmps219,List.cons_append,List.nil_append,env0,Nat.reduceAdd]
 refine .sr (.assign (.x (.move (.move ?_))))
 refine .mul ?_
 refine .call (hc:=Tryz.call157) (sp:=lh hR hn hl (by omega) (by omega) (by omega)) (h:=?_)
 rintro _ _ ⟨rfl,rfl⟩
 refine .move ?_
 refine .extract (.extract ?_)
 refine .assign (.assign (.x (.move (.assign (.z ?_)))))
 refine .ret (?_)
 exact .ret1 (h1:=.tmp (t:=4) rfl) ⟨_,⟨rfl,rfl⟩,Am.auto⟩
theorem Lp {R:HP} {A:Addr} {n c:Nat} {ys:aa} {nums:List Nat} (hy:ys.length<=512) (hR:Reads R (some A) (u64s nums)) (hn:nums.length=n) (hl:n<=60) (hv:∀ v∈nums,v < 2 ^ 64):Spec Tryz.prog 209 #[sv ys,.slice (some A) n c] [R] fun F v M=>∃ g q,(v=.slice (some ⟨g,0,none⟩) 512 q/\512<=q/\q<=maxLen)/\M=buf g 5 q (bvs (s6 ys nums)) :: R :: F:=by
 refine Spec.intro Tryz.func209 rfl rfl fun B F=>?_
 simp only [Tryz.ntmps209,List.cons_append,List.nil_append,env0,Nat.reduceAdd]
 obtain ⟨ab,ao,asp⟩:=A
 have hsp:asp=none:=hR.1
 subst hsp
 refine .sr (.assign (.x ?_))
 refine .mkSN 512 z5 so79 (by decide) (by decide) fun b8=>?_
 refine .assign (.x (.move (.move ?_)))
 refine .copyS ys so79 ?_ (hdl:=by rw [List.length_replicate];decide)
 refine .to (r:=.here) (A':=buf b8 5 512 (bvs (jc ys nums 0))) (fun h hh=>by
  have e1:(List.replicate 512 (Value.int .u8 0)).take 0++(bvs ys).take (min ys.length 512)++(List.replicate 512 (Value.int .u8 0)).drop (0+min ys.length 512)=bvs (jc ys nums 0):=by
   rw [jc,bj,bw,List.take_zero,List.nil_append,List.drop_replicate,List.take_of_length_le (by rw [ag];omega),show 512 - (0+min ys.length 512)=512 - ys.length from by omega]
  rw [<- e1];exact hh) ?_
 refine .z (.seq (.sr (.move ?_)))
 refine .lenS ?_ sl322
 refine .move (.z (.block ?_))
 refine .loopA (σ:=Int×Nat×Nat) (fun s=>[(5,.slice (some ⟨s.2.1,0,none⟩) 512 s.2.2),(12,.slice (some ⟨ab,ao,none⟩) n c),(13,.int .i64 (n:Int)),(14,.int .i64 s.1)]) (fun s=>buf s.2.1 5 s.2.2 (bvs (jc ys nums s.1.toNat)) :: R :: F) (fun s=>(0<=s.1/\s.1<=n)/\512<=s.2.2/\s.2.2<=maxLen) (fun s=>((n:Int) - s.1).toNat) (0,b8,512) ⟨by omega,Nat.le_refl 512,(by decide:512<=maxLen)⟩ ?_
 rintro ⟨i,g,q⟩ ⟨hi,hq1,hq2⟩
 refine .sr ?_
 refine .lss (.z (.seq ?_))
 refine .cond rfl (fun hb=>?_) (fun hb=>?_)
 ·have hlt:i < (n:Int):=of_decide_eq_true hb
  have hvv:nums.getD i.toNat 0 < 2 ^ 64:=by
   rw [List.getD_eq_getElem?_getD,List.getElem?_eq_getElem (show i.toNat < nums.length by omega)]
   exact hv _ (List.getElem_mem _)
  refine .skip (.next (.seq (.block (.sr (.move ?_)))))
  refine .idx1 ?_ so322
  refine .ldR ?_ fy hR (Lo (show i.toNat < nums.length by omega))
  refine .assign (.assign (.y (.move (.move ?_))))
  refine .add ?_
  refine .mul ?_
  refine .move ?_
  refine .call (hc:=Tryz.call105) (sp:=li (xs:=jc ys nums i.toNat) Reads.buf (fk hy nums _) (by decide) (by omega) (by omega) (by omega) hvv) (h:=?_)
  rintro _ _ ⟨g',q',⟨rfl,h1,h2⟩,rfl⟩
  refine .move ?_
  refine .extract (.extract ?_)
  refine .assign (.nil (.blockNormal (.next (.region ?_))))
  refine .add ?_
  refine .move (.nil ?_)
  refine .to (r:=.here) (A':=buf g' 5 q' (bvs (jc ys nums (i+1).toNat))) (fun h hh=>by
   rw [show (i+1).toNat=i.toNat+1 from by omega,jc,show 8 * (i.toNat+1)=(8 * (i+1)).toNat from by omega];exact hh) ?_
  exact .back (i+1,g',q') ⟨by omega,h1,h2⟩ (by show ((n:Int) - (i+1)).toNat < ((n:Int) - i).toNat;omega)
 ·have hge:¬ i < (n:Int):=of_decide_eq_false hb
  have hin:i.toNat=nums.length:=by omega
  refine .exit (.thenExit (.thenExit (.blockExit (?_))))
  refine .next (.sr (.move (.assign (.z (.ret (?_))))))
  refine .to (r:=.here) (A':=buf g 5 q (bvs (s6 ys nums))) (fun h hh=>by unfold s6;rw [<- hin];exact hh) ?_
  exact .ret1 (h1:=.tmp (t:=4) rfl) ⟨_,⟨g,q,⟨rfl,hq1,hq2⟩,rfl⟩,Am.auto⟩
theorem Cl {d n t:Nat} {cur:Nat->aa} (hn:1<=n):Spec Tryz.prog 146 #[.pointer (some ⟨d,0,none⟩)] [DevR d n cur t] fun F v M=>v=.tuple #[.int .u64 (ax (seg (cur 0) 8 8 false):Int),.bool (decide ((cur 0).take 8=dt))]/\M=DevR d n cur t :: F:=by
 refine Spec.intro Tryz.func146 rfl rfl fun B F=>?_
 simp only [Tryz.ntmps146,List.cons_append,List.nil_append,env0,Nat.reduceAdd]
 refine .sr (.assign (.assign (.x (.move ?_))))
 refine .call (hc:=Tryz.call149) (sp:=sy (n:=n) (t:=t) (k:=0) (cur:=cur) (by omega)) (h:=?_)
 rintro _ _ ⟨gb,q,rfl,⟨hq1,hq2,hlen⟩,rfl⟩
 refine .move ?_
 refine .extract (.extract (.assign (.assign (.z (.seq ?_)))))
 refine .dr ([buf gb 5 q (bvs (cur 0))]) [] 12 mixed .autoJ ?_
 refine .tk 0 rfl .move ?_
 refine .tk 2 rfl .move ?_
 refine .tk 3 rfl .eqi ?_
 refine .on 1 rfl fun hnp=>?_
 refine .call (hc:=Tryz.call219) (sp:=jGet (k:=1) Reads.buf hlen (by decide) (by decide) (by decide)) (h:=?_)
 rintro _ _ ⟨rfl,rfl⟩
 refine .nil (.wa hnp ?_)
 refine .tk 4 rfl .move ?_
 refine .tn 5 rfl .move ?_
 refine .tn 6 rfl (.slcH so79) ?_
 refine .tn 7 rfl (Qt.cvtBS (R:=buf gb 5 q (bvs (cur 0))) (xs:=(cur 0).take 8) by79 st9 (by rw [ck];exact Reads.buf.take 8) (by rw [List.length_take,hlen])) ?_
 refine .tn 8 rfl (Qt.eqS ((cur 0).take 8) dt) ?_
 refine .tk 9 rfl .pickT ?_
 refine .tk 10 rfl .assign ?_
 refine .tk 11 rfl .assign ?_
 refine .fin ?_
 refine .next (.ret (?_))
 exact .ret2 (h1:=.tmp (t:=2) rfl) (h2:=.tmp (t:=3) rfl) ⟨_,⟨rfl,rfl⟩,Am.auto⟩
def okV :Value:=.int .i64 0
def Goes (fv:Value) (I J:List HP):Prop:=∃ f us cap,fv=.func (.func f) us cap/\(∀ args w,(callFunc f args).run Tryz.prog w=.ok (.enter f args) w)/\Spec Tryz.prog f (us++cap) I fun F v M=>v=okV/\M=J++F
theorem Sv {R:HP} {A:Addr} {m c:Nat} {fs:List Value} (I:Nat->List HP) (hR:Reads R (some A) fs) (hm:fs.length=m) (hl:m<=1000) (hfs:∀ i (h:i < fs.length),Goes fs[i] (I i) (I (i+1))) :
  Spec Tryz.prog 151 #[.slice (some A) m c] (I 0++[R]) fun F v M=>v=.int .i64 0/\M=I m++(R :: F):=by
 refine Spec.intro Tryz.func151 rfl rfl fun B F=>?_
 simp only [Tryz.ntmps151,List.cons_append,List.nil_append,env0,Nat.reduceAdd]
 obtain ⟨ab,ao,asp⟩:=A
 have hsp:asp=none:=hR.1
 subst hsp
 rw [List.append_assoc]
 simp only [List.cons_append,List.nil_append]
 refine .sr (.assign (.z (.seq (.sr (.move ?_)))))
 refine .lenS ?_ So
 refine .move (.z (.block ?_))
 refine .loopA (σ:=Int) (fun i=>[(6,.slice (some ⟨ab,ao,none⟩) m c),(7,.int .i64 (m:Int)),(8,.int .i64 i)]) (fun i=>I i.toNat++(R :: F)) (fun i=>0<=i/\i<=m) (fun i=>((m:Int) - i).toNat) 0 (by omega) ?_
 rintro i hi
 refine .sr ?_
 refine .lss (.z (.seq ?_))
 refine .cond rfl (fun hb=>?_) (fun hb=>?_)
 ·have hlt:i < (m:Int):=of_decide_eq_true hb
  have hil:i.toNat < fs.length:=by omega
  obtain ⟨f,us,cap,hf,hc,hsp⟩:=hfs i.toNat hil
  refine .skip (.next (.seq (.block (.sr ?_))))
  refine .idx1 ?_ m7
  refine .ldR ?_ sc92 hR ((List.getElem?_eq_getElem hil).trans (congrArg some hf)) (hm:=Mem.mid)
  refine .assign (.x (.move ?_))
  refine .callF (vs:=[]) rfl rfl hc (by simpa using hsp) ?_ Tk.app
  rintro _ _ ⟨rfl,rfl⟩
  refine .assign (.x (.move ?_))
  refine .nei (.z ?_)
  refine .condF rfl rfl ?_
  refine .skip (.blockNormal (.next (.region ?_)))
  refine .add ?_
  refine .move (.nil ?_)
  exact .back (i+1) (by omega) (by omega) (hI:=by rw [show (i+1).toNat=i.toNat+1 from by omega];exact .refl)
 ·have hge:¬ i < (m:Int):=of_decide_eq_false hb
  have him:i.toNat=m:=by omega
  rw [him]
  refine .exit (.thenExit (.thenExit (.blockExit (?_))))
  refine .next (.sr (.assign (.z (.ret (?_)))))
  exact .ret1 (h1:=.tmp (t:=2) rfl) ⟨_,⟨rfl,rfl⟩,.refl⟩
inductive Chain :List Value->List HP->List HP->Prop
 | nil {I}:Chain [] I I
 | cons {f fs I J K}:Goes f I J->Chain fs J K->Chain (f :: fs) I K
theorem Chain.append {fs gs:List Value} {I J K:List HP} (h:Chain fs I J) (h2:Chain gs J K):Chain (fs++gs) I K:=by
 induction h with
 | nil=>exact h2
 | cons g _ ih=>exact .cons g (ih h2)
theorem Chain.states {fs:List Value} {I K:List HP} (h:Chain fs I K):∃ S:Nat->List HP,S 0=I/\S fs.length=K/\∀ i (hi:i < fs.length),Goes fs[i] (S i) (S (i+1)):=by
 induction h with
 | @nil I=>exact ⟨fun _=>I,rfl,rfl,fun i hi=>by cases hi⟩
 | @cons f fs I J K g _ ih =>
  obtain ⟨S,h0,h1,h2⟩:=ih
  refine ⟨fun i=>if i=0 then I else S (i - 1),rfl,by simpa using h1,fun i hi=>?_⟩
  cases i with
  | zero =>
   simp only [if_true,List.getElem_cons_zero,Nat.zero_add,Nat.succ_ne_zero,if_false,Nat.sub_self,h0]
   exact g
  | succ i =>
   have:=h2 i (by simpa using hi)
   simpa using this
theorem s7 {R:HP} {A:Addr} {m c:Nat} {fs:List Value} {I K:List HP} (ch:Chain fs I K) (hR:Reads R (some A) fs) (hm:fs.length=m) (hl:m<=1000) :
  Spec Tryz.prog 151 #[.slice (some A) m c] (I++[R]) fun F v M=>v=.int .i64 0/\M=K++(R :: F):=by
 obtain ⟨S,h0,h1,h2⟩:=ch.states
 have:=Sv (c:=c) S hR hm hl h2
 rw [h0,<-hm,h1] at this
 rw [<- hm]
 exact this
theorem Goes.sub {fv:Value} {I J L M K:List HP} (h:Goes fv I J) (t:Tk L I K:=by repeat (first | exact .nil | (apply Tk.cons;(focus ((repeat (first | exact .here | apply Rem.there));done)))))
  (m:Am (J++K) M:=by repeat (first | exact .refl | exact .nil | (apply Am.take;(focus ((repeat (first | exact .here | apply Rem.there));done))) | refine .skip ?_)):Goes fv L M:=by
 obtain ⟨f,us,cap,hf,hc,hs⟩:=h
 refine ⟨f,us,cap,hf,hc,fun B F w hsat=>?_⟩
 have h1:=hsat.take (Tk.right t)
 rw [<- List.append_assoc] at h1
 have h2:=hs B (K++F) w (by rw [<- List.append_assoc];exact h1)
 refine h2.mono ?_
 rintro e w' ⟨v,M',rfl,⟨rfl,rfl⟩,h3⟩
 refine ⟨_,_,rfl,⟨rfl,rfl⟩,?_⟩
 rw [<- List.append_assoc] at h3
 exact (Am.right m).wk B w' h3
theorem goesFlush {d n t:Nat} {cur:Nat->aa}:Goes (.func (.func 153) #[.pointer (some ⟨d,0,none⟩)] #[]) [DevR d n cur t] [DevR d n cur 0]:=⟨_,_,_,rfl,Tryz.call153,Ln⟩
def boxD (b d:Nat):HP:=pt b (.cells #[.pointer (some ⟨d,0,none⟩)] 28 (0,0))
def w6 (b:Nat) (i:Nat):HP:=pt b (.cells #[.int .i64 (i:Int)] 3 (0,0))
def gi (b:Nat) (i:Nat):HP:=pt b (.cells #[.int .u64 (i:Int)] 104 (0,0))
theorem Lq {d n t b c i:Nat} {cur:Nat->aa} (hi:i<=3) (hn:246<=n) (ht:t<=1000):Spec Tryz.prog 206 #[.pointer (some ⟨b,0,none⟩),.pointer (some ⟨c,0,none⟩)] [boxD b d,w6 c i,DevR d n cur t] fun F v M=>v=okV/\M=[boxD b d,w6 c i,DevR d n (wr cur (slotAt i 0) zeros) (t+1)]++F:=by
 refine Spec.intro Tryz.func206 rfl rfl fun B F=>?_
 simp only [Tryz.ntmps206,List.cons_append,List.nil_append,env0,Nat.reduceAdd]
 simp only [boxD,w6]
 refine .sr (.assign (.z (.seq ?_)))
 refine .dr ([pt b (.cells #[.pointer (some ⟨d,0,none⟩)] 28 (0,0)),pt c (.cells #[.int .i64 (i:Int)] 3 (0,0))]) [] 7 mixed .autoJ ?_
 refine .tk 0 rfl (.ld sc28) ?_
 refine .tk 1 rfl (.ld sc3) ?_
 refine .tk 2 rfl (.build (iz _ _)) ?_
 refine .tw 3 4 rfl rfl (fun hnp=>?_) (fun hnp=>?_)
 ·refine .call (hc:=Tryz.call150) (sp:=m9 (a:=i) (b:=0) (by omega)) (h:=?_)
  rintro _ _ ⟨rfl,rfl⟩
  refine .nil (.wa hnp ?_)
  refine .on 4 rfl fun hnp=>?_
  refine .mkSN 512 z5 so79 (by decide) (by decide) fun b7=>?_
  refine .to (r:=.here) (A':=buf b7 5 512 (bvs zeros)) (fun h hh=>by unfold zeros;rw [bw];exact hh) ?_
  refine .nil (.wa hnp ?_)
  refine .on 5 rfl fun hnp=>?_
  refine .call (hc:=Tryz.call207) (sp:=l4 (n:=n) (t:=t) (cur:=cur) (k:=slotAt i 0) Reads.buf bg rfl (by unfold slotAt;omega) (by omega)) (h:=?_)
  rintro _ _ ⟨rfl,rfl⟩
  refine .nil (.wa hnp ?_)
  refine .tk 6 rfl .assign ?_
  refine .fin ?_
  refine .next (.ret (?_))
  exact .ret1 (h1:=.tmp (t:=2) rfl) ⟨_,⟨rfl,rfl⟩,Am.auto⟩
 ·refine .mkSN 512 z5 so79 (by decide) (by decide) fun b7=>?_
  refine .to (r:=.here) (A':=buf b7 5 512 (bvs zeros)) (fun h hh=>by unfold zeros;rw [bw];exact hh) ?_
  refine .nil (.wa hnp ?_)
  refine .on 3 rfl fun hnp=>?_
  refine .call (hc:=Tryz.call150) (sp:=m9 (a:=i) (b:=0) (by omega)) (h:=?_)
  rintro _ _ ⟨rfl,rfl⟩
  refine .nil (.wa hnp ?_)
  refine .on 5 rfl fun hnp=>?_
  refine .call (hc:=Tryz.call207) (sp:=l4 (n:=n) (t:=t) (cur:=cur) (k:=slotAt i 0) Reads.buf bg rfl (by unfold slotAt;omega) (by omega)) (h:=?_)
  rintro _ _ ⟨rfl,rfl⟩
  refine .nil (.wa hnp ?_)
  refine .tk 6 rfl .assign ?_
  refine .fin ?_
  refine .next (.ret (?_))
  exact .ret1 (h1:=.tmp (t:=2) rfl) ⟨_,⟨rfl,rfl⟩,Am.auto⟩
theorem Lt {d n t b c gen:Nat} {cur:Nat->aa} (hn:246<=n) (ht:t<=1000):Spec Tryz.prog 208 #[.pointer (some ⟨b,0,none⟩),.pointer (some ⟨c,0,none⟩)] [boxD b d,gi c gen,DevR d n cur t] fun F v M=>v=okV/\M=[boxD b d,gi c gen,DevR d n (wr cur 0 (s6 dt [(gen+1) % 2 ^ 64])) (t+1)]++F:=by
 refine Spec.intro Tryz.func208 rfl rfl fun B F=>?_
 simp only [Tryz.ntmps208,List.cons_append,List.nil_append,env0,Nat.reduceAdd]
 simp only [boxD,gi]
 refine .sr (.assign (.z (.seq ?_)))
 refine .dr ([pt b (.cells #[.pointer (some ⟨d,0,none⟩)] 28 (0,0)),pt c (.cells #[.int .u64 (gen:Int)] 104 (0,0))]) [] 7 mixed .autoJ ?_
 refine .tk 0 rfl (.ld sc28) ?_
 refine .tk 1 rfl (.ld fy) ?_
 refine .tk 2 rfl ((Qt.addw).eq (v':=.int .u64 (((gen+1) % 2 ^ 64:Nat):Int)) (cI9 (s5 gen))) ?_
 refine .on 3 rfl fun hnp=>?_
 refine .buildS (fun b6=>?_) (P6 _)
 refine .nil (.wa hnp ?_)
 refine .on 4 rfl fun hnp=>?_
 refine .call (hc:=Tryz.call209) (sp:=Lp (ys:=dt) (nums:=[(gen+1) % 2 ^ 64]) (by decide) Reads.pt rfl (Nat.le_of_ble_eq_true rfl) (by intro v hv;rw [List.mem_singleton] at hv;subst hv;exact Nat.mod_lt _ (by decide))) (h:=?_)
 rintro _ _ ⟨gl,ql,⟨rfl,hl1,hl2⟩,rfl⟩
 refine .nil (.wa hnp ?_)
 refine .on 5 rfl fun hnp=>?_
 refine .call (hc:=Tryz.call207) (sp:=l4 (n:=n) (t:=t) (cur:=cur) (k:=0) Reads.buf (fk (ys:=dt) (by decide) _ _) rfl (by omega) (by omega)) (h:=?_)
 rintro _ _ ⟨rfl,rfl⟩
 refine .nil (.wa hnp ?_)
 refine .tk 6 rfl .assign ?_
 refine .fin ?_
 refine .next (.ret (?_))
 exact .ret1 (h1:=.tmp (t:=2) rfl) ⟨_,⟨rfl,rfl⟩,Am.auto⟩
def kn (cur:Nat->aa):Nat->Nat->aa
 | 0=>cur
 | i+1=>wr (kn cur i) (slotAt i 0) zeros
def db (cur:Nat->aa):Nat->aa:=wr (if (cur 0).take 8=dt then cur else kn cur 4) 0 (s6 dt [(ax (seg (cur 0) 8 8 false)+1) % 2 ^ 64])
def fmt1V (b c:Nat):Value:=.func (.func 206) #[] #[.pointer (some ⟨b,0,none⟩),.pointer (some ⟨c,0,none⟩)]
def fmt2V (b c:Nat):Value:=.func (.func 208) #[] #[.pointer (some ⟨b,0,none⟩),.pointer (some ⟨c,0,none⟩)]
theorem ra {d n t b c:Nat} {cur:Nat->aa} (i:Nat) (hi:i<=3) (hn:246<=n) (ht:t<=1000):Goes (fmt1V b c) [boxD b d,w6 c i,DevR d n cur t] [boxD b d,w6 c i,DevR d n (wr cur (slotAt i 0) zeros) (t+1)]:=⟨_,_,_,rfl,Tryz.call206,Lq hi hn ht⟩
theorem Cm {d n t b c gen:Nat} {cur:Nat->aa} (hn:246<=n) (ht:t<=1000):Goes (fmt2V b c) [boxD b d,gi c gen,DevR d n cur t] [boxD b d,gi c gen,DevR d n (wr cur 0 (s6 dt [(gen+1) % 2 ^ 64])) (t+1)]:=⟨_,_,_,rfl,Tryz.call208,Lt hn ht⟩
theorem P7 {d n t:Nat} {cur:Nat->aa} (hn:246<=n) (ht:t<=100):Spec Tryz.prog 128 #[.pointer (some ⟨d,0,none⟩)] [DevR d n cur t] fun F v M=>v=.int .i64 0/\M=DevR d n (db cur) 0 :: F:=by
 refine Spec.intro Tryz.func128 rfl rfl fun B F=>?_
 simp only [Tryz.ntmps128,List.cons_append,List.nil_append,env0,Nat.reduceAdd]
 refine .sr ?_
 refine .box fun b1=>?_
 refine .assign (.z (.seq (.sr ?_)))
 refine .ld ?_ sc28
 refine .call (hc:=Tryz.call73) (sp:=ey (n:=n) (t:=t) (cur:=cur)) (h:=?_)
 rintro _ _ ⟨rfl,rfl⟩
 refine .lss (.z ?_)
 refine .condF rfl (cB9 (by first|simp;done|simp;omega|omega)) ?_
 refine .skip (.next (.sr ?_))
 refine .ld ?_ sc28
 refine .call (hc:=Tryz.call146) (sp:=Cl (n:=n) (t:=t) (cur:=cur) (by omega)) (h:=?_)
 rintro _ _ ⟨rfl,rfl⟩
 refine .move ?_
 refine .extract (.extract ?_)
 refine .alloc z104 fun b3=>?_
 refine .st ?_ fy
 refine .assign (.x (.assign ?_))
 refine .emp (rowR.nil (e:=92) (size:=1) _) ?_
 refine .z (.seq (.sr (.move ?_)))
 refine .not (.z ?_)
 refine .cond rfl (fun hb=>?_) (fun hb=>?_)
 ·have hno:¬ (cur 0).take 8=dt:=by simpa using hb
  refine .sr (.move (.z (.block ?_)))
  refine .loopN 5 (RC.succ ?_)
  refine .sr ?_
  refine .lss (.z (.seq ?_))
  refine .condT rfl rfl ?_
  refine .skip (.next (.seq (.block (.sr (.move ?_)))))
  refine .alloc z3 fun b6_0=>?_
  refine .st ?_ sc3
  refine .y (.move ?_)
  refine .makeFuncB ?_
  refine .buildS (fun b22=>?_) (o9 _ _ _)
  refine .append (m:=1) m7 (by decide) (by repeat (first | exact .here | apply Rem.there | apply Repl.there | apply Mem.there)) Reads.pt (by repeat (first | exact .here | apply Rem.there | apply Repl.there | apply Mem.there)) rfl (by simp [Value.single]) (by decide) (by decide) ⟨_,z92,rfl⟩ (fun v_0 hv_0=>?_)
  refine .assign (.nil (.blockNormal (.next (.region ?_))))
  refine .add ?_
  refine .move (.nil ?_)
  refine .again (RC.succ ?_)
  refine .sr ?_
  refine .lss (.z (.seq ?_))
  refine .condT rfl rfl ?_
  refine .skip (.next (.seq (.block (.sr (.move ?_)))))
  refine .alloc z3 fun b6_1=>?_
  refine .st ?_ sc3
  refine .y (.move ?_)
  refine .makeFuncB ?_
  refine .buildS (fun b22=>?_) (o9 _ _ _)
  refine .append (m:=1) m7 (by decide) (by repeat (first | exact .here | apply Rem.there | apply Repl.there | apply Mem.there)) Reads.pt (by repeat (first | exact .here | apply Rem.there | apply Repl.there | apply Mem.there)) rfl (by simp [Value.single]) (by decide) (by decide) ⟨_,z92,rfl⟩ (fun v_1 hv_1=>?_)
  refine .assign (.nil (.blockNormal (.next (.region ?_))))
  refine .add ?_
  refine .move (.nil ?_)
  refine .again (RC.succ ?_)
  refine .sr ?_
  refine .lss (.z (.seq ?_))
  refine .condT rfl rfl ?_
  refine .skip (.next (.seq (.block (.sr (.move ?_)))))
  refine .alloc z3 fun b6_2=>?_
  refine .st ?_ sc3
  refine .y (.move ?_)
  refine .makeFuncB ?_
  refine .buildS (fun b22=>?_) (o9 _ _ _)
  refine .append (m:=1) m7 (by decide) (by repeat (first | exact .here | apply Rem.there | apply Repl.there | apply Mem.there)) Reads.pt (by repeat (first | exact .here | apply Rem.there | apply Repl.there | apply Mem.there)) rfl (by simp [Value.single]) (by decide) (by decide) ⟨_,z92,rfl⟩ (fun v_2 hv_2=>?_)
  refine .assign (.nil (.blockNormal (.next (.region ?_))))
  refine .add ?_
  refine .move (.nil ?_)
  refine .again (RC.succ ?_)
  refine .sr ?_
  refine .lss (.z (.seq ?_))
  refine .condT rfl rfl ?_
  refine .skip (.next (.seq (.block (.sr (.move ?_)))))
  refine .alloc z3 fun b6_3=>?_
  refine .st ?_ sc3
  refine .y (.move ?_)
  refine .makeFuncB ?_
  refine .buildS (fun b22=>?_) (o9 _ _ _)
  refine .append (m:=1) m7 (by decide) (by repeat (first | exact .here | apply Rem.there | apply Repl.there | apply Mem.there)) Reads.pt (by repeat (first | exact .here | apply Rem.there | apply Repl.there | apply Mem.there)) rfl (by simp [Value.single]) (by decide) (by decide) ⟨_,z92,rfl⟩ (fun v_3 hv_3=>?_)
  refine .assign (.nil (.blockNormal (.next (.region ?_))))
  refine .add ?_
  refine .move (.nil ?_)
  refine .again (RC.succ ?_)
  refine .sr ?_
  refine .lss (.z (.seq ?_))
  refine .condF rfl rfl ?_
  refine .exit (.thenExit (.thenExit (.blockExit (?_))))
  refine .next (.sr (.move ?_))
  refine .ld ?_ sc28
  refine .makeFuncB ?_
  refine .makeFuncB ?_
  refine .ld ?_ sc28
  refine .makeFuncB ?_
  refine .buildS (fun b31=>?_) (Ba _ _ _ _ _ _ _ _ _)
  refine .append (m:=3) m7 (by decide) (by repeat (first | exact .here | apply Rem.there | apply Repl.there | apply Mem.there)) Reads.pt (by repeat (first | exact .here | apply Rem.there | apply Repl.there | apply Mem.there)) rfl (by simp [Value.single]) (by decide) (by decide) ⟨_,z92,rfl⟩ (fun vT hvT=>?_)
  refine .rowOpen (v:=vT) fun A c hv hR hc1 hc2=>?_
  subst hv
  refine .call (hc:=Tryz.call151) (sp:=s7 ((.cons (I:=[boxD b1 d,w6 b6_0 0,w6 b6_1 1,w6 b6_2 2,w6 b6_3 3,gi b3 (ax (seg (cur 0) 8 8 false)),DevR d n cur t]) (ra (d:=d) (n:=n) (t:=t+0) (cur:=kn cur 0) 0 (by decide) hn (by omega)).sub (.cons (ra (d:=d) (n:=n) (t:=t+1) (cur:=kn cur 1) 1 (by decide) hn (by omega)).sub (.cons (ra (d:=d) (n:=n) (t:=t+2) (cur:=kn cur 2) 2 (by decide) hn (by omega)).sub (.cons (ra (d:=d) (n:=n) (t:=t+3) (cur:=kn cur 3) 3 (by decide) hn (by omega)).sub (.cons (goesFlush (d:=d) (n:=n) (t:=t+4) (cur:=(kn cur 4))).sub (.cons (Cm (d:=d) (n:=n) (t:=0) (cur:=(kn cur 4)) (gen:=ax (seg (cur 0) 8 8 false)) hn (by decide)).sub (.cons goesFlush.sub .nil)))))))) hR rfl (Nat.le_of_ble_eq_true rfl)) (h:=?_)
  rintro _ _ ⟨rfl,rfl⟩
  simp only [List.cons_append,List.nil_append]
  refine .assign (.z (.ret (?_)))
  have hfin:db cur=wr (kn cur 4) 0 (s6 dt [(ax (seg (cur 0) 8 8 false)+1) % 2 ^ 64]):=by unfold db;rw [if_neg hno]
  rw [hfin]
  exact .ret1 (h1:=.tmp (t:=2) rfl) ⟨_,⟨rfl,rfl⟩,Am.auto⟩
 ·have hyes:(cur 0).take 8=dt:=by simpa using hb
  refine .skip (.next (.sr (.move ?_)))
  refine .ld ?_ sc28
  refine .makeFuncB ?_
  refine .makeFuncB ?_
  refine .ld ?_ sc28
  refine .makeFuncB ?_
  refine .buildS (fun b31=>?_) (Ba _ _ _ _ _ _ _ _ _)
  refine .append (m:=3) m7 (by decide) (by repeat (first | exact .here | apply Rem.there | apply Repl.there | apply Mem.there)) Reads.pt (by repeat (first | exact .here | apply Rem.there | apply Repl.there | apply Mem.there)) rfl (by simp [Value.single]) (by decide) (by decide) ⟨_,z92,rfl⟩ (fun vT hvT=>?_)
  refine .rowOpen (v:=vT) fun A c hv hR hc1 hc2=>?_
  subst hv
  refine .call (hc:=Tryz.call151) (sp:=s7 ((.cons (I:=[boxD b1 d,gi b3 (ax (seg (cur 0) 8 8 false)),DevR d n cur t]) (goesFlush (d:=d) (n:=n) (t:=t) (cur:=cur)).sub (.cons (Cm (d:=d) (n:=n) (t:=0) (cur:=cur) (gen:=ax (seg (cur 0) 8 8 false)) hn (by decide)).sub (.cons goesFlush.sub .nil)))) hR rfl (Nat.le_of_ble_eq_true rfl)) (h:=?_)
  rintro _ _ ⟨rfl,rfl⟩
  simp only [List.cons_append,List.nil_append]
  refine .assign (.z (.ret (?_)))
  have hfin:db cur=wr cur 0 (s6 dt [(ax (seg (cur 0) 8 8 false)+1) % 2 ^ 64]):=by unfold db;rw [if_pos hyes]
  rw [hfin]
  exact .ret1 (h1:=.tmp (t:=2) rfl) ⟨_,⟨rfl,rfl⟩,Am.auto⟩
theorem klP :KeyLaw Tryz.prog 233 sx:=uz (fun k:Int×Int=>[k.1,k.2]) (n:=2) (by kernel_rfl) (fun _=>rfl) (fun a b h=>by
 obtain ⟨a1,a2⟩:=a
 obtain ⟨b1,b2⟩:=b
 simp only [List.cons.injEq,and_true] at h
 rw [h.1,h.2])
def jO (d gen last:Nat) (ov:Value) (mp:Nat):Obj:=.cells #[.pointer (some ⟨d,0,none⟩),.int .u64 (gen:Int),.int .u64 (last:Int),.bool false,ov,.map (some mp)] 228 (0,0)
def lay (cur:Nat->aa) (l:List (Nat×aa)):Nat->aa:=l.foldl (fun c p=>wr c p.1 p.2) cur
theorem Lu (cur:Nat->aa) (l:List (Nat×aa)) (p:Nat×aa):lay cur (l++[p])=wr (lay cur l) p.1 p.2:=by simp [lay]
theorem Cn (cur:Nat->aa) (l:List (Nat×aa)) (i:Nat) (h:i < l.length):lay cur (l.take (i+1))=wr (lay cur (l.take i)) l[i].1 l[i].2:=by
 rw [List.take_succ_eq_append_getElem h,Lu]
def aw (l:List (Nat×aa)):List Value:=ints (l.map fun p=>(p.1:Int))
theorem un (l:List (Nat×aa)):(aw l).length=l.length:=by simp [aw,ints]
theorem Bb (l:List (Nat×aa)) (i:Nat) (h:i < l.length):(aw l)[i]?=some (.int .i64 (l[i].1:Int)):=by simp [aw,ints,h]
def Kept (kv:List ((Int×Int)×Value)) (bl:List (Value×aa)) (s:Nat) (l:List (Nat×aa)):Prop :=
 ∀ i (h:i < l.length),∃ v,kget kv ((s:Int),(i:Int))=some v/\(v,l[i].2)∈bl
structure Fit (n:Nat) (l:List (Nat×aa)):Prop where
 home:∀ p∈l,245<=p.1/\p.1 < n/\p.2.length=512
 few:l.length<=60
 apart:(l.map (·.1)).Nodup
theorem Co {xs:List Int} {i:Nat} (h:i < xs.length):(ints xs)[i]?=some (.int .i64 xs[i]):=by simp [ints,h]
theorem Lv {xs:List Int} {k:Int} {i:Nat} (hi:i < xs.length) (hk:xs[i]=k) (hb:∀ j:Nat,j < i->xs[j]?≠some k):xs.idxOf k=i:=by
 induction xs generalizing i with
 | nil=>simp at hi
 | cons x xs ih =>
  cases i with
  | zero=>simp at hk;subst hk;simp
  | succ i =>
   have hx:x≠k:=fun h=>hb 0 (by omega) (by simp [h])
   rw [List.idxOf_cons,show (x==k)=false from by simpa using hx,cond_false,ih (by simpa using hi) (by simpa using hk) (fun j hj=>by have:=hb (j+1) (by omega);simpa using this)]
theorem G8 {R:HP} {A:Option Addr} {m c:Nat} {xs:List Int} {k:Int} (hR:Reads R A (ints xs)) (hm:xs.length=m) (hl:m<=1073741824):Spec Tryz.prog 155 #[.slice A m c,.int .i64 k] [R] fun F v M=>v=.int .i64 (if k∈xs then (xs.idxOf k:Int) else -1)/\M=R :: F:=by
 refine Spec.intro Tryz.func155 rfl rfl fun B F=>?_
 simp only [Tryz.ntmps155,List.cons_append,List.nil_append,env0,Nat.reduceAdd]
 refine .sr (.assign (.z (.seq (.sr (.move ?_)))))
 refine .lenS ?_ sl26
 refine .move (.z (.block ?_))
 refine .loopA (σ:=Int) (fun i=>[(0,.slice A m c),(1,.int .i64 k),(7,.int .i64 (m:Int)),(8,.int .i64 i)]) (fun _=>R :: F) (fun i=>(0<=i/\i<=m)/\∀ j:Nat,j < i.toNat->xs[j]?≠some k) (fun i=>((m:Int) - i).toNat) 0 ⟨by omega,fun j hj=>by omega⟩ ?_
 rintro i hp
 refine .sr ?_
 refine .lss (.z (.seq ?_))
 refine .cond rfl (fun hb=>?_) (fun hb=>?_)
 ·have hlt:i < (m:Int):=of_decide_eq_true hb
  have hil:i.toNat < xs.length:=by omega
  rcases A with _ | ⟨ab,ao,asp⟩
  ·exact absurd hR (fun h=>by have h2:ints xs=[]:=h;simp [ints] at h2;subst h2;simp at hil)
  have hsp:asp=none:=hR.1
  subst hsp
  refine .skip (.next (.seq (.block (.sr (.move (.assign (.x (.move (.move ?_)))))))))
  refine .move ?_
  refine .idx1 ?_ so26
  refine .ldR ?_ sc3 hR (Co hil)
  refine .eqi (.z ?_)
  refine .cond rfl (fun hb2=>?_) (fun hb2=>?_)
  ·have hk:k=xs[i.toNat]:=of_decide_eq_true hb2
   refine .sr (.move (.assign (.z ?_)))
   refine .ret (.blockRet (.thenRet (.thenRet (.blockRet (.thenRet (?_))))))
   have hmem:k∈xs:=hk ▸ List.getElem_mem hil
   have hidx:xs.idxOf k=i.toNat:=Lv hil hk.symm (fun j hj=>hp.2 j hj)
   exact .ret1 (h1:=.tmp (t:=4) rfl) ⟨_,⟨by rw [if_pos hmem,hidx];exact cI9 (by omega),rfl⟩,Am.auto⟩
  ·have hk:¬ k=xs[i.toNat]:=of_decide_eq_false hb2
   refine .skip (.blockNormal (.next (.region ?_)))
   refine .add ?_
   refine .move (.nil ?_)
   exact .back (i+1) ⟨by omega,fun j hj h=>if hji:j < i.toNat then hp.2 j hji h else by rw [show xs[j]?=xs[i.toNat]? from by rw [show j=i.toNat from by omega]] at h;rw [List.getElem?_eq_getElem hil] at h;exact hk (Option.some.inj h).symm⟩ (by omega)
 ·have hge:¬ i < (m:Int):=of_decide_eq_false hb
  refine .exit (.thenExit (.thenExit (.blockExit (?_))))
  refine .next (.sr (.assign (.z (.ret (?_)))))
  have hno:¬ k∈xs:=fun h=>by obtain ⟨j,hj,hjk⟩:=List.mem_iff_getElem.1 h;exact hp.2 j (by omega) (by rw [List.getElem?_eq_getElem hj,hjk])
  exact .ret1 (h1:=.tmp (t:=4) rfl) ⟨_,⟨by rw [if_neg hno],rfl⟩,Am.auto⟩
theorem Sw {j d n t gen last mp:Nat} {ov:Value} {cur:Nat->aa} {k:Int}:Spec Tryz.prog 154 #[.pointer (some ⟨j,0,none⟩),.int .i64 k] [pt j (jO d gen last ov mp),DevR d n cur t] fun F v M=>v=.bool (decide (245<=k/\k < n))/\M=pt j (jO d gen last ov mp) :: DevR d n cur t :: F:=by
 refine Spec.intro Tryz.func154 rfl rfl fun B F=>?_
 simp only [Tryz.ntmps154,List.cons_append,List.nil_append,env0,Nat.reduceAdd]
 by_cases h5:245<=k
 ·refine .sr (.assign (.x (.move ?_)))
  refine .neNil ?_ Ci
  refine .move (.gT (.move (.gT ?_)))
  refine .geq ?_
  refine .pickT (.move ?_)
  refine .cast (d:=11) (u:=.bool true) rfl (cB9 (by first|simp;done|simp;omega|omega)) ?_
  refine .gT (.move (.gT (.move (.gT (.nilCheck ?_)))))
  refine .gT ?_
  refine .fa ?_ ix
  refine .gT ?_
  refine .ld ?_ sc28
  refine .gT ?_
  refine .call (hc:=Tryz.call73) (sp:=ey (n:=n) (t:=t) (cur:=cur)) (h:=?_)
  rintro _ _ ⟨rfl,rfl⟩
  refine .gT ?_
  refine .lss ?_
  refine .pickT (.assign (.z (.ret (?_))))
  exact .ret1 (h1:=.tmp (t:=4) rfl) ⟨_,⟨cB9 (by simp [h5]),rfl⟩,Am.auto⟩
 ·refine .sr (.assign (.x (.move ?_)))
  refine .neNil ?_ Ci
  refine .move (.gT (.move (.gT ?_)))
  refine .geq ?_
  refine .pickT (.move ?_)
  refine .cast (d:=11) (u:=.bool false) rfl (cB9 (by first|simp;done|simp;omega|omega)) ?_
  refine .gF (.gF (.gF (.gF (.gF (.gF ?_)))))
  refine .gF (.pickF (.assign (.z (.ret (?_)))))
  exact .ret1 (h1:=.tmp (t:=4) rfl) ⟨_,⟨cB9 (by simp [h5]),rfl⟩,Am.auto⟩
theorem P8 {j d n t gen last mp c:Nat} {ov:Value} {es:Array MapEntry} {kv:List ((Int×Int)×Value)} {bl:List (Value×aa)} {ch:List (Nat×aa)} {cur:Nat->aa} (hm:MapIs sx es c kv) (hk:Kept kv bl (last % 4) ch) (hf:Fit n ch) (ht:t<=1000) :
  Spec Tryz.prog 152 #[.pointer (some ⟨j,0,none⟩)] [pt j (jO d gen last ov mp),rowR 3 1 ov ch.length (aw ch),pt mp (.map es c),bi bl,DevR d n cur t] fun F v M=>v=okV/\M=[pt j (jO d gen last ov mp),rowR 3 1 ov ch.length (aw ch),pt mp (.map es c),bi bl,DevR d n (lay cur ch) (t+ch.length)]++F:=by
 refine Spec.intro Tryz.func152 rfl rfl fun B F=>?_
 simp only [Tryz.ntmps152,List.cons_append,List.nil_append,env0,Nat.reduceAdd]
 refine .fact (ae (el:=3) (size:=1) (v:=ov) (k:=ch.length) (xs:=aw ch)) (fun ⟨A,cc,hov,hR,hc1,hc2,hlen⟩=>?_)
 subst hov
 have hfew:=hf.few
 refine .sr (.assign (.z (.seq (.sr (.move ?_)))))
 refine .nilCheck ?_
 refine .fa ?_ iy
 refine .ld ?_ sc26
 refine .lenS ?_ sl26
 refine .move (.z (.block ?_))
 refine .loopA (σ:=Int) (fun i=>[(0,.pointer (some ⟨j,0,none⟩)),(9,.slice A ch.length cc),(10,.int .i64 (ch.length:Int)),(11,.int .i64 i)]) (fun i=>[pt j (jO d gen last (.slice A ch.length cc) mp),rowR 3 1 (.slice A ch.length cc) ch.length (aw ch),pt mp (.map es c),bi bl,DevR d n (lay cur (ch.take i.toNat)) (t+i.toNat)]++F) (fun i=>0<=i/\i<=ch.length) (fun i=>((ch.length:Int) - i).toNat) 0 (by omega) ?_
 rintro i hi
 refine .sr ?_
 refine .lss (.z (.seq ?_))
 refine .cond rfl (fun hb=>?_) (fun hb=>?_)
 ·have hlt:i < (ch.length:Int):=of_decide_eq_true hb
  have hil:i.toNat < ch.length:=by omega
  have hbl:=un ch
  rcases A with _ | ⟨ab,ao,asp⟩
  ·exact absurd hR (fun h=>by have h2:aw ch=[]:=h;rw [h2] at hbl;simp at hbl;omega)
  have hsp:asp=none:=hR.1
  subst hsp
  obtain ⟨v,hv,hvb⟩:=hk i.toNat hil
  have hhome:=hf.home _ (List.getElem_mem hil)
  rw [show ((i.toNat:Nat):Int)=i from by omega] at hv
  refine .skip (.next (.seq (.block (.sr (.move ?_)))))
  refine .idx1 ?_ so26
  refine .ldR ?_ sc3 hR (Bb ch i.toNat hil)
  refine .assign (.assign (.z (.seq ?_)))
  refine .fact (jr hvb) fun ⟨gb,cb,hvs,hcb⟩=>?_
  subst hvs
  refine .dr ([pt j (jO d gen last (.slice (some ⟨ab,ao,none⟩) ch.length cc) mp),pt mp (.map es c)]) [] 19 mixed .autoJ ?_
  refine .tk 0 rfl .move ?_
  refine .tk 1 rfl .nilCheck ?_
  refine .tk 2 rfl (.fa ix) ?_
  refine .tk 3 rfl (.ld sc28) ?_
  refine .tk 4 rfl .move ?_
  refine .tk 5 rfl .move ?_
  refine .tk 6 rfl .nilCheck ?_
  refine .tk 7 rfl (.fa m0) ?_
  refine .tk 8 rfl (.ld Ax) ?_
  refine .tk 9 rfl .move ?_
  refine .tk 10 rfl .nilCheck ?_
  refine .tk 11 rfl (.fa ec) ?_
  refine .tk 12 rfl (.ld fy) ?_
  refine .tk 14 rfl .move ?_
  refine .on 13 rfl fun hnp=>?_
  refine .call (hc:=Tryz.call148) (sp:=Ew) (h:=?_)
  rintro _ _ ⟨rfl,rfl⟩
  refine .nil (.wa hnp ?_)
  refine .tk 15 rfl (.build (iz _ _)) ?_
  refine .tk 16 rfl ((Qt.look (k:=(((last % 4:Nat):Int),i)) klP hm La zv79).eq (v':=.slice (some ⟨gb,0,none⟩) ch[i.toNat].2.length cb) (by rw [hv];rfl)) ?_
  refine .on 17 rfl fun hnp=>?_
  refine .call (hc:=Tryz.call207) (sp:=l4 (n:=n) (t:=t+i.toNat) (cur:=lay cur (ch.take i.toNat)) (k:=ch[i.toNat].1) (Reads.blob hvb) rfl hhome.2.2 hhome.2.1 (by omega)) (h:=?_)
  rintro _ _ ⟨rfl,rfl⟩
  refine .nil (.wa hnp ?_)
  refine .tk 18 rfl .assign ?_
  refine .fin ?_
  rw [<- Cn cur ch i.toNat hil]
  refine .next (.sr (.move ?_))
  refine .nei (.z ?_)
  refine .condF rfl rfl ?_
  refine .skip (.blockNormal (.next (.region ?_)))
  refine .add ?_
  refine .move (.nil ?_)
  exact .back (i+1) (by omega) (by omega) (hI:=by rw [show (i+1).toNat=i.toNat+1 from by omega];exact Am.auto)
 ·have hge:¬ i < (ch.length:Int):=of_decide_eq_false hb
  have hin:i.toNat=ch.length:=by omega
  rw [hin,List.take_length]
  refine .exit (.thenExit (.thenExit (.blockExit (?_))))
  refine .next (.sr (.assign (.z (.ret (?_)))))
  exact .ret1 (h1:=.tmp (t:=2) rfl) ⟨_,⟨rfl,rfl⟩,Am.auto⟩
structure JS where
 gen:Nat
 last:Nat
 ch:List (Nat×aa)
 cur:Nat->aa
def JS.view (J:JS) (k:Nat):aa:=(kget J.ch k).getD (J.cur k)
structure JX where
 es:Array MapEntry
 c:Nat
 mp:Nat
 kv:List ((Int×Int)×Value)
 bl:List (Value×aa)
 ov:Value
structure JP (n:Nat) (J:JS) (x:JX):Prop where
 hm:MapIs sx x.es x.c x.kv
 hk:Kept x.kv x.bl (J.last % 4) J.ch
 hf:Fit n J.ch
 n1:246<=n
 n2:n<=65536
 hg:J.gen < 2 ^ 64
 hl:J.last < 2 ^ 64
def jL (j d n:Nat) (J:JS) (x:JX):List HP:=[pt j (jO d J.gen J.last x.ov x.mp),rowR 3 1 x.ov J.ch.length (aw J.ch),pt x.mp (.map x.es x.c),bi x.bl,DevR d n J.cur 0]
def JR (j d n:Nat) (J:JS):HP:=fun h=>∃ x,JP n J x/\star (jL j d n J x) h
theorem JR.opens (j d n:Nat) (J:JS):Opens (JR j d n J) (JP n J) (jL j d n J):=⟨fun h hh=>hh,fun x hp h hh=>⟨x,hp,hh⟩⟩
attribute [irreducible] JR
theorem G9 (l:List (Nat×aa)) (k:Nat):(∃ i,∃ h:i < l.length,l[i].1=k/\(if (k:Int)∈l.map (fun p=>(p.1:Int)) then (((l.map fun p=>(p.1:Int)).idxOf (k:Int):Nat):Int) else -1)=(i:Int)) ∨
  ((if (k:Int)∈l.map (fun p=>(p.1:Int)) then (((l.map fun p=>(p.1:Int)).idxOf (k:Int):Nat):Int) else -1)=-1/\kget l k=none):=by
 by_cases h:(k:Int)∈l.map (fun p=>(p.1:Int))
 ·left
  have h1:=List.idxOf_lt_length_of_mem h
  have h2:(l.map fun p=>(p.1:Int))[(l.map fun p=>(p.1:Int)).idxOf (k:Int)]=(k:Int):=List.getElem_idxOf h1
  refine ⟨(l.map fun p=>(p.1:Int)).idxOf (k:Int),by simpa using h1,?_,by rw [if_pos h]⟩
  rw [List.getElem_map] at h2
  omega
 ·right
  refine ⟨by rw [if_neg h],kget_none.2 fun hk=>h ?_⟩
  obtain ⟨p,hp,rfl⟩:=List.mem_map.1 hk
  exact List.mem_map.2 ⟨p,hp,rfl⟩
theorem Fit.get {n:Nat} {l:List (Nat×aa)} (h:Fit n l) {i:Nat} (hi:i < l.length) {k:Nat} (hk:l[i].1=k):kget l k=some l[i].2:=by
 subst hk
 exact (fh h.apart).2 (List.getElem_mem hi)
theorem P9 {j d n k:Nat} {J:JS} (h5:245<=k) (hkn:k < n):Spec Tryz.prog 84 #[.pointer (some ⟨j,0,none⟩),.int .i64 (k:Int)] [JR j d n J] fun F v M=>∃ g q,v=.tuple #[.slice (some ⟨g,0,none⟩) 512 q,.int .i64 0]/\(512<=q/\q<=maxLen/\(J.view k).length=512)/\M=buf g 5 q (bvs (J.view k)) :: JR j d n J :: F:=by
 refine Spec.intro Tryz.func84 rfl rfl fun B F=>?_
 simp only [Tryz.ntmps84,List.cons_append,List.nil_append,env0,Nat.reduceAdd]
 refine .openR (JR.opens j d n J) fun x hp=>?_
 simp only [jL,List.cons_append,List.nil_append]
 refine .fact (ae (el:=3) (size:=1) (v:=x.ov) (k:=J.ch.length) (xs:=aw J.ch)) (fun ⟨A,cc,hov,hR,hc1,hc2,hlen⟩=>?_)
 have hfew:=hp.hf.few
 refine .sr (.assign (.assign (.z (.seq (.sr (.move (.move ?_)))))))
 refine .call (hc:=Tryz.call154) (sp:=Sw (n:=n) (t:=0) (cur:=J.cur)) (h:=?_)
 rintro _ _ ⟨rfl,rfl⟩
 refine .cast (d:=9) (u:=.bool true) rfl (cB9 (decide_eq_true (by omega))) ?_
 refine .not (.z ?_)
 refine .condF rfl rfl ?_
 refine .skip (.next (.seq (.sr (.move (.nilCheck ?_)))))
 refine .fa ?_ iy
 refine .ld ?_ sc26
 refine .cast (d:=14) rfl hov ?_
 refine .move ?_
 refine .call (hc:=Tryz.call155) (sp:=G8 (xs:=J.ch.map fun p=>(p.1:Int)) hR (List.length_map ..) (by omega)) (h:=?_)
 rintro _ _ ⟨rfl,rfl⟩
 refine .assign (.x (.move ?_))
 refine .geq (.z ?_)
 rcases G9 J.ch k with ⟨i,hi,hik,hidx⟩ | ⟨hidx,hno⟩
 ·obtain ⟨v,hv,hvb⟩:=hp.hk i hi
  have hhome:=hp.hf.home _ (List.getElem_mem hi)
  have hview:J.view k=J.ch[i].2:=by unfold JS.view;rw [hp.hf.get hi hik];rfl
  have hl5:(J.view k).length=512:=by rw [hview];exact hhome.2.2
  refine .fact (jr hvb) fun ⟨gb,cb,hvs,hcb⟩=>?_
  rw [<- hview] at hvb hvs
  refine .cast (d:=6) rfl (cI9 hidx) ?_
  refine .condT rfl (cB9 (by first | (simp only [hidx];simp;done) | omega)) ?_
  refine .seq ?_
  refine .dr ([pt j (jO d J.gen J.last x.ov x.mp),pt x.mp (.map x.es x.c)]) [] 15 mixed .autoJ ?_
  refine .tk 0 rfl .move ?_
  refine .tk 1 rfl .nilCheck ?_
  refine .tk 2 rfl (.fa m0) ?_
  refine .tk 3 rfl (.ld Ax) ?_
  refine .tk 4 rfl .move ?_
  refine .tk 5 rfl .nilCheck ?_
  refine .tk 6 rfl (.fa ec) ?_
  refine .tk 7 rfl (.ld fy) ?_
  refine .tk 9 rfl .move ?_
  refine .on 8 rfl fun hnp=>?_
  refine .call (hc:=Tryz.call148) (sp:=Ew) (h:=?_)
  rintro _ _ ⟨rfl,rfl⟩
  refine .nil (.wa hnp ?_)
  refine .tk 10 rfl (.build (iz _ _)) ?_
  refine .tk 11 rfl ((Qt.look (k:=(((J.last % 4:Nat):Int),(i:Int))) klP hp.hm La zv79).eq (v':=.slice (some ⟨gb,0,none⟩) (J.view k).length cb) (by rw [hv];exact hvs)) ?_
  refine .on 12 rfl fun hnp=>?_
  refine .call (hc:=Tryz.call156) (sp:=jb (Reads.blob (by rw [<- hvs];exact hvb)) rfl (by omega)) (h:=?_)
  rintro _ _ ⟨gc,kc,⟨rfl,hk1,hk2⟩,rfl⟩
  refine .nil (.wa hnp ?_)
  refine .tk 13 rfl .assign ?_
  refine .tk 14 rfl .assign ?_
  refine .fin ?_
  refine .next ?_
  refine .ret (.thenRet (?_))
  rw [hl5] at hk1
  refine .cast (d:=4) (u:=.slice (some ⟨gc,0,none⟩) 512 kc) rfl (by rw [hl5]) ?_
  refine .shutR (JR.opens j d n J) x hp ?_
  exact .ret2 (h1:=.tmp (t:=4) rfl) (h2:=.tmp (t:=5) rfl) ⟨_,⟨_,_,rfl,⟨hk1,hk2,hl5⟩,rfl⟩,Am.auto⟩
 ·have hview:J.view k=J.cur k:=by unfold JS.view;rw [hno];rfl
  refine .cast (d:=6) rfl (cI9 hidx) ?_
  refine .condF rfl (cB9 (by first | (simp only [hidx];simp;done) | omega)) ?_
  refine .skip (.next (.sr (.move (.nilCheck ?_))))
  refine .fa ?_ ix
  refine .ld ?_ sc28
  refine .move ?_
  refine .call (hc:=Tryz.call149) (sp:=sy (n:=n) (t:=0) (k:=k) (cur:=J.cur) hkn) (h:=?_)
  rintro _ _ ⟨gb,q,rfl,⟨hq1,hq2,hlen5⟩,rfl⟩
  refine .extract (.extract (.assign (.assign (.z (.ret (?_))))))
  rw [<- hview] at hlen5
  refine .shutR (JR.opens j d n J) x hp ?_
  exact .ret2 (h1:=.tmp (t:=4) rfl) (h2:=.tmp (t:=5) rfl) ⟨_,⟨_,_,rfl,⟨hq1,hq2,hlen5⟩,by rw [hview]⟩,Am.auto⟩
structure CV where
 k:Nat
 g:Nat
 q:Nat
 xs:aa
def CV.val (c:CV):Value:=.slice (some ⟨c.g,0,none⟩) 512 c.q
def CV.pair (c:CV):Nat×aa:=(c.k,c.xs)
def cr :List CV->List Value
 | []=>[]
 | c :: l=>.int .i64 (c.k:Int) :: c.val :: cr l
theorem cu :∀ l:List CV,(cr l).length=l.length * 2
 | []=>rfl
 | c :: l=>by simp only [cr,List.length_cons,cu l];omega
theorem jv :∀ (l:List CV) (i:Nat) (h:i < l.length),((cr l).drop (i * 2)).take 2=[.int .i64 (l[i].k:Int),l[i].val]
 | c :: l,0,_=>rfl
 | c :: l,i+1,h=>by
  rw [show (i+1) * 2=i * 2+2 from by omega]
  exact jv l i (by simpa using h)
theorem uo :∀ (l:List CV),∀ u∈cr l,Value.single u=true
 | [],u,h=>by cases h
 | c :: l,u,h=>by
  simp only [cr,List.mem_cons] at h
  rcases h with rfl | rfl | h
  ·rfl
  ·rfl
  ·exact uo l u h
def Lie (bl:List (Value×aa)) (l:List CV):Prop:=∀ c∈l,(c.val,c.xs)∈bl
def ku (s:Nat) (l:List (Nat×aa)):List (Nat×aa):=l.zipIdx.map fun p=>(slotAt s (p.2+1),p.1.2)
theorem ef (s:Nat) (l:List (Nat×aa)):(ku s l).length=l.length:=by simp [ku]
theorem jd (s:Nat) (l:List (Nat×aa)) (i:Nat) (h:i < l.length):(ku s l)[i]'(by rw [ef];exact h)=(slotAt s (i+1),l[i].2):=by simp [ku]
def fz (gen nn:Nat) (l:List (Nat×aa)):Nat->aa
 | 0=>s6 lj [gen,nn,l.length]
 | i+1=>put (fz gen nn l i) (32+4 * i) 4 false (match l[i]? with | some p=>p.1 | none=>0)
def nu (gen nn:Nat) (l:List (Nat×aa)):aa:=fz gen nn l l.length
theorem fm (gen nn:Nat) (l:List (Nat×aa)):∀ i,(fz gen nn l i).length=512
 | 0=>fk (ys:=lj) (by decide) _ _
 | i+1=>by rw [fz,an];exact fm gen nn l i
def JS.next (J:JS):Nat:=(J.last+1) % 2 ^ 64
def JS.wrote (J:JS) (l:List (Nat×aa)):Nat->aa:=wr (lay (lay J.cur J.ch) (ku (J.next % 4) l)) (slotAt (J.next % 4) 0) (nu J.gen J.next l)
def JS.commit (J:JS) (l:List (Nat×aa)):JS:=⟨J.gen,J.next,l,J.wrote l⟩
def boxJ (b j:Nat):HP:=pt b (.cells #[.pointer (some ⟨j,0,none⟩)] 124 (0,0))
def intO (i:Int):Obj:=.cells #[.int .i64 i] 3 (0,0)
def chO (c:CV):Obj:=.cells #[.int .i64 (c.k:Int),c.val] 222 (0,0)
def wr1V (b2 b5:Nat) (p:Nat×Nat):Value:=.func (.func 285) #[] #[.pointer (some ⟨b2,0,none⟩),.pointer (some ⟨b5,0,none⟩),.pointer (some ⟨p.1,0,none⟩),.pointer (some ⟨p.2,0,none⟩)]
def wr2V (b2 b5 b6:Nat):Value:=.func (.func 286) #[] #[.pointer (some ⟨b2,0,none⟩),.pointer (some ⟨b5,0,none⟩),.pointer (some ⟨b6,0,none⟩)]
def w7 (j:Nat):Value:=.func (.func 152) #[.pointer (some ⟨j,0,none⟩)] #[]
theorem Qa {j d n t gen last mp b2 b5 b8 b9 nn i:Nat} {ov:Value} {os:List (Nat×Obj)} {bl:List (Value×aa)} {c:CV} {cur:Nat->aa} (h8:(b8,intO (i:Int))∈os) (h9:(b9,chO c)∈os) (hc:(c.val,c.xs)∈bl) (hx:c.xs.length=512) (hi:i<=59) (hn:246<=n) (ht:t<=1000) :
  Spec Tryz.prog 285 #[.pointer (some ⟨b2,0,none⟩),.pointer (some ⟨b5,0,none⟩),.pointer (some ⟨b8,0,none⟩),.pointer (some ⟨b9,0,none⟩)] [boxJ b2 j,gi b5 nn,frz os,bi bl,pt j (jO d gen last ov mp),DevR d n cur t] fun F v M=>v=okV/\M=[boxJ b2 j,gi b5 nn,frz os,bi bl,pt j (jO d gen last ov mp),DevR d n (wr cur (slotAt (nn % 4) (i+1)) c.xs) (t+1)]++F:=by
 refine Spec.intro Tryz.func285 rfl rfl fun B F=>?_
 simp only [Tryz.ntmps285,List.cons_append,List.nil_append,env0,Nat.reduceAdd]
 simp only [boxJ,gi]
 refine .sr (.assign (.z (.seq ?_)))
 refine .dr ([pt b2 (.cells #[.pointer (some ⟨j,0,none⟩)] 124 (0,0)),pt b5 (.cells #[.int .u64 (nn:Int)] 104 (0,0)),frz os,pt j (jO d gen last ov mp)]) [] 14 mixed .autoJ ?_
 refine .tk 0 rfl (.ld sm) ?_
 refine .tk 1 rfl .nilCheck ?_
 refine .tk 2 rfl (.fa ix) ?_
 refine .tk 3 rfl (.ld sc28) ?_
 refine .tk 4 rfl (.ld fy) ?_
 refine .tk 6 rfl (Qt.ldR (i:=0) sc3 (Reads.frz h8) rfl) ?_
 refine .tk 7 rfl .add ?_
 refine .tk 10 rfl (.fa Au) ?_
 refine .tk 11 rfl (Qt.ldR (i:=1) sc79 (Reads.frz h9) rfl) ?_
 refine .on 5 rfl fun hnp=>?_
 refine .call (hc:=Tryz.call148) (sp:=Ew (a:=nn)) (h:=?_)
 rintro _ _ ⟨rfl,rfl⟩
 refine .nil (.wa hnp ?_)
 refine .tk 8 rfl (.build (iz _ _)) ?_
 refine .on 9 rfl fun hnp=>?_
 refine .call (hc:=Tryz.call150) (sp:=m9 (a:=nn % 4) (b:=i+1) (by omega)) (h:=?_)
 rintro _ _ ⟨rfl,rfl⟩
 refine .nil (.wa hnp ?_)
 refine .on 12 rfl fun hnp=>?_
 refine .call (hc:=Tryz.call207) (sp:=l4 (n:=n) (t:=t) (cur:=cur) (k:=slotAt (nn % 4) (i+1)) (Reads.blob hc) hx rfl (by unfold slotAt;omega) (by omega)) (h:=?_)
 rintro _ _ ⟨rfl,rfl⟩
 refine .nil (.wa hnp ?_)
 refine .tk 13 rfl .assign ?_
 refine .fin ?_
 refine .next (.ret (?_))
 exact .ret1 (h1:=.tmp (t:=4) rfl) ⟨_,⟨rfl,rfl⟩,Am.auto⟩
theorem Qb {j d n t gen last mp b2 b5 b6 gh qh nn:Nat} {ov:Value} {hd:aa} {cur:Nat->aa} (hx:hd.length=512) (hn:246<=n) (ht:t<=1000) :
  Spec Tryz.prog 286 #[.pointer (some ⟨b2,0,none⟩),.pointer (some ⟨b5,0,none⟩),.pointer (some ⟨b6,0,none⟩)] [boxJ b2 j,gi b5 nn,pt b6 (.cells #[.slice (some ⟨gh,0,none⟩) 512 qh] 79 (0,0)),buf gh 5 qh (bvs hd),pt j (jO d gen last ov mp),DevR d n cur t] fun F v M=>v=okV/\M=[boxJ b2 j,gi b5 nn,pt b6 (.cells #[.slice (some ⟨gh,0,none⟩) 512 qh] 79 (0,0)),buf gh 5 qh (bvs hd),pt j (jO d gen last ov mp),DevR d n (wr cur (slotAt (nn % 4) 0) hd) (t+1)]++F:=by
 refine Spec.intro Tryz.func286 rfl rfl fun B F=>?_
 simp only [Tryz.ntmps286,List.cons_append,List.nil_append,env0,Nat.reduceAdd]
 simp only [boxJ,gi]
 refine .sr (.assign (.z (.seq ?_)))
 refine .dr ([pt b2 (.cells #[.pointer (some ⟨j,0,none⟩)] 124 (0,0)),pt b5 (.cells #[.int .u64 (nn:Int)] 104 (0,0)),pt b6 (.cells #[.slice (some ⟨gh,0,none⟩) 512 qh] 79 (0,0)),pt j (jO d gen last ov mp)]) [] 11 mixed .autoJ ?_
 refine .tk 0 rfl (.ld sm) ?_
 refine .tk 1 rfl .nilCheck ?_
 refine .tk 2 rfl (.fa ix) ?_
 refine .tk 3 rfl (.ld sc28) ?_
 refine .tk 4 rfl (.ld fy) ?_
 refine .tk 8 rfl (.ld sc79) ?_
 refine .on 5 rfl fun hnp=>?_
 refine .call (hc:=Tryz.call148) (sp:=Ew (a:=nn)) (h:=?_)
 rintro _ _ ⟨rfl,rfl⟩
 refine .nil (.wa hnp ?_)
 refine .tk 6 rfl (.build (iz _ _)) ?_
 refine .on 7 rfl fun hnp=>?_
 refine .call (hc:=Tryz.call150) (sp:=m9 (a:=nn % 4) (b:=0) (by omega)) (h:=?_)
 rintro _ _ ⟨rfl,rfl⟩
 refine .nil (.wa hnp ?_)
 refine .on 9 rfl fun hnp=>?_
 refine .call (hc:=Tryz.call207) (sp:=l4 (n:=n) (t:=t) (cur:=cur) (k:=slotAt (nn % 4) 0) Reads.buf hx rfl (by unfold slotAt;omega) (by omega)) (h:=?_)
 rintro _ _ ⟨rfl,rfl⟩
 refine .nil (.wa hnp ?_)
 refine .tk 10 rfl .assign ?_
 refine .fin ?_
 refine .next (.ret (?_))
 exact .ret1 (h1:=.tmp (t:=3) rfl) ⟨_,⟨rfl,rfl⟩,Am.auto⟩
theorem pa {j d n t gen last mp c:Nat} {ov:Value} {es:Array MapEntry} {kv:List ((Int×Int)×Value)} {bl:List (Value×aa)} {ch:List (Nat×aa)} {cur:Nat->aa} (hm:MapIs sx es c kv) (hk:Kept kv bl (last % 4) ch) (hf:Fit n ch) (ht:t<=1000) :
  Goes (w7 j) [pt j (jO d gen last ov mp),rowR 3 1 ov ch.length (aw ch),pt mp (.map es c),bi bl,DevR d n cur t] [pt j (jO d gen last ov mp),rowR 3 1 ov ch.length (aw ch),pt mp (.map es c),bi bl,DevR d n (lay cur ch) (t+ch.length)]:=⟨_,_,_,rfl,Tryz.call152,P8 hm hk hf ht⟩
theorem Qc {j d n t gen last mp b2 b5 b6 gh qh nn:Nat} {ov:Value} {hd:aa} {cur:Nat->aa} (hx:hd.length=512) (hn:246<=n) (ht:t<=1000) :
  Goes (wr2V b2 b5 b6) [boxJ b2 j,gi b5 nn,pt b6 (.cells #[.slice (some ⟨gh,0,none⟩) 512 qh] 79 (0,0)),buf gh 5 qh (bvs hd),pt j (jO d gen last ov mp),DevR d n cur t] [boxJ b2 j,gi b5 nn,pt b6 (.cells #[.slice (some ⟨gh,0,none⟩) 512 qh] 79 (0,0)),buf gh 5 qh (bvs hd),pt j (jO d gen last ov mp),DevR d n (wr cur (slotAt (nn % 4) 0) hd) (t+1)]:=⟨_,_,_,rfl,Tryz.call286,Qb hx hn ht⟩
theorem Ha {j d n t gen last mp b2 b5 nn:Nat} {ov:Value} {os:List (Nat×Obj)} {bs:List (Nat×Nat)} {bl:List (Value×aa)} {cvs:List CV} {cur:Nat->aa} (X:List HP) (hb:bs.length=cvs.length)
  (hos:∀ i (h:i < cvs.length) (h':i < bs.length),(bs[i].1,intO (i:Int))∈os/\(bs[i].2,chO cvs[i])∈os) (hli:Lie bl cvs) (hf:Fit n (cvs.map CV.pair)) (hn:246<=n) (ht:t<=500) :
  Chain (bs.map (wr1V b2 b5)) ([boxJ b2 j,gi b5 nn,frz os,bi bl,pt j (jO d gen last ov mp),DevR d n cur t]++X) ([boxJ b2 j,gi b5 nn,frz os,bi bl,pt j (jO d gen last ov mp),DevR d n (lay cur (ku (nn % 4) (cvs.map CV.pair))) (t+cvs.length)]++X):=by
 have hfew:cvs.length<=60:=by simpa using hf.few
 have key:∀ k i,k+i=cvs.length->Chain ((bs.drop i).map (wr1V b2 b5)) ([boxJ b2 j,gi b5 nn,frz os,bi bl,pt j (jO d gen last ov mp),DevR d n (lay cur ((ku (nn % 4) (cvs.map CV.pair)).take i)) (t+i)]++X) ([boxJ b2 j,gi b5 nn,frz os,bi bl,pt j (jO d gen last ov mp),DevR d n (lay cur (ku (nn % 4) (cvs.map CV.pair))) (t+cvs.length)]++X):=by
  intro k
  induction k with
  | zero =>
   intro i hi
   have hi:i=cvs.length:=by omega
   rw [List.drop_of_length_le (by omega),List.take_of_length_le (by rw [ef,List.length_map];omega),hi]
   exact .nil
  | succ k ih =>
   intro i hi
   have hlt:i < cvs.length:=by omega
   have hlt':i < bs.length:=by omega
   have hd:i < (ku (nn % 4) (cvs.map CV.pair)).length:=by rw [ef,List.length_map];exact hlt
   obtain ⟨h8,h9⟩:=hos i hlt hlt'
   have hhome:=hf.home cvs[i].pair (List.mem_map.2 ⟨_,List.getElem_mem hlt,rfl⟩)
   rw [List.drop_eq_getElem_cons hlt',List.map_cons]
   refine Chain.cons ?_ (ih (i+1) (by omega))
   have hg:Goes (wr1V b2 b5 bs[i]) [boxJ b2 j,gi b5 nn,frz os,bi bl,pt j (jO d gen last ov mp),DevR d n (lay cur ((ku (nn % 4) (cvs.map CV.pair)).take i)) (t+i)] [boxJ b2 j,gi b5 nn,frz os,bi bl,pt j (jO d gen last ov mp),DevR d n (lay cur ((ku (nn % 4) (cvs.map CV.pair)).take (i+1))) (t+(i+1))]:=by
    rw [Cn _ _ _ hd,jd _ _ _ (by simpa using hlt),List.getElem_map]
    exact ⟨_,_,_,rfl,Tryz.call285,Qa h8 h9 (hli _ (List.getElem_mem hlt)) hhome.2.2 (by omega) hn (by omega)⟩
   exact hg.sub (t:=Tk.app) (m:=.refl)
 have:=key cvs.length 0 (by omega)
 exact this
structure WI (cvs:List CV) (i:Int) (os:List (Nat×Obj)) (bs:List (Nat×Nat)):Prop where
 lo:0<=i
 hi:i<=cvs.length
 len:bs.length=i.toNat
 lie:∀ k (h:k < cvs.length) (h':k < bs.length),(bs[k].1,intO (k:Int))∈os/\(bs[k].2,chO cvs[k])∈os
theorem WI.step {cvs:List CV} {i:Int} {os:List (Nat×Obj)} {bs:List (Nat×Nat)} (h:WI cvs i os bs) (hlt:i.toNat < cvs.length) (b8 b9:Nat):WI cvs (i+1) ((b9,chO cvs[i.toNat]) :: (b8,intO i) :: os) (bs++[(b8,b9)]):=by
 have hlen:=h.len
 have hlo:=h.lo
 refine ⟨by omega,by omega,by simp;omega,fun k hk hk'=>?_⟩
 simp only [List.length_append,List.length_cons,List.length_nil] at hk'
 by_cases hkl:k < bs.length
 ·rw [List.getElem_append_left hkl]
  exact ⟨List.mem_cons_of_mem _ (List.mem_cons_of_mem _ (h.lie k hk hkl).1),List.mem_cons_of_mem _ (List.mem_cons_of_mem _ (h.lie k hk hkl).2)⟩
 ·have hki:k=i.toNat:=by omega
  subst hki
  rw [List.getElem_append_right (by omega)]
  simp only [hlen,Nat.sub_self,List.getElem_cons_zero]
  rw [show ((i.toNat:Nat):Int)=i from by omega]
  exact ⟨List.mem_cons_of_mem _ (List.mem_cons_self ..),List.mem_cons_self ..⟩
theorem Sx {j d n gen last mp c m c0:Nat} {ov:Value} {es:Array MapEntry} {kv:List ((Int×Int)×Value)} {jbl bl:List (Value×aa)} {ch:List (Nat×aa)} {cur:Nat->aa} {Rl:HP} {A:Option Addr} {cvs:List CV}
  (hm:MapIs sx es c kv) (hk:Kept kv jbl (last % 4) ch) (hf:Fit n ch) (hR:Reads Rl A (cr cvs)) (hml:cvs.length=m) (hli:Lie bl cvs) (hfit:Fit n (cvs.map CV.pair)) (hgen:gen < 2 ^ 64) (hn:246<=n) (hn2:n<=65536) :
  Spec Tryz.prog 248 #[.pointer (some ⟨j,0,none⟩),.slice A m c0] [Rl,bi bl,pt j (jO d gen last ov mp),rowR 3 1 ov ch.length (aw ch),pt mp (.map es c),bi jbl,DevR d n cur 0] fun F v M=>v=okV/\M=[Rl,bi bl,pt j (jO d gen last ov mp),rowR 3 1 ov ch.length (aw ch),pt mp (.map es c),bi jbl,DevR d n ((JS.mk gen last ch cur).wrote (cvs.map CV.pair)) 0]++F:=by
 refine Spec.intro Tryz.func248 rfl rfl fun B F=>?_
 simp only [Tryz.ntmps248,List.cons_append,List.nil_append,env0,Nat.reduceAdd]
 have hfew:cvs.length<=60:=by simpa using hfit.few
 have hfew2:=hf.few
 have hnn:(last+1) % 2 ^ 64 < 2 ^ 64:=Nat.mod_lt _ (by decide)
 subst hml
 refine .sr ?_
 refine .box fun b2=>?_
 refine .assign (.x ?_)
 refine .ld ?_ sm
 refine .nilCheck ?_
 refine .fa ?_ ec
 refine .ld ?_ fy
 refine .addw ?_
 refine .cast (d:=14) rfl (cI9 (s5 last)) ?_
 refine .alloc z104 fun b5=>?_
 refine .st ?_ fy
 refine .z (.seq ?_)
 refine .join (σ:=Nat×Nat×Nat) (fun s=>[(1,.slice A cvs.length c0),(2,.pointer (some ⟨b2,0,none⟩)),(5,.pointer (some ⟨b5,0,none⟩)),(6,.pointer (some ⟨s.1,0,none⟩))])
  (fun s=>[pt s.1 (.cells #[.slice (some ⟨s.2.1,0,none⟩) 512 s.2.2] 79 (0,0)),buf s.2.1 5 s.2.2 (bvs (fz gen ((last+1) % 2 ^ 64) (cvs.map CV.pair) 0)),boxJ b2 j,gi b5 ((last+1) % 2 ^ 64),Rl,bi bl,pt j (jO d gen last ov mp),rowR 3 1 ov ch.length (aw ch),pt mp (.map es c),bi jbl,DevR d n cur 0]++F) (fun s=>512<=s.2.2/\s.2.2<=maxLen) ?_ ?_
 ·refine .dr ([pt b2 (.cells #[.pointer (some ⟨j,0,none⟩)] 124 (0,0)),pt b5 (.cells #[.int .u64 (((last+1) % 2 ^ 64):Nat)] 104 (0,0)),pt j (jO d gen last ov mp)]) [11] 12 mixed .autoJ ?_
  refine .tk 0 rfl (.ld sm) ?_
  refine .tk 1 rfl .nilCheck ?_
  refine .tk 2 rfl (.fa Av) ?_
  refine .tk 3 rfl (.ld fy) ?_
  refine .tk 4 rfl (.ld fy) ?_
  refine .tk 5 rfl .move ?_
  refine .tk 6 rfl (.lenS Ay) ?_
  refine .tk 7 rfl ((Qt.cvt un3 cx).eq (v':=.int .u64 ((cvs.length:Nat):Int)) (cI9 (IntWalk.u64_in _ (by omega)))) ?_
  refine .tw 8 10 rfl rfl (fun hnp=>?_) (fun hnp=>?_)
  ·refine .buildS (fun b23=>?_) (G7 _ _ _)
   refine .nil (.wa hnp ?_)
   refine .tw 9 10 rfl rfl (fun hnp=>?_) (fun hnp=>?_)
   ·refine .call (hc:=Tryz.call209) (sp:=Lp (ys:=lj) (nums:=[gen,((last+1) % 2 ^ 64),cvs.length]) (by decide) Reads.pt rfl (Nat.le_of_ble_eq_true rfl) (by intro v hv;simp only [List.mem_cons,List.not_mem_nil,or_false] at hv;rcases hv with rfl | rfl | rfl<;>omega)) (h:=?_)
    rintro _ _ ⟨gh,qh,⟨rfl,hq1,hq2⟩,rfl⟩
    refine .nil (.wa hnp ?_)
    refine .on 10 rfl fun hnp=>?_
    refine .alloc z79 fun b6=>?_
    refine .nil (.wa hnp ?_)
    refine .on 11 rfl fun hnp=>?_
    refine .st ?_ sc79
    refine .nil (.wb hnp ?_)
    refine .fin ?_
    refine .to (A':=buf gh 5 qh (bvs (fz gen ((last+1) % 2 ^ 64) (cvs.map CV.pair) 0))) (fun h hh=>by rw [fz,List.length_map];exact hh) ?_
    exact .joined (b6,gh,qh) ⟨hq1,hq2⟩
   ·refine .alloc z79 fun b6=>?_
    refine .nil (.wa hnp ?_)
    refine .on 9 rfl fun hnp=>?_
    refine .call (hc:=Tryz.call209) (sp:=Lp (ys:=lj) (nums:=[gen,((last+1) % 2 ^ 64),cvs.length]) (by decide) Reads.pt rfl (Nat.le_of_ble_eq_true rfl) (by intro v hv;simp only [List.mem_cons,List.not_mem_nil,or_false] at hv;rcases hv with rfl | rfl | rfl<;>omega)) (h:=?_)
    rintro _ _ ⟨gh,qh,⟨rfl,hq1,hq2⟩,rfl⟩
    refine .nil (.wa hnp ?_)
    refine .on 11 rfl fun hnp=>?_
    refine .st ?_ sc79
    refine .nil (.wb hnp ?_)
    refine .fin ?_
    refine .to (A':=buf gh 5 qh (bvs (fz gen ((last+1) % 2 ^ 64) (cvs.map CV.pair) 0))) (fun h hh=>by rw [fz,List.length_map];exact hh) ?_
    exact .joined (b6,gh,qh) ⟨hq1,hq2⟩
  ·refine .alloc z79 fun b6=>?_
   refine .nil (.wa hnp ?_)
   refine .on 8 rfl fun hnp=>?_
   refine .buildS (fun b23=>?_) (G7 _ _ _)
   refine .nil (.wa hnp ?_)
   refine .on 9 rfl fun hnp=>?_
   refine .call (hc:=Tryz.call209) (sp:=Lp (ys:=lj) (nums:=[gen,((last+1) % 2 ^ 64),cvs.length]) (by decide) Reads.pt rfl (Nat.le_of_ble_eq_true rfl) (by intro v hv;simp only [List.mem_cons,List.not_mem_nil,or_false] at hv;rcases hv with rfl | rfl | rfl<;>omega)) (h:=?_)
   rintro _ _ ⟨gh,qh,⟨rfl,hq1,hq2⟩,rfl⟩
   refine .nil (.wa hnp ?_)
   refine .on 11 rfl fun hnp=>?_
   refine .st ?_ sc79
   refine .nil (.wb hnp ?_)
   refine .fin ?_
   refine .to (A':=buf gh 5 qh (bvs (fz gen ((last+1) % 2 ^ 64) (cvs.map CV.pair) 0))) (fun h hh=>by rw [fz,List.length_map];exact hh) ?_
   exact .joined (b6,gh,qh) ⟨hq1,hq2⟩
 ·rintro ⟨b6,gh0,qh0⟩ ⟨hq1,hq2⟩
  refine .next (.sr (.assign ?_))
  refine .emp (rowR.nil (e:=92) (size:=1) _) ?_
  refine .emp sb ?_
  refine .z (.seq (.sr (.move ?_)))
  refine .lenS ?_ Ay
  refine .move (.z (.block ?_))
  refine .loopA (σ:=Int×Nat×Nat×Value×List (Nat×Obj)×List (Nat×Nat)) (fun s=>[(1,.slice A cvs.length c0),(2,.pointer (some ⟨b2,0,none⟩)),(5,.pointer (some ⟨b5,0,none⟩)),(6,.pointer (some ⟨b6,0,none⟩)),(7,s.2.2.2.1),(25,.slice A cvs.length c0),(26,.int .i64 (cvs.length:Int)),(27,.int .i64 s.1)]) (fun s=>[pt b6 (.cells #[.slice (some ⟨s.2.1,0,none⟩) 512 s.2.2.1] 79 (0,0)),buf s.2.1 5 s.2.2.1 (bvs (fz gen ((last+1) % 2 ^ 64) (cvs.map CV.pair) s.1.toNat)),rowR 92 1 s.2.2.2.1 s.1.toNat (s.2.2.2.2.2.map (wr1V b2 b5)),frz s.2.2.2.2.1,boxJ b2 j,gi b5 ((last+1) % 2 ^ 64),Rl,bi bl,pt j (jO d gen last ov mp),rowR 3 1 ov ch.length (aw ch),pt mp (.map es c),bi jbl,DevR d n cur 0]++F) (fun s=>WI cvs s.1 s.2.2.2.2.1 s.2.2.2.2.2/\512<=s.2.2.1/\s.2.2.1<=maxLen) (fun s=>((cvs.length:Int) - s.1).toNat) (0,gh0,qh0,.slice none 0 0,[],[]) ⟨⟨by omega,by omega,rfl,fun k hk hk'=>by simp at hk'⟩,hq1,hq2⟩ ?_
  rintro ⟨i,gh,qh,v,os,bs⟩ ⟨hi,hq1,hq2⟩
  refine .sr ?_
  refine .lss (.z (.seq ?_))
  refine .cond rfl (fun hb=>?_) (fun hb=>?_)
  ·have hlt:i < (cvs.length:Int):=of_decide_eq_true hb
   have hlo:=hi.lo
   have hil:i.toNat < cvs.length:=by omega
   have hcl:=cu cvs
   have hhome:=hfit.home cvs[i.toNat].pair (List.mem_map.2 ⟨_,List.getElem_mem hil,rfl⟩)
   have hkk:cvs[i.toNat].k < n:=hhome.2.1
   rcases A with _ | ⟨ab,ao,asp⟩
   ·exact absurd hR (fun h=>by have h2:cr cvs=[]:=h;rw [h2] at hcl;simp at hcl;omega)
   have hsp:asp=none:=hR.1
   subst hsp
   have hstep:put (fz gen ((last+1) % 2 ^ 64) (cvs.map CV.pair) i.toNat) (32+4 * i).toNat (4:Int).toNat false cvs[i.toNat].k=fz gen ((last+1) % 2 ^ 64) (cvs.map CV.pair) (i+1).toNat:=by
    rw [show (i+1).toNat=i.toNat+1 from by omega,fz,show (cvs.map CV.pair)[i.toNat]?=some cvs[i.toNat].pair from by simp [hil],show (32+4 * i).toNat=32+4 * i.toNat from by omega]
    rfl
   refine .skip (.next (.seq (.block (.sr (.move ?_)))))
   refine .idx ?_ Ld
   refine .ldAR ?_ u5 hR (jv cvs i.toNat hil) (by rw [cu];omega)
   refine .alloc z3 fun b8=>?_
   refine .alloc z222 fun b9=>?_
   refine .st ?_ sc3
   refine .stV ?_ u5
   refine .x ?_
   refine .ld ?_ sc79
   refine .ld ?_ sc3
   refine .mul ?_
   refine .add ?_
   refine .fa ?_ sj
   refine .ld ?_ sc3
   refine .cvt ?_ un3 cx
   refine .cast (d:=39) rfl (cI9 (IntWalk.u64_in _ (by omega))) ?_
   refine .call (hc:=Tryz.call105) (sp:=li (xs:=fz gen ((last+1) % 2 ^ 64) (cvs.map CV.pair) i.toNat) (v:=cvs[i.toNat].k) Reads.buf (fm _ _ _ _) (by decide) (by omega) (by omega) (by omega) (by omega)) (h:=?_)
   rintro _ _ ⟨g',q',⟨rfl,h1,h2⟩,rfl⟩
   refine .move ?_
   refine .extract (.extract ?_)
   refine .st ?_ sc79
   refine .y (.move ?_)
   refine .makeFuncB ?_
   refine .buildS (fun b45=>?_) (o9 _ _ _)
   refine .append (m:=1) m7 (by decide) (by repeat (first | exact .here | apply Rem.there | apply Repl.there | apply Mem.there)) Reads.pt (by repeat (first | exact .here | apply Rem.there | apply Repl.there | apply Mem.there)) rfl (by simp [Value.single]) (by unfold maxLen;omega) (by omega) ⟨_,z92,rfl⟩ (fun v' hv'=>?_)
   refine .assign (.nil (.blockNormal (.next (.region ?_))))
   refine .add ?_
   refine .move (.nil ?_)
   refine .to (A':=pt b8 (intO i)) (fun h hh=>hh) ?_
   refine .to (A':=pt b9 (chO cvs[i.toNat])) (fun h hh=>hh) ?_
   refine .frzAdd (b:=b8) (os:=os) ?_
   refine .frzAdd (b:=b9) (os:=(b8,intO i) :: os) ?_
   refine .to (A:=rowR 92 1 v' (i.toNat+1) (bs.map (wr1V b2 b5)++[(b8,b9)].map (wr1V b2 b5))) (A':=rowR 92 1 v' (i+1).toNat ((bs++[(b8,b9)]).map (wr1V b2 b5))) (fun h hh=>by rw [show (i+1).toNat=i.toNat+1 from by omega,List.map_append];exact hh) ?_
   refine .to (A:=buf g' 5 q' (bvs (put (fz gen ((last+1) % 2 ^ 64) (cvs.map CV.pair) i.toNat) (32+4 * i).toNat (4:Int).toNat false cvs[i.toNat].k))) (A':=buf g' 5 q' (bvs (fz gen ((last+1) % 2 ^ 64) (cvs.map CV.pair) (i+1).toNat))) (fun h hh=>by rw [<- hstep];exact hh) ?_
   exact .back (i+1,g',q',v',(b9,chO cvs[i.toNat]) :: (b8,intO i) :: os,bs++[(b8,b9)]) ⟨hi.step hil b8 b9,h1,h2⟩ (by show ((cvs.length:Int) - (i+1)).toNat < ((cvs.length:Int) - i).toNat;omega)
  ·have hge:¬ i < (cvs.length:Int):=of_decide_eq_false hb
   have hlo:=hi.lo
   have hhi:=hi.hi
   have hie:i=(cvs.length:Int):=by omega
   subst hie
   have hbl:bs.length=cvs.length:=by rw [hi.len];omega
   simp only [Int.toNat_natCast]
   have hhd:fz gen ((last+1) % 2 ^ 64) (cvs.map CV.pair) cvs.length=nu gen ((last+1) % 2 ^ 64) (cvs.map CV.pair):=by unfold nu;rw [List.length_map]
   have hhl:(nu gen ((last+1) % 2 ^ 64) (cvs.map CV.pair)).length=512:=fm _ _ _ _
   rw [hhd]
   refine .fact (ae (el:=92) (size:=1) (v:=v) (k:=cvs.length) (xs:=bs.map (wr1V b2 b5))) (fun ⟨A2,c2,hv2,hR2,hk2,hc2,hl2⟩=>?_)
   subst hv2
   refine .exit (.thenExit (.thenExit (.blockExit (?_))))
   refine .next (.sr ?_)
   refine .ld ?_ sm
   refine .makeFuncB ?_
   refine .buildS (fun b50=>?_) (o9 _ _ _)
   refine .to (A':=buf b50 92 1 [w7 j]) (c6 (cs:=#[w7 j]) rfl) ?_
   refine .to (di (g:=b50) (el:=92) (cap:=1) (xs:=[w7 j]) (by decide)) ?_
   refine .move ?_
   refine .appendAny (m:=cvs.length) m7 (by decide) (by repeat (first | exact .here | apply Rem.there | apply Repl.there | apply Mem.there)) hR2 (by repeat (first | exact .here | apply Rem.there | apply Repl.there | apply Mem.there)) hl2 (by intro u hu;obtain ⟨p,_,rfl⟩:=List.mem_map.1 hu;rfl) (by unfold maxLen;simp only [List.length_cons,List.length_nil];omega) (by simp only [List.length_cons,List.length_nil];omega) ⟨_,z92,rfl⟩ (fun vB hvB=>?_)
   refine .assign (.z (.seq ?_))
   refine .dr ([boxJ b2 j,pt j (jO d gen last ov mp)]) [] 16 mixed .autoJ ?_
   refine .tk 0 rfl .move ?_
   refine .tk 1 rfl (.ld sm) ?_
   refine .tk 2 rfl .nilCheck ?_
   refine .tk 3 rfl (.fa ix) ?_
   refine .tk 4 rfl (.ld sc28) ?_
   refine .tk 5 rfl .makeFuncB ?_
   refine .tk 6 rfl .makeFuncB ?_
   refine .tk 7 rfl (.ld sm) ?_
   refine .tk 8 rfl .nilCheck ?_
   refine .tk 9 rfl (.fa ix) ?_
   refine .tk 10 rfl (.ld sc28) ?_
   refine .tk 11 rfl .makeFuncB ?_
   refine .on 12 rfl fun hnp=>?_
   refine .buildS (fun b65=>?_) (Ba _ _ _ _ _ _ _ _ _)
   refine .nil (.wa hnp ?_)
   refine .on 13 rfl fun hnp=>?_
   refine .append (m:=3) m7 (by decide) (by repeat (first | exact .here | apply Rem.there | apply Repl.there | apply Mem.there)) Reads.pt (by repeat (first | exact .here | apply Rem.there | apply Repl.there | apply Mem.there)) rfl (by simp [Value.single]) (by unfold maxLen;simp only [List.length_cons,List.length_nil];omega) (by simp only [List.length_cons,List.length_nil];omega) ⟨_,z92,rfl⟩ (fun vT hvT=>?_)
   refine .rowOpen (v:=vT) fun A3 c3 hv3 hR3 hc31 hc32=>?_
   subst hv3
   refine .nil (.wa hnp ?_)
   refine .on 14 rfl fun hnp=>?_
   refine .call (hc:=Tryz.call151) (sp:=s7 ((Chain.cons (I:=[boxJ b2 j,gi b5 ((last+1) % 2 ^ 64),frz os,bi bl,pt j (jO d gen last ov mp),DevR d n cur 0,Rl,rowR 3 1 ov ch.length (aw ch),pt mp (.map es c),bi jbl,pt b6 (.cells #[.slice (some ⟨gh,0,none⟩) 512 qh] 79 (0,0)),buf gh 5 qh (bvs (nu gen ((last+1) % 2 ^ 64) (cvs.map CV.pair)))]) (pa hm hk hf (t:=0) (cur:=cur) (by omega)).sub (Chain.append (Ha (t:=0+ch.length) (cur:=lay cur ch) [Rl,rowR 3 1 ov ch.length (aw ch),pt mp (.map es c),bi jbl,pt b6 (.cells #[.slice (some ⟨gh,0,none⟩) 512 qh] 79 (0,0)),buf gh 5 qh (bvs (nu gen ((last+1) % 2 ^ 64) (cvs.map CV.pair)))] hbl hi.lie hli hfit hn (by omega)) (.cons (goesFlush (d:=d) (n:=n) (t:=0+ch.length+cvs.length) (cur:=lay (lay cur ch) (ku (((last+1) % 2 ^ 64) % 4) (cvs.map CV.pair)))).sub (.cons (Qc (j:=j) (d:=d) (n:=n) (t:=0) (gen:=gen) (last:=last) (mp:=mp) (b2:=b2) (b5:=b5) (b6:=b6) (gh:=gh) (qh:=qh) (nn:=((last+1) % 2 ^ 64)) (ov:=ov) (hd:=nu gen ((last+1) % 2 ^ 64) (cvs.map CV.pair)) (cur:=lay (lay cur ch) (ku (((last+1) % 2 ^ 64) % 4) (cvs.map CV.pair))) hhl hn (by decide)).sub (.cons goesFlush.sub .nil)))))) hR3 (by simp only [List.length_append,List.length_cons,List.length_nil,List.length_map];omega) (by simp only [List.length_cons,List.length_nil];omega)) (h:=?_)
   rintro _ _ ⟨rfl,rfl⟩
   simp only [List.cons_append,List.nil_append]
   refine .nil (.wa hnp ?_)
   refine .tk 15 rfl .assign ?_
   refine .fin ?_
   refine .next (.ret (?_))
   exact .ret1 (h1:=.tmp (t:=4) rfl) ⟨_,⟨rfl,rfl⟩,Am.auto⟩
theorem Oh (v0:Int):bc Tryz.prog 26 1 [(0,.int .i64 v0)] 3 #[.int .i64 v0]:=fun w=>by kernel_rfl
theorem y3 (l:List (Nat×aa)) (i:Nat) (h:i < l.length):aw (l.take (i+1))=aw (l.take i)++[.int .i64 (l[i].1:Int)]:=by
 unfold aw ints
 rw [List.take_succ_eq_append_getElem h,List.map_append,List.map_append]
 rfl
theorem Kept.snoc {kv:List ((Int×Int)×Value)} {bl:List (Value×aa)} {s i:Nat} {l:List (Nat×aa)} (h:Kept kv bl s (l.take i)) (hi:i < l.length) {v:Value} {p:Value×aa} (hp:p=(v,l[i].2)):Kept (kput kv ((s:Int),(i:Int)) v) (p :: bl) s (l.take (i+1)):=by
 subst hp
 intro k hk
 rw [List.length_take] at hk
 by_cases hki:k=i
 ·subst hki
  refine ⟨v,by rw [cj,if_pos rfl],?_⟩
  rw [List.getElem_take]
  exact List.mem_cons_self ..
 ·obtain ⟨u,h1,h2⟩:=h k (by rw [List.length_take];omega)
  refine ⟨u,?_,?_⟩
  ·rw [cj,if_neg (fun hh=>hki (by have:=congrArg Prod.snd hh;simp only at this;omega))]
   exact h1
  ·rw [List.getElem_take] at h2 ⊢
   exact List.mem_cons_of_mem _ h2
structure CI (n:Nat) (s:Nat) (l:List (Nat×aa)) (i:Int) (es:Array MapEntry) (c:Nat) (kv:List ((Int×Int)×Value)) (bl:List (Value×aa)):Prop where
 lo:0<=i
 hi:i<=l.length
 hm:MapIs sx es c kv
 hk:Kept kv bl s (l.take i.toNat)
theorem Lw {j d n m c0:Nat} {J:JS} {bl:List (Value×aa)} {Rl:HP} {A:Option Addr} {cvs:List CV}
  (hR:Reads Rl A (cr cvs)) (hml:cvs.length=m) (hli:Lie bl cvs) (hfit:Fit n (cvs.map CV.pair)) :
  Spec Tryz.prog 218 #[.pointer (some ⟨j,0,none⟩),.slice A m c0] [Rl,bi bl,JR j d n J] fun F v M=>v=okV/\M=[Rl,bi bl,JR j d n (J.commit (cvs.map CV.pair))]++F:=by
 refine Spec.intro Tryz.func218 rfl rfl fun B F=>?_
 simp only [Tryz.ntmps218,List.cons_append,List.nil_append,env0,Nat.reduceAdd]
 refine .openR (JR.opens j d n J) fun x hp=>?_
 simp only [jL,List.cons_append,List.nil_append]
 subst hml
 have hfew:cvs.length<=60:=by simpa using hfit.few
 have hnn:J.next < 2 ^ 64:=Nat.mod_lt _ (by decide)
 refine .sr (.assign (.z (.seq (.sr (.move ?_)))))
 refine .eqNil ?_ Ci
 refine .move (.gT (.move (.gT (.nilCheck (.gT ?_)))))
 refine .fa ?_ ix
 refine .gT ?_
 refine .ld ?_ sc28
 refine .gT ?_
 refine .eqNil ?_ Gr
 refine .pickF (.move (.gT (.move (.gT (.nilCheck ?_)))))
 refine .gT ?_
 refine .fa ?_ Pw
 refine .gT ?_
 refine .ld ?_ sc4
 refine .pickF (.z ?_)
 refine .condF rfl rfl ?_
 refine .skip (.next (.seq (.sr (.move (.move ?_)))))
 refine .call (hc:=Tryz.call248) (sp:=Sx hp.hm hp.hk hp.hf hR rfl hli hfit hp.hg hp.n1 hp.n2) (h:=?_)
 rintro _ _ ⟨rfl,rfl⟩
 simp only [List.cons_append,List.nil_append]
 refine .assign (.x (.move ?_))
 refine .nei (.z ?_)
 refine .condF rfl rfl ?_
 refine .skip (.next (.sr (.move (.nilCheck ?_))))
 refine .fa ?_ ec
 refine .ld ?_ fy
 refine .addw ?_
 refine .cast (d:=36) (u:=.int .u64 (J.next:Int)) rfl (cI9 (s5 J.last)) ?_
 refine .nilCheck ?_
 refine .fa ?_ ec
 refine .st ?_ fy
 refine .x (.move (.move ?_))
 refine .mkMap fun m41=>?_
 refine .nilCheck ?_
 refine .fa ?_ iy
 refine .st ?_ sc26
 refine .nilCheck ?_
 refine .fa ?_ m0
 refine .st ?_ Ax
 refine .z (.seq (.sr (.move ?_)))
 refine .lenS ?_ Ay
 refine .move (.z (.block ?_))
 refine .blobsNil ?_
 refine .emp (rowR.nil (e:=3) (size:=1) _) ?_
 refine .loopA (σ:=Int×Value×Array MapEntry×Nat×List ((Int×Int)×Value)×List (Value×aa)) (fun s=>[(0,.pointer (some ⟨j,0,none⟩)),(46,.slice A cvs.length c0),(47,.int .i64 (cvs.length:Int)),(48,.int .i64 s.1)]) (fun s=>[pt j (jO d J.gen J.next s.2.1 m41),rowR 3 1 s.2.1 s.1.toNat (aw ((cvs.map CV.pair).take s.1.toNat)),pt m41 (.map s.2.2.1 s.2.2.2.1),bi s.2.2.2.2.2,Rl,bi bl,DevR d n (J.wrote (cvs.map CV.pair)) 0]++F) (fun s=>CI n (J.next % 4) (cvs.map CV.pair) s.1 s.2.2.1 s.2.2.2.1 s.2.2.2.2.1 s.2.2.2.2.2) (fun s=>((cvs.length:Int) - s.1).toNat) (0,.slice none 0 0,#[],0,[],[]) ⟨by omega,by omega,MapIs.empty _ _,fun k hk=>by simp at hk⟩ ?_
 rintro ⟨i,ov,es,c,kv,bl2⟩ hi
 refine .sr ?_
 refine .lss (.z (.seq ?_))
 refine .cond rfl (fun hb=>?_) (fun hb=>?_)
 ·have hlt:i < (cvs.length:Int):=of_decide_eq_true hb
  have hlo:=hi.lo
  have hil:i.toNat < cvs.length:=by omega
  have hcl:=cu cvs
  have hhome:=hfit.home cvs[i.toNat].pair (List.mem_map.2 ⟨_,List.getElem_mem hil,rfl⟩)
  have hx5:cvs[i.toNat].xs.length=512:=hhome.2.2
  have hil2:i.toNat < (cvs.map CV.pair).length:=by simpa using hil
  rcases A with _ | ⟨ab,ao,asp⟩
  ·exact absurd hR (fun h=>by have h2:cr cvs=[]:=h;rw [h2] at hcl;simp at hcl;omega)
  have hsp:asp=none:=hR.1
  subst hsp
  refine .skip (.next (.seq (.block (.sr (.move ?_)))))
  refine .idx ?_ Ld
  refine .ldAR ?_ u5 hR (jv cvs i.toNat hil) (by rw [cu];omega)
  refine .alloc z222 fun b7=>?_
  refine .assign ?_
  refine .stV ?_ u5
  refine .z (.seq ?_)
  refine .dr ([pt j (jO d J.gen J.next ov m41),pt b7 (chO cvs[i.toNat])]) [11] 12 mixed .autoJ ?_
  refine .tk 0 rfl .move ?_
  refine .tk 1 rfl .move ?_
  refine .tk 2 rfl .nilCheck ?_
  refine .tk 3 rfl (.fa iy) ?_
  refine .tk 4 rfl (.ld sc26) ?_
  refine .tk 5 rfl (.fa sj) ?_
  refine .tk 6 rfl (.ld sc3) ?_
  refine .on 7 rfl fun hnp=>?_
  refine .buildS (fun b60=>?_) (Oh _)
  refine .nil (.wa hnp ?_)
  refine .on 8 rfl fun hnp=>?_
  refine .append (m:=1) so26 (by decide) (by repeat (first | exact .here | apply Rem.there | apply Repl.there | apply Mem.there)) Reads.pt (by repeat (first | exact .here | apply Rem.there | apply Repl.there | apply Mem.there)) rfl (by simp [Value.single]) (by unfold maxLen;omega) (by omega) ⟨_,z3,rfl⟩ (fun ov' hov'=>?_)
  refine .rowOpen (v:=ov') fun A4 c4 hv4 hR4 h41 h42=>?_
  subst hv4
  refine .nil (.wa hnp ?_)
  refine .on 9 rfl fun hnp=>?_
  refine .nilCheck ?_
  refine .nil (.wa hnp ?_)
  refine .tk 10 rfl (.fa iy) ?_
  refine .on 11 rfl fun hnp=>?_
  refine .st ?_ sc26
  refine .nil (.wb hnp ?_)
  refine .fin ?_
  refine .next ?_
  refine .dr ([pt j (jO d J.gen J.next (.slice (some A4) (i.toNat+1) c4) m41),pt b7 (chO cvs[i.toNat])]) [14] 15 mixed .autoJ ?_
  refine .tk 0 rfl .move ?_
  refine .tk 1 rfl .nilCheck ?_
  refine .tk 2 rfl (.fa m0) ?_
  refine .tk 3 rfl (.ld Ax) ?_
  refine .tk 4 rfl .move ?_
  refine .tk 5 rfl .nilCheck ?_
  refine .tk 6 rfl (.fa ec) ?_
  refine .tk 7 rfl (.ld fy) ?_
  refine .tk 9 rfl .move ?_
  refine .tk 11 rfl (.fa Au) ?_
  refine .tk 12 rfl (.ld sc79) ?_
  refine .on 8 rfl fun hnp=>?_
  refine .call (hc:=Tryz.call148) (sp:=Ew (a:=J.next)) (h:=?_)
  rintro _ _ ⟨rfl,rfl⟩
  refine .nil (.wa hnp ?_)
  refine .tk 10 rfl (.build (iz _ _)) ?_
  refine .on 13 rfl fun hnp=>?_
  refine .call (hc:=Tryz.call156) (sp:=jb (Reads.blob (hli _ (List.getElem_mem hil))) hx5 (by decide)) (h:=?_)
  rintro _ _ ⟨gc,kc,⟨rfl,hk1,hk2⟩,rfl⟩
  refine .nil (.wa hnp ?_)
  refine .on 14 rfl fun hnp=>?_
  refine .upd (k:=(((J.next % 4:Nat):Int),i)) klP hi.hm La fun es' c' hm'=>?_
  refine .nil (.wb hnp ?_)
  refine .fin ?_
  refine .blockNormal (.next (.region ?_))
  refine .add ?_
  refine .move (.nil ?_)
  refine .blobsAdd (bl:=bl2) (g:=gc) (k:=kc) (xs:=cvs[i.toNat].xs) (by rw [hx5];exact hk1) ?_
  have hk3:Kept (kput kv (((J.next % 4:Nat):Int),i) (.slice (some ⟨gc,0,none⟩) 512 kc)) ((.slice (some ⟨gc,0,none⟩) cvs[i.toNat].xs.length kc,cvs[i.toNat].xs) :: bl2) (J.next % 4) ((cvs.map CV.pair).take (i+1).toNat):=by
   have:=Kept.snoc hi.hk hil2 (v:=.slice (some ⟨gc,0,none⟩) 512 kc) (p:=(.slice (some ⟨gc,0,none⟩) cvs[i.toNat].xs.length kc,cvs[i.toNat].xs)) (by rw [hx5,List.getElem_map];rfl)
   rw [show (i+1).toNat=i.toNat+1 from by omega]
   rw [show ((i.toNat:Nat):Int)=i from by omega] at this
   exact this
  refine .to (A:=rowR 3 1 (.slice (some A4) (i.toNat+1) c4) (i.toNat+1) (aw ((cvs.map CV.pair).take i.toNat)++[.int .i64 (cvs[i.toNat].k:Int)])) (A':=rowR 3 1 (.slice (some A4) (i.toNat+1) c4) (i+1).toNat (aw ((cvs.map CV.pair).take (i+1).toNat))) (fun h hh=>by rw [show (i+1).toNat=i.toNat+1 from by omega,y3 _ _ hil2,List.getElem_map];exact hh) ?_
  exact .back (i+1,.slice (some A4) (i.toNat+1) c4,es',c',kput kv (((J.next % 4:Nat):Int),i) (.slice (some ⟨gc,0,none⟩) 512 kc),(.slice (some ⟨gc,0,none⟩) cvs[i.toNat].xs.length kc,cvs[i.toNat].xs) :: bl2) ⟨by omega,by rw [List.length_map];omega,hm',hk3⟩ (by show ((cvs.length:Int) - (i+1)).toNat < ((cvs.length:Int) - i).toNat;omega)
 ·have hge:¬ i < (cvs.length:Int):=of_decide_eq_false hb
  have hlo:=hi.lo
  have hhi:=hi.hi
  rw [List.length_map] at hhi
  have hie:i=(cvs.length:Int):=by omega
  subst hie
  have hk3:=hi.hk
  have hll:(cvs.map CV.pair).length=cvs.length:=List.length_map ..
  simp only [Int.toNat_natCast] at hk3 ⊢
  rw [List.take_of_length_le (by rw [hll];exact Nat.le_refl _)] at hk3 ⊢
  refine .exit (.thenExit (.thenExit (.blockExit (?_))))
  refine .next (.sr (.assign (.z (.ret (?_)))))
  refine .to (A:=rowR 3 1 ov cvs.length (aw (cvs.map CV.pair))) (A':=rowR 3 1 ov (cvs.map CV.pair).length (aw (cvs.map CV.pair))) (fun h hh=>by rw [hll];exact hh) ?_
  refine .shutR (JR.opens j d n (J.commit (cvs.map CV.pair))) ⟨es,c,m41,kv,bl2,ov⟩ ⟨hi.hm,hk3,hfit,hp.n1,hp.n2,hp.hg,hnn⟩ ?_
  exact .ret1 (h1:=.tmp (t:=4) rfl) ⟨_,⟨rfl,rfl⟩,Am.auto⟩
structure MI (l:List CV) (i:Int) (es:Array MapEntry) (c:Nat) (kv:List (Int×Value)):Prop where
 lo:0<=i
 hi:i<=l.length
 hm:MapIs intE es c kv
 met:∀ k,kget kv k≠none->∃ a,∃ h:a < l.length,a < i.toNat/\k=(l[a].k:Int)
theorem MI.fresh {n:Nat} {l:List CV} {i:Int} {es:Array MapEntry} {c:Nat} {kv:List (Int×Value)} (h:MI l i es c kv) (hf:Fit n (l.map CV.pair)) (hil:i.toNat < l.length):kget kv (l[i.toNat].k:Int)=none:=by
 cases hk:kget kv (l[i.toNat].k:Int) with
 | none=>rfl
 | some v =>
  obtain ⟨a,ha,hai,hka⟩:=h.met _ (by rw [hk];simp)
  exfalso
  have hnd:=List.pairwise_iff_getElem.1 hf.apart
  have:=hnd a i.toNat (by simpa using ha) (by simpa using hil) hai
  simp only [List.getElem_map] at this
  exact this (by show l[a].k=l[i.toNat].k;omega)
theorem MI.step {l:List CV} {i:Int} {es es':Array MapEntry} {c c':Nat} {kv:List (Int×Value)} (h:MI l i es c kv) (hil:i.toNat < l.length) {v:Value} (hm:MapIs intE es' c' (kput kv (l[i.toNat].k:Int) v)):MI l (i+1) es' c' (kput kv (l[i.toNat].k:Int) v):=by
 have:=h.lo
 refine ⟨by omega,by omega,hm,fun k hk=>?_⟩
 rw [cj] at hk
 split at hk
 ·exact ⟨i.toNat,hil,by omega,by assumption⟩
 ·obtain ⟨a,ha,h1,h2⟩:=h.met k hk
  exact ⟨a,ha,by omega,h2⟩
theorem jMay {j d n m c0:Nat} {J:JS} {Rl:HP} {A:Option Addr} {cvs:List CV} (hR:Reads Rl A (cr cvs)) (hml:cvs.length=m) (hfit:Fit n (cvs.map CV.pair)) :
  Spec Tryz.prog 217 #[.pointer (some ⟨j,0,none⟩),.slice A m c0] [Rl,JR j d n J] fun F v M=>v=okV/\M=[Rl,JR j d n J]++F:=by
 refine Spec.intro Tryz.func217 rfl rfl fun B F=>?_
 simp only [Tryz.ntmps217,List.cons_append,List.nil_append,env0,Nat.reduceAdd]
 refine .openR (JR.opens j d n J) fun x hp=>?_
 simp only [jL,List.cons_append,List.nil_append]
 subst hml
 have hfew:cvs.length<=60:=by simpa using hfit.few
 refine .sr (.assign (.x ?_))
 refine .mkMap fun m8=>?_
 refine .assign (.z (.seq (.sr (.move ?_))))
 refine .lenS ?_ Ay
 refine .move (.z (.block ?_))
 refine .loopA (σ:=Int×Array MapEntry×Nat×List (Int×Value)) (fun s=>[(0,.pointer (some ⟨j,0,none⟩)),(1,.slice A cvs.length c0),(5,.map (some m8)),(9,.slice A cvs.length c0),(10,.int .i64 (cvs.length:Int)),(11,.int .i64 s.1)]) (fun s=>[pt m8 (.map s.2.1 s.2.2.1),Rl,pt j (jO d J.gen J.last x.ov x.mp),rowR 3 1 x.ov J.ch.length (aw J.ch),pt x.mp (.map x.es x.c),bi x.bl,DevR d n J.cur 0]++F) (fun s=>MI cvs s.1 s.2.1 s.2.2.1 s.2.2.2) (fun s=>((cvs.length:Int) - s.1).toNat) (0,#[],0,[]) ⟨by omega,by omega,MapIs.empty _ _,fun k hk=>absurd rfl hk⟩ ?_
 rintro ⟨i,es,c,kv⟩ hi
 refine .sr ?_
 refine .lss (.z (.seq ?_))
 refine .cond rfl (fun hb=>?_) (fun hb=>?_)
 ·have hlt:i < (cvs.length:Int):=of_decide_eq_true hb
  have hlo:=hi.lo
  have hil:i.toNat < cvs.length:=by omega
  have hcl:=cu cvs
  have hhome:=hfit.home cvs[i.toNat].pair (List.mem_map.2 ⟨_,List.getElem_mem hil,rfl⟩)
  have hx5:245<=cvs[i.toNat].k/\cvs[i.toNat].k < n:=⟨hhome.1,hhome.2.1⟩
  have hnew:=hi.fresh hfit hil
  rcases A with _ | ⟨ab,ao,asp⟩
  ·exact absurd hR (fun h=>by have h2:cr cvs=[]:=h;rw [h2] at hcl;simp at hcl;omega)
  have hsp:asp=none:=hR.1
  subst hsp
  refine .skip (.next (.seq (.block (.sr ?_))))
  refine .idx ?_ Ld
  refine .ldAR ?_ u5 hR (jv cvs i.toNat hil) (by rw [cu];omega)
  refine .alloc z222 fun b7=>?_
  refine .stV ?_ u5
  refine .z (.seq (.sr (.move ?_)))
  refine .fa ?_ sj
  refine .ld ?_ sc3
  refine .call (hc:=Tryz.call154) (sp:=Sw (n:=n) (t:=0) (cur:=J.cur)) (h:=?_)
  rintro _ _ ⟨rfl,rfl⟩
  refine .cast (d:=18) (u:=.bool true) rfl (cB9 (decide_eq_true (by omega))) ?_
  refine .not ?_
  refine .move (.gT (.move (.gT ?_)))
  refine .fa ?_ sj
  refine .gT ?_
  refine .ld ?_ sc3
  refine .gT ?_
  refine .look klF hi.hm yu zv3 ?_
  refine .cast (d:=24) (u:=.int .i64 0) rfl (by rw [hnew];rfl) ?_
  refine .gT ?_
  refine .gtr ?_
  refine .pickF (.move (.gT ?_))
  refine .fa ?_ Au
  refine .gT ?_
  refine .ld ?_ sc79
  refine .gT ?_
  refine .lenS ?_ sl79
  refine .gT ?_
  refine .nei ?_
  refine .pickF (.z ?_)
  refine .condF rfl rfl ?_
  refine .skip (.next (.region (.move ?_)))
  refine .fa ?_ sj
  refine .ld ?_ sc3
  refine .upd klF hi.hm yu fun es_1 c_1 hm_1=>?_
  refine .nil (.blockNormal (.next (.region ?_)))
  refine .add ?_
  refine .move (.nil ?_)
  exact .back (i+1,es_1,c_1,_) (hi.step hil hm_1) (by show ((cvs.length:Int) - (i+1)).toNat < ((cvs.length:Int) - i).toNat;omega)
 ·refine .exit (.thenExit (.thenExit (.blockExit (?_))))
  refine .next (.seq (.sr (.move ?_)))
  refine .lenS ?_ Ay
  refine .gtr (.z ?_)
  refine .condF rfl (cB9 (by first|simp;done|simp;omega|omega)) ?_
  refine .skip (.next (.sr (.assign (.z (.ret (?_))))))
  refine .shutR (JR.opens j d n J) x hp ?_
  exact .ret1 (h1:=.tmp (t:=4) rfl) ⟨_,⟨rfl,rfl⟩,Am.auto⟩
def JS.commits (J:JS) (l:List (Nat×aa)):JS:=if l=[] then J else J.commit l
theorem Qd {j d n m c0:Nat} {J:JS} {bl:List (Value×aa)} {Rl:HP} {A:Option Addr} {cvs:List CV}
  (hR:Reads Rl A (cr cvs)) (hml:cvs.length=m) (hli:Lie bl cvs) (hfit:Fit n (cvs.map CV.pair)) :
  Spec Tryz.prog 145 #[.pointer (some ⟨j,0,none⟩),.slice A m c0] [Rl,bi bl,JR j d n J] fun F v M=>v=okV/\M=[Rl,bi bl,JR j d n (J.commits (cvs.map CV.pair))]++F:=by
 refine Spec.intro Tryz.func145 rfl rfl fun B F=>?_
 simp only [Tryz.ntmps145,List.cons_append,List.nil_append,env0,Nat.reduceAdd]
 rcases cvs with _ | ⟨cv,cvs⟩
 ·have hm0:m=0:=hml.symm
  subst hm0
  refine .sr (.assign (.z (.seq (.sr (.move (.move ?_))))))
  refine .call (hc:=Tryz.call217) (sp:=jMay (n:=n) hR hml hfit) (h:=?_)
  rintro _ _ ⟨rfl,rfl⟩
  simp only [List.cons_append,List.nil_append]
  refine .assign (.x (.move ?_))
  refine .nei ?_
  refine .move (.gT (.move (.gT ?_)))
  refine .lenS ?_ Ay
  refine .gT ?_
  refine .eqi ?_
  refine .pickF (.z ?_)
  refine .condT rfl rfl ?_
  refine .sr (.move (.assign (.z ?_)))
  refine .ret (.thenRet (?_))
  exact .ret1 (h1:=.tmp (t:=4) rfl) ⟨_,⟨rfl,rfl⟩,Am.auto⟩
 ·have hm0:m≠0:=by rw [<- hml];simp
  refine .sr (.assign (.z (.seq (.sr (.move (.move ?_))))))
  refine .call (hc:=Tryz.call217) (sp:=jMay (n:=n) hR hml hfit) (h:=?_)
  rintro _ _ ⟨rfl,rfl⟩
  simp only [List.cons_append,List.nil_append]
  refine .assign (.x (.move ?_))
  refine .nei ?_
  refine .move (.gT (.move (.gT ?_)))
  refine .lenS ?_ Ay
  refine .gT ?_
  refine .eqi ?_
  refine .pickF (.z ?_)
  refine .condF rfl (cB9 (by first|simp;done|simp;omega|omega)) ?_
  refine .skip (.next (.sr (.move (.move ?_))))
  refine .call (hc:=Tryz.call218) (sp:=Lw (n:=n) hR hml hli hfit) (h:=?_)
  rintro _ _ ⟨rfl,rfl⟩
  simp only [List.cons_append,List.nil_append]
  refine .assign (.z (.ret (?_)))
  exact .ret1 (h1:=.tmp (t:=4) rfl) ⟨_,⟨rfl,rfl⟩,Am.auto⟩
theorem bdJ (d:Nat) (gn:Nat) (m:Nat):av Tryz.prog 228 [(0,.pointer (some ⟨d,0,none⟩)),(1,.int .u64 (gn:Int)),(5,.map (some m))] #[.pointer (some ⟨d,0,none⟩),.int .u64 (gn:Int),.int .u64 0,.bool false,.slice none 0 0,.map (some m)]:=fun w=>by kernel_rfl
def s8 (gen:Nat) (xs:aa):Prop:=xs.take 8≠lj ∨ ax (seg xs 8 8 false)≠gen
theorem Hb (xs:aa) (p:Nat) (b:Bool):ax (seg xs p 8 b) < 2 ^ 64:=by
 have h1:=wo (seg xs p 8 b)
 have h2:(seg xs p 8 b).length<=8:=by
  unfold seg
  cases b<;>simp<;>omega
 have h3:256 ^ (seg xs p 8 b).length<=256 ^ 8:=Nat.pow_le_pow_right (by decide) h2
 omega
theorem Fit.nil (n:Nat):Fit n []:=⟨(fun p h=>by cases h),(by decide),(by simp)⟩
theorem Kept.nil {kv:List ((Int×Int)×Value)} {bl:List (Value×aa)} {s:Nat}:Kept kv bl s []:=fun i h=>by cases h
theorem nv {j d n t gen last mp i:Nat} {ov:Value} {cur:Nat->aa} (hi:i<=3) (hn:246<=n) (hno:s8 gen (cur (slotAt i 0))):Spec Tryz.prog 147 #[.pointer (some ⟨j,0,none⟩),.int .i64 (i:Int)] [pt j (jO d gen last ov mp),DevR d n cur t] fun F v M=>v=.tuple #[.int .u64 0,.slice none 0 0]/\M=[pt j (jO d gen last ov mp),DevR d n cur t]++F:=by
 refine Spec.intro Tryz.func147 rfl rfl fun B F=>?_
 simp only [Tryz.ntmps147,List.cons_append,List.nil_append,env0,Nat.reduceAdd]
 refine .sr (.assign (.assign (.z (.seq ?_))))
 refine .dr ([pt j (jO d gen last ov mp)]) [] 13 mixed .autoJ ?_
 refine .tk 0 rfl .move ?_
 refine .tk 1 rfl .nilCheck ?_
 refine .tk 2 rfl (.fa ix) ?_
 refine .tk 3 rfl (.ld sc28) ?_
 refine .tk 4 rfl .move ?_
 refine .tk 5 rfl (.build (iz _ _)) ?_
 refine .on 6 rfl fun hnp=>?_
 refine .call (hc:=Tryz.call150) (sp:=m9 (a:=i) (b:=0) (by omega)) (h:=?_)
 rintro _ _ ⟨rfl,rfl⟩
 refine .nil (.wa hnp ?_)
 refine .on 7 rfl fun hnp=>?_
 refine .call (hc:=Tryz.call149) (sp:=sy (n:=n) (t:=t) (k:=slotAt i 0) (cur:=cur) (by unfold slotAt;omega)) (h:=?_)
 rintro _ _ ⟨gb,q,rfl,⟨hq1,hq2,hlen⟩,rfl⟩
 refine .nil (.wa hnp ?_)
 refine .tk 8 rfl .move ?_
 refine .tk 9 rfl .extract ?_
 refine .tk 10 rfl .extract ?_
 refine .tk 11 rfl .assign ?_
 refine .tk 12 rfl .assign ?_
 refine .fin ?_
 refine .next (.seq (.seq ?_))
 by_cases hmk:(cur (slotAt i 0)).take 8=lj
 ·rcases hno with hno | hno
  ·exact absurd hmk hno
  refine .dr ([buf gb 5 q (bvs (cur (slotAt i 0))),pt j (jO d gen last ov mp)]) [] 17 mixed .autoJ ?_
  refine .tk 0 rfl .move ?_
  refine .tk 1 rfl .nei ?_
  refine .tk 2 rfl .move ?_
  refine .tn 3 rfl .move ?_
  refine .tn 4 rfl (.slcH so79) ?_
  refine .tn 5 rfl (Qt.cvtBS (R:=buf gb 5 q (bvs (cur (slotAt i 0)))) (xs:=(cur (slotAt i 0)).take 8) by79 st9 (by rw [ck];exact Reads.buf.take 8) (by rw [List.length_take,hlen])) ?_
  refine .tn 6 rfl ((Qt.neS ((cur (slotAt i 0)).take 8) lj).eq (v':=.bool false) (by rw [decide_eq_true hmk];rfl)) ?_
  refine .tk 7 rfl .pickF ?_
  refine .tk 8 rfl .move ?_
  refine .tn 9 rfl .move ?_
  refine .tn 11 rfl .move ?_
  refine .tn 12 rfl .nilCheck ?_
  refine .tn 13 rfl (.fa Av) ?_
  refine .tn 14 rfl (.ld fy) ?_
  refine .on 10 rfl fun hnp=>?_
  refine .gT ?_
  refine .call (hc:=Tryz.call219) (sp:=jGet (k:=1) Reads.buf hlen (by decide) (by decide) (by decide)) (h:=?_)
  rintro _ _ ⟨rfl,rfl⟩
  refine .nil (.wa hnp ?_)
  refine .tn 15 rfl ((Qt.nei).eq (v':=.bool true) (by rw [decide_eq_false (fun h=>hno (by exact_mod_cast h))];rfl)) ?_
  refine .tk 16 rfl .pickF ?_
  refine .fin ?_
  refine .next ?_
  refine .condT rfl rfl ?_
  refine .sr (.assign (.assign (.z ?_)))
  refine .ret (.thenRet (?_))
  exact .ret2 (h1:=.tmp (t:=4) rfl) (h2:=.tmp (t:=5) rfl) ⟨_,⟨rfl,rfl⟩,Am.auto⟩
 ·refine .dr ([buf gb 5 q (bvs (cur (slotAt i 0))),pt j (jO d gen last ov mp)]) [] 17 mixed .autoJ ?_
  refine .tk 0 rfl .move ?_
  refine .tk 1 rfl .nei ?_
  refine .tk 2 rfl .move ?_
  refine .tn 3 rfl .move ?_
  refine .tn 4 rfl (.slcH so79) ?_
  refine .tn 5 rfl (Qt.cvtBS (R:=buf gb 5 q (bvs (cur (slotAt i 0)))) (xs:=(cur (slotAt i 0)).take 8) by79 st9 (by rw [ck];exact Reads.buf.take 8) (by rw [List.length_take,hlen])) ?_
  refine .tn 6 rfl ((Qt.neS ((cur (slotAt i 0)).take 8) lj).eq (v':=.bool true) (by rw [decide_eq_false hmk];rfl)) ?_
  refine .tk 7 rfl .pickF ?_
  refine .tk 8 rfl .move ?_
  refine .tf 9 rfl ?_
  refine .tf 10 rfl ?_
  refine .tf 11 rfl ?_
  refine .tf 12 rfl ?_
  refine .tf 13 rfl ?_
  refine .tf 14 rfl ?_
  refine .tf 15 rfl ?_
  refine .tk 16 rfl .pickT ?_
  refine .fin ?_
  refine .next ?_
  refine .condT rfl rfl ?_
  refine .sr (.assign (.assign (.z ?_)))
  refine .ret (.thenRet (?_))
  exact .ret2 (h1:=.tmp (t:=4) rfl) (h2:=.tmp (t:=5) rfl) ⟨_,⟨rfl,rfl⟩,Am.auto⟩
theorem jOpen {d n:Nat} {cur:Nat->aa} (hn:246<=n) (hn2:n<=65536) (hmg:(cur 0).take 8=dt) (hno:∀ i,i<=3->s8 (ax (seg (cur 0) 8 8 false)) (cur (slotAt i 0))) :
  Spec Tryz.prog 83 #[.pointer (some ⟨d,0,none⟩)] [DevR d n cur 0] fun F v M=>∃ j,v=.tuple #[.pointer (some ⟨j,0,none⟩),.int .i64 0]/\M=JR j d n ⟨ax (seg (cur 0) 8 8 false),0,[],cur⟩ :: F:=by
 refine Spec.intro Tryz.func83 rfl rfl fun B F=>?_
 simp only [Tryz.ntmps83,List.cons_append,List.nil_append,env0,Nat.reduceAdd]
 refine .sr (.assign (.assign (.z (.seq (.sr (.move ?_))))))
 refine .call (hc:=Tryz.call73) (sp:=ey (n:=n) (t:=0) (cur:=cur)) (h:=?_)
 rintro _ _ ⟨rfl,rfl⟩
 refine .lss (.z ?_)
 refine .condF rfl (cB9 (by first|simp;done|simp;omega|omega)) ?_
 refine .skip (.next (.sr (.move ?_)))
 refine .call (hc:=Tryz.call146) (sp:=Cl (n:=n) (t:=0) (cur:=cur) (by omega)) (h:=?_)
 rintro _ _ ⟨rfl,rfl⟩
 refine .move ?_
 refine .extract (.extract ?_)
 refine .cast (d:=20) (u:=.bool true) rfl (cB9 (decide_eq_true hmg)) ?_
 refine .assign (.assign (.z (.seq (.sr (.move ?_)))))
 refine .not (.z ?_)
 refine .condF rfl rfl ?_
 refine .skip (.next (.sr (.move (.move ?_))))
 refine .mkMap fun m25=>?_
 refine .build ?_ (bdJ _ _ _)
 refine .box fun b27=>?_
 refine .assign (.z (.seq (.sr (.move (.z (.block ?_))))))
 refine .blobsNil ?_
 refine .emp (rowR.nil (e:=3) (size:=1) _) ?_
 refine .loopN 5 (RC.succ ?_)
 refine .sr ?_
 refine .lss (.z (.seq ?_))
 refine .condT rfl rfl ?_
 refine .skip (.next (.seq (.block (.sr (.move (.assign (.x (.move (.move ?_)))))))))
 refine .call (hc:=Tryz.call147) (sp:=nv (i:=0) (n:=n) (t:=0) (gen:=ax (seg (cur 0) 8 8 false)) (last:=0) (mp:=m25) (ov:=.slice none 0 0) (cur:=cur) (by decide) hn (hno 0 (by decide))) (h:=?_)
 rintro _ _ ⟨rfl,rfl⟩
 simp only [List.cons_append,List.nil_append]
 refine .move ?_
 refine .extract (.extract ?_)
 refine .assign (.assign (.x (.move (.move (.nilCheck ?_)))))
 refine .fa ?_ ec
 refine .ld ?_ fy
 refine .gtr (.z ?_)
 refine .condF rfl rfl ?_
 refine .skip (.blockNormal (.next (.region ?_)))
 refine .add ?_
 refine .move (.nil ?_)
 refine .again (RC.succ ?_)
 refine .sr ?_
 refine .lss (.z (.seq ?_))
 refine .condT rfl rfl ?_
 refine .skip (.next (.seq (.block (.sr (.move (.assign (.x (.move (.move ?_)))))))))
 refine .call (hc:=Tryz.call147) (sp:=nv (i:=1) (n:=n) (t:=0) (gen:=ax (seg (cur 0) 8 8 false)) (last:=0) (mp:=m25) (ov:=.slice none 0 0) (cur:=cur) (by decide) hn (hno 1 (by decide))) (h:=?_)
 rintro _ _ ⟨rfl,rfl⟩
 simp only [List.cons_append,List.nil_append]
 refine .move ?_
 refine .extract (.extract ?_)
 refine .assign (.assign (.x (.move (.move (.nilCheck ?_)))))
 refine .fa ?_ ec
 refine .ld ?_ fy
 refine .gtr (.z ?_)
 refine .condF rfl rfl ?_
 refine .skip (.blockNormal (.next (.region ?_)))
 refine .add ?_
 refine .move (.nil ?_)
 refine .again (RC.succ ?_)
 refine .sr ?_
 refine .lss (.z (.seq ?_))
 refine .condT rfl rfl ?_
 refine .skip (.next (.seq (.block (.sr (.move (.assign (.x (.move (.move ?_)))))))))
 refine .call (hc:=Tryz.call147) (sp:=nv (i:=2) (n:=n) (t:=0) (gen:=ax (seg (cur 0) 8 8 false)) (last:=0) (mp:=m25) (ov:=.slice none 0 0) (cur:=cur) (by decide) hn (hno 2 (by decide))) (h:=?_)
 rintro _ _ ⟨rfl,rfl⟩
 simp only [List.cons_append,List.nil_append]
 refine .move ?_
 refine .extract (.extract ?_)
 refine .assign (.assign (.x (.move (.move (.nilCheck ?_)))))
 refine .fa ?_ ec
 refine .ld ?_ fy
 refine .gtr (.z ?_)
 refine .condF rfl rfl ?_
 refine .skip (.blockNormal (.next (.region ?_)))
 refine .add ?_
 refine .move (.nil ?_)
 refine .again (RC.succ ?_)
 refine .sr ?_
 refine .lss (.z (.seq ?_))
 refine .condT rfl rfl ?_
 refine .skip (.next (.seq (.block (.sr (.move (.assign (.x (.move (.move ?_)))))))))
 refine .call (hc:=Tryz.call147) (sp:=nv (i:=3) (n:=n) (t:=0) (gen:=ax (seg (cur 0) 8 8 false)) (last:=0) (mp:=m25) (ov:=.slice none 0 0) (cur:=cur) (by decide) hn (hno 3 (by decide))) (h:=?_)
 rintro _ _ ⟨rfl,rfl⟩
 simp only [List.cons_append,List.nil_append]
 refine .move ?_
 refine .extract (.extract ?_)
 refine .assign (.assign (.x (.move (.move (.nilCheck ?_)))))
 refine .fa ?_ ec
 refine .ld ?_ fy
 refine .gtr (.z ?_)
 refine .condF rfl rfl ?_
 refine .skip (.blockNormal (.next (.region ?_)))
 refine .add ?_
 refine .move (.nil ?_)
 refine .again (RC.succ ?_)
 refine .sr ?_
 refine .lss (.z (.seq ?_))
 refine .condF rfl rfl ?_
 refine .exit (.thenExit (.thenExit (.blockExit (?_))))
 refine .next (.seq (.sr (.move (.nilCheck ?_))))
 refine .fa ?_ iy
 refine .ld ?_ sc26
 refine .lenS ?_ sl26
 refine .move (.z (.block ?_))
 refine .loopN 1 (RC.succ ?_)
 refine .sr ?_
 refine .lss (.z (.seq ?_))
 refine .condF rfl (cB9 (by first|simp;done|simp;omega|omega)) ?_
 refine .exit (.thenExit (.thenExit (.blockExit (?_))))
 refine .next (.seq (.sr (.move ?_)))
 refine .makeFuncB ?_
 refine .move ?_
 refine .makeFuncB ?_
 refine .buildS (fun b88=>?_) (G6 _ _ _ _ _ _)
 refine .call (hc:=Tryz.call151) (sp:=s7 (Chain.cons (I:=[pt b27 (jO d (ax (seg (cur 0) 8 8 false)) 0 (.slice none 0 0) m25),rowR 3 1 (.slice none 0 0) 0 (aw []),pt m25 (.map #[] 0),bi [],DevR d n cur 0]) (pa (ch:=[]) (kv:=[]) (MapIs.empty _ _) Kept.nil (Fit.nil n) (t:=0) (cur:=cur) (by decide)).sub (.cons (goesFlush (d:=d) (n:=n) (t:=0) (cur:=cur)).sub .nil)) Reads.pt rfl (Nat.le_of_ble_eq_true rfl)) (h:=?_)
 rintro _ _ ⟨rfl,rfl⟩
 simp only [List.cons_append,List.nil_append]
 refine .assign (.x (.move ?_))
 refine .nei (.z ?_)
 refine .condF rfl rfl ?_
 refine .skip (.next (.sr (.move (.move ?_))))
 refine .mkMap fun m95=>?_
 refine .nilCheck ?_
 refine .fa ?_ iy
 refine .st ?_ sc26
 refine .nilCheck ?_
 refine .fa ?_ m0
 refine .st ?_ Ax
 refine .x (.move (.assign (.assign (.z (.ret (?_))))))
 refine .shutR (JR.opens b27 d n ⟨ax (seg (cur 0) 8 8 false),0,[],cur⟩) ⟨#[],0,m95,[],[],.slice none 0 0⟩ ⟨MapIs.empty _ _,Kept.nil,Fit.nil n,hn,hn2,Hb _ _ _,(by decide:(0:Nat) < 2 ^ 64)⟩ ?_
 exact .ret2 (h1:=.tmp (t:=2) rfl) (h2:=.tmp (t:=3) rfl) ⟨_,⟨_,rfl,rfl⟩,Am.auto⟩
theorem bdC (j:Nat) (m:Nat):av Tryz.prog 199 [(0,.pointer (some ⟨j,0,none⟩)),(3,.map (some m))] #[.pointer (some ⟨j,0,none⟩),.bool false,.bool false,.map (some m)]:=fun w=>by kernel_rfl
theorem klI :KeyLaw Tryz.prog 3 intE:=Ss (by kernel_rfl)
def wkv (l:List (Nat×aa)):List (Int×Value):=l.map fun p=>((p.1:Int),arrV p.2)
theorem va (l:List (Nat×aa)):(wkv l).length=l.length:=by simp [wkv]
theorem Hc (l:List (Nat×aa)) (k:Nat):kget (wkv l) (k:Int)=(kget l k).map arrV:=by
 induction l with
 | nil=>rfl
 | cons p l ih =>
  obtain ⟨a,xs⟩:=p
  simp only [wkv,List.map_cons,kget]
  by_cases h:k=a
  ·subst h;simp
  ·rw [if_neg (by omega),if_neg h];exact ih
theorem Hd (l:List (Nat×aa)) (k:Nat) (xs:aa):kput (wkv l) (k:Int) (arrV xs)=wkv (kput l k xs):=by
 induction l with
 | nil=>rfl
 | cons p l ih =>
  obtain ⟨a,ys⟩:=p
  simp only [wkv,List.map_cons,kput]
  by_cases h:k=a
  ·subst h;simp
  ·rw [if_neg (by omega),if_neg h,List.map_cons];congr 1
structure CS where
 J:JS
 W:List (Nat×aa)
 op:Bool
 ov:Bool
def CS.view (S:CS) (k:Nat):aa:=(kget S.W k).getD (S.J.view k)
structure CX where
 m:Nat
 es:Array MapEntry
 c:Nat
structure CP (n:Nat) (S:CS) (x:CX):Prop where
 hm:MapIs intE x.es x.c (wkv S.W)
 hf:Fit n S.W
 n1:246<=n
 n2:n<=65536
def cL (c j d n:Nat) (S:CS) (x:CX):List HP:=[pt c (io (some j) S.op S.ov x.m),pt x.m (.map x.es x.c),JR j d n S.J]
def CR (c j d n:Nat) (S:CS):HP:=fun h=>∃ x,CP n S x/\star (cL c j d n S x) h
theorem CR.opens (c j d n:Nat) (S:CS):Opens (CR c j d n S) (CP n S) (cL c j d n S):=⟨fun h hh=>hh,fun x hp h hh=>⟨x,hp,hh⟩⟩
attribute [irreducible] CR
theorem CP.get {n:Nat} {S:CS} {x:CX} (hp:CP n S x) (k:Nat):∃ ys:aa,(kget (wkv S.W) (k:Int)).getD (.agg (Array.replicate 512 (.int .u8 0)))=arrV ys/\ys.length=512/\((kget S.W k=some ys/\(kget (wkv S.W) (k:Int)).isSome=true) ∨ (kget S.W k=none/\(kget (wkv S.W) (k:Int)).isSome=false)):=by
 rw [Hc]
 cases h:kget S.W k with
 | none=>exact ⟨List.replicate 512 0,Gk,List.length_replicate,.inr ⟨rfl,rfl⟩⟩
 | some ys=>exact ⟨ys,rfl,(hp.hf.home _ ((fh hp.hf.apart).1 h)).2.2,.inl ⟨rfl,rfl⟩⟩
theorem Fit.put {n:Nat} {l:List (Nat×aa)} (h:Fit n l) {k:Nat} {xs:aa} (h1:245<=k) (h2:k < n) (h3:xs.length=512) (h4:(kget l k).isSome=true ∨ l.length < 60):Fit n (kput l k xs):=by
 refine ⟨?_,?_,o0 h.apart _ _⟩
 ·have key:∀ l:List (Nat×aa),(∀ p∈l,245<=p.1/\p.1 < n/\p.2.length=512)->∀ p∈kput l k xs,245<=p.1/\p.1 < n/\p.2.length=512:=by
   intro l
   induction l with
   | nil=>intro _ p hp;simp only [kput,List.mem_singleton] at hp;subst hp;exact ⟨h1,h2,h3⟩
   | cons q l ih =>
    intro hq p hp
    obtain ⟨a,ys⟩:=q
    simp only [kput] at hp
    split at hp
    ·rcases List.mem_cons.1 hp with rfl | hp
     ·have:=hq (a,ys) (List.mem_cons_self ..)
      exact ⟨this.1,this.2.1,h3⟩
     ·exact hq p (List.mem_cons_of_mem _ hp)
    ·rcases List.mem_cons.1 hp with rfl | hp
     ·exact hq _ (List.mem_cons_self ..)
     ·exact ih (fun p hp=>hq p (List.mem_cons_of_mem _ hp)) p hp
  exact key l h.home
 ·rw [mw]
  have:=h.few
  rcases h4 with h4 | h4
  ·rw [if_pos h4];exact this
  ·split<;>omega
theorem cNew {j d n:Nat} {J:JS} (hn:246<=n) (hn2:n<=65536):Spec Tryz.prog 129 #[.pointer (some ⟨j,0,none⟩)] [JR j d n J] fun F v M=>∃ c,v=.pointer (some ⟨c,0,none⟩)/\M=CR c j d n ⟨J,[],false,false⟩ :: F:=by
 refine Spec.intro Tryz.func129 rfl rfl fun B F=>?_
 simp only [Tryz.ntmps129,List.cons_append,List.nil_append,env0,Nat.reduceAdd]
 refine .sr (.assign (.x (.move ?_)))
 refine .mkMap fun m4=>?_
 refine .build ?_ (bdC _ _)
 refine .box fun b6=>?_
 refine .assign (.z (.ret (?_)))
 refine .shutR (CR.opens b6 j d n ⟨J,[],false,false⟩) ⟨m4,#[],0⟩ ⟨MapIs.empty _ _,Fit.nil n,hn,hn2⟩ ?_
 exact .ret1 (h1:=.tmp (t:=2) rfl) ⟨_,⟨_,rfl,rfl⟩,Am.auto⟩
theorem Oi {c j m:Nat} {op ov:Bool}:Spec Tryz.prog 132 #[.pointer (some ⟨c,0,none⟩)] [pt c (io (some j) op ov m)] fun F v M=>v=.bool true/\M=pt c (io (some j) op ov m) :: F:=by
 refine Spec.intro Tryz.func132 rfl rfl fun B F=>?_
 simp only [Tryz.ntmps132,List.cons_append,List.nil_append,env0,Nat.reduceAdd]
 refine .sr (.assign (.x (.move ?_)))
 refine .neNil ?_ km
 refine .move (.gT (.move (.gT (.nilCheck (.gT ?_)))))
 refine .fa ?_ wy
 refine .gT ?_
 refine .ld ?_ sm
 refine .gT ?_
 refine .neNil ?_ Ci
 refine .pickT (.assign (.z (.ret (?_))))
 exact .ret1 (h1:=.tmp (t:=2) rfl) ⟨_,⟨rfl,rfl⟩,Am.auto⟩
theorem Sy {c j d n:Nat} {S:CS}:Spec Tryz.prog 133 #[.pointer (some ⟨c,0,none⟩)] [CR c j d n S] fun F v M=>v=.bool S.op/\M=CR c j d n S :: F:=by
 refine Spec.intro Tryz.func133 rfl rfl fun B F=>?_
 simp only [Tryz.ntmps133,List.cons_append,List.nil_append,env0,Nat.reduceAdd]
 refine .openR (CR.opens c j d n S) fun x hp=>?_
 simp only [cL,List.cons_append,List.nil_append]
 refine .sr (.assign (.x (.move ?_)))
 refine .neNil ?_ km
 refine .move (.gT (.move (.gT (.nilCheck (.gT ?_)))))
 refine .fa ?_ si
 refine .gT ?_
 refine .ld ?_ sc4
 refine .pickT (.assign (.z (.ret (?_))))
 refine .shutR (CR.opens c j d n S) x hp ?_
 exact .ret1 (h1:=.tmp (t:=2) rfl) ⟨_,⟨rfl,rfl⟩,Am.auto⟩
theorem Sz {c j d n:Nat} {S:CS} (hop:S.op=false):Spec Tryz.prog 76 #[.pointer (some ⟨c,0,none⟩)] [CR c j d n S] fun F v M=>v=okV/\M=CR c j d n ⟨S.J,S.W,true,false⟩ :: F:=by
 refine Spec.intro Tryz.func76 rfl rfl fun B F=>?_
 simp only [Tryz.ntmps76,List.cons_append,List.nil_append,env0,Nat.reduceAdd]
 refine .openR (CR.opens c j d n S) fun x hp=>?_
 simp only [cL,List.cons_append,List.nil_append]
 refine .sr (.assign (.z (.seq (.sr (.move ?_)))))
 refine .call (hc:=Tryz.call132) (sp:=Oi) (h:=?_)
 rintro _ _ ⟨rfl,rfl⟩
 refine .not ?_
 refine .move (.gT (.move (.gT (.nilCheck (.gT ?_)))))
 refine .fa ?_ si
 refine .gT ?_
 refine .ld ?_ sc4
 refine .cast (d:=10) (u:=.bool false) rfl (cB9 hop) ?_
 refine .pickF (.z ?_)
 refine .condF rfl rfl ?_
 refine .skip (.next (.sr (.move (.move (.nilCheck ?_)))))
 refine .fa ?_ si
 refine .st ?_ sc4
 refine .nilCheck ?_
 refine .fa ?_ Gp
 refine .st ?_ sc4
 refine .x (.assign (.z (.ret (?_))))
 refine .shutR (CR.opens c j d n ⟨S.J,S.W,true,false⟩) x ⟨hp.hm,hp.hf,hp.n1,hp.n2⟩ ?_
 exact .ret1 (h1:=.tmp (t:=2) rfl) ⟨_,⟨rfl,rfl⟩,Am.auto⟩
theorem cDone {c j m cc:Nat} {op ov:Bool} {es:Array MapEntry}:Spec Tryz.prog 144 #[.pointer (some ⟨c,0,none⟩)] [pt c (io (some j) op ov m),pt m (.map es cc)] fun F v M=>v=.tuple #[]/\M=pt c (io (some j) false ov m) :: pt m (.map #[] cc) :: F:=by
 refine Spec.intro Tryz.func144 rfl rfl fun B F=>?_
 simp only [Tryz.ntmps144,List.cons_append,List.nil_append,env0,Nat.reduceAdd]
 refine .sr (.move (.nilCheck ?_))
 refine .fa ?_ si
 refine .st ?_ sc4
 refine .y (.move (.nilCheck ?_))
 refine .fa ?_ jt
 refine .ld ?_ wz
 refine .clearM ?_ Aw
 refine .nil ?_
 exact .ret0 ⟨_,⟨rfl,rfl⟩,Am.auto⟩
theorem cRead {c j d n k:Nat} {S:CS} (h5:245<=k) (hkn:k < n):Spec Tryz.prog 212 #[.pointer (some ⟨c,0,none⟩),.int .i64 (k:Int)] [CR c j d n S] fun F v M=>∃ g q el,v=.tuple #[.slice (some ⟨g,0,none⟩) 512 q,.int .i64 0]/\(512<=q/\q<=maxLen/\(S.view k).length=512)/\M=buf g el q (bvs (S.view k)) :: CR c j d n S :: F:=by
 refine Spec.intro Tryz.func212 rfl rfl fun B F=>?_
 simp only [Tryz.ntmps212,List.cons_append,List.nil_append,env0,Nat.reduceAdd]
 refine .openR (CR.opens c j d n S) fun x hp=>?_
 simp only [cL,List.cons_append,List.nil_append]
 obtain ⟨ys,hys,hy5,hcase⟩:=hp.get k
 refine .sr (.assign (.assign (.z (.seq (.sr (.move ?_))))))
 refine .call (hc:=Tryz.call132) (sp:=Oi) (h:=?_)
 rintro _ _ ⟨rfl,rfl⟩
 refine .not (.z ?_)
 refine .condF rfl rfl ?_
 refine .skip (.next (.seq (.sr (.move (.nilCheck ?_)))))
 refine .fa ?_ jt
 refine .ld ?_ wz
 refine .move ?_
 refine .lookOk klI hp.hm Aw P0 ?_
 refine .move ?_
 refine .extract ?_
 refine .cast (d:=18) rfl hys ?_
 refine .extract ?_
 refine .alloc z200 fun b6=>?_
 refine .stArr (cs:=Array.replicate 512 (.int .u8 0)) ?_ yt hy5 (by decide) Array.size_replicate
 refine .assign (.x (.move (.z ?_)))
 refine .cond rfl (fun hb=>?_) (fun hb=>?_)
 ·have hview:S.view k=ys:=by rcases hcase with ⟨h1,h2⟩ | ⟨h1,h2⟩;(unfold CS.view;rw [h1];rfl);(rw [h2] at hb;cases hb)
  refine .sr ?_
  refine .slcArr ?_ Lf (by kernel_rfl)
  refine .assign (.assign (.z ?_))
  refine .ret (.thenRet (?_))
  refine .shutR (CR.opens c j d n S) x hp ?_
  rw [<- hview] at hy5 ⊢
  exact .ret2 (h1:=.tmp (t:=4) rfl) (h2:=.tmp (t:=5) rfl) ⟨_,⟨_,_,_,rfl,⟨Nat.le_refl 512,(by decide:512<=maxLen),hy5⟩,rfl⟩,Am.auto⟩
 ·have hview:S.view k=S.J.view k:=by rcases hcase with ⟨h1,h2⟩ | ⟨h1,h2⟩;(rw [h2] at hb;cases hb);(unfold CS.view;rw [h1];rfl)
  refine .skip (.next (.sr (.move (.nilCheck ?_))))
  refine .fa ?_ wy
  refine .ld ?_ sm
  refine .move ?_
  refine .call (hc:=Tryz.call84) (sp:=P9 (J:=S.J) (n:=n) h5 hkn) (h:=?_)
  rintro _ _ ⟨gb,q,rfl,⟨hq1,hq2,hl5⟩,rfl⟩
  refine .extract (.extract (.assign (.assign (.z (.ret (?_))))))
  rw [<- hview] at hl5 ⊢
  refine .shutR (CR.opens c j d n S) x hp ?_
  exact .ret2 (h1:=.tmp (t:=4) rfl) (h2:=.tmp (t:=5) rfl) ⟨_,⟨_,_,_,rfl,⟨hq1,hq2,hl5⟩,rfl⟩,Am.auto⟩
theorem S0 {c j d n k m cc:Nat} {S:CS} {R:HP} {A:Addr} {xs:aa} (hop:S.op=true) (h5:245<=k) (hkn:k < n) (hR:Reads R (some A) (bvs xs)) (hx:xs.length=m) (hm5:m=512) (hroom:(kget S.W k).isSome=true ∨ S.W.length < 60):Spec Tryz.prog 78 #[.pointer (some ⟨c,0,none⟩),.int .i64 (k:Int),.slice (some A) m cc] [CR c j d n S,R] fun F v M=>v=okV/\M=CR c j d n ⟨S.J,kput S.W k xs,true,S.ov⟩ :: R :: F:=by
 refine Spec.intro Tryz.func78 rfl rfl fun B F=>?_
 simp only [Tryz.ntmps78,List.cons_append,List.nil_append,env0,Nat.reduceAdd]
 subst hm5
 obtain ⟨ab,ao,asp⟩:=A
 have hsp:asp=none:=hR.1
 subst hsp
 refine .openR (CR.opens c j d n S) fun x hp=>?_
 simp only [cL,List.cons_append,List.nil_append]
 obtain ⟨ys,hys,hy5,hcase⟩:=hp.get k
 have hes:x.es.size=S.W.length:=by rw [hp.hm.length,va]
 refine .sr (.assign (.z (.seq (.sr (.move ?_)))))
 refine .call (hc:=Tryz.call133) (sp:=yz) (h:=?_)
 rintro _ _ ⟨rfl,rfl⟩
 refine .cast (d:=12) (u:=.bool true) rfl (cB9 hop) ?_
 refine .not (.z ?_)
 refine .condF rfl rfl ?_
 refine .skip (.next (.seq (.sr (.move (.nilCheck ?_)))))
 refine .fa ?_ wy
 refine .ld ?_ sm
 refine .move ?_
 refine .call (hc:=Tryz.call84) (sp:=P9 (J:=S.J) (n:=n) h5 hkn) (h:=?_)
 rintro _ _ ⟨gb,q,rfl,⟨hq1,hq2,hl5⟩,rfl⟩
 refine .move ?_
 refine .extract (.extract (.assign (.assign (.x (.move ?_)))))
 refine .nei ?_
 refine .move (.gT (.move (.gT ?_)))
 refine .lenS ?_ sl79
 refine .gT ?_
 refine .nei ?_
 refine .pickF (.z ?_)
 refine .condF rfl rfl ?_
 refine .skip (.next (.seq (.sr (.move (.nilCheck ?_)))))
 refine .fa ?_ jt
 refine .ld ?_ wz
 refine .move ?_
 refine .lookOk klI hp.hm Aw P0 ?_
 refine .move ?_
 refine .extract ?_
 refine .cast (d:=37) rfl hys ?_
 refine .extract ?_
 refine .alloc z200 fun b9=>?_
 refine .stArr (cs:=Array.replicate 512 (.int .u8 0)) ?_ yt hy5 (by decide) Array.size_replicate
 refine .assign (.x (.move ?_))
 refine .not ?_
 refine .move ?_
 rcases hcase with ⟨hno,hss⟩ | ⟨hno,hss⟩
 ·refine .cast (d:=41) (u:=.bool false) rfl (congrArg (fun b=>Value.bool (!b)) hss) ?_
  refine .gF (.gF (.gF (.gF (.gF (.gF ?_)))))
  refine .pickF (.z ?_)
  refine .condF rfl rfl ?_
  refine .skip (.next (.seq ?_))
  refine .dr ([pt c (io (some j) S.op S.ov x.m),R]) [8] 9 mixed .autoJ ?_
  refine .tk 0 rfl .move ?_
  refine .tk 1 rfl .nilCheck ?_
  refine .tk 2 rfl (.fa jt) ?_
  refine .tk 3 rfl (.ld wz) ?_
  refine .tk 4 rfl .move ?_
  refine .tk 5 rfl .move ?_
  refine .tk 6 rfl (.toArr Lf) ?_
  refine .tk 7 rfl (Qt.ldAR (i:=0) (us:=bvs xs) yt hR (by rw [List.drop_zero];exact List.take_of_length_le (by rw [ag,hx];exact Nat.le_refl _)) (by rw [ag,hx];exact Nat.le_refl _)) ?_
  refine .on 8 rfl fun hnp=>?_
  refine .upd (k:=(k:Int)) klI hp.hm Aw fun es_1 c_1 hm_1=>?_
  rw [show Value.agg (bvs xs).toArray=arrV xs from rfl,Hd] at hm_1
  refine .nil (.wb hnp ?_)
  refine .fin ?_
  refine .next (.sr (.assign (.z (.ret (?_)))))
  refine .to (A:=pt c (io (some j) S.op S.ov x.m)) (A':=pt c (io (some j) true S.ov x.m)) (fun h hh=>by rw [<- hop];exact hh) ?_
  refine .shutR (CR.opens c j d n ⟨S.J,kput S.W k xs,true,S.ov⟩) ⟨x.m,es_1,c_1⟩ ⟨hm_1,hp.hf.put h5 hkn hx hroom,hp.n1,hp.n2⟩ ?_
  exact .ret1 (h1:=.tmp (t:=6) rfl) ⟨_,⟨rfl,rfl⟩,Am.auto⟩
 ·refine .cast (d:=41) (u:=.bool true) rfl (congrArg (fun b=>Value.bool (!b)) hss) ?_
  have hlt:S.W.length < 60:=by rcases hroom with h | h;(rw [hno] at h;cases h);exact h
  refine .gT (.move (.gT (.nilCheck (.gT ?_))))
  refine .fa ?_ jt
  refine .gT ?_
  refine .ld ?_ wz
  refine .gT ?_
  refine .lenM ?_ Aw
  refine .gT ?_
  refine .geq ?_
  refine .pickT (.z ?_)
  refine .condF rfl (cB9 (by first|simp;done|simp;omega|omega)) ?_
  refine .skip (.next (.seq ?_))
  refine .dr ([pt c (io (some j) S.op S.ov x.m),R]) [8] 9 mixed .autoJ ?_
  refine .tk 0 rfl .move ?_
  refine .tk 1 rfl .nilCheck ?_
  refine .tk 2 rfl (.fa jt) ?_
  refine .tk 3 rfl (.ld wz) ?_
  refine .tk 4 rfl .move ?_
  refine .tk 5 rfl .move ?_
  refine .tk 6 rfl (.toArr Lf) ?_
  refine .tk 7 rfl (Qt.ldAR (i:=0) (us:=bvs xs) yt hR (by rw [List.drop_zero];exact List.take_of_length_le (by rw [ag,hx];exact Nat.le_refl _)) (by rw [ag,hx];exact Nat.le_refl _)) ?_
  refine .on 8 rfl fun hnp=>?_
  refine .upd (k:=(k:Int)) klI hp.hm Aw fun es_1 c_1 hm_1=>?_
  rw [show Value.agg (bvs xs).toArray=arrV xs from rfl,Hd] at hm_1
  refine .nil (.wb hnp ?_)
  refine .fin ?_
  refine .next (.sr (.assign (.z (.ret (?_)))))
  refine .to (A:=pt c (io (some j) S.op S.ov x.m)) (A':=pt c (io (some j) true S.ov x.m)) (fun h hh=>by rw [<- hop];exact hh) ?_
  refine .shutR (CR.opens c j d n ⟨S.J,kput S.W k xs,true,S.ov⟩) ⟨x.m,es_1,c_1⟩ ⟨hm_1,hp.hf.put h5 hkn hx hroom,hp.n1,hp.n2⟩ ?_
  exact .ret1 (h1:=.tmp (t:=6) rfl) ⟨_,⟨rfl,rfl⟩,Am.auto⟩
open Go.Shelf Go.Sort Go.RowKit Go.Maps
def Bc :Go.Shelf.Ren:=⟨fun | 189=>215 | 125=>235 | 257=>247 | 128=>268 | 129=>269 | 294=>276 | 295=>277 | 296=>278 | 297=>279 | 298=>280 | 299=>281 | 216=>282 | 300=>283 | 301=>284 | 328=>301 | 329=>297 | 330=>298 | 331=>302 | 332=>303 | 215=>304 | 343=>314 | n=>n,fun | 28=>26 | 3=>3 | 46=>251 | 0=>0 | 51=>202 | 53=>104 | 4=>4 | 183=>336 | 182=>335 | 131=>102 | 5=>5 | 9=>9 | 218=>357 | 222=>190 | 228=>366 | 229=>293 | n=>n,fun n=>n⟩
theorem He :Lays.n189 Tryz.prog Bc where
 mixed:=by kernel_rfl
 f125:=Tryz.func235.trans (congrArg some (by kernel_rfl))
 f128:=Tryz.func268.trans (congrArg some (by kernel_rfl))
 f129:=Tryz.func269.trans (congrArg some (by kernel_rfl))
 f189:=Tryz.func215.trans (congrArg some (by kernel_rfl))
 f215:=Tryz.func304.trans (congrArg some (by kernel_rfl))
 f216:=Tryz.func282.trans (congrArg some (by kernel_rfl))
 f257:=Tryz.func247.trans (congrArg some (by kernel_rfl))
 f294:=Tryz.func276.trans (congrArg some (by kernel_rfl))
 f295:=Tryz.func277.trans (congrArg some (by kernel_rfl))
 f296:=Tryz.func278.trans (congrArg some (by kernel_rfl))
 f297:=Tryz.func279.trans (congrArg some (by kernel_rfl))
 f298:=Tryz.func280.trans (congrArg some (by kernel_rfl))
 f299:=Tryz.func281.trans (congrArg some (by kernel_rfl))
 f300:=Tryz.func283.trans (congrArg some (by kernel_rfl))
 f301:=Tryz.func284.trans (congrArg some (by kernel_rfl))
 f328:=Tryz.func301.trans (congrArg some (by kernel_rfl))
 f329:=Tryz.func297.trans (congrArg some (by kernel_rfl))
 f330:=Tryz.func298.trans (congrArg some (by kernel_rfl))
 f331:=Tryz.func302.trans (congrArg some (by kernel_rfl))
 f332:=Tryz.func303.trans (congrArg some (by kernel_rfl))
 f343:=Tryz.func314.trans (congrArg some (by kernel_rfl))
 t0:=Tryz.underlying0
 a0:=Tryz.isAgg0
 z0:=Tryz.sizeOf0
 v0:=Tryz.zeroValue0
 t3:=Tryz.underlying3
 a3:=Tryz.isAgg3
 z3:=Tryz.sizeOf3
 v3:=Tryz.zeroValue3
 t4:=Tryz.underlying4
 a4:=Tryz.isAgg4
 z4:=Tryz.sizeOf4
 v4:=Tryz.zeroValue4
 t5:=Tryz.underlying5
 a5:=Tryz.isAgg5
 z5:=Tryz.sizeOf5
 v5:=Tryz.zeroValue5
 t9:=Tryz.underlying9
 a9:=Tryz.isAgg9
 z9:=Tryz.sizeOf9
 v9:=Tryz.zeroValue9
 t28:=Tryz.underlying26
 a28:=Tryz.isAgg26
 z28:=Tryz.sizeOf26
 v28:=Tryz.zeroValue26
 t46:=Tryz.underlying251
 a46:=Tryz.isAgg251
 z46:=Tryz.sizeOf251
 v46:=Tryz.zeroValue251
 t51:=Tryz.underlying202
 a51:=Tryz.isAgg202
 z51:=Tryz.sizeOf202
 v51:=Tryz.zeroValue202
 t53:=Tryz.underlying104
 a53:=Tryz.isAgg104
 z53:=Tryz.sizeOf104
 v53:=Tryz.zeroValue104
 t131:=Tryz.underlying102
 a131:=Tryz.isAgg102
 z131:=Tryz.sizeOf102
 v131:=Tryz.zeroValue102
 t182:=Tryz.underlying335
 a182:=Tryz.isAgg335
 z182:=Tryz.sizeOf335
 v182:=Tryz.zeroValue335
 t183:=Tryz.underlying336
 a183:=Tryz.isAgg336
 z183:=Tryz.sizeOf336
 v183:=Tryz.zeroValue336
 t218:=Tryz.underlying357
 a218:=Tryz.isAgg357
 z218:=Tryz.sizeOf357
 v218:=Tryz.zeroValue357
 t222:=Tryz.underlying190
 a222:=Tryz.isAgg190
 z222:=Tryz.sizeOf190
 v222:=Tryz.zeroValue190
 t228:=Tryz.underlying366
 a228:=Tryz.isAgg366
 z228:=Tryz.sizeOf366
 v228:=Tryz.zeroValue366
 t229:=Tryz.underlying293
 a229:=Tryz.isAgg293
 z229:=Tryz.sizeOf293
 v229:=Tryz.zeroValue293
def mf :Go.Shelf.Ren:=⟨fun | 6=>142 | 8=>214 | 9=>215 | 11=>246 | n=>n,fun | 26=>3 | 28=>219 | 24=>26 | 0=>0 | 3=>3 | 33=>58 | 4=>4 | n=>n,fun n=>n⟩
theorem Ex :SlLaysZI.n6 Tryz.prog mf where
 mixed:=by kernel_rfl
 f6 := ⟨ "slices.Sorted[int]", by decide, Tryz.func142.trans (congrArg some (by kernel_rfl))⟩
 f8 := ⟨ "slices.Collect[int]", by decide, Tryz.func214.trans (congrArg some (by kernel_rfl))⟩
 f11 := ⟨ "slices.AppendSeq[[]int,int]", by decide, Tryz.func246.trans (congrArg some (by kernel_rfl))⟩
 t0:=Tryz.underlying0
 a0:=Tryz.isAgg0
 z0:=Tryz.sizeOf0
 v0:=Tryz.zeroValue0
 t24:=Tryz.underlying26
 a24:=Tryz.isAgg26
 z24:=Tryz.sizeOf26
 v24:=Tryz.zeroValue26
 t26:=Tryz.underlying3
 a26:=Tryz.isAgg3
 z26:=Tryz.sizeOf3
 v26:=Tryz.zeroValue3
 t28:=Tryz.underlying219
 a28:=Tryz.isAgg219
 z28:=Tryz.sizeOf219
 v28:=Tryz.zeroValue219
 i26:=by kernel_rfl
def qi :Go.Shelf.Ren:=⟨fun | 7=>143 | 10=>216 | n=>n,fun | 23=>140 | 26=>3 | 3=>200 | 28=>219 | 0=>0 | 27=>218 | 33=>58 | 4=>4 | n=>n,fun n=>n⟩
theorem Lx :SlLaysZI.n7 Tryz.prog qi where
 mixed:=by kernel_rfl
 f7 := ⟨ "maps.Keys[map[int][512]byte,int,[512]byte]", by decide, Tryz.func143.trans (congrArg some (by kernel_rfl))⟩
 f10 := ⟨ "maps.Keys[map[int][512]byte,int,[512]byte]$1", by decide, Tryz.func216.trans (congrArg some (by kernel_rfl))⟩
 t0:=Tryz.underlying0
 a0:=Tryz.isAgg0
 z0:=Tryz.sizeOf0
 v0:=Tryz.zeroValue0
 t4:=Tryz.underlying4
 a4:=Tryz.isAgg4
 z4:=Tryz.sizeOf4
 v4:=Tryz.zeroValue4
 t23:=Tryz.underlying140
 a23:=Tryz.isAgg140
 z23:=Tryz.sizeOf140
 v23:=Tryz.zeroValue140
 t26:=Tryz.underlying3
 a26:=Tryz.isAgg3
 z26:=Tryz.sizeOf3
 v26:=Tryz.zeroValue3
 t27:=Tryz.underlying218
 a27:=Tryz.isAgg218
 z27:=Tryz.sizeOf218
 v27:=Tryz.zeroValue218
 t28:=Tryz.underlying219
 a28:=Tryz.isAgg219
 z28:=Tryz.sizeOf219
 v28:=Tryz.zeroValue219
 t33:=Tryz.underlying58
 a33:=Tryz.isAgg58
 z33:=Tryz.sizeOf58
 v33:=Tryz.zeroValue58
theorem Ly {b:Nat}:Spec Tryz.prog 143 #[.map (some b)] [] fun F v M=>∃ bm,v=.func (.func 216) #[] #[.pointer (some ⟨bm,0,none⟩)]/\M=pt bm (.cells #[.map (some b)] 140 (0,0)) :: F:=by
 refine Spec.intro Tryz.func143 rfl rfl fun B F=>?_
 simp only [Tryz.ntmps143,List.cons_append,List.nil_append,env0,Nat.reduceAdd]
 refine .sr ?_
 refine .box fun b1=>?_
 refine .assign (.x ?_)
 refine .makeFuncB ?_
 refine .assign (.z (.ret (?_)))
 exact .ret1 (h1:=.tmp (t:=2) rfl) ⟨_,⟨_,rfl,rfl⟩,Am.auto⟩
theorem S3 (m:Nat):AnyZI.SortsIn Tryz.prog mf Fence.wide m :=
 ⟨fun blk off cap ss W hH hblk hsz=>callsIn_wide.2 (Any.slices_Sort_int He blk off cap ss W hH hblk hsz),
  fun p cap W=>callsIn_wide.2 (Any.slices_Sort_int_none He p cap W)⟩
theorem Ey {b c bm:Nat} {es:Array MapEntry} {kvs:List (Int×Value)} (hm:MapIs intE es c kvs) (hl:kvs.length<=1000) (hr:∀ p∈kvs,-9223372036854775808<=p.1/\p.1<=9223372036854775807) :
  Spec Tryz.prog 142 #[.func (.func 216) #[] #[.pointer (some ⟨bm,0,none⟩)]] [pt bm (.cells #[.map (some b)] 140 (0,0)),pt b (.map es c)] fun F v M=>∃ ss:List Int,ss.Perm (kvs.map (·.1))/\M=rowR 3 1 v ss.length (ints ss) :: pt bm (.cells #[.map (some b)] 140 (0,0)) :: pt b (.map es c) :: F:=by
 intro B F w hs
 have hbm:=hs.get .here
 have hb:=hs.get (.there .here)
 obtain ⟨D,hown,hsize,hperm⟩:=Et (P:=Tryz.prog) (kt:=3) (by kernel_rfl) hb hm (by unfold maxLen;omega) hr
 have hseq:SeqGives Fence.wide 2 Tryz.prog 216 #[.pointer (some ⟨bm,0,none⟩)] encZ (fun ss=>ss.Perm (Go.intKeys D)) (Maps.size D) w :=
  AnyZI.keys_gives (ρ:=qi) { Lx with } Fence.wide 2 trivial rfl (by omega) bm b kvs.length D w (Array.getElem?_eq_some_iff.1 hbm).1 (by rw [ms hbm];rfl) hown
 have cS:=AnyZI.sorted_in Ex Fence.wide 5 trivial trivial trivial trivial rfl (by omega) (S3 _) (enters_of Tryz.func215 (by kernel_rfl) rfl) 216 #[.pointer (some ⟨bm,0,none⟩)] trivial (enters_of Tryz.func216 (by kernel_rfl) rfl) _ _ (by rw [hsize];unfold maxLen;omega) (by rw [hsize];omega) w hseq
 change CallsIn _ _ Tryz.prog 142 _ _ _ at cS
 refine ((callsIn_wide (n:=5)).1 cS).mono ?_
 rintro e w' ⟨v,ss,rfl,hS,hrow,hnil,hbel⟩
 refine ⟨v,_,rfl,⟨ss.mergeSort fun x y=>decide (x<=y),(List.mergeSort_perm ss _).trans (hS.trans hperm),rfl⟩,?_⟩
 rw [List.length_mergeSort]
 exact hs.newRow hbel hrow
end Go.Proofs.YtmihjfcbofejoaaGreatDoor
end
section
namespace Go.Proofs.YtmihjfcbofejoaaGreatDoor
open Go
theorem bdCh (k:Int) (b:Nat):av Tryz.prog 222 [(0,.int .i64 k),(1,.slice (some ⟨b,0,none⟩) 512 512)] #[.int .i64 k,.slice (some ⟨b,0,none⟩) 512 512]:=fun w=>by kernel_rfl
theorem bsCh (k:Int) (b:Nat):bc Tryz.prog 216 1 [(0,.agg #[.int .i64 k,.slice (some ⟨b,0,none⟩) 512 512])] 222 #[.int .i64 k,.slice (some ⟨b,0,none⟩) 512 512]:=fun w=>by kernel_rfl
theorem mg :∀ (a b:List CV),cr (a++b)=cr a++cr b
 | [],b=>rfl
 | c :: a,b=>by simp only [List.cons_append,cr,mg a b]
structure KI (W:List (Nat×aa)) (ss:List Int) (i:Int) (cvs:List CV) (bl:List (Value×aa)):Prop where
 lo:0<=i
 hi:i<=ss.length
 keys:cvs.map (fun c=>(c.k:Int))=ss.take i.toNat
 are:∀ c∈cvs,kget W c.k=some c.xs
 lie:Lie bl cvs
theorem KI.len {W:List (Nat×aa)} {ss:List Int} {i:Int} {cvs:List CV} {bl:List (Value×aa)} (h:KI W ss i cvs bl):cvs.length=i.toNat:=by
 have:=congrArg List.length h.keys
 have:=h.lo
 have:=h.hi
 simp at *
 omega
theorem KI.step {W:List (Nat×aa)} {ss:List Int} {i:Int} {cvs:List CV} {bl:List (Value×aa)} (h:KI W ss i cvs bl) (hlt:i.toNat < ss.length) {k b:Nat} {xs:aa} (hk:ss[i.toNat]=(k:Int)) (hx:kget W k=some xs) (h5:xs.length=512) :
  KI W ss (i+1) (cvs++[⟨k,b,512,xs⟩]) ((.slice (some ⟨b,0,none⟩) xs.length 512,xs) :: bl):=by
 have h0:=h.lo
 refine ⟨by omega,by omega,?_,fun c hc=>?_,fun c hc=>?_⟩
 ·rw [List.map_append,h.keys,show (i+1).toNat=i.toNat+1 from by omega,List.take_succ_eq_append_getElem hlt,hk];rfl
 ·rcases List.mem_append.1 hc with hc | hc
  ·exact h.are c hc
  ·rw [List.mem_singleton] at hc;subst hc;exact hx
 ·rcases List.mem_append.1 hc with hc | hc
  ·exact List.mem_cons_of_mem _ (h.lie c hc)
  ·rw [List.mem_singleton] at hc;subst hc;rw [h5];exact List.mem_cons_self ..
theorem pb {W:List (Nat×aa)} (h:(W.map (·.1)).Nodup):W=(W.map (·.1)).map fun k=>(k,(kget W k).getD []):=by
 rw [List.map_map]
 conv=>lhs;rw [<- List.map_id W]
 apply List.map_congr_left
 intro p hp
 have:=(fh h).2 (show (p.1,p.2)∈W from hp)
 simp [this]
theorem KI.perm {W:List (Nat×aa)} {ss:List Int} {i:Int} {cvs:List CV} {bl:List (Value×aa)} (h:KI W ss i cvs bl) (hi:i=ss.length) (hs:ss.Perm ((wkv W).map (·.1))) (hn:(W.map (·.1)).Nodup):(cvs.map CV.pair).Perm W:=by
 have h1:(cvs.map CV.pair).map (·.1)=(ss.map Int.toNat):=by
  have h2:=h.keys
  rw [hi,Int.toNat_natCast,List.take_length] at h2
  rw [<- h2,List.map_map,List.map_map]
  apply List.map_congr_left
  intro c _
  simp [CV.pair]
 have h3:(ss.map Int.toNat).Perm (W.map (·.1)):=by
  refine (hs.map Int.toNat).trans (List.Perm.of_eq ?_)
  rw [List.map_map,wkv,List.map_map]
  apply List.map_congr_left
  intro p _
  simp
 have h4:(cvs.map CV.pair)=((cvs.map CV.pair).map (·.1)).map fun k=>(k,(kget W k).getD []):=by
  rw [List.map_map,List.map_map]
  apply List.map_congr_left
  intro c hc
  simp [CV.pair,h.are c hc]
 rw [h4,pb hn,<-pb hn,h1]
 refine (h3.map _).trans (List.Perm.of_eq ?_)
 exact (pb hn).symm
theorem Fit.perm {n:Nat} {a b:List (Nat×aa)} (h:Fit n b) (hp:a.Perm b):Fit n a:=⟨fun p hp'=>h.home p (hp.mem_iff.1 hp'),by rw [hp.length_eq];exact h.few,(hp.map _).nodup_iff.2 h.apart⟩
theorem Cp {c j d n:Nat} {S:CS} (hop:S.op=true):Spec Tryz.prog 82 #[.pointer (some ⟨c,0,none⟩)] [CR c j d n S] fun F v M=>∃ L:List (Nat×aa),L.Perm S.W/\Fit n S.W/\Fit n S.J.ch/\v=okV/\M=CR c j d n ⟨S.J.commits L,[],false,S.ov⟩ :: F:=by
 refine Spec.intro Tryz.func82 rfl rfl fun B F=>?_
 simp only [Tryz.ntmps82,List.cons_append,List.nil_append,env0,Nat.reduceAdd]
 refine .openR (CR.opens c j d n S) fun x hp=>?_
 simp only [cL,List.cons_append,List.nil_append]
 have hfew:=hp.hf.few
 refine .fact (A:=JR j d n S.J) (fun h hh=>((JR.opens j d n S.J).to h hh).elim fun x hx=>hx.1.hf) fun hjf=>?_
 have hwl:=va S.W
 have hn2:=hp.n2
 have hrange:∀ p∈wkv S.W,-9223372036854775808<=p.1/\p.1<=9223372036854775807:=by
  intro p hp'
  obtain ⟨q,hq,rfl⟩:=List.mem_map.1 hp'
  have:=(hp.hf.home q hq).2.1
  constructor<;>simp only<;>omega
 refine .sr (.assign (.z (.seq (.sr (.move ?_)))))
 refine .call (hc:=Tryz.call133) (sp:=yz) (h:=?_)
 rintro _ _ ⟨rfl,rfl⟩
 refine .cast (d:=8) (u:=.bool true) rfl (cB9 hop) ?_
 refine .not (.z ?_)
 refine .condF rfl rfl ?_
 refine .skip (.next (.sr (.assign (.z (.seq (.sr (.move ?_)))))))
 refine .nilCheck ?_
 refine .fa ?_ jt
 refine .ld ?_ wz
 refine .call (hc:=Tryz.call143) (sp:=Ly) (h:=?_)
 rintro _ _ ⟨bm,rfl,rfl⟩
 refine .call (hc:=Tryz.call142) (sp:=Ey (c:=x.c) hp.hm (by omega) hrange) (h:=?_)
 rintro vs _ ⟨ss,hss,rfl⟩
 refine .fact (ae (el:=3) (size:=1) (v:=vs) (k:=ss.length) (xs:=ints ss)) (fun ⟨A,ca,hva,hR,hA1,hA2,hA3⟩=>?_)
 subst hva
 have hsl:ss.length=S.W.length:=by rw [hss.length_eq,List.length_map,hwl]
 refine .lenS ?_ sl26
 refine .move (.z (.block ?_))
 refine .blobsNil ?_
 refine .emp (rowR.nil (e:=222) (size:=2) _) ?_
 refine .loopA (σ:=Int×Value×List CV×List (Value×aa)) (fun s=>[(0,.pointer (some ⟨c,0,none⟩)),(3,s.2.1),(15,.slice A ss.length ca),(16,.int .i64 (ss.length:Int)),(17,.int .i64 s.1)]) (fun s=>[rowR 222 2 s.2.1 s.1.toNat (cr s.2.2.1),bi s.2.2.2,rowR 3 1 (.slice A ss.length ca) ss.length (ints ss),pt c (io (some j) S.op S.ov x.m),pt x.m (.map x.es x.c),JR j d n S.J]++F) (fun s=>KI S.W ss s.1 s.2.2.1 s.2.2.2) (fun s=>((ss.length:Int) - s.1).toNat) (0,.slice none 0 0,[],[]) ⟨by omega,by omega,rfl,(fun c hc=>by cases hc),(fun c hc=>by cases hc)⟩ ?_
 rintro ⟨i,v,cvs,bl⟩ hi
 refine .sr ?_
 refine .lss (.z (.seq ?_))
 refine .cond rfl (fun hb=>?_) (fun hb=>?_)
 ·have hlt:i < (ss.length:Int):=of_decide_eq_true hb
  have hlo:=hi.lo
  have hil:i.toNat < ss.length:=by omega
  rcases A with _ | ⟨ab,ao,asp⟩
  ·exact absurd hR (fun h=>by have h2:ints ss=[]:=h;simp [ints] at h2;subst h2;simp at hil)
  have hsp:asp=none:=hR.1
  subst hsp
  obtain ⟨k,hk,xs,hx⟩:∃ k:Nat,ss[i.toNat]=(k:Int)/\∃ xs,kget S.W k=some xs:=by
   have h1:=hss.mem_iff.1 (List.getElem_mem hil)
   obtain ⟨q,hq,hqs⟩:=List.mem_map.1 h1
   obtain ⟨p,hp',rfl⟩:=List.mem_map.1 hq
   exact ⟨p.1,hqs.symm,p.2,(fh hp.hf.apart).2 hp'⟩
  have hhome:=hp.hf.home _ ((fh hp.hf.apart).1 hx)
  have hx5:xs.length=512:=hhome.2.2
  have hgx:(kget (wkv S.W) (k:Int)).getD (.agg (Array.replicate 512 (.int .u8 0)))=arrV xs:=by rw [Hc,hx];rfl
  refine .skip (.next (.seq (.block (.sr ?_))))
  refine .idx1 ?_ so26
  refine .ldR ?_ sc3 hR (Co hil)
  refine .cast (d:=20) rfl (cI9 hk) ?_
  refine .assign (.x (.move (.nilCheck ?_)))
  refine .fa ?_ jt
  refine .ld ?_ wz
  refine .move ?_
  refine .look klI hp.hm Aw P0 ?_
  refine .cast (d:=26) rfl hgx ?_
  refine .alloc z200 fun b6=>?_
  refine .stArr (cs:=Array.replicate 512 (.int .u8 0)) ?_ yt hx5 (by decide) Array.size_replicate
  refine .y (.move (.move ?_))
  refine .slcArr ?_ Lf (by kernel_rfl)
  refine .build ?_ (bdCh _ _)
  refine .buildS (fun b31=>?_) (bsCh _ _)
  refine .append (m:=1) Ld (by decide) (by repeat (first | exact .here | apply Rem.there | apply Repl.there | apply Mem.there)) Reads.pt (by repeat (first | exact .here | apply Rem.there | apply Repl.there | apply Mem.there)) rfl (by simp [Value.single]) (by unfold maxLen;omega) (by omega) ⟨_,z222,rfl⟩ (fun v' hv'=>?_)
  refine .assign (.nil (.blockNormal (.next (.region ?_))))
  refine .add ?_
  refine .move (.nil ?_)
  refine .blobsAdd (bl:=bl) (g:=b6) (k:=512) (xs:=xs) (by rw [hx5];exact Nat.le_refl _) ?_
  refine .to (A:=rowR 222 2 v' (i.toNat+1) (cr cvs++[.int .i64 (k:Int),.slice (some ⟨b6,0,none⟩) 512 512])) (A':=rowR 222 2 v' (i+1).toNat (cr (cvs++[⟨k,b6,512,xs⟩]))) (fun h hh=>by rw [show (i+1).toNat=i.toNat+1 from by omega,mg];exact hh) ?_
  exact .back (i+1,v',cvs++[⟨k,b6,512,xs⟩],(.slice (some ⟨b6,0,none⟩) xs.length 512,xs) :: bl) (hi.step hil hk hx hx5) (by show ((ss.length:Int) - (i+1)).toNat < ((ss.length:Int) - i).toNat;omega)
 ·have hge:¬ i < (ss.length:Int):=of_decide_eq_false hb
  have hlo:=hi.lo
  have hhi:=hi.hi
  have hie:i=(ss.length:Int):=by omega
  have hper:=hi.perm hie hss hp.hf.apart
  have hfit:=hp.hf.perm hper
  have hcl:cvs.length=i.toNat:=hi.len
  have hlie:=hi.lie
  rw [<- hcl]
  refine .fact (ae (el:=222) (size:=2) (v:=v) (k:=cvs.length) (xs:=cr cvs)) (fun ⟨A2,c2,hv2,hR2,hk2,hc2,hl2⟩=>?_)
  subst hv2
  refine .exit (.thenExit (.thenExit (.blockExit (?_))))
  refine .next (.sr (.move ?_))
  refine .call (hc:=Tryz.call144) (sp:=cDone) (h:=?_)
  rintro _ _ ⟨rfl,rfl⟩
  refine .x (.move (.nilCheck ?_))
  refine .fa ?_ wy
  refine .ld ?_ sm
  refine .move ?_
  refine .call (hc:=Tryz.call145) (sp:=Qd (n:=n) (J:=S.J) hR2 rfl hlie hfit) (h:=?_)
  rintro _ _ ⟨rfl,rfl⟩
  simp only [List.cons_append,List.nil_append]
  refine .assign (.z (.ret (?_)))
  refine .shutR (CR.opens c j d n ⟨S.J.commits (cvs.map CV.pair),[],false,S.ov⟩) ⟨x.m,#[],x.c⟩ ⟨MapIs.empty _ _,Fit.nil n,hp.n1,hp.n2⟩ ?_
  exact .ret1 (h1:=.tmp (t:=2) rfl) ⟨_,⟨_,hper,hp.hf,hjf,rfl,rfl⟩,Am.auto⟩
def plc (size:Nat) (big:Bool) (i:Nat):Nat:=if big then size - 1 - i else i
theorem Cq (xs:aa) (p size:Nat) (big:Bool) (v:Nat) {j:Nat} (hj:j < p ∨ p+size<=j):∀ i,i<=size->(putN xs p size big v i)[j]?=xs[j]?
 | 0,_=>rfl
 | i+1,hi=>by
  rw [putN,List.getElem?_set_ne,Cq xs p size big v hj i (by omega)]
  cases big<;>simp<;>omega
theorem Hf (xs:aa) (p size:Nat) (big:Bool) (v:Nat) (h:p+size<=xs.length) {k:Nat} (hk:k < size):∀ i,k < i->i<=size->(putN xs p size big v i)[p+plc size big k]?=some (UInt8.ofNat (v >>> (8 * k)))
 | i+1,hki,hi=>by
  rw [putN]
  by_cases hk2:k=i
  ·subst hk2
   exact List.getElem?_set_self (by rw [gw];split<;>omega)
  ·rw [List.getElem?_set_ne]
   ·exact Hf xs p size big v h hk i (by omega) (by omega)
   ·unfold plc
    cases big<;>simp<;>omega
theorem Bd (xs:aa) (p size:Nat) (big:Bool) (v:Nat) {j:Nat} (hj:j < p ∨ p+size<=j):(put xs p size big v)[j]?=xs[j]?:=Cq xs p size big v hj size (Nat.le_refl _)
theorem S4 {xs:aa} {p size:Nat} {big:Bool} {v:Nat} (h:p+size<=xs.length) {k:Nat} (hk:k < size):(put xs p size big v).getD (p+plc size big k) 0=UInt8.ofNat (v >>> (8 * k)):=by
 rw [List.getD_eq_getElem?_getD]
 unfold put
 rw [Hf xs p size big v h hk size hk (Nat.le_refl _)]
 rfl
theorem gz {xs:aa} {p size:Nat} {big:Bool} {v:Nat} (h:p+size<=xs.length) (hv:v < 256 ^ size):ax (seg (put xs p size big v) p size big)=v:=by
 have hl:p+size<=(put xs p size big v).length:=by rw [an];exact h
 have key:∀ i,i<=size->ax ((seg (put xs p size big v) p size big).take i)=v / 256 ^ (size - i):=by
  intro i
  induction i with
  | zero=>intro _;rw [List.take_zero,Nat.sub_zero,Nat.div_eq_of_lt hv];rfl
  | succ i ih =>
   intro hi
   rw [jq hl (by omega),ih (by omega)]
   have e:(if big then i else size - 1 - i)=plc size big (size - 1 - i):=by
    unfold plc
    cases big<;>simp
    omega
   rw [e,S4 h (by omega),UInt8.toNat_ofNat',Nat.shiftRight_eq_div_pow]
   have h2:(2:Nat) ^ (8 * (size - 1 - i))=256 ^ (size - (i+1)):=by
    rw [Nat.pow_mul,show size - 1 - i=size - (i+1) from by omega]
   have h3:(256:Nat) ^ (size - i)=256 ^ (size - (i+1)) * 256:=by
    rw [show size - i=size - (i+1)+1 from by omega,Nat.pow_succ]
   rw [h2,h3,<-Nat.div_div_eq_div_mul]
   have:=Nat.div_add_mod (v / 256 ^ (size - (i+1))) 256
   omega
 have h1:=key size (Nat.le_refl _)
 rw [Nat.sub_self,Nat.pow_zero,Nat.div_one,List.take_of_length_le (by rw [lz hl];exact Nat.le_refl _)] at h1
 exact h1
theorem w8 {xs ys:aa} {p size:Nat} {big:Bool} (h:∀ j,p<=j->j < p+size->xs[j]?=ys[j]?):seg xs p size big=seg ys p size big:=by
 have:(xs.drop p).take size=(ys.drop p).take size:=by
  apply List.ext_getElem?
  intro j
  rw [List.getElem?_take,List.getElem?_take]
  split
  ·rw [List.getElem?_drop,List.getElem?_drop]
   exact h _ (by omega) (by omega)
  ·rfl
 unfold seg
 rw [this]
theorem ah {xs:aa} {p size q size':Nat} {big big':Bool} {v:Nat} (h:q+size'<=p ∨ p+size<=q):seg (put xs p size big v) q size' big'=seg xs q size' big' :=
 w8 fun j h1 h2=>Bd xs p size big v (by omega)
theorem Hg {xs ys:aa} {k:Nat} (h:∀ j,j < k->xs[j]?=ys[j]?):xs.take k=ys.take k:=by
 apply List.ext_getElem?
 intro j
 rw [List.getElem?_take,List.getElem?_take]
 split
 ·exact h _ (by assumption)
 ·rfl
theorem Cr {xs:aa} {p size k:Nat} {big:Bool} {v:Nat} (h:k<=p):(put xs p size big v).take k=xs.take k:=Hg fun j hj=>Bd xs p size big v (by omega)
end Go.Proofs.YtmihjfcbofejoaaGreatDoor
end
