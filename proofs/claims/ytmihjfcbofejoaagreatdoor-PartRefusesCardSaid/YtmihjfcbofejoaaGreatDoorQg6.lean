/- A part of the proof of ev: texts of this work put together. -/
import Derived.Test.YtmihjfcbofejoaaGreatDoorQg5
import Derived.KernelRfl
import Derived.Shelf.SlMaps.Clone
set_option linter.unusedVariables false
set_option linter.unusedSimpArgs false
set_option linter.unusedSectionVars false
section
namespace Go.Proofs.YtmihjfcbofejoaaGreatDoor
open Go
theorem Ez :nv Tryz.prog 86=true:=by kernel_rfl
theorem P4 :ae Tryz.prog 145 2 2=true:=by kernel_rfl
theorem tx :ae Tryz.prog 145 3 3=true:=by kernel_rfl
theorem iv :ae Tryz.prog 145 4 4=true:=by kernel_rfl
theorem tz :ai Tryz.prog 143=true:=by kernel_rfl
theorem E0 :Tryz.prog.underlying 143=some (.slice 151):=by kernel_rfl
theorem xz :ae Tryz.prog 151 0 0=true:=by kernel_rfl
theorem Bl :aq Tryz.prog 143 151 6 64=true:=by kernel_rfl
theorem z44 :a6 Tryz.prog 44=some (#[.int .i64 0,.int .i64 0,.int .i64 0,.int .i64 0,.slice none 0 0]):=by kernel_rfl
theorem z151 :a6 Tryz.prog 151=some (#[.int .i64 0,.int .i64 0,.int .i64 0,.int .i64 0,.slice none 0 0,.int .i64 0]):=by kernel_rfl
structure SRow where
 b:Bt
 s:Value
 k:Nat
def SRow.v (x:SRow):List Value:=x.b.v x.s++[.int .i64 ((x.k:Nat):Int)]
theorem SRow.v_len (x:SRow):x.v.length=6:=rfl
structure SRowOk (os:List (Nat×Obj)) (x:SRow):Prop where
 at':∃ A c,x.s=.slice (some A) x.b.recs.length c/\Reads (frz os) (some A) x.b.rv
 pos:0 < x.b.recs.length
 len:x.b.recs.length<=10000
 rng:(0<=x.b.base/\x.b.base<=1125899906842624)/\1<=x.b.span/\x.b.span<=100
def sizR :List SRow->Nat
 | []=>0
 | x :: l=>x.k+sizR l
theorem Bm (l m:List SRow):sizR (l++m)=sizR l+sizR m:=by
 induction l with
 | nil=>simp [sizR]
 | cons r l ih=>simp only [List.cons_append,sizR,ih];omega
def x6 (base:Int) (l:List SRow):Int:=match l.getLast? with
 | some x=>x.b.base+x.b.span
 | none=>base
def sgO (f:Nat) (path:ad) (base:Int) (rows:List SRow) (u:Value):Obj:=.cells #[.pointer (some ⟨f,0,none⟩),sv path,.int .i64 base,.int .i64 ((sizR rows:Nat):Int),u] 145 (0,0)
theorem Ns {base:Int}:Spec Tryz.prog 99 #[.int .i64 base] [] fun F v M=>v=.bool (decide (0<=base) && decide (base<=1125899906842624))/\M=F:=by
 refine Spec.intro Tryz.func99 rfl rfl fun B F=>?_
 simp only [Tryz.ntmps99,List.cons_append,List.nil_append,env0,Nat.reduceAdd]
 refine .sr (.assign (.x (.move ?_)))
 refine .geq ?_
 refine .move ?_
 refine .split (t:=5) rfl (fun hb=>?_) (fun hb=>?_)
 ·refine .gT (.move (.gT ?_))
  refine .leq ?_
  refine .pickT (.assign (.z (.ret (?_))))
  exact .ret1 (h1:=.tmp (t:=2) rfl) ⟨_,⟨by rw [show decide (0<=base)=true from hb,Bool.true_and],rfl⟩,Am.auto⟩
 ·refine .gF (.gF (.pickF (.assign (.z (.ret (?_))))))
  exact .ret1 (h1:=.tmp (t:=2) rfl) ⟨_,⟨by rw [show decide (0<=base)=false from hb,Bool.false_and],rfl⟩,Am.auto⟩
theorem Iw {s f:Nat} {path:ad} {base:Int} {rows:List SRow} {u:Value}:Spec Tryz.prog 50 #[.pointer (some ⟨s,0,none⟩)] [pt s (sgO f path base rows u),rowR 151 6 u rows.length (rows.flatMap SRow.v)] fun F v M=>v=.int .i64 base/\M=pt s (sgO f path base rows u) :: rowR 151 6 u rows.length (rows.flatMap SRow.v) :: F:=by
 refine Spec.intro Tryz.func50 rfl rfl fun B F=>?_
 simp only [Tryz.ntmps50,List.cons_append,List.nil_append,env0,Nat.reduceAdd]
 refine .sr (.assign (.z (.seq (.sr (.move ?_)))))
 refine .eqNil ?_ Ez
 refine .z ?_
 refine .condF rfl rfl ?_
 refine .skip (.next (.sr (.move (.nilCheck ?_))))
 refine .fa ?_ P4
 refine .ld ?_ sc3
 refine .assign (.z (.ret (?_)))
 exact .ret1 (h1:=.tmp (t:=2) rfl) ⟨_,⟨rfl,rfl⟩,Am.auto⟩
theorem P5 {s f:Nat} {path:ad} {base:Int} {rows:List SRow} {u:Value}:Spec Tryz.prog 44 #[.pointer (some ⟨s,0,none⟩)] [pt s (sgO f path base rows u),rowR 151 6 u rows.length (rows.flatMap SRow.v)] fun F v M=>v=.int .i64 ((sizR rows:Nat):Int)/\M=pt s (sgO f path base rows u) :: rowR 151 6 u rows.length (rows.flatMap SRow.v) :: F:=by
 refine Spec.intro Tryz.func44 rfl rfl fun B F=>?_
 simp only [Tryz.ntmps44,List.cons_append,List.nil_append,env0,Nat.reduceAdd]
 refine .sr (.assign (.z (.seq (.sr (.move ?_)))))
 refine .eqNil ?_ Ez
 refine .z ?_
 refine .condF rfl rfl ?_
 refine .skip (.next (.sr (.move (.nilCheck ?_))))
 refine .fa ?_ tx
 refine .ld ?_ sc3
 refine .assign (.z (.ret (?_)))
 exact .ret1 (h1:=.tmp (t:=2) rfl) ⟨_,⟨rfl,rfl⟩,Am.auto⟩
theorem Ix {s f:Nat} {path:ad} {base:Int} {rows:List SRow} {u:Value} {os:List (Nat×Obj)} (hok:∀ x∈rows,SRowOk os x) (hl:rows.length<=100000):Spec Tryz.prog 49 #[.pointer (some ⟨s,0,none⟩)] [pt s (sgO f path base rows u),rowR 151 6 u rows.length (rows.flatMap SRow.v)] fun F v M=>v=.int .i64 (x6 base rows)/\M=pt s (sgO f path base rows u) :: rowR 151 6 u rows.length (rows.flatMap SRow.v) :: F:=by
 refine Spec.intro Tryz.func49 rfl rfl fun B F=>?_
 simp only [Tryz.ntmps49,List.cons_append,List.nil_append,env0,Nat.reduceAdd]
 refine .fact (ah (el:=151) (size:=6) (k:=rows.length) (v:=u) (xs:=rows.flatMap SRow.v)) fun ⟨A,c,hu,hR,_,_,_⟩=>?_
 subst hu
 refine .sr (.assign (.z (.seq (.sr (.move ?_)))))
 refine .eqNil ?_ Ez
 refine .move (.gT (.move (.gT (.nilCheck (.gT ?_)))))
 refine .fa ?_ iv
 refine .gT ?_
 refine .ld ?_ tz
 refine .gT ?_
 refine .lenS ?_ E0
 refine .gT ?_
 refine .eqi ?_
 refine .pickF (.z ?_)
 refine .cond rfl (fun hb=>?_) (fun hb=>?_)
 ·have h0:rows=[]:=List.eq_nil_of_length_eq_zero (by have h:((rows.length:Nat):Int)=0:=of_decide_eq_true hb;omega)
  refine .sr (.move ?_)
  refine .call (hc:=Tryz.call50) (sp:=Iw) (h:=?_)
  rintro _ _ ⟨rfl,rfl⟩
  refine .assign (.z ?_)
  refine .ret (.thenRet (?_))
  exact .ret1 (h1:=.tmp (t:=2) rfl) ⟨_,⟨by rw [h0];rfl,rfl⟩,Am.auto⟩
 ·have hpos:0 < rows.length:=by have h:¬ ((rows.length:Nat):Int)=0:=of_decide_eq_false hb;omega
  obtain ⟨ab,ao,rfl⟩:∃ ab ao,A=some ⟨ab,ao,none⟩:=by
   cases A with
   | none =>
    have h0:rows.flatMap SRow.v=[]:=hR
    have h1:=bc SRow.v_len rows
    rw [h0] at h1
    simp at h1
    omega
   | some a =>
    obtain ⟨x,y,z⟩:=a
    have:z=none:=hR.1
    subst this
    exact ⟨x,y,rfl⟩
  obtain ⟨x,hx⟩:∃ x,rows[rows.length - 1]?=some x:=⟨_,List.getElem?_eq_getElem (by omega)⟩
  have hxok:=hok x (List.mem_of_getElem? hx)
  obtain ⟨A1,c1,hxs,_⟩:=hxok.at'
  have hrng:=hxok.rng
  have hnx:x6 base rows=x.b.base+x.b.span:=by unfold x6;rw [List.getLast?_eq_getElem?,hx]
  have hus:((rows.flatMap SRow.v).drop ((rows.length - 1) * 6)).take 5=x.b.v (.slice (some A1) x.b.recs.length c1):=by
   have h1:=congrArg (List.take 5) (il SRow.v_len _ _ _ hx)
   rw [List.take_take] at h1
   rw [<- hxs]
   exact h1
  have hfit:(rows.length - 1) * 6+5<=(rows.flatMap SRow.v).length:=by
   have:=kj SRow.v_len (l:=rows) (i:=rows.length - 1) (by omega)
   omega
  refine .skip (.next (.seq ?_))
  refine .dr ([pt s (sgO f path base rows (.slice (some ⟨ab,ao,none⟩) rows.length c)),rowR 151 6 (.slice (some ⟨ab,ao,none⟩) rows.length c) rows.length (rows.flatMap SRow.v)]) [14] 15 mixed .autoJ ?_
  refine .tk 0 rfl .move ?_
  refine .tk 1 rfl .nilCheck ?_
  refine .tk 2 rfl (.fa iv) ?_
  refine .tk 3 rfl (.ld tz) ?_
  refine .tk 4 rfl .move ?_
  refine .tk 5 rfl .nilCheck ?_
  refine .tk 6 rfl (.fa iv) ?_
  refine .tk 7 rfl (.ld tz) ?_
  refine .tk 8 rfl (.lenS E0) ?_
  refine .tk 9 rfl .sub ?_
  refine .tk 10 rfl (.idx Bl) ?_
  refine .tk 11 rfl ((Qt.fa xz).eq (congrArg (fun z=>Value.pointer (some ⟨ab,z,none⟩)) (show ao+(((rows.length:Nat):Int) - 1).toNat * 6+0=ao+(rows.length - 1) * 6 by omega))) ?_
  refine .tk 12 rfl (Qt.ldAR (i:=(rows.length - 1) * 6) gj hR hus hfit) ?_
  refine .on 13 rfl fun hnp=>?_
  refine .alloc z44 fun b3=>?_
  refine .nil (.wa hnp ?_)
  refine .on 14 rfl fun hnp=>?_
  refine .stV ?_ gj
  refine .nil (.wb hnp ?_)
  refine .fin ?_
  refine .next (.sr ?_)
  refine .fa ?_ vi
  refine .ld ?_ sc3
  refine .fa ?_ qa
  refine .ld ?_ sc3
  refine .add ?_
  refine .assign (.z (.ret (?_)))
  exact .ret1 (h1:=.tmp (t:=2) rfl) ⟨_,⟨by rw [hnx],rfl⟩,Am.auto⟩
theorem S4 :a8 Tryz.prog 37 0 [] 95 #[]:=fun w=>by kernel_rfl
theorem Bn {g el size:Nat}:∀ h,pt g (.cells #[] el (0,0)) h->rowR el size (.slice (some ⟨g,0,none⟩) 0 0) 0 [] h:=by
 intro h hh
 unfold pt at hh
 unfold rowR
 exact ⟨by simp,.inr ⟨g,0,#[],rfl,hh,Nat.le_refl _,Nat.zero_le _,by simp,by simp⟩⟩
theorem pz {el size k:Nat} {v:Value} {xs:List Value} (hk:0 < k):∀ h,rowR el size v k xs h->∃ x:Nat×Nat×Array Value,(v=.slice (some ⟨x.1,0,none⟩) k x.2.1/\x.2.2.toList.take xs.length=xs)/\pt x.1 (.cells x.2.2 el (0,0)) h:=by
 intro h hh
 unfold rowR at hh
 obtain ⟨h1,h2⟩:=hh
 rcases h2 with ⟨_,h0⟩ | ⟨g,cap,cur,hv,h3,h4,h5,h6,h7⟩
 ·omega
 ·refine ⟨(g,cap,cur),⟨hv,?_⟩,?_⟩
  ·rw [h1];exact h7
  ·unfold pt;exact h3
theorem Iy (l:List Rc):∀ u∈l.flatMap Rc.v,Value.single u=true:=by
 intro u hu
 obtain ⟨r,_,hu⟩:=List.mem_flatMap.1 hu
 unfold Rc.v at hu
 simp only [List.mem_cons,List.not_mem_nil,or_false] at hu
 rcases hu with rfl | rfl | rfl | rfl | rfl | rfl<;>rfl
theorem zn {R:HP} {A:Addr} {c:Nat} {l:List Rc} (hR:Reads R (some A) (l.flatMap Rc.v)) (hpos:0 < l.length) (hl:l.length<=100000):Spec Tryz.prog 86 #[.slice (some A) l.length c] [R]
  fun F v M=>∃ A2 c2,v=.slice (some A2) l.length c2/\M=rowR 95 6 v l.length (l.flatMap Rc.v) :: R :: F:=by
 refine Spec.intro Tryz.func86 rfl rfl fun B F=>?_
 simp only [Tryz.ntmps86,List.cons_append,List.nil_append,env0,Nat.reduceAdd]
 obtain ⟨ab,ao,asp⟩:=A
 have hsp:asp=none:=hR.1
 subst hsp
 refine .sr (.assign (.z (.seq (.sr (.move ?_)))))
 refine .eqSl ?_ sl37
 refine .z ?_
 refine .condF rfl rfl ?_
 refine .skip (.next (.sr ?_))
 refine .buildS (fun b5=>?_) S4
 refine .move ?_
 refine .to (A:=pt b5 (.cells #[] 95 (0,0))) (A':=rowR 95 6 (.slice (some ⟨b5,0,none⟩) 0 0) 0 []) Bn ?_
 refine .append (v:=.slice (some ⟨b5,0,none⟩) 0 0) (m:=l.length) (k:=0) (xs:=[]) (news:=l.flatMap Rc.v) (R:=R) so37 (by decide) (by repeat (first | exact .here | apply Rem.there | apply Repl.there | apply Mem.there)) hR (by repeat (first | exact .here | apply Rem.there | apply Repl.there | apply Mem.there)) (bc Rc.v_len l) (Iy l) (by unfold maxLen;omega) (by omega) ⟨_,z95,rfl⟩ (fun v' hv'=>?_)
 rw [Nat.zero_add,List.nil_append]
 refine .rowOpen (v:=v') (hx:=fun h=>by have h1:=congrArg List.length h;rw [bc Rc.v_len] at h1;simp only [List.length_nil] at h1;omega) fun A4 c4 hv4 hR4 _ _=>?_
 subst hv4
 refine .assign (.z (.ret (?_)))
 exact .ret1 (h1:=.tmp (t:=2) rfl) ⟨_,⟨A4,c4,rfl,rfl⟩,Am.auto⟩
theorem Nt {R:HP} {A:Addr} {c:Nat} {b:Bt} (hR:Reads R (some A) b.rv) (hpos:0 < b.recs.length) (hl:b.recs.length<=100000):Spec Tryz.prog 98 #[.agg (b.v (.slice (some A) b.recs.length c)).toArray] [R]
  fun F v M=>∃ A2 c2,v=.agg (b.v (.slice (some A2) b.recs.length c2)).toArray/\M=rowR 95 6 (.slice (some A2) b.recs.length c2) b.recs.length b.rv :: R :: F:=by
 refine Spec.intro Tryz.func98 rfl rfl fun B F=>?_
 simp only [Tryz.ntmps98,List.cons_append,List.nil_append,env0,Nat.reduceAdd]
 refine .sr ?_
 refine .box fun b1=>?_
 refine .alloc z44 fun b2=>?_
 refine .x ?_
 refine .fa ?_ mt
 refine .ld ?_ sc37
 refine .call (hc:=Tryz.call86) (sp:=zn (l:=b.recs) hR hpos hl) (h:=?_)
 rintro _ _ ⟨A2,c2,rfl,rfl⟩
 refine .fa ?_ mt
 refine .st ?_ sc37
 refine .x ?_
 refine .ldA ?_ gj
 refine .stV ?_ gj
 refine .z (.ret (?_))
 exact .ret1 ⟨_,⟨A2,c2,rfl,rfl⟩,Am.auto⟩
theorem bdRow (a s p q:Int) (A:Option Addr) (m c:Nat) (k:Int):bi Tryz.prog 151 [(0,.agg #[.int .i64 a,.int .i64 s,.int .i64 p,.int .i64 q,.slice A m c]),(1,.int .i64 k)] #[.int .i64 a,.int .i64 s,.int .i64 p,.int .i64 q,.slice A m c,.int .i64 k]:=fun w=>by kernel_rfl
theorem S5 (a s p q:Int) (A:Option Addr) (m c:Nat) (k:Int):a8 Tryz.prog 143 1 [(0,.agg #[.int .i64 a,.int .i64 s,.int .i64 p,.int .i64 q,.slice A m c,.int .i64 k])] 151 #[.int .i64 a,.int .i64 s,.int .i64 p,.int .i64 q,.slice A m c,.int .i64 k]:=fun w=>by kernel_rfl
theorem E1 {b:Bt} {A:Option Addr} {m c k:Nat}:∀ u∈(SRow.v ⟨b,.slice A m c,k⟩),Value.single u=true:=by
 intro u hu
 unfold SRow.v Bt.v at hu
 simp only [List.cons_append,List.nil_append,List.mem_cons,List.not_mem_nil,or_false] at hu
 rcases hu with rfl | rfl | rfl | rfl | rfl | rfl<;>rfl
theorem S6 {s f:Nat} {path:ad} {base:Int} {rows:List SRow} {u:Value} {b:Bt} {A:Option Addr} {m c k:Nat} (hl:rows.length<=100000) (hk:sizR rows<=1152921504606846976) (hk2:k<=1152921504606846976):Spec Tryz.prog 97 #[.pointer (some ⟨s,0,none⟩),.agg (b.v (.slice A m c)).toArray,.int .i64 (k:Int)] [pt s (sgO f path base rows u),rowR 151 6 u rows.length (rows.flatMap SRow.v)]
  fun F v M=>v=.tuple #[]/\∃ u2,M=pt s (sgO f path base (rows++[(⟨b,.slice A m c,k⟩:SRow)]) u2) :: rowR 151 6 u2 (rows++[(⟨b,.slice A m c,k⟩:SRow)]).length ((rows++[(⟨b,.slice A m c,k⟩:SRow)]).flatMap SRow.v) :: F:=by
 refine Spec.intro Tryz.func97 rfl rfl fun B F=>?_
 simp only [Tryz.ntmps97,List.cons_append,List.nil_append,env0,Nat.reduceAdd]
 have hsz:sizR (rows++[(⟨b,.slice A m c,k⟩:SRow)])=sizR rows+k:=by rw [Bm];rfl
 refine .sr ?_
 refine .box fun b4=>?_
 refine .z (.seq ?_)
 refine .dr ([pt s (sgO f path base rows u),pt b4 (.cells (b.v (.slice A m c)).toArray 44 (0,0))]) [12] 13 mixed .autoJ ?_
 refine .tk 0 rfl .move ?_
 refine .tk 1 rfl .move ?_
 refine .tk 2 rfl .nilCheck ?_
 refine .tk 3 rfl (.fa iv) ?_
 refine .tk 4 rfl (.ld tz) ?_
 refine .tk 5 rfl (.ldA gj) ?_
 refine .tk 6 rfl .move ?_
 refine .tk 7 rfl (.build (bdRow _ _ _ _ _ _ _ _)) ?_
 refine .on 8 rfl fun hnp=>?_
 refine .buildS (fun b14=>?_) (S5 _ _ _ _ _ _ _ _)
 refine .nil (.wa hnp ?_)
 refine .on 9 rfl fun hnp=>?_
 refine .append (v:=u) (m:=1) (k:=rows.length) (xs:=rows.flatMap SRow.v) (news:=SRow.v (⟨b,.slice A m c,k⟩:SRow)) Bl (by decide) (by repeat (first | exact .here | apply Rem.there | apply Repl.there | apply Mem.there)) (Reads.pt (cs:=(SRow.v (⟨b,.slice A m c,k⟩:SRow)).toArray)) (by repeat (first | exact .here | apply Rem.there | apply Repl.there | apply Mem.there)) rfl E1 (by unfold maxLen;omega) (by omega) ⟨_,z151,rfl⟩ (fun u2 hu2=>?_)
 rw [show rows.flatMap SRow.v++SRow.v (⟨b,.slice A m c,k⟩:SRow)=(rows++[(⟨b,.slice A m c,k⟩:SRow)]).flatMap SRow.v by rw [List.flatMap_append,List.flatMap_singleton],show rows.length+1=(rows++[(⟨b,.slice A m c,k⟩:SRow)]).length by simp]
 refine .rowOpen (v:=u2) (hx:=fun h=>by have h1:=congrArg List.length h;rw [bc SRow.v_len] at h1;simp at h1) fun A4 c4 hv4 hR4 _ _=>?_
 subst hv4
 refine .nil (.wa hnp ?_)
 refine .on 10 rfl fun hnp=>?_
 refine .nilCheck ?_
 refine .nil (.wa hnp ?_)
 refine .tk 11 rfl (.fa iv) ?_
 refine .on 12 rfl fun hnp=>?_
 refine .st ?_ tz
 refine .nil (.wb hnp ?_)
 refine .fin ?_
 refine .next (.region (.move (.nilCheck ?_)))
 refine .fa ?_ tx
 refine .ld ?_ sc3
 refine .move ?_
 refine .add ?_
 refine .cast (d:=23) (u:=.int .i64 ((sizR (rows++[(⟨b,.slice A m c,k⟩:SRow)]):Nat):Int)) rfl (cI9 (by rw [hsz];omega)) ?_
 refine .nilCheck ?_
 refine .fa ?_ tx
 refine .st ?_ sc3
 refine .nil ?_
 exact .ret0 ⟨_,⟨rfl,.slice (some A4) (rows++[(⟨b,.slice A m c,k⟩:SRow)]).length c4,rfl⟩,Am.auto⟩
theorem Iz :ae Tryz.prog 145 0 0=true:=by kernel_rfl
theorem P6 :ae Tryz.prog 145 1 1=true:=by kernel_rfl
theorem S7 (f:Nat) (s:ByteArray) (x:Int):bi Tryz.prog 145 [(0,.pointer (some ⟨f,0,none⟩)),(1,.string s),(2,.int .i64 x)] #[.pointer (some ⟨f,0,none⟩),.string s,.int .i64 x,.int .i64 0,.slice none 0 0]:=fun w=>by kernel_rfl
theorem P7 {f:Nat} {base:Int} {path:ad} {H H':HP} (hb:0<=base/\base<=1125899906842624) (hC:Spec Tryz.prog 100 #[.pointer (some ⟨f,0,none⟩),sv path] [H] fun F v M=>v=okV/\M=H' :: F):Spec Tryz.prog 46 #[.pointer (some ⟨f,0,none⟩),sv path,.int .i64 base] [H]
  fun F v M=>∃ s,v=.tuple #[.pointer (some ⟨s,0,none⟩),.int .i64 0]/\M=pt s (sgO f path base [] (.slice none 0 0)) :: rowR 151 6 (.slice none 0 0) ([]:List SRow).length (([]:List SRow).flatMap SRow.v) :: H' :: F:=by
 refine Spec.intro Tryz.func46 rfl rfl fun B F=>?_
 simp only [Tryz.ntmps46,List.cons_append,List.nil_append,env0,Nat.reduceAdd]
 refine .sr (.assign (.assign (.z (.seq (.sr (.move ?_))))))
 refine .call (hc:=Tryz.call99) (sp:=Ns) (h:=?_)
 rintro _ _ ⟨rfl,rfl⟩
 refine .cast (d:=10) (u:=.bool true) rfl (cB9 (by simp [hb.1,hb.2])) ?_
 refine .not ?_
 refine .z ?_
 refine .condF rfl rfl ?_
 refine .skip (.next (.seq (.sr (.move (.move ?_)))))
 refine .call (hc:=Tryz.call100) (sp:=hC) (h:=?_)
 rintro _ _ ⟨rfl,rfl⟩
 refine .assign (.x (.move ?_))
 refine .nei ?_
 refine .z ?_
 refine .condF rfl rfl ?_
 refine .skip (.next (.sr (.move (.move (.move ?_)))))
 refine .build ?_ (S7 _ _ _)
 refine .box fun b22=>?_
 refine .assign (.assign (.z (.ret (?_))))
 refine .emp (A:=rowR 151 6 (.slice none 0 0) 0 []) (rowR.nil _) ?_
 exact .ret2 (h1:=.tmp (t:=6) rfl) (h2:=.tmp (t:=7) rfl) ⟨_,⟨_,rfl,rfl⟩,Am.auto⟩
theorem qy {b:Bt} (h:batE b=0):(batB b).length<=6000/\ip b=true:=by
 unfold batE at h
 by_cases h1:oz b=0
 ·rw [if_pos h1] at h
  by_cases h2:6000 < (batB b).length
  ·rw [if_pos h2] at h;cases h
  ·refine ⟨by omega,?_⟩
   unfold oz at h1
   by_cases h3:ip b=true
   ·exact h3
   ·rw [if_neg h3] at h1;cases h1
 ·rw [if_neg h1] at h;exact absurd h h1
theorem x7 {b:Bt} (h:batE b=0):(0<=b.base/\b.base<=1125899906842624)/\(1<=b.span/\b.span<=100)/\0 < b.recs.length:=by
 have h1:=(qy h).2
 unfold ip eo at h1
 simp only [Bool.and_eq_true,Bool.not_eq_true',Bool.or_eq_false_iff,decide_eq_false_iff_not] at h1
 omega
theorem SRowOk.mono {os os2:List (Nat×Obj)} {x:SRow} (h:SRowOk os x) (hs:∀ y∈os,y∈os2):SRowOk os2 x:=by
 obtain ⟨⟨A,c,h1,h2,h3⟩,h4,h5,h6⟩:=h
 refine ⟨⟨A,c,h1,h2,fun hh hf=>h3 hh ?_⟩,h4,h5,h6⟩
 unfold frz at hf ⊢
 exact fun p hp=>hf p (hs p hp)
theorem I0 {s f c:Nat} {base:Int} {rows:List SRow} {u:Value} {os:List (Nat×Obj)} {b:Bt} {A:Addr} {R:HP} {path:ad} {H H':HP} (hok:∀ x∈rows,SRowOk os x) (hR:Reads R (some A) b.rv) (hE:batE b=0) (hl:b.recs.length<=10000) (hx:x6 base rows<=b.base) (hrows:rows.length<=99999) (hsz:sizR rows<=1000000000)
  (hA:∀ (R:HP) (A:Option Addr) (cc:Nat),Reads R A (bvs (batB b))->(batB b).length<=cc->cc<=maxLen->Spec Tryz.prog 96 #[.pointer (some ⟨f,0,none⟩),sv path,.slice A (batB b).length cc] [H,R] fun F v M=>v=okV/\M=H' :: R :: F) :
  Spec Tryz.prog 45 #[.pointer (some ⟨s,0,none⟩),.agg (b.v (.slice (some A) b.recs.length c)).toArray] [pt s (sgO f path base rows u),rowR 151 6 u rows.length (rows.flatMap SRow.v),frz os,H,R] fun F v M=>v=.int .i64 0/\∃ u2 os2 s2,(SRowOk os2 (⟨b,s2,(batB b).length⟩:SRow)/\∀ x∈os,x∈os2)/\M=pt s (sgO f path base (rows++[(⟨b,s2,(batB b).length⟩:SRow)]) u2) :: rowR 151 6 u2 (rows++[(⟨b,s2,(batB b).length⟩:SRow)]).length ((rows++[(⟨b,s2,(batB b).length⟩:SRow)]).flatMap SRow.v) :: frz os2 :: H' :: R :: F:=by
 refine Spec.intro Tryz.func45 rfl rfl fun B F=>?_
 simp only [Tryz.ntmps45,List.cons_append,List.nil_append,env0,Nat.reduceAdd]
 obtain ⟨hfit,_⟩:=qy hE
 obtain ⟨hb,hsp,hpos⟩:=x7 hE
 obtain ⟨ab,ao,asp⟩:=A
 have hasp:asp=none:=hR.1
 subst hasp
 refine .sr ?_
 refine .box fun b3=>?_
 refine .assign (.z (.seq (.sr (.move ?_))))
 refine .eqNil ?_ Ez
 refine .move (.gT (.move (.gT (.nilCheck (.gT ?_)))))
 refine .fa ?_ Iz
 refine .gT ?_
 refine .ld ?_ sc29
 refine .gT ?_
 refine .eqNil ?_ s9
 refine .pickF (.z ?_)
 refine .condF rfl rfl ?_
 refine .skip (.next (.sr ?_))
 refine .ldA ?_ gj
 refine .call (hc:=Tryz.call40) (sp:=ts hR hl) (h:=?_)
 rintro _ _ (⟨h0,_,_⟩ | ⟨_,g,q,⟨rfl,hq1,hq2⟩,rfl⟩)
 ·exact absurd hE h0
 refine .move ?_
 refine .extract (.extract ?_)
 refine .assign (.assign (.z (.seq (.sr (.move ?_)))))
 refine .nei ?_
 refine .z ?_
 refine .condF rfl rfl ?_
 refine .skip (.next (.seq (.seq ?_)))
 refine .dr ([pt b3 (.cells (b.v (.slice (some ⟨ab,ao,none⟩) b.recs.length c)).toArray 44 (0,0))]) [] 5 mixed .autoJ ?_
 refine .tk 0 rfl (.fa vi) ?_
 refine .tk 1 rfl (.ld sc3) ?_
 refine .tk 2 rfl .move ?_
 refine .on 3 rfl fun hnp=>?_
 refine .call (hc:=Tryz.call49) (sp:=Ix (os:=os) hok (by omega)) (h:=?_)
 rintro _ _ ⟨rfl,rfl⟩
 refine .nil (.wa hnp ?_)
 refine .tk 4 rfl .lss ?_
 refine .fin ?_
 refine .next ?_
 refine .condF rfl (cB9 (decide_eq_false (by omega))) ?_
 refine .skip (.next (.seq (.seq ?_)))
 refine .dr ([pt s (sgO f path base rows u)]) [] 11 mixed .autoJ ?_
 refine .tk 0 rfl .move ?_
 refine .tk 1 rfl .nilCheck ?_
 refine .tk 2 rfl (.fa Iz) ?_
 refine .tk 3 rfl (.ld sc29) ?_
 refine .tk 4 rfl .move ?_
 refine .tk 5 rfl .nilCheck ?_
 refine .tk 6 rfl (.fa P6) ?_
 refine .tk 7 rfl (.ld sc9) ?_
 refine .tk 8 rfl .move ?_
 refine .on 9 rfl fun hnp=>?_
 refine .call (hc:=Tryz.call96) (sp:=hA (buf g 5 q (bvs (batB b))) (some ⟨g,0,none⟩) q Reads.buf hq1 hq2) (h:=?_)
 rintro _ _ ⟨rfl,rfl⟩
 refine .nil (.wa hnp ?_)
 refine .tk 10 rfl .assign ?_
 refine .fin ?_
 refine .next (.sr (.move ?_))
 refine .nei ?_
 refine .z ?_
 refine .condF rfl rfl ?_
 refine .skip (.next (.sr (.move ?_)))
 refine .ldA ?_ gj
 refine .call (hc:=Tryz.call98) (sp:=Nt (b:=b) hR hpos (by omega)) (h:=?_)
 rintro _ _ ⟨A2,c2,rfl,rfl⟩
 refine .toE (A:=rowR 95 6 (.slice (some A2) b.recs.length c2) b.recs.length b.rv) (pz hpos) ?_
 rintro ⟨g2,q2,cur⟩ ⟨hv2,htk⟩
 injection hv2 with hA2 _ hc2
 injection hA2 with hA2
 simp only at hA2 hc2 htk
 subst hA2
 subst hc2
 refine .frzAdd ?_
 have hnew:SRowOk ((g2,.cells cur 95 (0,0)) :: os) (⟨b,.slice (some ⟨g2,0,none⟩) b.recs.length c2,(batB b).length⟩:SRow):=⟨⟨_,c2,rfl,by
  have:=(Reads.frz (os:=(g2,.cells cur 95 (0,0)) :: os) (b:=g2) (cs:=cur) (List.mem_cons_self ..)).take b.rv.length
  rwa [htk] at this⟩,hpos,hl,hb,hsp⟩
 refine .move ?_
 refine .lenS ?_ sl79
 refine .call (hc:=Tryz.call97) (sp:=S6 (rows:=rows) (u:=u) (base:=base) (path:=path) (f:=f) (s:=s) (b:=b) (A:=some ⟨g2,0,none⟩) (m:=b.recs.length) (c:=c2) (k:=(batB b).length) (by omega) (by omega) (by omega)) (h:=?_)
 rintro _ _ ⟨rfl,u2,rfl⟩
 refine .x (.assign (.z (.ret (?_))))
 exact .ret1 (h1:=.tmp (t:=4) rfl) ⟨_,⟨rfl,u2,_,_,⟨hnew,fun x hx=>List.mem_cons_of_mem _ hx⟩,rfl⟩,Am.auto⟩
theorem S8 :Tryz.prog.underlying 251=some (.int .u64):=by kernel_rfl
theorem sc86 :ai Tryz.prog 86=true:=by kernel_rfl
theorem Nu :dj Tryz.prog 151 6=true:=by kernel_rfl
theorem P8 :ae Tryz.prog 151 1 5=true:=by kernel_rfl
theorem shr1 (m:Nat):((m:Int)).fdiv (2 ^ (min (1:Int).toNat IntKind.u64.bits))=((m / 2:Nat):Int):=by
 rw [show (2:Int) ^ (min (1:Int).toNat IntKind.u64.bits)=2 from by decide,Int.fdiv_eq_ediv_of_nonneg _ (by decide)]
 omega
theorem vk {gf:Nat} {cap:Array Value} {n:Nat} {p:Nat->Bool} {L0:List HP} (hc:∀ args w,(callFunc gf args).run Tryz.prog w=.ok (.enter gf args) w) (hf:∀ i,i < n->Spec Tryz.prog gf (#[.int .i64 ((i:Nat):Int)]++cap) L0 (fun F v M=>v=.bool (p i)/\M=L0++F)) (hn:n<=1073741824)
  (hm:∀ i j,i<=j->p i=true->p j=true):Spec Tryz.prog 102 #[.int .i64 ((n:Nat):Int),.func (.func gf) #[] cap] L0 fun F v M=>∃ k,v=.int .i64 ((k:Nat):Int)/\(k<=n/\(∀ i,i < k->p i=false)/\∀ i,k<=i->i < n->p i=true)/\M=L0++F:=by
 refine Spec.intro Tryz.func102 rfl rfl fun B F=>?_
 simp only [Tryz.ntmps102,List.cons_append,List.nil_append,env0,Nat.reduceAdd]
 refine .sr (.assign (.x (.move (.assign (.assign (.z (.seq (.block ?_))))))))
 refine .loopA (σ:=Nat×Nat) (fun s=>[(0,.int .i64 ((n:Nat):Int)),(1,.func (.func gf) #[] cap),(5,.int .i64 ((s.1:Nat):Int)),(6,.int .i64 ((s.2:Nat):Int))]) (fun _=>L0++F) (fun s=>s.1<=s.2/\s.2<=n/\(∀ i,i < s.1->p i=false)/\∀ i,s.2<=i->i < n->p i=true) (fun s=>s.2 - s.1) (0,n) ⟨Nat.zero_le _,Nat.le_refl _,fun i h=>absurd h (Nat.not_lt_zero _),fun i h1 h2=>absurd h2 (by have:n<=i:=h1;omega)⟩ ?_
 rintro s hp
 obtain ⟨i,j⟩:=s
 obtain ⟨hij,hjn,hlo,hhi⟩:=hp
 simp only at hij hjn hlo hhi
 refine .seq (.sr (.move (.move ?_)))
 refine .lss ?_
 refine .z ?_
 refine .cond rfl (fun hd=>?_) (fun hd=>?_)
 ·have hlt:i < j:=by have h:((i:Nat):Int) < ((j:Nat):Int):=of_decide_eq_true hd;omega
  refine .skip (.next (.block (.sr (.move (.move ?_)))))
  refine .add ?_
  refine .cast (d:=14) (u:=.int .i64 (((i+j:Nat)):Int)) rfl (cI9 (by omega)) ?_
  refine .cvt ?_ un3 S8
  refine .cast (d:=15) (u:=.int .u64 (((i+j:Nat)):Int)) rfl (cI9 (jq (by omega))) ?_
  refine .shr ?_
  refine .cast (d:=16) (u:=.int .u64 ((((i+j) / 2:Nat)):Int)) rfl (cI9 (shr1 _)) ?_
  refine .cvt ?_ S8 un3
  refine .cast (d:=17) (u:=.int .i64 ((((i+j) / 2:Nat)):Int)) rfl (cI9 (zm (by omega))) ?_
  refine .assign (.x (.move (.move ?_)))
  refine .callV (hc:=hc) (sp:=hf ((i+j) / 2) (by omega)) (tk:=Tk.app) (h:=?_)
  rintro _ _ ⟨rfl,rfl⟩
  refine .not ?_
  refine .z ?_
  refine .cond rfl (fun hq=>?_) (fun hq=>?_)
  ·have hpf:p ((i+j) / 2)=false:=by simpa using hq
   refine .region (.move ?_)
   refine .add ?_
   refine .assign (.nil (.blockNormal ?_))
   exact .back ((i+j) / 2+1,j) ⟨by show (i+j) / 2+1<=j;omega,hjn,fun q hq2=>(by cases hpq:p q;rfl;exact absurd (hm q ((i+j) / 2) (by have:q < (i+j) / 2+1:=hq2;omega) hpq) (by rw [hpf];decide)),hhi⟩ (show j - ((i+j) / 2+1) < j - i by omega)
  ·have hpt:p ((i+j) / 2)=true:=by simpa using hq
   refine .region (.move (.assign (.nil (.blockNormal ?_))))
   exact .back (i,(i+j) / 2) ⟨by show i<=(i+j) / 2;omega,by show (i+j) / 2<=n;omega,hlo,fun q hq1 hq2=>hm _ q hq1 hpt⟩ (show (i+j) / 2 - i < j - i by omega)
 ·have hge:i=j:=by have h:¬ ((i:Nat):Int) < ((j:Nat):Int):=of_decide_eq_false hd;omega
  subst hge
  refine .exit (.thenExit (.thenExit (.blockExit (?_))))
  refine .next (.sr (.move (.assign (.z (.ret (?_))))))
  exact .ret1 (h1:=.tmp (t:=4) rfl) ⟨_,⟨i,rfl,⟨hjn,hlo,hhi⟩,rfl⟩,Am.auto⟩
theorem S9 {cs co s f ab ao c i:Nat} {off base:Int} {path:ad} {rows:List SRow} {os:List (Nat×Obj)} {x:SRow} (hx:rows[i]?=some x) (hok:SRowOk os x) (hR:Reads (rowR 151 6 (.slice (some ⟨ab,ao,none⟩) rows.length c) rows.length (rows.flatMap SRow.v)) (some ⟨ab,ao,none⟩) (rows.flatMap SRow.v)) :
  Spec Tryz.prog 103 (#[.int .i64 ((i:Nat):Int)]++#[.pointer (some ⟨cs,0,none⟩),.pointer (some ⟨co,0,none⟩)]) [pt cs (.cells #[.pointer (some ⟨s,0,none⟩)] 86 (0,0)),pt co (.cells #[.int .i64 off] 3 (0,0)),pt s (sgO f path base rows (.slice (some ⟨ab,ao,none⟩) rows.length c)),rowR 151 6 (.slice (some ⟨ab,ao,none⟩) rows.length c) rows.length (rows.flatMap SRow.v)] fun F v M=>v=.bool (decide (off < x.b.base+x.b.span))/\M=[pt cs (.cells #[.pointer (some ⟨s,0,none⟩)] 86 (0,0)),pt co (.cells #[.int .i64 off] 3 (0,0)),pt s (sgO f path base rows (.slice (some ⟨ab,ao,none⟩) rows.length c)),rowR 151 6 (.slice (some ⟨ab,ao,none⟩) rows.length c) rows.length (rows.flatMap SRow.v)]++F:=by
 refine Spec.intro Tryz.func103 rfl rfl fun B F=>?_
 simp only [Tryz.ntmps103,List.cons_append,List.nil_append,env0,Nat.reduceAdd]
 have hil:i < rows.length:=(List.getElem?_eq_some_iff.1 hx).1
 have hrng:=hok.rng
 have hc0:(rows.flatMap SRow.v)[i * 6+0]?=some (.int .i64 x.b.base):=by
  have h1:=il SRow.v_len _ _ _ hx
  have h2:(((rows.flatMap SRow.v).drop (i * 6)).take 6)[0]?=some (.int .i64 x.b.base):=by rw [h1];rfl
  rw [List.getElem?_take,if_pos (by decide),List.getElem?_drop] at h2
  exact h2
 have hc1:(rows.flatMap SRow.v)[i * 6+1]?=some (.int .i64 x.b.span):=by
  have h1:=il SRow.v_len _ _ _ hx
  have h2:(((rows.flatMap SRow.v).drop (i * 6)).take 6)[1]?=some (.int .i64 x.b.span):=by rw [h1];rfl
  rw [List.getElem?_take,if_pos (by decide),List.getElem?_drop] at h2
  exact h2
 refine .sr (.assign (.z (.seq ?_)))
 refine .dr ([pt cs (.cells #[.pointer (some ⟨s,0,none⟩)] 86 (0,0)),pt co (.cells #[.int .i64 off] 3 (0,0)),pt s (sgO f path base rows (.slice (some ⟨ab,ao,none⟩) rows.length c)),rowR 151 6 (.slice (some ⟨ab,ao,none⟩) rows.length c) rows.length (rows.flatMap SRow.v)]) [] 22 mixed .autoJ ?_
 refine .tk 0 rfl (.ld sc86) ?_
 refine .tk 1 rfl .nilCheck ?_
 refine .tk 2 rfl (.fa iv) ?_
 refine .tk 3 rfl (.ld tz) ?_
 refine .tk 4 rfl .move ?_
 refine .tk 5 rfl (.idx Bl) ?_
 refine .tk 6 rfl (.fa xz) ?_
 refine .tk 7 rfl ((Qt.fa vi).eq (congrArg (fun z=>Value.pointer (some ⟨ab,z,none⟩)) (show ao+i * 6+0+0=ao+(i * 6+0) by omega))) ?_
 refine .tk 8 rfl (Qt.ldR (i:=i * 6+0) sc3 hR hc0) ?_
 refine .tk 9 rfl (.ld sc86) ?_
 refine .tk 10 rfl .nilCheck ?_
 refine .tk 11 rfl (.fa iv) ?_
 refine .tk 12 rfl (.ld tz) ?_
 refine .tk 13 rfl .move ?_
 refine .tk 14 rfl (.idx Bl) ?_
 refine .tk 15 rfl (.fa xz) ?_
 refine .tk 16 rfl ((Qt.fa qa).eq (congrArg (fun z=>Value.pointer (some ⟨ab,z,none⟩)) (show ao+i * 6+0+1=ao+(i * 6+1) by omega))) ?_
 refine .tk 17 rfl (Qt.ldR (i:=i * 6+1) sc3 hR hc1) ?_
 refine .tk 18 rfl .add ?_
 refine .tk 19 rfl (.ld sc3) ?_
 refine .tk 20 rfl .gtr ?_
 refine .tk 21 rfl .assign ?_
 refine .fin ?_
 refine .next (.ret (?_))
 exact .ret1 (h1:=.tmp (t:=4) rfl) ⟨_,⟨rfl,rfl⟩,Am.auto⟩
def hitR (off:Int) (rows:List SRow) (i:Nat):Bool:=match rows[i]? with
 | some x=>decide (off < x.b.base+x.b.span)
 | none=>true
theorem I1 {off:Int} {rows:List SRow} {i:Nat} {x:SRow} (h:rows[i]?=some x):hitR off rows i=decide (off < x.b.base+x.b.span):=by unfold hitR;rw [h]
def zo (rows:List SRow):Prop:=∀ (i j:Nat) (x y:SRow),i<=j->rows[i]?=some x->rows[j]?=some y->x.b.base+x.b.span<=y.b.base+y.b.span
theorem I2 {off:Int} {rows:List SRow} (h:zo rows):∀ i j,i<=j->hitR off rows i=true->hitR off rows j=true:=by
 intro i j hij hi
 unfold hitR at *
 cases hj:rows[j]? with
 | none=>rfl
 | some y =>
  have hjl:=(List.getElem?_eq_some_iff.1 hj).1
  have hx:=List.getElem?_eq_getElem (show i < rows.length by omega)
  rw [hx] at hi
  have:=h i j _ _ hij hx hj
  simp only [decide_eq_true_eq] at hi ⊢
  omega
theorem E2 {ll cs co s f ab ao c k:Nat} {off base:Int} {path:ad} {rows:List SRow} {os:List (Nat×Obj)} {C:Nat->HP} {Cx:HP} (hok:∀ x∈rows,SRowOk os x) (hord:zo rows) (hl:rows.length<=100000) (hpos:0 < rows.length)
  (hk:k<=rows.length) (hk1:∀ i,i < k->hitR off rows i=false) (hk2:∀ i,k<=i->i < rows.length->hitR off rows i=true)
  (hY:∀ (i:Nat) (x:SRow) (A2:Addr) (c2:Nat),rows[i]?=some x->k<=i->RSpec Tryz.prog ll [.agg (x.b.v (.slice (some A2) x.b.recs.length c2)).toArray,.int .i64 ((x.k:Nat):Int)] [rowR 95 6 (.slice (some A2) x.b.recs.length c2) x.b.recs.length x.b.rv,C i] fun F b M=>(b=true/\M=C (i+1) :: F) ∨ (b=false/\M=Cx :: F)) :
  Spec Tryz.prog 101 (#[.func (.yield ll) #[] #[]]++#[.pointer (some ⟨cs,0,none⟩),.pointer (some ⟨co,0,none⟩)]) [C k,pt cs (.cells #[.pointer (some ⟨s,0,none⟩)] 86 (0,0)),pt co (.cells #[.int .i64 off] 3 (0,0)),pt s (sgO f path base rows (.slice (some ⟨ab,ao,none⟩) rows.length c)),rowR 151 6 (.slice (some ⟨ab,ao,none⟩) rows.length c) rows.length (rows.flatMap SRow.v),frz os] fun F v M=>v=.tuple #[]/\(M=[C rows.length,pt cs (.cells #[.pointer (some ⟨s,0,none⟩)] 86 (0,0)),pt co (.cells #[.int .i64 off] 3 (0,0)),pt s (sgO f path base rows (.slice (some ⟨ab,ao,none⟩) rows.length c)),rowR 151 6 (.slice (some ⟨ab,ao,none⟩) rows.length c) rows.length (rows.flatMap SRow.v),frz os]++F ∨ M=[Cx,pt cs (.cells #[.pointer (some ⟨s,0,none⟩)] 86 (0,0)),pt co (.cells #[.int .i64 off] 3 (0,0)),pt s (sgO f path base rows (.slice (some ⟨ab,ao,none⟩) rows.length c)),rowR 151 6 (.slice (some ⟨ab,ao,none⟩) rows.length c) rows.length (rows.flatMap SRow.v),frz os]++F):=by
 refine Spec.intro Tryz.func101 rfl rfl fun B F=>?_
 simp only [Tryz.ntmps101,List.cons_append,List.nil_append,env0,Nat.reduceAdd]
 refine .fact (ah (el:=151) (size:=6) (k:=rows.length) (v:=(.slice (some ⟨ab,ao,none⟩) rows.length c)) (xs:=rows.flatMap SRow.v)) fun ⟨A0,c0,hv0,hR,hnc,_,_⟩=>?_
 injection hv0 with hA0 _ hc0
 subst hA0
 subst hc0
 refine .seq (.sr ?_)
 refine .ld ?_ sc86
 refine .eqNil ?_ Ez
 refine .z ?_
 refine .condF rfl rfl ?_
 refine .skip (.next (.sr ?_))
 refine .ld ?_ sc86
 refine .nilCheck ?_
 refine .fa ?_ iv
 refine .ld ?_ tz
 refine .lenS ?_ E0
 refine .makeFuncB ?_
 refine .call (hc:=Tryz.call102) (sp:=vk (gf:=103) (cap:=#[.pointer (some ⟨cs,0,none⟩),.pointer (some ⟨co,0,none⟩)]) (n:=rows.length) (p:=hitR off rows) (L0:=[pt cs (.cells #[.pointer (some ⟨s,0,none⟩)] 86 (0,0)),pt co (.cells #[.int .i64 off] 3 (0,0)),pt s (sgO f path base rows (.slice (some ⟨ab,ao,none⟩) rows.length c)),rowR 151 6 (.slice (some ⟨ab,ao,none⟩) rows.length c) rows.length (rows.flatMap SRow.v)]) Tryz.call103 (fun i hi=>by
  have hx:=List.getElem?_eq_getElem hi
  rw [I1 hx]
  exact S9 hx (hok _ (List.getElem_mem hi)) hR) (by omega) (I2 hord)) (h:=?_)
 rintro _ _ ⟨k',rfl,⟨hk'n,hk'1,hk'2⟩,rfl⟩
 obtain rfl:k'=k:=by
  rcases Nat.lt_trichotomy k' k with h | h | h
  ·have h1:=hk1 _ h
   rw [hk'2 _ (Nat.le_refl _) (by omega)] at h1
   cases h1
  ·exact h
  ·have h1:=hk'1 _ h
   rw [hk2 _ (Nat.le_refl _) (by omega)] at h1
   cases h1
 simp only [List.cons_append,List.nil_append]
 refine .assign (.x ?_)
 refine .ld ?_ sc86
 refine .nilCheck ?_
 refine .fa ?_ iv
 refine .ld ?_ tz
 refine .move ?_
 refine .slcL ?_ Bl
 have hslc:(if c=((k':Nat):Int).toNat then (some ⟨ab,ao,none⟩:Option Addr) else some ⟨ab,ao+((k':Nat):Int).toNat * 6,none⟩)=some ⟨ab,ao+(if c=k' then 0 else k' * 6),none⟩:=by
  show (if c=k' then (some ⟨ab,ao,none⟩:Option Addr) else some ⟨ab,ao+k' * 6,none⟩)=_
  split<;>rfl
 refine .cast (d:=21) (u:=.slice (some ⟨ab,ao+(if c=k' then 0 else k' * 6),none⟩) (rows.length - k') (c - k')) rfl (congrArg (fun z=>Value.slice z (rows.length - k') (c - k')) hslc) ?_
 refine .lenS ?_ E0
 refine .move (.z (.block ?_))
 refine .loopA (σ:=Nat) (fun j=>[(0,.func (.yield ll) #[] #[]),(1,.pointer (some ⟨cs,0,none⟩)),(2,.pointer (some ⟨co,0,none⟩)),(21,.slice (some ⟨ab,ao+(if c=k' then 0 else k' * 6),none⟩) (rows.length - k') (c - k')),(22,.int .i64 ((rows.length - k':Nat):Int)),(23,.int .i64 ((j:Nat):Int))]) (fun j=>[C (k'+j),pt cs (.cells #[.pointer (some ⟨s,0,none⟩)] 86 (0,0)),pt co (.cells #[.int .i64 off] 3 (0,0)),pt s (sgO f path base rows (.slice (some ⟨ab,ao,none⟩) rows.length c)),rowR 151 6 (.slice (some ⟨ab,ao,none⟩) rows.length c) rows.length (rows.flatMap SRow.v),frz os]++F) (fun j=>j<=rows.length - k') (fun j=>rows.length - k' - j) 0 (Nat.zero_le _) ?_
 rintro j hj
 refine .sr ?_
 refine .lss ?_
 refine .z (.seq ?_)
 refine .cond rfl (fun hd=>?_) (fun hd=>?_)
 ·have hlt:k'+j < rows.length:=by have h:((j:Nat):Int) < ((rows.length - k':Nat):Int):=of_decide_eq_true hd;omega
  obtain ⟨x,hx⟩:∃ x,rows[k'+j]?=some x:=⟨_,List.getElem?_eq_getElem hlt⟩
  have hxok:=hok x (List.mem_of_getElem? hx)
  obtain ⟨A1,c1,hxs,hRx⟩:=hxok.at'
  have hxl:=hxok.len
  have hd0:(if c=k' then 0 else k' * 6)=k' * 6:=if_neg (by omega)
  have hus:=il SRow.v_len _ _ _ hx
  rw [show x.v=SRow.v ⟨x.b,.slice (some A1) x.b.recs.length c1,x.k⟩ by rw [<- hxs]] at hus
  refine .skip (.next (.seq (.block (.sr ?_))))
  refine .idx ?_ Bl
  refine .cast (d:=25) (u:=.pointer (some ⟨ab,ao+(k'+j) * 6,none⟩)) rfl (congrArg (fun z=>Value.pointer (some ⟨ab,z,none⟩)) (by rw [hd0];show ao+k' * 6+j * 6=_;rw [Nat.add_mul];omega)) ?_
  refine .ldAR (i:=(k'+j) * 6) ?_ Nu hR hus (kj SRow.v_len hlt)
  refine .alloc z151 fun b6=>?_
  refine .stV ?_ Nu
  refine .z (.seq ?_)
  refine .drY (k:=6) [pt b6 (.cells (SRow.v ⟨x.b,.slice (some A1) x.b.recs.length c1,x.k⟩).toArray 151 (0,0))] [] mixed .autoJ .auto ?_
  refine .tk 0 rfl .move ?_
  refine .tk 1 rfl (.fa xz) ?_
  refine .tk 2 rfl (Qt.ldP (us:=(x.b.v (.slice (some A1) x.b.recs.length c1)).toArray) gj rfl rfl) ?_
  refine .tk 4 rfl (.fa P8) ?_
  refine .tk 5 rfl (.ld sc3) ?_
  refine .on 3 rfl fun hnp=>?_
  refine .call (hc:=Tryz.call98) (sp:=Nt (R:=frz os) hRx hxok.pos (by omega)) (h:=?_)
  rintro _ _ ⟨A2,c2,rfl,rfl⟩
  refine .nil (.wa hnp ?_)
  refine .fin ?_
  refine .yield (k:=6) rfl rfl (hY (k'+j) x A2 c2 hx (by omega)) .auto fun b M hM=>?_
  rcases hM with ⟨rfl,rfl⟩ | ⟨rfl,rfl⟩
  ·refine .not ?_
   refine .z ?_
   refine .condF rfl rfl ?_
   refine .skip (.blockNormal (.next (.region ?_)))
   refine .add ?_
   refine .move (.nil ?_)
   exact .back (j+1) (by omega) (by omega)
  ·refine .not ?_
   refine .z ?_
   refine .condT rfl rfl ?_
   refine .ret (.blockRet (.thenRet (.thenRet (.blockRet (?_)))))
   exact .ret0 ⟨_,⟨rfl,.inr rfl⟩,Am.auto⟩
 ·have hge:k'+j=rows.length:=by have h:¬ ((j:Nat):Int) < ((rows.length - k':Nat):Int):=of_decide_eq_false hd;omega
  refine .exit (.thenExit (.thenExit (.blockExit (?_))))
  rw [hge]
  exact .ret0 ⟨_,⟨rfl,.inl rfl⟩,Am.auto⟩
theorem z40 :a6 Tryz.prog 40=some (#[.slice none 0 0]):=by kernel_rfl
theorem sc40 :ai Tryz.prog 40=true:=by kernel_rfl
theorem so40 :aq Tryz.prog 40 44 5 56=true:=by kernel_rfl
theorem segBatches0 {ll cs co s f:Nat} {off base:Int} {path:ad} {os:List (Nat×Obj)} {C:HP}:Spec Tryz.prog 101 (#[.func (.yield ll) #[] #[]]++#[.pointer (some ⟨cs,0,none⟩),.pointer (some ⟨co,0,none⟩)]) [C,pt cs (.cells #[.pointer (some ⟨s,0,none⟩)] 86 (0,0)),pt co (.cells #[.int .i64 off] 3 (0,0)),pt s (sgO f path base ([]:List SRow) (.slice none 0 0)),rowR 151 6 (.slice none 0 0) ([]:List SRow).length (([]:List SRow).flatMap SRow.v),frz os] fun F v M=>v=.tuple #[]/\M=[C,pt cs (.cells #[.pointer (some ⟨s,0,none⟩)] 86 (0,0)),pt co (.cells #[.int .i64 off] 3 (0,0)),pt s (sgO f path base ([]:List SRow) (.slice none 0 0)),rowR 151 6 (.slice none 0 0) ([]:List SRow).length (([]:List SRow).flatMap SRow.v),frz os]++F:=by
 refine Spec.intro Tryz.func101 rfl rfl fun B F=>?_
 simp only [Tryz.ntmps101,List.cons_append,List.nil_append,env0,Nat.reduceAdd]
 refine .seq (.sr ?_)
 refine .ld ?_ sc86
 refine .eqNil ?_ Ez
 refine .z ?_
 refine .condF rfl rfl ?_
 refine .skip (.next (.sr ?_))
 refine .ld ?_ sc86
 refine .nilCheck ?_
 refine .fa ?_ iv
 refine .ld ?_ tz
 refine .lenS ?_ E0
 refine .makeFuncB ?_
 refine .call (hc:=Tryz.call102) (sp:=vk (gf:=103) (cap:=#[.pointer (some ⟨cs,0,none⟩),.pointer (some ⟨co,0,none⟩)]) (n:=0) (p:=fun _=>false) (L0:=[]) Tryz.call103 (fun i hi=>absurd hi (Nat.not_lt_zero i)) (by omega) (fun i j _ h=>h)) (h:=?_)
 rintro _ _ ⟨k',rfl,⟨hk'n,_,_⟩,rfl⟩
 obtain rfl:k'=0:=by omega
 simp only [List.cons_append,List.nil_append]
 refine .assign (.x ?_)
 refine .ld ?_ sc86
 refine .nilCheck ?_
 refine .fa ?_ iv
 refine .ld ?_ tz
 refine .move ?_
 refine .slcN ?_ Bl
 refine .lenS ?_ E0
 refine .move (.z (.block ?_))
 refine .loopA (σ:=Unit) (fun j=>[(0,.func (.yield ll) #[] #[]),(1,.pointer (some ⟨cs,0,none⟩)),(2,.pointer (some ⟨co,0,none⟩)),(21,.slice none 0 0),(22,.int .i64 0),(23,.int .i64 0)]) (fun j=>[C,pt cs (.cells #[.pointer (some ⟨s,0,none⟩)] 86 (0,0)),pt co (.cells #[.int .i64 off] 3 (0,0)),pt s (sgO f path base ([]:List SRow) (.slice none 0 0)),rowR 151 6 (.slice none 0 0) ([]:List SRow).length (([]:List SRow).flatMap SRow.v),frz os]++F) (fun _=>True) (fun _=>0) () trivial ?_
 rintro j hj
 refine .sr ?_
 refine .lss ?_
 refine .z (.seq ?_)
 refine .condF rfl (cB9 (rfl)) ?_
 refine .exit (.thenExit (.thenExit (.blockExit (?_))))
 exact .ret0 ⟨_,⟨rfl,rfl⟩,Am.auto⟩
theorem Bo {ll cs co s f k:Nat} {off base:Int} {path:ad} {rows:List SRow} {u:Value} {os:List (Nat×Obj)} {C:Nat->HP} {Cx:HP} (hok:∀ x∈rows,SRowOk os x) (hord:zo rows) (hl:rows.length<=100000) (hu:rows=[]->u=.slice none 0 0)
  (hk:k<=rows.length) (hk1:∀ i,i < k->hitR off rows i=false) (hk2:∀ i,k<=i->i < rows.length->hitR off rows i=true)
  (hY:∀ (i:Nat) (x:SRow) (A2:Addr) (c2:Nat),rows[i]?=some x->k<=i->RSpec Tryz.prog ll [.agg (x.b.v (.slice (some A2) x.b.recs.length c2)).toArray,.int .i64 ((x.k:Nat):Int)] [rowR 95 6 (.slice (some A2) x.b.recs.length c2) x.b.recs.length x.b.rv,C i] fun F b M=>(b=true/\M=C (i+1) :: F) ∨ (b=false/\M=Cx :: F)) :
  Spec Tryz.prog 101 (#[.func (.yield ll) #[] #[]]++#[.pointer (some ⟨cs,0,none⟩),.pointer (some ⟨co,0,none⟩)]) [C k,pt cs (.cells #[.pointer (some ⟨s,0,none⟩)] 86 (0,0)),pt co (.cells #[.int .i64 off] 3 (0,0)),pt s (sgO f path base rows u),rowR 151 6 u rows.length (rows.flatMap SRow.v),frz os] fun F v M=>v=.tuple #[]/\(M=[C rows.length,pt cs (.cells #[.pointer (some ⟨s,0,none⟩)] 86 (0,0)),pt co (.cells #[.int .i64 off] 3 (0,0)),pt s (sgO f path base rows u),rowR 151 6 u rows.length (rows.flatMap SRow.v),frz os]++F ∨ M=[Cx,pt cs (.cells #[.pointer (some ⟨s,0,none⟩)] 86 (0,0)),pt co (.cells #[.int .i64 off] 3 (0,0)),pt s (sgO f path base rows u),rowR 151 6 u rows.length (rows.flatMap SRow.v),frz os]++F):=by
 by_cases h0:rows=[]
 ·obtain rfl:=hu h0
  subst h0
  obtain rfl:k=0:=by simpa using hk
  exact segBatches0.post (fun F v M ⟨h1,h2⟩=>⟨M,⟨h1,.inl h2⟩,.refl⟩)
 ·have hpos:0 < rows.length:=List.length_pos_iff.2 h0
  refine Spec.ofFact (ah (el:=151) (size:=6) (k:=rows.length) (v:=u) (xs:=rows.flatMap SRow.v)) fun ⟨A,c,hu2,hR,_,_,_⟩=>?_
  obtain ⟨ab,ao,rfl⟩:∃ ab ao,A=some ⟨ab,ao,none⟩:=by
   cases A with
   | none =>
    have h0:rows.flatMap SRow.v=[]:=hR
    have h1:=bc SRow.v_len rows
    rw [h0] at h1
    simp at h1
    omega
   | some a =>
    obtain ⟨x,y,z⟩:=a
    have:z=none:=hR.1
    subst this
    exact ⟨x,y,rfl⟩
  subst hu2
  exact E2 hok hord hl hpos hk hk1 hk2 hY
structure BRow where
 b:Bt
 s:Value
def BRow.v (x:BRow):List Value:=x.b.v x.s
theorem BRow.v_len (x:BRow):x.v.length=5:=rfl
def BRowOk (os:List (Nat×Obj)) (x:BRow):Prop:=0 < x.b.recs.length/\x.b.recs.length<=10000/\∃ A c,x.s=.slice (some A) x.b.recs.length c/\Reads (frz os) (some A) x.b.rv
theorem BRowOk.mono {os os2:List (Nat×Obj)} {x:BRow} (h:BRowOk os x) (hs:∀ y∈os,y∈os2):BRowOk os2 x:=by
 obtain ⟨h1,h2,A,c,h3,h4,h5⟩:=h
 refine ⟨h1,h2,A,c,h3,h4,fun hh hf=>h5 hh ?_⟩
 unfold frz at hf ⊢
 exact fun p hp=>hf p (hs p hp)
theorem Bp {b:Bt} {A:Option Addr} {m c:Nat}:∀ u∈b.v (.slice A m c),Value.single u=true:=by
 intro u hu
 unfold Bt.v at hu
 simp only [List.mem_cons,List.not_mem_nil,or_false] at hu
 rcases hu with rfl | rfl | rfl | rfl | rfl<;>rfl
theorem Ta (a s p q:Int) (A:Option Addr) (m c:Nat):a8 Tryz.prog 40 1 [(0,.agg #[.int .i64 a,.int .i64 s,.int .i64 p,.int .i64 q,.slice A m c])] 44 #[.int .i64 a,.int .i64 s,.int .i64 p,.int .i64 q,.slice A m c]:=fun w=>by kernel_rfl
theorem P9 {os:List (Nat×Obj)} {rows:List SRow} {off:Int} (h:∀ x∈rows,SRowOk os x) (ho:off < 0):∀ i,0<=i->i < rows.length->hitR off rows i=true:=by
 intro i _ hi
 rw [I1 (List.getElem?_eq_getElem hi)]
 have:=(h _ (List.getElem_mem hi)).rng
 exact decide_eq_true (by omega)
theorem I3 {α:Type} {l:List α} {i:Nat} {x:α} (h:l[i]?=some x):l.take (i+1)=l.take i++[x]:=by
 rw [List.take_add_one,h];rfl
theorem Bq {s:Nat} {off:Int}:Spec Tryz.prog 51 #[.pointer (some ⟨s,0,none⟩),.int .i64 off] [] fun F v M=>∃ cs co,v=.func (.func 101) #[] #[.pointer (some ⟨cs,0,none⟩),.pointer (some ⟨co,0,none⟩)]/\M=pt cs (.cells #[.pointer (some ⟨s,0,none⟩)] 86 (0,0)) :: pt co (.cells #[.int .i64 off] 3 (0,0)) :: F:=by
 refine Spec.intro Tryz.func51 rfl rfl fun B F=>?_
 simp only [Tryz.ntmps51,List.cons_append,List.nil_append,env0,Nat.reduceAdd]
 refine .sr ?_
 refine .box fun b2=>?_
 refine .box fun b3=>?_
 refine .assign (.x ?_)
 refine .makeFuncB ?_
 refine .assign (.z (.ret (?_)))
 exact .ret1 (h1:=.tmp (t:=4) rfl) ⟨_,⟨_,_,rfl,rfl⟩,Am.auto⟩
theorem Tb {s f:Nat} {path:ad} {base:Int} {rows:List SRow} {u:Value} {os:List (Nat×Obj)} (hok:∀ x∈rows,SRowOk os x) (hord:zo rows) (hl:rows.length<=100000) (hu:rows=[]->u=.slice none 0 0):Spec Tryz.prog 122 #[.pointer (some ⟨s,0,none⟩)] [pt s (sgO f path base rows u),rowR 151 6 u rows.length (rows.flatMap SRow.v),frz os] fun F v M=>∃ (l:List BRow) (os2:List (Nat×Obj)),(l.map BRow.b=rows.map SRow.b/\∀ y∈l,BRowOk os2 y)/\M=rowR 44 5 v l.length (l.flatMap BRow.v) :: frz os2 :: pt s (sgO f path base rows u) :: rowR 151 6 u rows.length (rows.flatMap SRow.v) :: frz os :: F:=by
 refine Spec.introM Tryz.func122 rfl rfl fun B F=>?_
 simp only [Tryz.ntmps122,List.cons_append,List.nil_append,env0,Nat.reduceAdd]
 refine .sr ?_
 refine .alloc z40 fun b2=>?_
 refine .z (.seq (.sr (.move ?_)))
 refine .call (hc:=Tryz.call51) (sp:=Bq) (h:=?_)
 rintro _ _ ⟨cs,co,rfl,rfl⟩
 refine .z (.block ?_)
 refine .emp (A:=rowR 44 5 (.slice none 0 0) ([]:List BRow).length (([]:List BRow).flatMap BRow.v)) (rowR.nil _) ?_
 refine .emp (A:=frz []) wg ?_
 refine .rangeK rfl Tryz.call101 fun fn D ll tmps mk hmk hts hget=>?_
 obtain ⟨C,hC⟩:∃ C:Nat->HP,C=fun i=>exH (fun x:Value×List BRow×List (Nat×Obj)=>x.2.1.map BRow.b=(rows.take i).map SRow.b/\∀ y∈x.2.1,BRowOk x.2.2 y) (fun x=>[pt ll (.loop (mk .ready none)),pt b2 (.cells #[x.1] 40 (0,0)),rowR 44 5 x.1 x.2.1.length (x.2.1.flatMap BRow.v),frz x.2.2]):=⟨_,rfl⟩
 have hopen:∀ i,Opens (C i) (fun x:Value×List BRow×List (Nat×Obj)=>x.2.1.map BRow.b=(rows.take i).map SRow.b/\∀ y∈x.2.1,BRowOk x.2.2 y) (fun x=>[pt ll (.loop (mk .ready none)),pt b2 (.cells #[x.1] 40 (0,0)),rowR 44 5 x.1 x.2.1.length (x.2.1.flatMap BRow.v),frz x.2.2]):=fun i=>by rw [hC];exact exH.opens
 clear hC
 have hY:∀ (i:Nat) (x:SRow) (A2:Addr) (c2:Nat),rows[i]?=some x->0<=i->RSpec Tryz.prog ll [.agg (x.b.v (.slice (some A2) x.b.recs.length c2)).toArray,.int .i64 ((x.k:Nat):Int)] [rowR 95 6 (.slice (some A2) x.b.recs.length c2) x.b.recs.length x.b.rv,C i] fun F b M=>(b=true/\M=C (i+1) :: F) ∨ (b=false/\M=exH (fun _:Unit=>False) (fun _=>[]) :: F):=by
  intro i x A2 c2 hx _
  have hxok:=hok x (List.mem_of_getElem? hx)
  have hil:i < rows.length:=(List.getElem?_eq_some_iff.1 hx).1
  refine RSpec.pre' (pre:=C i :: [rowR 95 6 (.slice (some A2) x.b.recs.length c2) x.b.recs.length x.b.rv]) (RSpec.opens (hopen i) fun y hy=>?_) (fun B w F hs=>hs.take (.cons (.there .here) (.cons .here .nil)))
  obtain ⟨v,l,os2⟩:=y
  obtain ⟨hy1,hy2⟩:=hy
  simp only at hy1 hy2
  have hll:l.length<=100000:=by
   have h1:=congrArg List.length hy1
   simp only [List.length_map,List.length_take] at h1
   omega
  simp only [List.cons_append,List.nil_append]
  refine RSpec.post' (R:=fun F b M=>b=true/\∃ (v:Value) (l:List BRow) (os2:List (Nat×Obj)),(l.map BRow.b=(rows.take (i+1)).map SRow.b/\∀ y∈l,BRowOk os2 y)/\M=pt ll (.loop (mk .ready none)) :: pt b2 (.cells #[v] 40 (0,0)) :: rowR 44 5 v l.length (l.flatMap BRow.v) :: frz os2 :: F) (RSpec.introK (ps:=[6,7]) (k:=13) hmk hts hget rfl rfl fun B F=>?_) ?_
  ·simp only [envs,List.cons_append,List.nil_append]
   refine WJ.region .auto ?_
   refine .alloc z44 fun b3=>?_
   refine .stV ?_ gj
   refine .nil ?_
   refine .beginK hmk ?_ (by repeat (first | exact .here | apply Rem.there | apply Repl.there | apply Mem.there))
   refine WJ.block ?_
   refine WJ.region .auto ?_
   refine .ld ?_ sc40
   refine .ldA ?_ gj
   refine .buildS (fun b10=>?_) (Ta _ _ _ _ _ _ _)
   refine .toE (A:=rowR 95 6 (.slice (some A2) x.b.recs.length c2) x.b.recs.length x.b.rv) (pz hxok.pos) ?_
   rintro ⟨g2,q2,cur⟩ ⟨hv2,htk⟩
   injection hv2 with hA2 _ hc2
   injection hA2 with hA2
   simp only at hA2 hc2 htk
   subst hA2
   subst hc2
   refine .frzAdd ?_
   have hnew:BRowOk ((g2,.cells cur 95 (0,0)) :: os2) (⟨x.b,.slice (some ⟨g2,0,none⟩) x.b.recs.length c2⟩:BRow):=⟨hxok.pos,hxok.len,_,c2,rfl,by
    have:=(Reads.frz (os:=(g2,.cells cur 95 (0,0)) :: os2) (b:=g2) (cs:=cur) (List.mem_cons_self ..)).take x.b.rv.length
    rwa [htk] at this⟩
   refine .append (v:=v) (m:=1) (k:=l.length) (xs:=l.flatMap BRow.v) (news:=BRow.v (⟨x.b,.slice (some ⟨g2,0,none⟩) x.b.recs.length c2⟩:BRow)) so40 (by decide) (by repeat (first | exact .here | apply Rem.there | apply Repl.there | apply Mem.there)) (Reads.pt (cs:=(BRow.v (⟨x.b,.slice (some ⟨g2,0,none⟩) x.b.recs.length c2⟩:BRow)).toArray)) (by repeat (first | exact .here | apply Rem.there | apply Repl.there | apply Mem.there)) rfl Bp (by unfold maxLen;omega) (by omega) ⟨_,z44,rfl⟩ (fun v2 hv2=>?_)
   rw [show l.flatMap BRow.v++BRow.v (⟨x.b,.slice (some ⟨g2,0,none⟩) x.b.recs.length c2⟩:BRow)=(l++[(⟨x.b,.slice (some ⟨g2,0,none⟩) x.b.recs.length c2⟩:BRow)]).flatMap BRow.v by rw [List.flatMap_append,List.flatMap_singleton],show l.length+1=(l++[(⟨x.b,.slice (some ⟨g2,0,none⟩) x.b.recs.length c2⟩:BRow)]).length by simp]
   refine .fact (ah (el:=44) (size:=5) (k:=(l++[(⟨x.b,.slice (some ⟨g2,0,none⟩) x.b.recs.length c2⟩:BRow)]).length) (v:=v2) (xs:=(l++[(⟨x.b,.slice (some ⟨g2,0,none⟩) x.b.recs.length c2⟩:BRow)]).flatMap BRow.v)) fun ⟨A9,c9,hv9,_⟩=>?_
   subst hv9
   refine .st ?_ sc40
   refine .nil (.blockNormal ?_)
   refine .rndK hmk ?_ (by repeat (first | exact .here | apply Rem.there | apply Repl.there | apply Mem.there))
   exact ⟨_,⟨rfl,_,l++[(⟨x.b,.slice (some ⟨g2,0,none⟩) x.b.recs.length c2⟩:BRow)],(g2,.cells cur 95 (0,0)) :: os2,⟨by rw [List.map_append,hy1,I3 hx,List.map_append];rfl,fun y hy=>(List.mem_append.1 hy).elim (fun h=>(hy2 y h).mono fun z hz=>List.mem_cons_of_mem _ hz) (fun h=>by rw [List.mem_singleton.1 h];exact hnew)⟩,rfl⟩,Am.auto⟩
  ·rintro F b M B w ⟨rfl,v,l,os2,h1,rfl⟩ hs
   exact ⟨_,.inl ⟨rfl,rfl⟩,Sat.shuts (hopen (i+1)) (x:=(v,l,os2)) h1 hs⟩
 refine ⟨pt ll (.loop (mk .ready none)) :: pt b2 (.cells #[.slice none 0 0] 40 (0,0)) :: rowR 44 5 (.slice none 0 0) ([]:List BRow).length (([]:List BRow).flatMap BRow.v) :: frz [] :: pt cs (.cells #[.pointer (some ⟨s,0,none⟩)] 86 (0,0)) :: pt co (.cells #[.int .i64 (-1)] 3 (0,0)) :: pt s (sgO f path base rows u) :: rowR 151 6 u rows.length (rows.flatMap SRow.v) :: frz os :: [],_,fun G v M=>v=.tuple #[]/\∃ (v2:Value) (l:List BRow) (os2:List (Nat×Obj)),(l.map BRow.b=rows.map SRow.b/\∀ y∈l,BRowOk os2 y)/\M=pt ll (.loop (mk .ready none)) :: pt b2 (.cells #[v2] 40 (0,0)) :: rowR 44 5 v2 l.length (l.flatMap BRow.v) :: frz os2 :: pt cs (.cells #[.pointer (some ⟨s,0,none⟩)] 86 (0,0)) :: pt co (.cells #[.int .i64 (-1)] 3 (0,0)) :: pt s (sgO f path base rows u) :: rowR 151 6 u rows.length (rows.flatMap SRow.v) :: frz os :: G,Spec.post' (Spec.pre' (Bo (k:=0) hok hord hl hu (Nat.zero_le _) (fun i h=>absurd h (Nat.not_lt_zero i)) (P9 hok (by decide)) hY) (fun B w G hs=>Sat.shuts (hopen 0) (x:=(.slice none 0 0,[],[])) ⟨by simp,fun y hy=>absurd hy (List.not_mem_nil)⟩ hs)) ?_,by repeat (first | exact .nil | (apply Tk.cons;focus ((repeat (first | exact .here | apply Rem.there));done))),?_⟩
 ·rintro G v M B w ⟨rfl,rfl | rfl⟩ hs
  ·obtain ⟨x,hx,hs1⟩:=Sat.opens hs (hopen _)
   rw [List.take_length] at hx
   exact ⟨_,⟨rfl,x.1,x.2.1,x.2.2,hx,rfl⟩,hs1⟩
  ·obtain ⟨_,hx,_⟩:=Sat.opens hs exH.opens
   exact hx.elim
 rintro v M ⟨rfl,v2,l,os2,hfin,rfl⟩
 refine ⟨.ready,none,_,.here,by decide,?_⟩
 show WQ _ _ _ .normal _ _
 refine .blockNormal (.next (.sr ?_))
 refine .fact (ah (el:=44) (size:=5) (k:=l.length) (v:=v2) (xs:=l.flatMap BRow.v)) fun ⟨A9,c9,hv9,_⟩=>?_
 subst hv9
 refine .ld ?_ sc40
 refine .st ?_ sc40
 refine .z (.ret (?_))
 refine .retM1 (D:=D) (r:=.cell 2 40) ?_ (by repeat (first | exact .here | apply Rem.there | apply Repl.there | apply Mem.there)) (.cell rfl (by kernel_rfl) (by repeat (first | exact .here | apply Rem.there | apply Repl.there | apply Mem.there)) rfl)
 exact ⟨_,⟨l,os2,hfin,rfl⟩,Am.auto⟩
structure SegI (os:List (Nat×Obj)) (bs:List Bt) (rows:List SRow) (u:Value):Prop where
 b:rows.map SRow.b=bs
 ok:∀ x∈rows,SRowOk os x
 k:∀ x∈rows,x.k=(batB x.b).length/\x.k<=6000
 ord:zo rows
 nil:rows=[]->u=.slice none 0 0
abbrev X3 :=List SRow×Value×List (Nat×Obj)
abbrev Mh (s f:Nat) (path:ad) (base:Int) (x:X3):List HP:=[pt s (sgO f path base x.1 x.2.1),rowR 151 6 x.2.1 x.1.length (x.1.flatMap SRow.v),frz x.2.2]
def SGP (s f:Nat) (path:ad) (base:Int) (bs:List Bt):HP:=exH (fun x:X3=>SegI x.2.2 bs x.1 x.2.1) (Mh s f path base)
theorem SGP.opens (s f:Nat) (path:ad) (base:Int) (bs:List Bt):Opens (SGP s f path base bs) (fun x:X3=>SegI x.2.2 bs x.1 x.2.1) (Mh s f path base):=exH.opens
abbrev SG (s f:Nat) (base:Int) (bs:List Bt):HP:=SGP s f [47,115] base bs
def t6 (base:Int) (bs:List Bt):Int:=match bs.getLast? with
 | some b=>b.base+b.span
 | none=>base
theorem SegI.next {os:List (Nat×Obj)} {bs:List Bt} {rows:List SRow} {u:Value} (h:SegI os bs rows u) (base:Int):x6 base rows=t6 base bs:=by
 rw [<- h.b]
 unfold x6 t6
 rw [List.getLast?_map]
 cases rows.getLast?<;>rfl
theorem SegI.siz {os:List (Nat×Obj)} {bs:List Bt} {rows:List SRow} {u:Value} (h:SegI os bs rows u):sizR rows=(bs.flatMap batB).length:=by
 rw [<- h.b]
 have hk:=h.k
 clear h
 induction rows with
 | nil=>rfl
 | cons x l ih =>
  rw [List.map_cons,List.flatMap_cons,List.length_append,<-(hk x (List.mem_cons_self ..)).1,<-ih (fun y hy=>hk y (List.mem_cons_of_mem _ hy))]
  rfl
theorem SegI.len {os:List (Nat×Obj)} {bs:List Bt} {rows:List SRow} {u:Value} (h:SegI os bs rows u):rows.length=bs.length:=by rw [<- h.b,List.length_map]
theorem E3 {base:Int} {rows:List SRow} {j:Nat} {y:SRow} (hy:rows[j]?=some y) (hj:j+1=rows.length):x6 base rows=y.b.base+y.b.span:=by
 unfold x6
 rw [List.getLast?_eq_getElem?,show rows.length - 1=j by omega,hy]
theorem SegI.add {os os2:List (Nat×Obj)} {bs:List Bt} {rows:List SRow} {u u2:Value} {b:Bt} {s2:Value} {base:Int} {k:Nat} (hkb:k=(batB b).length) (h:SegI os bs rows u) (hE:batE b=0) (hx:x6 base rows<=b.base)
  (hn:SRowOk os2 ⟨b,s2,k⟩) (hs:∀ x∈os,x∈os2):SegI os2 (bs++[b]) (rows++[⟨b,s2,k⟩]) u2:=by
 refine ⟨by rw [List.map_append,h.b];rfl,fun x hxm=>?_,fun x hxm=>?_,fun i j x y hij hxi hyj=>?_,fun h0=>by simp at h0⟩
 ·rcases List.mem_append.1 hxm with hxm | hxm
  ·exact (h.ok x hxm).mono hs
  ·rw [List.mem_singleton.1 hxm];exact hn
 ·rcases List.mem_append.1 hxm with hxm | hxm
  ·exact h.k x hxm
  ·rw [List.mem_singleton.1 hxm];show k=(batB b).length/\k<=6000;exact ⟨hkb,by rw [hkb];exact (qy hE).1⟩
 ·by_cases hj:j < rows.length
  ·rw [List.getElem?_append_left hj] at hyj
   rw [List.getElem?_append_left (by omega)] at hxi
   exact h.ord i j x y hij hxi hyj
  ·have hjl:j=rows.length:=by
    have:=(List.getElem?_eq_some_iff.1 hyj).1
    rw [List.length_append,List.length_singleton] at this
    omega
   subst hjl
   have hy:y=⟨b,s2,k⟩:=by simpa using hyj.symm
   by_cases hi:i < rows.length
   ·rw [List.getElem?_append_left hi] at hxi
    have hz:rows[rows.length - 1]?=some rows[rows.length - 1]:=List.getElem?_eq_getElem _
    have h1:=h.ord i (rows.length - 1) _ _ (by omega) hxi hz
    rw [E3 hz (by omega)] at hx
    have h2:=(x7 hE).2.1
    rw [hy]
    show _<=b.base+b.span
    omega
   ·have hii:i=rows.length:=by omega
    subst hii
    have hx2:x=y:=by rw [hyj] at hxi;injection hxi with hxi;exact hxi.symm
    rw [hx2];omega
theorem Br {f:Nat} {base:Int} {path:ad} {H H':HP} (hb:0<=base/\base<=1125899906842624) (hC:Spec Tryz.prog 100 #[.pointer (some ⟨f,0,none⟩),sv path] [H] fun F v M=>v=okV/\M=H' :: F):Spec Tryz.prog 46 #[.pointer (some ⟨f,0,none⟩),sv path,.int .i64 base] [H]
  fun F v M=>∃ s,v=.tuple #[.pointer (some ⟨s,0,none⟩),.int .i64 0]/\M=SGP s f path base [] :: H' :: F :=
 Spec.post' (P7 hb hC) fun F v M B w ⟨s,h1,h2⟩ hs=>by
  subst h2
  have h3:Sat B w (frz [] :: pt s (sgO f path base [] (.slice none 0 0)) :: rowR 151 6 (.slice none 0 0) ([]:List SRow).length (([]:List SRow).flatMap SRow.v) :: H' :: F):=hs.pure wg
  exact ⟨_,⟨s,h1,rfl⟩,Sat.shuts (SGP.opens s f path base []) (x:=([],.slice none 0 0,[])) ⟨rfl,fun x h=>absurd h List.not_mem_nil,fun x h=>absurd h List.not_mem_nil,fun i j x y _ h=>by simp at h,fun _=>rfl⟩ (h3.take (.cons (.there .here) (.cons (.there .here) (.cons .here .nil))))⟩
theorem t7 {s f c:Nat} {base:Int} {path:ad} {H H':HP} {bs:List Bt} {b:Bt} {A:Addr} {R:HP} (hR:Reads R (some A) b.rv) (hE:batE b=0) (hl:b.recs.length<=10000) (hx:t6 base bs<=b.base) (hrows:bs.length<=99999) (hsz:(bs.flatMap batB).length<=1000000000)
  (hA:∀ (R:HP) (A:Option Addr) (cc:Nat),Reads R A (bvs (batB b))->(batB b).length<=cc->cc<=maxLen->Spec Tryz.prog 96 #[.pointer (some ⟨f,0,none⟩),sv path,.slice A (batB b).length cc] [H,R] fun F v M=>v=okV/\M=H' :: R :: F) :
  Spec Tryz.prog 45 #[.pointer (some ⟨s,0,none⟩),.agg (b.v (.slice (some A) b.recs.length c)).toArray] [SGP s f path base bs,H,R] fun F v M=>v=.int .i64 0/\M=SGP s f path base (bs++[b]) :: H' :: R :: F:=by
 refine Spec.opens (SGP.opens s f path base bs) fun x hi=>?_
 refine Spec.post' (I0 hi.ok hR hE hl (by rw [hi.next];exact hx) (by rw [hi.len];exact hrows) (by rw [hi.siz];exact hsz) hA) ?_
 rintro F v M B w ⟨rfl,u2,os2,s2,⟨hn,hsub⟩,rfl⟩ hs
 refine ⟨_,⟨rfl,rfl⟩,Sat.shuts (SGP.opens s f path base (bs++[b])) (x:=(_,u2,os2)) (hi.add rfl hE (by rw [hi.next];exact hx) hn hsub) hs⟩
theorem SG.const {f:FuncId} {args:Array Value} {path:ad} {s g:Nat} {base:Int} {bs:List Bt} {val:Value} (h:∀ x:X3,SegI x.2.2 bs x.1 x.2.1->Spec Tryz.prog f args [pt s (sgO g path base x.1 x.2.1),rowR 151 6 x.2.1 x.1.length (x.1.flatMap SRow.v)] fun F v M=>v=val/\M=pt s (sgO g path base x.1 x.2.1) :: rowR 151 6 x.2.1 x.1.length (x.1.flatMap SRow.v) :: F) :
  Spec Tryz.prog f args [SGP s g path base bs] fun F v M=>v=val/\M=SGP s g path base bs :: F:=by
 refine Spec.opens (SGP.opens s g path base bs) fun x hi=>?_
 refine Spec.post' (Spec.pre' (Spec.frame (frz x.2.2) (h x hi)) (pre':=Mh s g path base x++[]) fun B w F hs=>hs.take (.cons (.there (.there .here)) (.cons .here (.cons .here .nil)))) ?_
 rintro F v M B w ⟨rfl,rfl⟩ hs
 exact ⟨_,⟨rfl,rfl⟩,Sat.shuts (SGP.opens s g path base bs) (x:=x) hi hs⟩
theorem Tc {s f:Nat} {path:ad} {base:Int} {bs:List Bt} (hl:bs.length<=100000):Spec Tryz.prog 49 #[.pointer (some ⟨s,0,none⟩)] [SGP s f path base bs] fun F v M=>v=.int .i64 (t6 base bs)/\M=SGP s f path base bs :: F :=
 SG.const fun x hi=>by rw [<- hi.next];exact Ix hi.ok (by rw [hi.len];exact hl)
theorem Td {s f:Nat} {path:ad} {base:Int} {bs:List Bt}:Spec Tryz.prog 44 #[.pointer (some ⟨s,0,none⟩)] [SGP s f path base bs] fun F v M=>v=.int .i64 (((bs.flatMap batB).length:Nat):Int)/\M=SGP s f path base bs :: F :=
 SG.const fun x hi=>by rw [<- hi.siz];exact P5
theorem Te {s f:Nat} {path:ad} {base:Int} {bs:List Bt}:Spec Tryz.prog 50 #[.pointer (some ⟨s,0,none⟩)] [SGP s f path base bs] fun F v M=>v=.int .i64 base/\M=SGP s f path base bs :: F :=
 SG.const fun x hi=>Iw
def BL (v:Value) (bs:List Bt):HP:=exH (fun x:List BRow×List (Nat×Obj)=>x.1.map BRow.b=bs/\∀ y∈x.1,BRowOk x.2 y) (fun x=>[rowR 44 5 v x.1.length (x.1.flatMap BRow.v),frz x.2])
theorem BL.opens (v:Value) (bs:List Bt):Opens (BL v bs) (fun x:List BRow×List (Nat×Obj)=>x.1.map BRow.b=bs/\∀ y∈x.1,BRowOk x.2 y) (fun x=>[rowR 44 5 v x.1.length (x.1.flatMap BRow.v),frz x.2]):=exH.opens
theorem sgAll {s f:Nat} {path:ad} {base:Int} {bs:List Bt} (hl:bs.length<=100000):Spec Tryz.prog 122 #[.pointer (some ⟨s,0,none⟩)] [SGP s f path base bs] fun F v M=>M=BL v bs :: SGP s f path base bs :: F:=by
 refine Spec.opens (SGP.opens s f path base bs) fun x hi=>?_
 refine Spec.post' (Spec.pre' (Tb hi.ok hi.ord (by rw [hi.len];exact hl) hi.nil) (pre':=Mh s f path base x++[]) fun B w F hs=>hs) ?_
 rintro F v M B w ⟨l,os2,hfin,rfl⟩ hs
 refine ⟨_,rfl,Sat.shuts (BL.opens v bs) (x:=(l,os2)) (by rw [hi.b] at hfin;exact hfin) (Sat.take (.cons (.there .here) (.cons (.there .here) .nil)) (Sat.shuts (SGP.opens s f path base bs) (x:=x) hi (hs.take (.cons (.there (.there .here)) (.cons (.there (.there .here)) (.cons (.there (.there .here)) .nil))))))⟩
theorem E4 {R:HP} {A:Option Addr} {l:List BRow} (hR:Reads R A (l.flatMap BRow.v)) (h:0 < l.length):∃ ab ao,A=some ⟨ab,ao,none⟩:=by
 cases A with
 | none =>
  have h0:l.flatMap BRow.v=[]:=hR
  have h1:=bc BRow.v_len l
  rw [h0] at h1
  simp at h1
  omega
 | some a =>
  obtain ⟨x,y,z⟩:=a
  have:z=none:=hR.1
  subst this
  exact ⟨x,y,rfl⟩
theorem Qa :nv Tryz.prog 30=true:=by kernel_rfl
theorem vl :ae Tryz.prog 84 0 0=true:=by kernel_rfl
theorem e8 :ae Tryz.prog 84 3 7=true:=by kernel_rfl
theorem sc82 :ai Tryz.prog 82=true:=by kernel_rfl
theorem sl82 :Tryz.prog.underlying 82=some (.slice 86):=by kernel_rfl
theorem so82 :aq Tryz.prog 82 86 1 8=true:=by kernel_rfl
theorem ko (dn nm:ad):(47 :: dn)++[47]++nm=em dn nm:=by unfold em;simp
structure Seg where
 s:Nat
 base:Nat
 bs:List Bt
def Seg.a (x:Seg):SegA:=(x.base,x.bs)
def Seg.ptr (x:Seg):Value:=.pointer (some ⟨x.s,0,none⟩)
abbrev SGA (f:Nat) (dn:ad) (x:Seg):HP:=SGP x.s f (em dn (aw x.base)) ((x.base:Nat):Int) x.bs
def segsH (f:Nat) (dn:ad) (l:List Seg):HP:=bun (l.map (SGA f dn))
theorem zp {α:Type _} {x:α}:∀ (a b:List α),Rem (a++x :: b) x (a++b)
 | [],_=>.here
 | _ :: a,b=>.there (zp a b)
theorem segsH.out {f:Nat} {dn:ad} {pre post:List Seg} {x:Seg} {B:Base} {w:World} {M:List HP} (h:Sat B w (segsH f dn (pre++x :: post) :: M)):Sat B w (SGA f dn x :: segsH f dn (pre++post) :: M):=by
 obtain ⟨_,_,h1⟩:=Sat.opens h (bun.opens _)
 rw [List.map_append,List.map_cons,List.append_assoc,List.cons_append] at h1
 have h2:=Sat.front (zp _ _) h1
 rw [<- List.append_assoc,<-List.map_append] at h2
 have h3:=Sat.back (zp (x:=SGA f dn x) ((pre++post).map (SGA f dn)) M) h2
 exact Sat.front (.there .here) (Sat.shuts (bun.opens ((pre++post).map (SGA f dn))) (x:=()) trivial h3)
theorem segsH.inn {f:Nat} {dn:ad} {pre post:List Seg} {x:Seg} {B:Base} {w:World} {M:List HP} (h:Sat B w (SGA f dn x :: segsH f dn (pre++post) :: M)):Sat B w (segsH f dn (pre++x :: post) :: M):=by
 obtain ⟨_,_,h1⟩:=Sat.opens (Sat.front (.there .here) h) (bun.opens _)
 have h2:=Sat.front (zp ((pre++post).map (SGA f dn)) M) h1
 rw [List.map_append,List.append_assoc] at h2
 have h3:=Sat.back (zp (x:=SGA f dn x) (pre.map (SGA f dn)) (post.map (SGA f dn)++M)) h2
 refine Sat.shuts (bun.opens ((pre++x :: post).map (SGA f dn))) (x:=()) trivial ?_
 rw [List.map_append,List.map_cons,List.append_assoc,List.cons_append]
 exact h3
section
variable {P:Program} {B:Base} {n:Fr} {Q:Exit->Act->World->Prop} {e:Env} {L M:List HP} {ops:Array Oper} {l:List Oper} {f:Nat} {dn:ad} {x:Seg}
theorem WL.segOut (pre post:List Seg) (h:WL P B n ops l Q e (SGA f dn x :: segsH f dn (pre++post) :: M)) (r:Rem L (segsH f dn (pre++x :: post)) M:=by repeat (first | exact .here | apply Rem.there)):WL P B n ops l Q e L :=
 fun a w ha hs=>h a w ha (segsH.out (Sat.front r hs))
theorem WL.segIn (pre post:List Seg) (x:Seg) (h:WL P B n ops l Q e (segsH f dn (pre++x :: post) :: M)) (t:Tk L [SGA f dn x,segsH f dn (pre++post)] M:=by repeat (first | exact .nil | (apply Tk.cons;focus ((repeat (first | exact .here | apply Rem.there));done)))):WL P B n ops l Q e L :=
 fun a w ha hs=>h a w ha (segsH.inn (hs.take t))
theorem WQ.segIn {xt:Exit} (pre post:List Seg) (x:Seg) (h:WQ B n Q xt e (segsH f dn (pre++x :: post) :: M)) (t:Tk L [SGA f dn x,segsH f dn (pre++post)] M:=by repeat (first | exact .nil | (apply Tk.cons;focus ((repeat (first | exact .here | apply Rem.there));done)))):WQ B n Q xt e L :=
 fun a w ha hs=>h a w ha (segsH.inn (hs.take t))
end
theorem WQ.dbfUp {B:Base} {n:Fr} {Q:Exit->Act->World->Prop} {e:Env} {L M:List HP} {xt:Exit} {f:Nat} {p:Pl} {dn:ad} {N W:Nat} {F0:FM} {ss:List SegA} (N' W':Nat) (hN:N<=N') (hW:W<=W') (h:WQ B n Q xt e (DBF f p dn N' F0 ss W' :: M)) (r:Rem L (DBF f p dn N F0 ss W) M:=by repeat (first | exact .here | apply Rem.there)):WQ B n Q xt e L :=
 fun a w ha hs=>h a w ha (DBF.wkn hW (DBF.up hN (Sat.front r hs)))
theorem segsH.one {f:Nat} {dn:ad} {pre post:List Seg} {x:Seg} {fn:FuncId} {args:Array Value} {v:Value} (h:Spec Tryz.prog fn args [SGA f dn x] fun F u M=>u=v/\M=SGA f dn x :: F):Spec Tryz.prog fn args [segsH f dn (pre++x :: post)] fun F u M=>u=v/\M=segsH f dn (pre++x :: post) :: F:=by
 refine Spec.post' (Spec.pre' (Spec.frame (segsH f dn (pre++post)) h) (pre':=[segsH f dn (pre++x :: post)]) fun B w F hs=>Sat.front (.there .here) (segsH.out hs)) ?_
 rintro F u M B w ⟨rfl,rfl⟩ hs
 exact ⟨_,⟨rfl,rfl⟩,segsH.inn hs⟩
theorem l9 {f:Nat} {dn:ad} {pre post:List Seg} {x:Seg}:Spec Tryz.prog 44 #[x.ptr] [segsH f dn (pre++x :: post)] fun F u M=>u=.int .i64 (((byt x.a).length:Nat):Int)/\M=segsH f dn (pre++x :: post) :: F:=segsH.one Td
theorem qz {f:Nat} {dn:ad} {pre post:List Seg} {x:Seg}:Spec Tryz.prog 50 #[x.ptr] [segsH f dn (pre++x :: post)] fun F u M=>u=.int .i64 ((x.base:Nat):Int)/\M=segsH f dn (pre++x :: post) :: F:=segsH.one Te
theorem Mi {f:Nat} {dn:ad} {pre post:List Seg} {x:Seg} (hl:x.bs.length<=100000):Spec Tryz.prog 49 #[x.ptr] [segsH f dn (pre++x :: post)] fun F u M=>u=.int .i64 (t6 ((x.base:Nat):Int) x.bs)/\M=segsH f dn (pre++x :: post) :: F:=segsH.one (Tc hl)
abbrev lb (f:Nat) (dn:ad) (st:Sts) (u:Value):Obj:=.cells #[.pointer (some ⟨f,0,none⟩),sv (47 :: dn),.int .i64 st.seg,.int .i64 st.bytes,.int .i64 st.age,.bool st.comp,.int .i64 st.delay,u] 84 (0,0)
abbrev ptLs (pp f:Nat) (dn:ad) (st:Sts) (dp:List Value) (x:Nat×Nat×List Seg):List HP:=[pt pp (lb f dn st (.slice (some ⟨x.1,dp.length,none⟩) x.2.2.length (x.2.1 - dp.length))),buf x.1 86 x.2.1 (dp++x.2.2.map Seg.ptr),segsH f dn x.2.2]
structure PtI (dp:List Value) (ss:List SegA) (x:Nat×Nat×List Seg):Prop where
 l:x.2.2.map Seg.a=ss
 c:dp.length+x.2.2.length<=x.2.1
 m:x.2.1<=maxLen
 n:x.2.2.length<=100000
def PT (pp f:Nat) (dn:ad) (st:Sts) (dp:List Value) (ss:List SegA):HP:=exH (PtI dp ss) (ptLs pp f dn st dp)
theorem PT.opens (pp f:Nat) (dn:ad) (st:Sts) (dp:List Value) (ss:List SegA):Opens (PT pp f dn st dp ss) (PtI dp ss) (ptLs pp f dn st dp):=exH.opens
theorem ju {g c:Nat} {dp:List Value} {l:List Seg}:Reads (buf g 86 c (dp++l.map Seg.ptr)) (some ⟨g,dp.length,none⟩) (l.map Seg.ptr):=by
 have h:=(Reads.buf (g:=g) (e:=86) (k:=c) (xs:=dp++l.map Seg.ptr)).drop dp.length
 rwa [Nat.zero_add,List.drop_left] at h
theorem zq {l:List Seg} {pre:List SegA} {y:SegA} (h:l.map Seg.a=pre++[y]):∃ l0 z,l=l0++[z]/\l0.map Seg.a=pre/\z.a=y:=by
 rw [List.map_eq_append_iff] at h
 obtain ⟨a,b,rfl,h1,h2⟩:=h
 rw [List.map_eq_singleton_iff] at h2
 obtain ⟨z,rfl,h3⟩:=h2
 exact ⟨a,z,rfl,h1,h3⟩
theorem vm {l:List Seg} {post:List SegA} {y:SegA} (h:l.map Seg.a=y :: post):∃ z l0,l=z :: l0/\z.a=y/\l0.map Seg.a=post:=by
 rw [List.map_eq_cons_iff] at h
 obtain ⟨z,l0,rfl,h1,h2⟩:=h
 exact ⟨z,l0,rfl,h1,h2⟩
theorem Dm (l0:List Seg) (z:Seg):((l0++[z]).map Seg.ptr)[((((l0++[z]).length:Nat):Int) - 1).toNat]?=some z.ptr:=by
 rw [List.length_append,List.length_singleton,show (((l0.length+1:Nat):Int) - 1).toNat=l0.length by omega,List.map_append,List.getElem?_append_right (by rw [List.length_map];exact Nat.le_refl _),List.length_map,Nat.sub_self]
 rfl
theorem ly {pp f g r n c:Nat} {dn:ad} {st:Sts} (hn:0 < n) (hn2:n<=100000):Spec Tryz.prog 38 #[.pointer (some ⟨pp,0,none⟩)] [pt pp (lb f dn st (.slice (some ⟨g,r,none⟩) n c))] fun F v M=>v=.bool true/\M=pt pp (lb f dn st (.slice (some ⟨g,r,none⟩) n c)) :: F:=by
 refine Spec.intro Tryz.func38 rfl rfl fun B F=>?_
 simp only [Tryz.ntmps38,List.cons_append,List.nil_append,env0,Nat.reduceAdd]
 refine .sr (.assign (.x (.move ?_)))
 refine .neNil ?_ Qa
 refine .move (.gT (.move (.gT (.nilCheck (.gT ?_)))))
 refine .fa ?_ vl
 refine .gT ?_
 refine .ld ?_ sc29
 refine .gT ?_
 refine .neNil ?_ s9
 refine .cast (d:=10) (u:=.bool true) rfl rfl ?_
 refine .pickT (.move (.gT (.move (.gT (.nilCheck ?_)))))
 refine .gT ?_
 refine .fa ?_ e8
 refine .gT ?_
 refine .ld ?_ sc82
 refine .gT ?_
 refine .lenS ?_ sl82
 refine .gT ?_
 refine .gtr ?_
 refine .cast (d:=18) (u:=.bool true) rfl (cB9 (decide_eq_true (by omega))) ?_
 refine .pickT (.assign (.z (.ret (?_))))
 exact .ret1 (h1:=.tmp (t:=2) rfl) ⟨_,⟨rfl,rfl⟩,Am.auto⟩
theorem vn {pp f g r n c:Nat} {dn:ad} {st:Sts} {ys:List Value} {s:Nat} {R:HP} (hR:Reads R (some ⟨g,r,none⟩) ys) (hn:0 < n) (hn2:n<=100000) (hnc:n<=c) (hx:ys[(((n:Nat):Int) - 1).toNat]?=some (.pointer (some ⟨s,0,none⟩))):Spec Tryz.prog 43 #[.pointer (some ⟨pp,0,none⟩)] [pt pp (lb f dn st (.slice (some ⟨g,r,none⟩) n c)),R] fun F v M=>v=.pointer (some ⟨s,0,none⟩)/\M=pt pp (lb f dn st (.slice (some ⟨g,r,none⟩) n c)) :: R :: F:=by
 refine Spec.intro Tryz.func43 rfl rfl fun B F=>?_
 simp only [Tryz.ntmps43,List.cons_append,List.nil_append,env0,Nat.reduceAdd]
 refine .sr (.assign (.z (.seq ?_)))
 refine .dr ([pt pp (lb f dn st (.slice (some ⟨g,r,none⟩) n c)),R]) [] 13 mixed .autoJ ?_
 refine .tk 0 rfl .move ?_
 refine .tk 1 rfl .nilCheck ?_
 refine .tk 2 rfl (.fa e8) ?_
 refine .tk 3 rfl (.ld sc82) ?_
 refine .tk 4 rfl .move ?_
 refine .tk 5 rfl .nilCheck ?_
 refine .tk 6 rfl (.fa e8) ?_
 refine .tk 7 rfl (.ld sc82) ?_
 refine .tk 8 rfl (.lenS sl82) ?_
 refine .tk 9 rfl .sub ?_
 refine .tk 10 rfl (.idx1 so82) ?_
 refine .tk 11 rfl (Qt.ldR (i:=(((n:Nat):Int) - 1).toNat) sc86 hR hx) ?_
 refine .tk 12 rfl .assign ?_
 refine .fin ?_
 refine .next (.ret (?_))
 exact .ret1 (h1:=.tmp (t:=2) rfl) ⟨_,⟨rfl,rfl⟩,Am.auto⟩
theorem p2 {pp f g r n c:Nat} {dn:ad} {st:Sts} (hn:0 < n) (hn2:n<=100000) (hnc:n<=c):Spec Tryz.prog 65 #[.pointer (some ⟨pp,0,none⟩)] [pt pp (lb f dn st (.slice (some ⟨g,r,none⟩) n c))] fun F v M=>v=.slice (some ⟨g,r,none⟩) (n - 1) c/\M=pt pp (lb f dn st (.slice (some ⟨g,r,none⟩) n c)) :: F:=by
 refine Spec.intro Tryz.func65 rfl rfl fun B F=>?_
 simp only [Tryz.ntmps65,List.cons_append,List.nil_append,env0,Nat.reduceAdd]
 refine .sr (.assign (.z (.seq ?_)))
 refine .dr ([pt pp (lb f dn st (.slice (some ⟨g,r,none⟩) n c))]) [] 12 mixed .autoJ ?_
 refine .tk 0 rfl .move ?_
 refine .tk 1 rfl .nilCheck ?_
 refine .tk 2 rfl (.fa e8) ?_
 refine .tk 3 rfl (.ld sc82) ?_
 refine .tk 4 rfl .move ?_
 refine .tk 5 rfl .nilCheck ?_
 refine .tk 6 rfl (.fa e8) ?_
 refine .tk 7 rfl (.ld sc82) ?_
 refine .tk 8 rfl (.lenS sl82) ?_
 refine .tk 9 rfl .sub ?_
 refine .tk 10 rfl ((Qt.slcH so82).eq (v':=.slice (some ⟨g,r,none⟩) (n - 1) c) (congrArg (fun z=>Value.slice (some ⟨g,r,none⟩) z c) (by omega))) ?_
 refine .tk 11 rfl .assign ?_
 refine .fin ?_
 refine .next (.ret (?_))
 exact .ret1 (h1:=.tmp (t:=2) rfl) ⟨_,⟨rfl,rfl⟩,Am.auto⟩
theorem Dn {pp f:Nat} {dn:ad} {st:Sts} {dp:List Value} {ss:List SegA} {pre:List SegA} {y:SegA} (hs:ss=pre++[y]) (hy:y.2.length<=100000):Spec Tryz.prog 18 #[.pointer (some ⟨pp,0,none⟩)] [PT pp f dn st dp ss] fun F v M=>v=.int .i64 (t6 ((y.1:Nat):Int) y.2)/\M=PT pp f dn st dp ss :: F:=by
 refine Spec.intro Tryz.func18 rfl rfl fun B F=>?_
 simp only [Tryz.ntmps18,List.cons_append,List.nil_append,env0,Nat.reduceAdd]
 refine .openR (PT.opens pp f dn st dp ss) fun x hx=>?_
 obtain ⟨g0,c0,l⟩:=x
 obtain ⟨hl,hc1,hc2,hn2⟩:=hx
 simp only [ptLs,List.cons_append,List.nil_append] at hl hc1 hc2 hn2 ⊢
 rw [hs] at hl
 obtain ⟨l0,z,rfl,hl0,rfl⟩:=zq hl
 rw [<- hs] at hl
 have hn:0 < (l0++[z]).length:=by simp
 refine .sr (.assign (.z (.seq (.sr (.move ?_)))))
 refine .call (hc:=Tryz.call38) (sp:=ly hn hn2) (h:=?_)
 rintro _ _ ⟨rfl,rfl⟩
 refine .not ?_
 refine .z ?_
 refine .condF rfl rfl ?_
 refine .skip (.next (.sr (.move ?_)))
 refine .call (hc:=Tryz.call43) (sp:=vn (pp:=pp) (f:=f) (g:=g0) (r:=dp.length) (n:=(l0++[z]).length) (c:=c0 - dp.length) (dn:=dn) (st:=st) (ys:=(l0++[z]).map Seg.ptr) (s:=z.s) ju hn hn2 (by omega) (Dm l0 z)) (h:=?_)
 rintro _ _ ⟨rfl,rfl⟩
 refine .call (hc:=Tryz.call49) (sp:=Mi (f:=f) (dn:=dn) (pre:=l0) (post:=[]) (x:=z) hy) (h:=?_)
 rintro _ _ ⟨rfl,rfl⟩
 refine .assign (.z (.ret (?_)))
 refine .shutR (PT.opens pp f dn st dp ss) (g0,c0,l0++[z]) ⟨hl,hc1,hc2,hn2⟩ ?_
 exact .ret1 (h1:=.tmp (t:=2) rfl) ⟨_,⟨rfl,rfl⟩,Am.auto⟩
theorem I4 {pp f:Nat} {dn:ad} {st:Sts} {dp:List Value} {ss:List SegA} {post:List SegA} {y:SegA} (hs:ss=y :: post):Spec Tryz.prog 19 #[.pointer (some ⟨pp,0,none⟩)] [PT pp f dn st dp ss] fun F v M=>v=.int .i64 ((y.1:Nat):Int)/\M=PT pp f dn st dp ss :: F:=by
 refine Spec.intro Tryz.func19 rfl rfl fun B F=>?_
 simp only [Tryz.ntmps19,List.cons_append,List.nil_append,env0,Nat.reduceAdd]
 refine .openR (PT.opens pp f dn st dp ss) fun x hx=>?_
 obtain ⟨g0,c0,l⟩:=x
 obtain ⟨hl,hc1,hc2,hn2⟩:=hx
 simp only [ptLs,List.cons_append,List.nil_append] at hl hc1 hc2 hn2 ⊢
 rw [hs] at hl
 obtain ⟨z,l0,rfl,rfl,hl0⟩:=vm hl
 rw [<- hs] at hl
 have hn:0 < (z :: l0).length:=by simp
 refine .sr (.assign (.z (.seq (.sr (.move ?_)))))
 refine .call (hc:=Tryz.call38) (sp:=ly hn hn2) (h:=?_)
 rintro _ _ ⟨rfl,rfl⟩
 refine .not ?_
 refine .z ?_
 refine .condF rfl rfl ?_
 refine .skip (.next (.sr (.move (.nilCheck ?_))))
 refine .fa ?_ e8
 refine .ld ?_ sc82
 refine .idx1 ?_ so82
 refine .ldR (i:=0) (v:=z.ptr) ?_ sc86 (ju (l:=z :: l0)) rfl
 refine .call (hc:=Tryz.call50) (sp:=qz (f:=f) (dn:=dn) (pre:=[]) (post:=l0) (x:=z)) (h:=?_)
 rintro _ _ ⟨rfl,rfl⟩
 refine .assign (.z (.ret (?_)))
 refine .shutR (PT.opens pp f dn st dp ss) (g0,c0,z :: l0) ⟨hl,hc1,hc2,hn2⟩ ?_
 exact .ret1 (h1:=.tmp (t:=2) rfl) ⟨_,⟨rfl,rfl⟩,Am.auto⟩
theorem zr {el size k:Nat} {v:Value} {xs:List Value} (hk:0 < k):∀ h,rowR el size v k xs h->∃ x:Nat×Nat×Nat,v=.slice (some ⟨x.1,0,none⟩) k x.2.1/\buf x.1 el x.2.2 xs h:=by
 intro h hh
 obtain ⟨x,⟨h1,h2⟩,h3⟩:=pz hk h hh
 unfold pt at h3
 refine ⟨(x.1,x.2.1,x.2.2.size),h1,?_⟩
 unfold buf
 refine ⟨x.2.2,h3,rfl,h2,?_⟩
 have h4:=congrArg List.length h2
 rw [List.length_take] at h4
 have:x.2.2.toList.length=x.2.2.size:=Array.length_toList
 show xs.length<=x.2.2.size
 omega
def midR (l:List Rc) (i:Nat):List Rc:=fy 0 (l.take i)++l.drop i
theorem I5 (l:List Rc):midR l 0=l:=by simp [midR,fy]
theorem I6 (l:List Rc):midR l l.length=fy 0 l:=by simp [midR]
theorem Mj {l:List Rc} {i:Nat} (hi:i < l.length):((midR l i).flatMap Rc.v).set (0+((i:Nat):Int).toNat * 6+5) (.int .i64 ((i:Nat):Int))=(midR l (i+1)).flatMap Rc.v:=by
 obtain ⟨r,hr⟩:∃ r,l[i]?=some r:=⟨_,List.getElem?_eq_getElem hi⟩
 have h1:l.drop i=r :: l.drop (i+1):=by
  rw [List.drop_eq_getElem_cons hi]
  rw [List.getElem?_eq_getElem hi] at hr
  injection hr with hr
  rw [hr]
 have h2:((fy 0 (l.take i)).flatMap Rc.v).length=i * 6:=by
  rw [bc Rc.v_len,jt,List.length_take]
  congr 1
  omega
 unfold midR
 rw [Ex hr,h1,List.flatMap_append,List.flatMap_append,List.flatMap_append,List.set_append,h2]
 rw [if_neg (by rw [Int.toNat_natCast];omega),show 0+((i:Nat):Int).toNat * 6+5 - i * 6=5 by rw [Int.toNat_natCast];omega,List.append_assoc]
 congr 1
theorem Mk {l:List Rc} {i:Nat} (hi:i<=l.length):((midR l i).flatMap Rc.v).length=l.length * 6:=by
 unfold midR
 rw [bc Rc.v_len,List.length_append,jt,List.length_take,List.length_drop]
 congr 1
 omega
theorem Tf (a s p q:Int) (A:Option Addr) (m c:Nat):bi Tryz.prog 44 [(0,.int .i64 a),(1,.int .i64 s),(2,.int .i64 p),(3,.int .i64 q),(4,.slice A m c)] #[.int .i64 a,.int .i64 s,.int .i64 p,.int .i64 q,.slice A m c]:=fun w=>by kernel_rfl
theorem Ml {R:HP} {A:Option Addr} {c:Nat} {b:Bt} (hR:Reads R A b.rv) (hl:b.recs.length<=10000):Spec Tryz.prog 87 #[.agg (b.v (.slice A b.recs.length c)).toArray] [R] fun F v M=>v=.int .i64 (batE b)/\M=R :: F:=by
 refine Spec.intro Tryz.func87 rfl rfl fun B F=>?_
 simp only [Tryz.ntmps87,List.cons_append,List.nil_append,env0,Nat.reduceAdd]
 refine .sr ?_
 refine .box fun b1=>?_
 refine .assign (.x ?_)
 refine .ldA ?_ gj
 refine .call (hc:=Tryz.call40) (sp:=ts hR hl) (h:=?_)
 rintro _ _ (⟨hE,rfl,rfl⟩ | ⟨hE,g,q,⟨rfl,h1,h2⟩,rfl⟩)
 ·refine .move ?_
  refine .extract (.extract ?_)
  refine .assign (.assign (.x (.move (.assign (.z ?_)))))
  refine .ret (?_)
  exact .ret1 (h1:=.tmp (t:=2) rfl) ⟨_,⟨rfl,rfl⟩,Am.auto⟩
 ·refine .move ?_
  refine .extract (.extract ?_)
  refine .assign (.assign (.x (.move (.assign (.z ?_)))))
  refine .ret (?_)
  exact .ret1 (h1:=.tmp (t:=2) rfl) ⟨_,⟨by rw [hE];rfl,rfl⟩,Am.auto⟩
theorem Mm {R:HP} {A:Addr} {c:Nat} {base prod seq:Int} {l:List Rc} (hR:Reads R (some A) (l.flatMap Rc.v)) (hpos:0 < l.length) (hl:l.length<=10000):Spec Tryz.prog 39 #[.int .i64 base,.int .i64 prod,.int .i64 seq,.slice (some A) l.length c] [R]
  fun F v M=>(batE (au base prod seq l)≠0/\v=.tuple #[.agg #[.int .i64 0,.int .i64 0,.int .i64 0,.int .i64 0,.slice none 0 0],.int .i64 (batE (au base prod seq l))]/\M=R :: F) ∨
   (batE (au base prod seq l)=0/\∃ g c2 q,v=.tuple #[.agg ((au base prod seq l).v (.slice (some ⟨g,0,none⟩) (au base prod seq l).recs.length c2)).toArray,.int .i64 0]/\M=buf g 95 q (au base prod seq l).rv :: R :: F):=by
 refine Spec.intro Tryz.func39 rfl rfl fun B F=>?_
 simp only [Tryz.ntmps39,List.cons_append,List.nil_append,env0,Nat.reduceAdd]
 have hn:(au base prod seq l).recs.length=l.length:=jt l 0
 refine .sr ?_
 refine .alloc z44 fun b8=>?_
 refine .assign (.x (.move ?_))
 refine .call (hc:=Tryz.call86) (sp:=zn (l:=l) hR hpos (by omega)) (h:=?_)
 rintro _ _ ⟨A2,c2,rfl,rfl⟩
 refine .toE (A:=rowR 95 6 (.slice (some A2) l.length c2) l.length (l.flatMap Rc.v)) (zr hpos) ?_
 rintro ⟨g2,c3,q⟩ hv2
 injection hv2 with hA2 _ hc2
 injection hA2 with hA2
 simp only at hA2 hc2
 subst hA2
 subst hc2
 refine .to (A:=buf g2 95 q (l.flatMap Rc.v)) (A':=buf g2 95 q ((midR l 0).flatMap Rc.v)) (fun h hh=>by rw [I5];exact hh) ?_
 refine .assign (.z (.seq (.sr (.move ?_))))
 refine .lenS ?_ sl37
 refine .move (.z (.block ?_))
 refine .loopA (σ:=Nat) (fun i=>[(0,.int .i64 base),(1,.int .i64 prod),(2,.int .i64 seq),(3,.slice (some ⟨g2,0,none⟩) l.length c2),(8,.pointer (some ⟨b8,0,none⟩)),(9,.int .i64 0),(16,.int .i64 ((l.length:Nat):Int)),(17,.int .i64 ((i:Nat):Int))]) (fun i=>[pt b8 (.cells #[.int .i64 0,.int .i64 0,.int .i64 0,.int .i64 0,.slice none 0 0] 44 (0,0)),buf g2 95 q ((midR l i).flatMap Rc.v),R]++F) (fun i=>i<=l.length) (fun i=>l.length - i) 0 (Nat.zero_le _) ?_
 rintro i hi
 refine .sr ?_
 refine .lss ?_
 refine .z (.seq ?_)
 refine .cond rfl (fun hd=>?_) (fun hd=>?_)
 ·have hil:i < l.length:=by have h:((i:Nat):Int) < ((l.length:Nat):Int):=of_decide_eq_true hd;omega
  refine .skip (.next (.seq (.block (.sr (.move (.assign (.y (.move (.move ?_)))))))))
  refine .move ?_
  refine .idx ?_ so37
  refine .fa ?_ oy
  refine .stB (i:=0+((i:Nat):Int).toNat * 6+5) ?_ sc3 (by rw [Mk (by omega),Int.toNat_natCast];omega)
  rw [Mj hil]
  refine .nil (.blockNormal (.next (.region ?_)))
  refine .add ?_
  refine .move (.nil ?_)
  exact .back (i+1) (show i+1<=l.length from hil) (show l.length - (i+1) < l.length - i by omega)
 ·have hge:i=l.length:=by have h:¬ ((i:Nat):Int) < ((l.length:Nat):Int):=of_decide_eq_false hd;have h2:i<=l.length:=hi;omega
  subst hge
  rw [I6]
  refine .exit (.thenExit (.thenExit (.blockExit (?_))))
  refine .next (.sr (.move (.move ?_)))
  refine .lenS ?_ sl37
  refine .maxI ?_
  refine .cast (d:=29) (u:=.int .i64 (max ((l.length:Nat):Int) 1)) rfl (cI9 (by split<;>omega)) ?_
  refine .move (.move (.move ?_))
  refine .build ?_ (Tf _ _ _ _ _ _ _)
  refine .alloc z44 fun b11=>?_
  refine .stV ?_ gj
  refine .z (.seq (.sr ?_))
  refine .ldA ?_ gj
  refine .cast (d:=34) (u:=.agg ((au base prod seq l).v (.slice (some ⟨g2,0,none⟩) (au base prod seq l).recs.length c2)).toArray) rfl (by rw [hn];rfl) ?_
  refine .call (hc:=Tryz.call87) (sp:=Ml (R:=buf g2 95 q ((fy 0 l).flatMap Rc.v)) (A:=some ⟨g2,0,none⟩) (c:=c2) (b:=au base prod seq l) Reads.buf (by rw [hn];omega)) (h:=?_)
  rintro _ _ ⟨rfl,rfl⟩
  refine .assign (.x (.move ?_))
  refine .nei ?_
  refine .z ?_
  refine .cond rfl (fun hq=>?_) (fun hq=>?_)
  ·have hne:batE (au base prod seq l)≠0:=by simpa using hq
   refine .sr ?_
   refine .build ?_ Sz
   refine .move ?_
   refine .stV ?_ gj
   refine .assign (.z ?_)
   refine .ret (.thenRet (?_))
   exact .ret2 (h2:=.tmp (t:=9) rfl) ⟨_,.inl ⟨hne,rfl,rfl⟩,Am.auto⟩
  ·have h0:batE (au base prod seq l)=0:=by simpa using hq
   refine .skip (.next (.sr ?_))
   refine .ldA ?_ gj
   refine .stV ?_ gj
   refine .assign (.z (.ret (?_)))
   exact .ret2 (h2:=.tmp (t:=9) rfl) ⟨_,.inr ⟨h0,g2,c2,q,by rw [hn],rfl⟩,Am.auto⟩
theorem sc30 :ai Tryz.prog 30=true:=by kernel_rfl
theorem d9 :ae Tryz.prog 84 2 2=true:=by kernel_rfl
theorem Do :ae Tryz.prog 84 1 1=true:=by kernel_rfl
theorem z86 :a6 Tryz.prog 86=some (#[.pointer none]):=by kernel_rfl
theorem bsPS (s:Nat):a8 Tryz.prog 82 1 [(0,.pointer (some ⟨s,0,none⟩))] 86 #[.pointer (some ⟨s,0,none⟩)]:=fun w=>by kernel_rfl
def addP (seg:Int) (pre:List SegA) (base:Nat) (bs:List Bt) (b:Bt):List SegA :=
 if (bs.flatMap batB).length=0 ∨ (((bs.flatMap batB).length:Nat):Int)+(((batB b).length:Nat):Int)<=seg then pre++[(base,bs++[b])] else pre++[(base,bs)]++[(b.base.toNat,[b])]
def addN (seg:Int) (bs:List Bt) (b:Bt) (N:Nat):Nat:=if (bs.flatMap batB).length=0 ∨ (((bs.flatMap batB).length:Nat):Int)+(((batB b).length:Nat):Int)<=seg then N else N+1
theorem Qb {seg:Int} {bs:List Bt} {b:Bt} {N:Nat}:addN seg bs b N<=N+1:=by
 unfold addN
 split<;>omega
theorem DRF.up {f:Nat} {p:Pl} {dn:ad} {N N':Nat} {ss:List SegA} {B:Base} {w:World} {M:List HP} (hN:N<=N') (hs:Sat B w (DRF f p dn N ss :: M)):Sat B w (DRF f p dn N' ss :: M):=by
 obtain ⟨fl,hfl,h1⟩:=Sat.opens hs (DRF.opens f p dn N ss)
 obtain ⟨x,hx,h2⟩:=Sat.opens h1 (DR.opens f p dn N fl)
 exact Sat.shuts (DRF.opens f p dn N' ss) (x:=fl) hfl (Sat.shuts (DR.opens f p dn N' fl) (x:=x) (hx.up hN) h2)
theorem zs {l0:List Seg} {s base:Nat} {bs bs':List Bt}:(l0++[(⟨s,base,bs⟩:Seg)]).length=(l0++[(⟨s,base,bs'⟩:Seg)]).length/\(l0++[(⟨s,base,bs⟩:Seg)]).map Seg.ptr=(l0++[(⟨s,base,bs'⟩:Seg)]).map Seg.ptr:=by
 refine ⟨by simp,?_⟩
 rw [List.map_append,List.map_append]
 rfl
theorem vo (l:List Value) (h:∀ v∈l,∃ s:Nat,v=.pointer (some ⟨s,0,none⟩)):∀ u∈l,Value.single u=true:=fun u hu=>by
 obtain ⟨s,rfl⟩:=h u hu
 rfl
theorem Mn {pp f N base nb:Nat} {dn:ad} {st:Sts} {p:Pl} {pre:List SegA} {bs:List Bt} {b:Bt} {A:Addr} {R:HP} {bp bX bb bn gx qx cb:Nat} {F0:FM} (hp:PlP p) (hf:FitsP p N (pre++[(base,bs)])) (hN1:N+1<=200) (hN2:N+4<=p.ino) (hN3:pre.length<=55) (hdn:dn.length<=900) (hR:Reads R (some A) b.rv) (hE:batE b=0) (hl:b.recs.length<=10000) (hnb:b.base=((nb:Nat):Int)) (hnx:b.base=t6 ((base:Nat):Int) bs) (hbs:∀ y∈(pre++[(base,bs)]),y.1<=1125899906842624/\(bs≠[]->((y.1:Nat):Int) < b.base)) (hrows:bs.length<=9999) (hsz:(bs.flatMap batB).length<=60000):Spec Tryz.prog 42 #[.pointer (some ⟨bp,0,none⟩),.pointer (some ⟨bX,0,none⟩),.pointer (some ⟨bb,0,none⟩),.pointer (some ⟨bn,0,none⟩)] [DBF f p dn N F0 (pre++[(base,bs)]) 0,bun [pt bp (.cells #[.pointer (some ⟨pp,0,none⟩)] 30 (0,0)),pt bX (.cells #[.slice (some ⟨gx,0,none⟩) (batB b).length qx] 79 (0,0)),pt bb (.cells (b.v (.slice (some A) b.recs.length cb)).toArray 44 (0,0)),pt bn (.cells #[.int .i64 ((nb:Nat):Int)] 3 (0,0)),PT pp f dn st [] (pre++[(base,bs)]),R]] fun F v M=>v=okV/\M=DBF f p dn (addN st.seg bs b N) F0 (addP st.seg pre base bs b) 49 :: bun [pt bp (.cells #[.pointer (some ⟨pp,0,none⟩)] 30 (0,0)),pt bX (.cells #[.slice (some ⟨gx,0,none⟩) (batB b).length qx] 79 (0,0)),pt bb (.cells (b.v (.slice (some A) b.recs.length cb)).toArray 44 (0,0)),pt bn (.cells #[.int .i64 ((nb:Nat):Int)] 3 (0,0)),PT pp f dn st [] (addP st.seg pre base bs b),R] :: F:=by
 refine Spec.intro Tryz.func42 rfl rfl fun B F=>?_
 simp only [Tryz.ntmps42,List.cons_append,List.nil_append,env0,Nat.reduceAdd]
 refine .openR (bun.opens _) fun _ _=>?_
 simp only [List.cons_append,List.nil_append]
 refine .openR (PT.opens pp f dn st [] (pre++[(base,bs)])) fun x hx=>?_
 obtain ⟨g0,c0,l⟩:=x
 obtain ⟨hls,hc1,hc2,hn2⟩:=hx
 simp only [ptLs,List.cons_append,List.nil_append] at hls hc1 hc2 hn2 ⊢
 obtain ⟨l0,z,rfl,hl0,hz⟩:=zq hls
 obtain ⟨s,zb,zbs⟩:=z
 obtain ⟨rfl,rfl⟩:base=zb/\bs=zbs:=by injection hz with h1 h2;exact ⟨h1.symm,h2.symm⟩
 have hn:0 < (l0++[(⟨s,base,bs⟩:Seg)]).length:=by simp
 have hlen:(l0++[(⟨s,base,bs⟩:Seg)]).length=(pre++[(base,bs)]).length:=by rw [<- hls,List.length_map]
 have hflen:=hf.len
 obtain ⟨hb6,_⟩:=qy hE
 obtain ⟨hbr,_,_⟩:=x7 hE
 refine .sr (.assign (.x ?_))
 refine .ld ?_ sc30
 refine .call (hc:=Tryz.call43) (sp:=vn (pp:=pp) (f:=f) (g:=g0) (r:=([]:List Value).length) (n:=(l0++[(⟨s,base,bs⟩:Seg)]).length) (c:=c0 - ([]:List Value).length) (dn:=dn) (st:=st) (ys:=(l0++[(⟨s,base,bs⟩:Seg)]).map Seg.ptr) (s:=s) ju hn hn2 (by simp only [List.length_nil] at hc1 ⊢;omega) (Dm l0 _)) (h:=?_)
 rintro _ _ ⟨rfl,rfl⟩
 refine .assign (.z (.seq (.seq ?_)))
 by_cases h0:(bs.flatMap batB).length=0
 ·have hadd:(addP st.seg pre base bs b)=pre++[(base,bs++[b])]:=by unfold addP;exact if_pos (.inl h0)
  rw [hadd,show addN st.seg bs b N=N by unfold addN;exact if_pos (.inl h0)]
  refine .dr ([pt bp (.cells #[.pointer (some ⟨pp,0,none⟩)] 30 (0,0)),pt bX (.cells #[.slice (some ⟨gx,0,none⟩) (batB b).length qx] 79 (0,0)),pt pp (lb f dn st (.slice (some ⟨g0,0,none⟩) (l0++[(⟨s,base,bs⟩:Seg)]).length c0))]) [] 16 mixed .autoJ ?_
  refine .tk 0 rfl .move ?_
  refine .on 1 rfl fun hnp=>?_
  refine .call (hc:=Tryz.call44) (sp:=l9 (f:=f) (dn:=dn) (pre:=l0) (post:=[]) (x:=⟨s,base,bs⟩)) (h:=?_)
  rintro _ _ ⟨rfl,rfl⟩
  rw [show (byt (Seg.a ⟨s,base,bs⟩)).length=0 from h0]
  refine .nil (.wa hnp ?_)
  refine .tk 2 rfl .eqi ?_
  refine .tk 3 rfl .move ?_
  refine .tf 4 rfl ?_
  refine .tf 5 rfl ?_
  refine .tf 6 rfl ?_
  refine .tf 7 rfl ?_
  refine .tf 8 rfl ?_
  refine .tf 9 rfl ?_
  refine .tf 10 rfl ?_
  refine .tf 11 rfl ?_
  refine .tf 12 rfl ?_
  refine .tf 13 rfl ?_
  refine .tf 14 rfl ?_
  refine .tk 15 rfl .pickT ?_
  refine .fin ?_
  refine .next ?_
  refine .condT rfl rfl ?_
  refine .sr (.move ?_)
  refine .ldA ?_ gj
  refine .segOut l0 [] ?_
  refine .call (hc:=Tryz.call45) (sp:=t7 (s:=s) (f:=f) (base:=((base:Nat):Int)) (path:=em dn (aw base)) (bs:=bs) (b:=b) (H:=DBF f p dn N F0 (pre++[(base,bs)]) 0) (H':=DBF f p dn N F0 (pre++[(base,bs++[b])]) 40) hR hE hl (by rw [hnx];exact Int.le_refl _) (by omega) (by omega) (fun R A cc hR2 h1 h2=>xx hp hf (by decide) hR2 rfl h1 h2 hb6 (by omega))) (h:=?_)
  rintro _ _ ⟨rfl,rfl⟩
  refine .segIn l0 [] (⟨s,base,bs++[b]⟩:Seg) ?_
  refine .assign (.z ?_)
  refine .ret (.thenRet (?_))
  have hs1:=zs (l0:=l0) (s:=s) (base:=base) (bs:=bs) (bs':=bs++[b])
  rw [hs1.1] at hc1 hn2
  rw [hs1.1,hs1.2]
  refine .dbfUp (N:=N) (W:=40) (F0:=F0) (ss:=pre++[(base,bs++[b])]) N 49 (Nat.le_refl _) (by decide) ?_
  refine .shutR (PT.opens pp f dn st [] (pre++[(base,bs++[b])])) (g0,c0,l0++[(⟨s,base,bs++[b]⟩:Seg)]) ⟨by rw [List.map_append,hl0];rfl,hc1,hc2,hn2⟩ ?_
  refine .shutR (bun.opens [pt bp (.cells #[.pointer (some ⟨pp,0,none⟩)] 30 (0,0)),pt bX (.cells #[.slice (some ⟨gx,0,none⟩) (batB b).length qx] 79 (0,0)),pt bb (.cells (b.v (.slice (some A) b.recs.length cb)).toArray 44 (0,0)),pt bn (.cells #[.int .i64 ((nb:Nat):Int)] 3 (0,0)),PT pp f dn st [] (pre++[(base,bs++[b])]),R]) () trivial ?_
  exact .ret1 (h1:=.tmp (t:=4) rfl) ⟨_,⟨rfl,rfl⟩,Am.auto⟩
 ·obtain ⟨m,hm⟩:∃ m,(bs.flatMap batB).length=m+1:=⟨(bs.flatMap batB).length - 1,by omega⟩
  by_cases h1:(((m+1:Nat):Nat):Int)+(((batB b).length:Nat):Int)<=st.seg
  ·have hadd:(addP st.seg pre base bs b)=pre++[(base,bs++[b])]:=by unfold addP;exact if_pos (.inr (by rw [hm];exact h1))
   rw [hadd,show addN st.seg bs b N=N by unfold addN;exact if_pos (.inr (by rw [hm];exact h1))]
   refine .dr ([pt bp (.cells #[.pointer (some ⟨pp,0,none⟩)] 30 (0,0)),pt bX (.cells #[.slice (some ⟨gx,0,none⟩) (batB b).length qx] 79 (0,0)),pt pp (lb f dn st (.slice (some ⟨g0,0,none⟩) (l0++[(⟨s,base,bs⟩:Seg)]).length c0))]) [] 16 mixed .autoJ ?_
   refine .tk 0 rfl .move ?_
   refine .on 1 rfl fun hnp=>?_
   refine .call (hc:=Tryz.call44) (sp:=l9 (f:=f) (dn:=dn) (pre:=l0) (post:=[]) (x:=⟨s,base,bs⟩)) (h:=?_)
   rintro _ _ ⟨rfl,rfl⟩
   rw [show (byt (Seg.a ⟨s,base,bs⟩)).length=m+1 from hm]
   refine .nil (.wa hnp ?_)
   refine .tk 2 rfl .eqi ?_
   refine .tk 3 rfl .move ?_
   refine .tn 4 rfl .move ?_
   refine .tn 6 rfl (.ld sc79) ?_
   refine .tn 7 rfl (.lenS sl79) ?_
   refine .tn 9 rfl (.ld sc30) ?_
   refine .tn 10 rfl .nilCheck ?_
   refine .tn 11 rfl (.fa d9) ?_
   refine .tn 12 rfl (.fa tv) ?_
   refine .tn 13 rfl (.ld sc3) ?_
   refine .on 5 rfl fun hnp=>?_
   refine .gT ?_
   refine .call (hc:=Tryz.call44) (sp:=l9 (f:=f) (dn:=dn) (pre:=l0) (post:=[]) (x:=⟨s,base,bs⟩)) (h:=?_)
   rintro _ _ ⟨rfl,rfl⟩
   rw [show (byt (Seg.a ⟨s,base,bs⟩)).length=m+1 from hm]
   refine .nil (.wa hnp ?_)
   refine .tn 8 rfl .add ?_
   refine .tn 14 rfl .leq ?_
   refine .tk 15 rfl .pickF ?_
   refine .fin ?_
   refine .next ?_
   refine .condT rfl (cB9 (decide_eq_true (by omega))) ?_
   refine .sr (.move ?_)
   refine .ldA ?_ gj
   refine .segOut l0 [] ?_
   refine .call (hc:=Tryz.call45) (sp:=t7 (s:=s) (f:=f) (base:=((base:Nat):Int)) (path:=em dn (aw base)) (bs:=bs) (b:=b) (H:=DBF f p dn N F0 (pre++[(base,bs)]) 0) (H':=DBF f p dn N F0 (pre++[(base,bs++[b])]) 40) hR hE hl (by rw [hnx];exact Int.le_refl _) (by omega) (by omega) (fun R A cc hR2 h1 h2=>xx hp hf (by decide) hR2 rfl h1 h2 hb6 (by omega))) (h:=?_)
   rintro _ _ ⟨rfl,rfl⟩
   refine .segIn l0 [] (⟨s,base,bs++[b]⟩:Seg) ?_
   refine .assign (.z ?_)
   refine .ret (.thenRet (?_))
   have hs1:=zs (l0:=l0) (s:=s) (base:=base) (bs:=bs) (bs':=bs++[b])
   rw [hs1.1] at hc1 hn2
   rw [hs1.1,hs1.2]
   refine .dbfUp (N:=N) (W:=40) (F0:=F0) (ss:=pre++[(base,bs++[b])]) N 49 (Nat.le_refl _) (by decide) ?_
   refine .shutR (PT.opens pp f dn st [] (pre++[(base,bs++[b])])) (g0,c0,l0++[(⟨s,base,bs++[b]⟩:Seg)]) ⟨by rw [List.map_append,hl0];rfl,hc1,hc2,hn2⟩ ?_
   refine .shutR (bun.opens [pt bp (.cells #[.pointer (some ⟨pp,0,none⟩)] 30 (0,0)),pt bX (.cells #[.slice (some ⟨gx,0,none⟩) (batB b).length qx] 79 (0,0)),pt bb (.cells (b.v (.slice (some A) b.recs.length cb)).toArray 44 (0,0)),pt bn (.cells #[.int .i64 ((nb:Nat):Int)] 3 (0,0)),PT pp f dn st [] (pre++[(base,bs++[b])]),R]) () trivial ?_
   exact .ret1 (h1:=.tmp (t:=4) rfl) ⟨_,⟨rfl,rfl⟩,Am.auto⟩
  ·have hadd:(addP st.seg pre base bs b)=pre++[(base,bs)]++[(nb,[b])]:=by unfold addP;rw [if_neg (by rw [hm];exact fun h=>h.elim (fun h=>Nat.succ_ne_zero _ h) h1),hnb];rfl
   rw [hadd,show addN st.seg bs b N=N+1 by unfold addN;exact if_neg (by rw [hm];exact fun h=>h.elim (fun h=>Nat.succ_ne_zero _ h) h1)]
   have hne:bs≠[]:=fun h=>by rw [h] at hm;cases hm
   refine .dr ([pt bp (.cells #[.pointer (some ⟨pp,0,none⟩)] 30 (0,0)),pt bX (.cells #[.slice (some ⟨gx,0,none⟩) (batB b).length qx] 79 (0,0)),pt pp (lb f dn st (.slice (some ⟨g0,0,none⟩) (l0++[(⟨s,base,bs⟩:Seg)]).length c0))]) [] 16 mixed .autoJ ?_
   refine .tk 0 rfl .move ?_
   refine .on 1 rfl fun hnp=>?_
   refine .call (hc:=Tryz.call44) (sp:=l9 (f:=f) (dn:=dn) (pre:=l0) (post:=[]) (x:=⟨s,base,bs⟩)) (h:=?_)
   rintro _ _ ⟨rfl,rfl⟩
   rw [show (byt (Seg.a ⟨s,base,bs⟩)).length=m+1 from hm]
   refine .nil (.wa hnp ?_)
   refine .tk 2 rfl .eqi ?_
   refine .tk 3 rfl .move ?_
   refine .tn 4 rfl .move ?_
   refine .tn 6 rfl (.ld sc79) ?_
   refine .tn 7 rfl (.lenS sl79) ?_
   refine .tn 9 rfl (.ld sc30) ?_
   refine .tn 10 rfl .nilCheck ?_
   refine .tn 11 rfl (.fa d9) ?_
   refine .tn 12 rfl (.fa tv) ?_
   refine .tn 13 rfl (.ld sc3) ?_
   refine .on 5 rfl fun hnp=>?_
   refine .gT ?_
   refine .call (hc:=Tryz.call44) (sp:=l9 (f:=f) (dn:=dn) (pre:=l0) (post:=[]) (x:=⟨s,base,bs⟩)) (h:=?_)
   rintro _ _ ⟨rfl,rfl⟩
   rw [show (byt (Seg.a ⟨s,base,bs⟩)).length=m+1 from hm]
   refine .nil (.wa hnp ?_)
   refine .tn 8 rfl .add ?_
   refine .tn 14 rfl .leq ?_
   refine .tk 15 rfl .pickF ?_
   refine .fin ?_
   refine .next ?_
   refine .condF rfl (cB9 (decide_eq_false (by omega))) ?_
   refine .skip (.next (.seq ?_))
   refine .dr ([pt bp (.cells #[.pointer (some ⟨pp,0,none⟩)] 30 (0,0)),pt bn (.cells #[.int .i64 ((nb:Nat):Int)] 3 (0,0)),pt pp (lb f dn st (.slice (some ⟨g0,0,none⟩) (l0++[(⟨s,base,bs⟩:Seg)]).length c0))]) [] 17 mixed .autoJ ?_
   refine .tk 0 rfl (.ld sc30) ?_
   refine .tk 1 rfl .nilCheck ?_
   refine .tk 2 rfl (.fa vl) ?_
   refine .tk 3 rfl (.ld sc29) ?_
   refine .tk 4 rfl (.ld sc30) ?_
   refine .tk 5 rfl .nilCheck ?_
   refine .tk 6 rfl (.fa Do) ?_
   refine .tk 7 rfl (.ld sc9) ?_
   refine .tk 8 rfl (.ld sc3) ?_
   refine .tk 10 rfl (.ld sc3) ?_
   refine .on 9 rfl fun hnp=>?_
   refine .call (hc:=Tryz.call47) (sp:=kn (dir:=47 :: dn) (b:=nb) (by simp only [List.length_cons];omega) (by omega)) (h:=?_)
   rintro _ _ ⟨rfl,rfl⟩
   rw [ko]
   refine .nil (.wa hnp ?_)
   refine .on 11 rfl fun hnp=>?_
   refine .call (hc:=Tryz.call46) (sp:=Br (f:=f) (base:=((nb:Nat):Int)) (path:=em dn (aw nb)) (H:=DBF f p dn N F0 (pre++[(base,bs)]) 0) (H':=DBF f p dn (N+1) F0 (pre++[(base,bs)]++[(nb,[])]) 9) (by omega) (Di hp hf (by decide) (by omega) (fun y hy=>⟨fun he=>by have:=(hbs y hy).2 hne;omega,(hbs y hy).1⟩))) (h:=?_)
   rintro _ _ ⟨s2,rfl,rfl⟩
   refine .nil (.wa hnp ?_)
   refine .tk 12 rfl .move ?_
   refine .tk 13 rfl .extract ?_
   refine .tk 14 rfl .extract ?_
   refine .tk 15 rfl .assign ?_
   refine .tk 16 rfl .assign ?_
   refine .fin ?_
   refine .next (.seq (.sr (.move ?_)))
   refine .eqi ?_
   refine .z ?_
   refine .condT rfl rfl ?_
   refine .region (.move ?_)
   refine .ldA ?_ gj
   refine .call (hc:=Tryz.call45) (sp:=t7 (s:=s2) (f:=f) (base:=((nb:Nat):Int)) (path:=em dn (aw nb)) (bs:=[]) (b:=b) (H:=DBF f p dn (N+1) F0 (pre++[(base,bs)]++[(nb,[])]) 9) (H':=DBF f p dn (N+1) F0 (pre++[(base,bs)]++[(nb,[]++[b])]) 49) hR hE hl (by rw [hnb];exact Int.le_refl _) (by simp) (by simp) (fun R A cc hR2 h1 h2=>xx (pre:=pre++[(base,bs)]) (post:=[]) (b:=nb) (bs:=[]) hp ⟨hN1,hN2,by simp only [List.length_append,List.length_singleton];omega,by have:=hf.byt;rw [xw];show _+(0+0)<=_;omega⟩ (by decide) hR2 rfl h1 h2 hb6 (by show 0+_<=_;omega))) (h:=?_)
   rintro _ _ ⟨rfl,rfl⟩
   refine .assign (.z (.seq (.sr (.move ?_))))
   refine .eqi ?_
   refine .z ?_
   refine .condT rfl rfl ?_
   refine .dr ([pt bp (.cells #[.pointer (some ⟨pp,0,none⟩)] 30 (0,0)),pt pp (lb f dn st (.slice (some ⟨g0,0,none⟩) (l0++[(⟨s,base,bs⟩:Seg)]).length c0))]) [10] 11 mixed .autoJ ?_
   refine .tk 0 rfl (.ld sc30) ?_
   refine .tk 1 rfl (.ld sc30) ?_
   refine .tk 2 rfl .nilCheck ?_
   refine .tk 3 rfl (.fa e8) ?_
   refine .tk 4 rfl (.ld sc82) ?_
   refine .tk 5 rfl .move ?_
   refine .on 6 rfl fun hnp=>?_
   refine .buildS (fun b56=>?_) (bsPS _)
   refine .nil (.wa hnp ?_)
   refine .on 7 rfl fun hnp=>?_
   refine .to (A:=buf g0 86 c0 ((l0++[(⟨s,base,bs⟩:Seg)]).map Seg.ptr)) (dq hc2) ?_
   rw [List.length_map]
   refine .append (v:=.slice (some ⟨g0,0,none⟩) (l0++[(⟨s,base,bs⟩:Seg)]).length c0) (m:=1) (k:=(l0++[(⟨s,base,bs⟩:Seg)]).length) (xs:=((l0++[(⟨s,base,bs⟩:Seg)]).map Seg.ptr)) (news:=[.pointer (some ⟨s2,0,none⟩)]) so82 (by decide) (by repeat (first | exact .here | apply Rem.there | apply Repl.there | apply Mem.there)) (Reads.pt (cs:=#[.pointer (some ⟨s2,0,none⟩)])) (by repeat (first | exact .here | apply Rem.there | apply Repl.there | apply Mem.there)) rfl (vo _ (fun v hv=>⟨s2,List.mem_singleton.1 hv⟩)) (by unfold maxLen;omega) (by omega) ⟨_,z86,rfl⟩ (fun v' hv'=>?_)
   refine .toE (A:=rowR 86 1 v' ((l0++[(⟨s,base,bs⟩:Seg)]).length+1) (((l0++[(⟨s,base,bs⟩:Seg)]).map Seg.ptr)++[.pointer (some ⟨s2,0,none⟩)])) (ce (fun h=>by have:=(hv'.1 h).1;cases this)) ?_
   rintro ⟨g2,q2⟩ ⟨rfl,h2a,h2b,_⟩
   rw [show ((l0++[(⟨s,base,bs⟩:Seg)]).map Seg.ptr)++[.pointer (some ⟨s2,0,none⟩)]=[]++((l0++[(⟨s,base,bs⟩:Seg)])++[(⟨s2,nb,[]++[b]⟩:Seg)]).map Seg.ptr by rw [List.map_append (l₂:=[(⟨s2,nb,[]++[b]⟩:Seg)])];rfl,show (l0++[(⟨s,base,bs⟩:Seg)]).length+1=((l0++[(⟨s,base,bs⟩:Seg)])++[(⟨s2,nb,[]++[b]⟩:Seg)]).length by rw [List.length_append (bs:=[(⟨s2,nb,[]++[b]⟩:Seg)])];rfl]
   refine .nil (.wa hnp ?_)
   refine .on 8 rfl fun hnp=>?_
   refine .nilCheck ?_
   refine .nil (.wa hnp ?_)
   refine .tk 9 rfl (.fa e8) ?_
   refine .on 10 rfl fun hnp=>?_
   refine .st ?_ sc82
   refine .nil (.wb hnp ?_)
   refine .fin ?_
   refine .next (.sr (.move (.assign (.z (.ret (?_))))))
   refine .to (A:=segsH f dn (l0++[(⟨s,base,bs⟩:Seg)])) (A':=segsH f dn ((l0++[(⟨s,base,bs⟩:Seg)])++[])) (fun h hh=>by rw [List.append_nil];exact hh) ?_
   refine .segIn (l0++[(⟨s,base,bs⟩:Seg)]) [] (⟨s2,nb,[]++[b]⟩:Seg) ?_
   refine .shutR (PT.opens pp f dn st [] (pre++[(base,bs)]++[(nb,[b])])) (g2,q2,(l0++[(⟨s,base,bs⟩:Seg)])++[(⟨s2,nb,[]++[b]⟩:Seg)]) ⟨by rw [List.map_append,List.map_append,hl0];rfl,by simp only [List.length_append,List.length_singleton,List.length_nil] at h2a ⊢;omega,h2b,by simp only [List.length_append,List.length_singleton] at hlen hflen ⊢;omega⟩ ?_
   refine .shutR (bun.opens [pt bp (.cells #[.pointer (some ⟨pp,0,none⟩)] 30 (0,0)),pt bX (.cells #[.slice (some ⟨gx,0,none⟩) (batB b).length qx] 79 (0,0)),pt bb (.cells (b.v (.slice (some A) b.recs.length cb)).toArray 44 (0,0)),pt bn (.cells #[.int .i64 ((nb:Nat):Int)] 3 (0,0)),PT pp f dn st [] (pre++[(base,bs)]++[(nb,[b])]),R]) () trivial ?_
   exact .ret1 (h1:=.tmp (t:=4) rfl) ⟨_,⟨rfl,rfl⟩,Am.auto⟩
theorem Bs {pp f N base nb c:Nat} {dn:ad} {st:Sts} {p:Pl} {pre:List SegA} {bs:List Bt} {A:Addr} {R:HP} {prod seq:Int} {l:List Rc} (hp:PlP p) (hf:FitsP p N (pre++[(base,bs)])) (hN1:N+1<=200) (hN2:N+4<=p.ino) (hN3:pre.length<=55) (hdn:dn.length<=900) (hR:Reads R (some A) (l.flatMap Rc.v)) (hpos:0 < l.length) (hll:l.length<=10000) (hE:batE (au ((nb:Nat):Int) prod seq l)=0) (hnx:((nb:Nat):Int)=t6 ((base:Nat):Int) bs) (hbs:∀ y∈(pre++[(base,bs)]),y.1<=1125899906842624/\(bs≠[]->((y.1:Nat):Int) < ((nb:Nat):Int))) (hrows:bs.length<=9999) (hsz:(bs.flatMap batB).length<=60000):Spec Tryz.prog 16 #[.pointer (some ⟨pp,0,none⟩),.int .i64 prod,.int .i64 seq,.slice (some A) l.length c] [PT pp f dn st [] (pre++[(base,bs)]),DRF f p dn N (pre++[(base,bs)]),R] fun F v M=>v=.tuple #[.int .i64 ((nb:Nat):Int),.int .i64 0]/\M=PT pp f dn st [] (addP st.seg pre base bs (au ((nb:Nat):Int) prod seq l)) :: DRF f p dn (addN st.seg bs (au ((nb:Nat):Int) prod seq l) N) (addP st.seg pre base bs (au ((nb:Nat):Int) prod seq l)) :: R :: F:=by
 refine Spec.intro Tryz.func16 rfl rfl fun B F=>?_
 simp only [Tryz.ntmps16,List.cons_append,List.nil_append,env0,Nat.reduceAdd]
 have hrl:(au ((nb:Nat):Int) prod seq l).recs.length=l.length:=jt l 0
 refine .openR (PT.opens pp f dn st [] (pre++[(base,bs)])) fun x hx=>?_
 obtain ⟨g0,c0,ls⟩:=x
 obtain ⟨hls,hc1,hc2,hn2⟩:=hx
 simp only [ptLs,List.cons_append,List.nil_append] at hls hc1 hc2 hn2 ⊢
 have hn:0 < ls.length:=by have:=congrArg List.length hls;rw [List.length_map] at this;simp at this;omega
 refine .sr ?_
 refine .box fun b4=>?_
 refine .assign (.assign (.z (.seq (.sr ?_))))
 refine .ld ?_ sc30
 refine .call (hc:=Tryz.call38) (sp:=ly hn hn2) (h:=?_)
 rintro _ _ ⟨rfl,rfl⟩
 refine .not ?_
 refine .z ?_
 refine .condF rfl rfl ?_
 refine .skip (.next (.sr ?_))
 refine .ld ?_ sc30
 refine .shutR (PT.opens pp f dn st [] (pre++[(base,bs)])) (g0,c0,ls) ⟨hls,hc1,hc2,hn2⟩ ?_
 refine .call (hc:=Tryz.call18) (sp:=Dn (pp:=pp) (f:=f) (dn:=dn) (st:=st) (dp:=[]) (ss:=(pre++[(base,bs)])) (pre:=pre) (y:=(base,bs)) rfl (by show bs.length<=_;omega)) (h:=?_)
 rintro _ _ ⟨rfl,rfl⟩
 rw [show t6 (((base,bs):SegA).1:Int) ((base,bs):SegA).2=((nb:Nat):Int) from hnx.symm]
 refine .alloc z3 fun b10=>?_
 refine .st ?_ sc3
 refine .x ?_
 refine .ld ?_ sc3
 refine .move (.move (.move ?_))
 refine .call (hc:=Tryz.call39) (sp:=Mm (base:=((nb:Nat):Int)) (prod:=prod) (seq:=seq) hR hpos hll) (h:=?_)
 rintro _ _ (⟨h0,_,_⟩ | ⟨_,gb,c2,qb,rfl,rfl⟩)
 ·exact absurd hE h0
 refine .move ?_
 refine .extract (.extract ?_)
 refine .alloc z44 fun b11=>?_
 refine .stV ?_ gj
 refine .assign (.z (.seq (.sr (.move ?_))))
 refine .nei ?_
 refine .z ?_
 refine .condF rfl rfl ?_
 refine .skip (.next (.sr ?_))
 refine .ldA ?_ gj
 refine .call (hc:=Tryz.call40) (sp:=ts (b:=(au ((nb:Nat):Int) prod seq l)) (R:=buf gb 95 qb (au ((nb:Nat):Int) prod seq l).rv) (A:=some ⟨gb,0,none⟩) (c:=c2) Reads.buf (by rw [hrl];omega)) (h:=?_)
 rintro _ _ (⟨h0,_,_⟩ | ⟨_,gx,qx,⟨rfl,hx1,hx2⟩,rfl⟩)
 ·exact absurd hE h0
 refine .move ?_
 refine .extract (.extract ?_)
 refine .alloc z79 fun b13=>?_
 refine .st ?_ sc79
 refine .assign (.x ?_)
 clear hls hc1 hc2 hn hn2
 refine .openR (PT.opens pp f dn st [] (pre++[(base,bs)])) fun x hx=>?_
 obtain ⟨g0,c0,ls⟩:=x
 obtain ⟨hls,hc1,hc2,hn2⟩:=hx
 simp only [ptLs,List.cons_append,List.nil_append] at hls hc1 hc2 hn2 ⊢
 refine .ld ?_ sc30
 refine .nilCheck ?_
 refine .fa ?_ vl
 refine .ld ?_ sc29
 refine .makeFuncB ?_
 refine .shutR (PT.opens pp f dn st [] (pre++[(base,bs)])) (g0,c0,ls) ⟨hls,hc1,hc2,hn2⟩ ?_
 refine .shutR (bun.opens [pt b4 (.cells #[.pointer (some ⟨pp,0,none⟩)] 30 (0,0)),pt b13 (.cells #[.slice (some ⟨gx,0,none⟩) (batB (au ((nb:Nat):Int) prod seq l)).length qx] 79 (0,0)),pt b11 (.cells ((au ((nb:Nat):Int) prod seq l).v (.slice (some ⟨gb,0,none⟩) (au ((nb:Nat):Int) prod seq l).recs.length c2)).toArray 44 (0,0)),pt b10 (.cells #[.int .i64 ((nb:Nat):Int)] 3 (0,0)),PT pp f dn st [] (pre++[(base,bs)]),buf gb 95 qb (au ((nb:Nat):Int) prod seq l).rv]) () trivial ?_
 refine .call (hc:=Tryz.call41) (sp:=Ey (N':=addN st.seg bs (au ((nb:Nat):Int) prod seq l) N) (W:=49) (ss:=(pre++[(base,bs)])) (ss':=(addP st.seg pre base bs (au ((nb:Nat):Int) prod seq l))) hp.ok (hc:=Tryz.call42) (fun F0=>Mn (R:=buf gb 95 qb (au ((nb:Nat):Int) prod seq l).rv) (A:=⟨gb,0,none⟩) (b:=(au ((nb:Nat):Int) prod seq l)) (cb:=c2) hp hf hN1 hN2 hN3 hdn Reads.buf hE (by rw [hrl];omega) rfl hnx hbs hrows hsz)) (h:=?_)
 rintro _ _ ⟨rfl,rfl⟩
 refine .openR (bun.opens _) fun _ _=>?_
 simp only [List.cons_append,List.nil_append]
 refine .assign (.z (.seq (.sr (.move ?_))))
 refine .nei ?_
 refine .z ?_
 refine .condF rfl rfl ?_
 refine .skip (.next (.sr ?_))
 refine .ld ?_ sc3
 refine .assign (.assign (.z (.ret (?_))))
 exact .ret2 (h1:=.tmp (t:=8) rfl) (h2:=.tmp (t:=9) rfl) ⟨_,⟨rfl,rfl⟩,Am.auto⟩
theorem vp {pp f N base nb c:Nat} {dn:ad} {st:Sts} {p:Pl} {pre:List SegA} {bs:List Bt} {A:Addr} {R:HP} {prod seq:Int} {l:List Rc} (hp:PlP p) (hf:FitsP p N (pre++[(base,bs)])) (hN1:N+1<=200) (hN2:N+4<=p.ino) (hN3:pre.length<=55) (hdn:dn.length<=900) (hR:Reads R (some A) (l.flatMap Rc.v)) (hpos:0 < l.length) (hll:l.length<=10000) (hE:batE (au ((nb:Nat):Int) prod seq l)=0) (hnx:((nb:Nat):Int)=t6 ((base:Nat):Int) bs) (hbs:∀ y∈(pre++[(base,bs)]),y.1<=1125899906842624/\(bs≠[]->((y.1:Nat):Int) < ((nb:Nat):Int))) (hrows:bs.length<=9999) (hsz:(bs.flatMap batB).length<=60000):Spec Tryz.prog 16 #[.pointer (some ⟨pp,0,none⟩),.int .i64 prod,.int .i64 seq,.slice (some A) l.length c] [PT pp f dn st [] (pre++[(base,bs)]),DRF f p dn N (pre++[(base,bs)]),R] fun F v M=>v=.tuple #[.int .i64 ((nb:Nat):Int),.int .i64 0]/\M=PT pp f dn st [] (addP st.seg pre base bs (au ((nb:Nat):Int) prod seq l)) :: DRF f p dn (N+1) (addP st.seg pre base bs (au ((nb:Nat):Int) prod seq l)) :: R :: F :=
 Spec.post' (Bs hp hf hN1 hN2 hN3 hdn hR hpos hll hE hnx hbs hrows hsz) fun F v M B w ⟨h1,h2⟩ hs=>by
  subst h2
  exact ⟨_,⟨h1,rfl⟩,Sat.front (.there .here) (DRF.up Qb (Sat.front (.there .here) hs))⟩
theorem Mo {f:Nat} {base:Int} {path:ad} {H:HP} (hb:0<=base/\base<=1125899906842624)
  (hRd:Spec Tryz.prog 116 #[.pointer (some ⟨f,0,none⟩),sv path,nI 0,nI 70656] [H] fun F v M=>∃ u,v=.tuple #[u,.int .i64 0]/\M=rowR 5 1 u 0 [] :: H :: F):Spec Tryz.prog 63 #[.pointer (some ⟨f,0,none⟩),sv path,.int .i64 base] [H]
  fun F v M=>∃ s,v=.tuple #[.pointer (some ⟨s,0,none⟩),.int .i64 0]/\M=SGP s f path base [] :: H :: F:=by
 refine Spec.intro Tryz.func63 rfl rfl fun B F=>?_
 simp only [Tryz.ntmps63,List.cons_append,List.nil_append,env0,Nat.reduceAdd]
 refine .sr (.assign (.assign (.z (.scope (.seq (.sr (.move ?_)))))))
 refine .call (hc:=Tryz.call99) (sp:=Ns) (h:=?_)
 rintro _ _ ⟨rfl,rfl⟩
 refine .cast (d:=16) (u:=.bool true) rfl (cB9 (by simp [hb.1,hb.2])) ?_
 refine .not ?_
 refine .z ?_
 refine .condF rfl rfl ?_
 refine .skip (.next (.sr (.move (.move ?_))))
 refine .call (hc:=Tryz.call116) (sp:=hRd) (h:=?_)
 rintro _ _ ⟨u0,rfl,rfl⟩
 refine .fact (ah (el:=5) (size:=1) (k:=0) (v:=u0) (xs:=[])) fun ⟨A0,c0,hu0,_,_,_,_⟩=>?_
 subst hu0
 refine .move ?_
 refine .extract (.extract ?_)
 refine .assign (.assign (.z (.seq (.sr (.move ?_)))))
 refine .nei ?_
 refine .z ?_
 refine .condF rfl rfl ?_
 refine .skip (.next (.sr (.move (.move (.move ?_)))))
 refine .build ?_ (S7 _ _ _)
 refine .box fun b31=>?_
 refine .assign (.z (.seq (.label (.next (.seq (.block ?_))))))
 refine .loopN 1 (RC.succ ?_)
 refine .seq (.sr (.move (.nilCheck ?_)))
 refine .fa ?_ tx
 refine .ld ?_ sc3
 refine .move ?_
 refine .lenS ?_ sl79
 refine .lss ?_
 refine .z ?_
 refine .condF rfl rfl ?_
 refine .exit (.thenExit (.thenExit (.blockExit (?_))))
 refine .next (.seq (.sr (.move (.nilCheck ?_))))
 refine .fa ?_ tx
 refine .ld ?_ sc3
 refine .move ?_
 refine .lenS ?_ sl79
 refine .lss ?_
 refine .z ?_
 refine .condF rfl rfl ?_
 refine .skip (.next (.sr (.move (.assign (.assign (.z ?_))))))
 refine .ret (.scopeRet (?_))
 refine .emp (A:=rowR 151 6 (.slice none 0 0) ([]:List SRow).length (([]:List SRow).flatMap SRow.v)) (rowR.nil _) ?_
 refine .emp (A:=frz []) wg ?_
 refine .shutR (SGP.opens b31 f path base []) ([],.slice none 0 0,[]) ⟨rfl,fun x h=>absurd h List.not_mem_nil,fun x h=>absurd h List.not_mem_nil,fun i j x y _ h=>by simp at h,fun _=>rfl⟩ ?_
 exact .ret2 (h1:=.tmp (t:=6) rfl) (h2:=.tmp (t:=7) rfl) ⟨_,⟨_,rfl,rfl⟩,Am.auto⟩
theorem z29 :a6 Tryz.prog 29=some (#[.pointer none]):=by kernel_rfl
theorem Qc :ae Tryz.prog 133 1 1=true:=by kernel_rfl
theorem I7 {p:Pl} (h:PlIs p):Room (fmtB p [245]):=by
 have h1:=ic (fmtD [245] p.im ((p.ino+4095) / 4096)) p.bm ((p.dc+4095) / 4096)
 have h2:=ic [245] p.im ((p.ino+4095) / 4096)
 have h3:=h.i2
 have h4:=h.n2
 have h5:=h.dc
 have h6:=h.i1
 have h7:=h.da
 have h8:=h.m1
 have h9:=h.bm
 unfold fmtB Room
 have:([245]:List Nat).length=1:=rfl
 omega
theorem bsF5 (f0 f1 f2 f3 f4:Fn) (u0 u1 u2 u3 u4 c0 c1 c2 c3 c4:Array Value):a8 Tryz.prog 136 5 [(0,.func f0 u0 c0),(1,.func f1 u1 c1),(2,.func f2 u2 c2),(3,.func f3 u3 c3),(4,.func f4 u4 c4)] 92 #[.func f0 u0 c0,.func f1 u1 c1,.func f2 u2 c2,.func f3 u3 c3,.func f4 u4 c4]:=fun w=>by kernel_rfl
def J0 :JS:=⟨bz (seg (de fc 0) 8 8 false),0,[],de fc⟩
theorem J0_ok {n:Nat}:HeadsOk n J0:=⟨u7,rfl,fun i _=>.inl (va _ i),fun _=>rfl,fun h=>absurd rfl h⟩
theorem Tg :J0.gen < 2 ^ 64:=Gh _ _ _
theorem I8 {k:Nat} (h:245<=k):J0.view k=zeros:=u9 (by omega)
theorem Th {n d:Nat} (hn:n<=65536):Tagged n d d J0:=⟨rfl,J0_ok,Nat.lt_of_le_of_lt (Nat.le_refl 1) (by decide),Tg,hn⟩
theorem Mp {d n t:Nat} {cur:Nat->ad} (hn:246<=n) (hmg:(cur 0).take 8≠dz):Spec Tryz.prog 83 #[.pointer (some ⟨d,0,none⟩)] [DevR d n cur t] fun F v M=>v=.tuple #[.pointer none,.int .i64 10]/\M=DevR d n cur t :: F:=by
 refine Spec.intro Tryz.func83 rfl rfl fun B F=>?_
 simp only [Tryz.ntmps83,List.cons_append,List.nil_append,env0,Nat.reduceAdd]
 refine .sr (.assign (.assign (.z (.seq (.sr (.move ?_))))))
 refine .call (hc:=Tryz.call73) (sp:=fg (n:=n) (t:=t) (cur:=cur)) (h:=?_)
 rintro _ _ ⟨rfl,rfl⟩
 refine .lss ?_
 refine .z ?_
 refine .condF rfl (cB9 (by first|simp;done|simp;omega|omega)) ?_
 refine .skip (.next (.sr (.move ?_)))
 refine .call (hc:=Tryz.call146) (sp:=B9 (n:=n) (t:=t) (cur:=cur) (by omega)) (h:=?_)
 rintro _ _ ⟨rfl,rfl⟩
 refine .move ?_
 refine .extract (.extract ?_)
 refine .cast (d:=20) (u:=.bool false) rfl (cB9 (decide_eq_false hmg)) ?_
 refine .assign (.assign (.z (.seq (.sr (.move ?_)))))
 refine .not ?_
 refine .z ?_
 refine .condT rfl rfl ?_
 refine .sr (.assign (.assign (.z ?_)))
 refine .ret (.thenRet (?_))
 exact .ret2 (h1:=.tmp (t:=2) rfl) (h2:=.tmp (t:=3) rfl) ⟨_,⟨rfl,rfl⟩,Am.auto⟩
theorem I9 :(fc 0).take 8≠dz:=by
 show zeros.take 8≠dz
 rw [pj];decide
theorem Mq {d n:Nat} (hn:246<=n) (hn2:n<=65536):Spec Tryz.prog 74 #[.pointer (some ⟨d,0,none⟩)] [DevR d n fc 0] fun F v M=>∃ j,v=.tuple #[.pointer (some ⟨j,0,none⟩),.int .i64 0]/\M=JR j d n J0 :: F:=by
 refine Spec.intro Tryz.func74 rfl rfl fun B F=>?_
 simp only [Tryz.ntmps74,List.cons_append,List.nil_append,env0,Nat.reduceAdd]
 refine .sr (.assign (.assign (.x (.move ?_))))
 refine .call (hc:=Tryz.call83) (sp:=Mp (n:=n) (t:=0) (cur:=fc) hn I9) (h:=?_)
 rintro _ _ ⟨rfl,rfl⟩
 refine .move ?_
 refine .extract (.extract ?_)
 refine .assign (.assign (.z (.seq (.sr (.move ?_)))))
 refine .nei ?_
 refine .z ?_
 refine .condF rfl (cB9 (by first|simp;done|simp;omega|omega)) ?_
 refine .skip (.next (.seq (.sr (.move ?_))))
 refine .call (hc:=Tryz.call128) (sp:=Oh (n:=n) (t:=0) (cur:=fc) hn (by decide)) (h:=?_)
 rintro _ _ ⟨rfl,rfl⟩
 refine .assign (.x (.move ?_))
 refine .nei ?_
 refine .z ?_
 refine .condF rfl (cB9 (by first|simp;done|simp;omega|omega)) ?_
 refine .skip (.next (.sr (.move ?_)))
 refine .call (hc:=Tryz.call83) (sp:=jOpen (n:=n) (cur:=de fc) hn hn2 u7 (fun i _=>va _ i)) (h:=?_)
 rintro _ _ ⟨j,rfl,rfl⟩
 refine .extract (.extract (.assign (.assign (.z (.ret (?_))))))
 exact .ret2 (h1:=.tmp (t:=2) rfl) (h2:=.tmp (t:=3) rfl) ⟨_,⟨j,rfl,rfl⟩,Am.auto⟩
theorem fsMk1 {f s a c mp b8 b5:Nat} {p:Pl} {V0 V:Nat->ad} (h:PlIs p) (hn:246<=p.n):Spec Tryz.prog 77 #[.pointer (some ⟨b8,0,none⟩),.pointer (some ⟨b5,0,none⟩)] [pt b8 (.cells #[.pointer (some ⟨f,0,none⟩)] 29 (0,0)),pt f (fO c a s false false false mp),pt b5 (.cells p.cells 121 (0,0)),TR c p.n V0 V [] true] fun F v M=>v=okV/\M=pt b8 (.cells #[.pointer (some ⟨f,0,none⟩)] 29 (0,0)) :: pt f (fO c a s false false false mp) :: pt b5 (.cells p.cells 121 (0,0)) :: TR c p.n V0 (wr V 245 (supB p)) [245] true :: F:=by
 refine Spec.intro Tryz.func77 rfl rfl fun B F=>?_
 simp only [Tryz.ntmps77,List.cons_append,List.nil_append,env0,Nat.reduceAdd]
 refine .sr (.assign (.z (.seq ?_)))
 refine .dr ([pt b8 (.cells #[.pointer (some ⟨f,0,none⟩)] 29 (0,0)),pt f (fO c a s false false false mp),pt b5 (.cells p.cells 121 (0,0))]) [] 8 mixed .autoJ ?_
 refine .tk 0 rfl (.ld sc29) ?_
 refine .tk 1 rfl .nilCheck ?_
 refine .tk 2 rfl (.fa dv) ?_
 refine .tk 3 rfl (.ld cj) ?_
 refine .tk 4 rfl (.ldA gk) ?_
 refine .on 5 rfl fun hnp=>?_
 refine .call (hc:=Tryz.call79) (sp:=No h) (h:=?_)
 rintro _ _ ⟨gb,q,rfl,⟨hq1,hq2⟩,rfl⟩
 refine .nil (.wa hnp ?_)
 refine .on 6 rfl fun hnp=>?_
 refine .call (hc:=Tryz.call78) (sp:=mg (c:=c) (n:=p.n) (k:=245) (V0:=V0) (V:=V) (D:=[]) (R:=buf gb 5 q (bvs (supB p))) (xs:=supB p) (by decide) (by omega) Reads.buf (nr p) rfl (.inr (by decide))) (h:=?_)
 rintro _ _ ⟨rfl,rfl⟩
 refine .nil (.wa hnp ?_)
 refine .tk 7 rfl .assign ?_
 refine .fin ?_
 refine .next (.ret (?_))
 exact .ret1 (h1:=.tmp (t:=2) rfl) ⟨_,⟨rfl,rfl⟩,Am.auto⟩
theorem Ti {d:Nat} {p:Pl} (h:PlIs p):Spec Tryz.prog 36 #[.pointer (some ⟨d,0,none⟩),.int .i64 (p.ino:Int)] [DevR d p.n fc 0] fun F v M=>∃ J,v=okV/\DevOk p.n (mkW p) J/\M=DevR d p.n J.cur 0 :: F:=by
 refine Spec.intro Tryz.func36 rfl rfl fun B F=>?_
 simp only [Tryz.ntmps36,List.cons_append,List.nil_append,env0,Nat.reduceAdd]
 have hn2:=h.n2
 have h246:246<=p.n:=by have:=h.bm;have:=h.m1;have:=h.da;have:=h.dc;have:=h.d1;omega
 refine .sr (.assign (.x (.move ?_)))
 refine .call (hc:=Tryz.call73) (sp:=fg (n:=p.n) (t:=0) (cur:=fc)) (h:=?_)
 rintro _ _ ⟨rfl,rfl⟩
 refine .move ?_
 refine .call (hc:=Tryz.call72) (sp:=Gz h) (h:=?_)
 rintro _ _ ⟨rfl,rfl⟩
 refine .move ?_
 refine .extract (.extract ?_)
 refine .alloc z121 fun b5=>?_
 refine .stV ?_ gk
 refine .to (A:=pt b5 (.cells p.cells 121 (0,0))) (A':=pt b5 (.cells p.cells 121 (0,0))) (fun h hh=>hh) ?_
 refine .assign (.z (.seq (.sr (.move ?_))))
 refine .nei ?_
 refine .z ?_
 refine .condF rfl (cB9 (by first|simp;done|simp;omega|omega)) ?_
 refine .skip (.next (.sr (.move ?_)))
 refine .call (hc:=Tryz.call74) (sp:=Mq (n:=p.n) h246 hn2) (h:=?_)
 rintro _ _ ⟨j,rfl,rfl⟩
 refine .move ?_
 refine .extract (.extract ?_)
 refine .assign (.assign (.z (.seq (.sr (.move ?_)))))
 refine .nei ?_
 refine .z ?_
 refine .condF rfl (cB9 (by first|simp;done|simp;omega|omega)) ?_
 refine .skip (.next (.sr (.move ?_)))
 refine .ldA ?_ gk
 refine .call (hc:=Tryz.call75) (sp:=Ih (p:=p) (T:=fun _=>none) h246 hn2) (h:=?_)
 rintro _ _ ⟨f,c,a,s,mp,rfl,rfl⟩
 simp only [List.cons_append,List.nil_append]
 refine .shutR (TR.opens c p.n (tagV d) fc [] false) (j,d,⟨J0,[],false,false⟩) ⟨rfl,(fun k h1 h2=>(I8 h1).trans (Ij h1).symm),(fun k h1 h2=>I8 h1),rfl,fun r hr=>(by rw [Da] at hr;injection hr with hr;subst hr;exact Th hn2),fun h=>(by cases h)⟩ ?_
 refine .alloc z29 fun b8=>?_
 refine .st ?_ sc29
 refine .z (.seq (.seq ?_))
 refine .dr ([pt b8 (.cells #[.pointer (some ⟨f,0,none⟩)] 29 (0,0)),pt f (fO c a s false false false mp)]) [] 24 mixed .autoJ ?_
 refine .tk 0 rfl (.ld sc29) ?_
 refine .tk 1 rfl .nilCheck ?_
 refine .tk 2 rfl (.fa dv) ?_
 refine .tk 3 rfl (.ld cj) ?_
 refine .tk 4 rfl .makeFuncB ?_
 refine .tk 5 rfl .makeFuncB ?_
 refine .tk 6 rfl (.ld sc29) ?_
 refine .tk 7 rfl .nilCheck ?_
 refine .tk 8 rfl (.fa Qc) ?_
 refine .tk 9 rfl (.ld jb) ?_
 refine .tk 10 rfl .makeFuncB ?_
 refine .tk 11 rfl (.ld sc29) ?_
 refine .tk 12 rfl .nilCheck ?_
 refine .tk 13 rfl (.fa cp) ?_
 refine .tk 14 rfl (.ld ix) ?_
 refine .tk 15 rfl .makeFuncB ?_
 refine .tk 16 rfl (.ld sc29) ?_
 refine .tk 17 rfl .nilCheck ?_
 refine .tk 18 rfl (.fa dv) ?_
 refine .tk 19 rfl (.ld cj) ?_
 refine .tk 20 rfl .makeFuncB ?_
 refine .tk 23 rfl .move ?_
 refine .on 21 rfl fun hnp=>?_
 refine .buildS (fun b54=>?_) (bsF5 _ _ _ _ _ _ _ _ _ _ _ _ _ _ _)
 refine .nil (.wa hnp ?_)
 refine .tk 22 rfl (.lenS Qx) ?_
 refine .fin ?_
 refine .next (.block ?_)
 refine .loopN 6 (RC.succ ?_)
 refine .sr ?_
 refine .lss ?_
 refine .z (.seq ?_)
 refine .condT rfl (cB9 (by first|simp;done|simp;omega|omega)) ?_
 refine .skip (.next (.seq (.block (.sr ?_))))
 refine .idx1 ?_ nc
 refine .ld ?_ sc92
 refine .assign (.x (.move ?_))
 refine .callF (us:=#[.pointer (some ⟨c,0,none⟩)]) (cap:=#[]) (vs:=[]) rfl rfl Tryz.call76 (Spec.bound (Na (n:=p.n) (V0:=tagV d) (V:=fc) (D:=[]))) ?_ (by repeat (first | exact .nil | (apply Tk.cons;focus ((repeat (first | exact .here | apply Rem.there));done))))
 rintro _ _ ⟨rfl,rfl⟩
 refine .assign (.x (.move ?_))
 refine .nei ?_
 refine .z ?_
 refine .condF rfl (cB9 (by first|simp;done|simp;omega|omega)) ?_
 refine .skip (.blockNormal (.next (.region ?_)))
 refine .add ?_
 refine .move (.nil ?_)
 refine .again (RC.succ ?_)
 refine .sr ?_
 refine .lss ?_
 refine .z (.seq ?_)
 refine .condT rfl (cB9 (by first|simp;done|simp;omega|omega)) ?_
 refine .skip (.next (.seq (.block (.sr ?_))))
 refine .idx1 ?_ nc
 refine .ld ?_ sc92
 refine .assign (.x (.move ?_))
 refine .callF (us:=#[]) (cap:=#[.pointer (some ⟨b8,0,none⟩),.pointer (some ⟨b5,0,none⟩)]) (vs:=[]) rfl rfl Tryz.call77 (Spec.capt (fsMk1 (c:=c) (f:=f) (a:=a) (s:=s) (mp:=mp) (V0:=tagV d) (V:=fc) h h246)) ?_ (by repeat (first | exact .nil | (apply Tk.cons;focus ((repeat (first | exact .here | apply Rem.there));done))))
 rintro _ _ ⟨rfl,rfl⟩
 refine .assign (.x (.move ?_))
 refine .nei ?_
 refine .z ?_
 refine .condF rfl (cB9 (by first|simp;done|simp;omega|omega)) ?_
 refine .skip (.blockNormal (.next (.region ?_)))
 refine .add ?_
 refine .move (.nil ?_)
 refine .again (RC.succ ?_)
 refine .sr ?_
 refine .lss ?_
 refine .z (.seq ?_)
 refine .condT rfl (cB9 (by first|simp;done|simp;omega|omega)) ?_
 refine .skip (.next (.seq (.block (.sr ?_))))
 refine .idx1 ?_ nc
 refine .ld ?_ sc92
 refine .assign (.x (.move ?_))
 refine .callF (us:=#[.pointer (some ⟨a,0,none⟩)]) (cap:=#[]) (vs:=[]) rfl rfl Tryz.call80 (Spec.bound (Kx (c:=c) (V0:=tagV d) (V:=wr fc 245 (supB p)) (D:=[245]) h.ok (Nat.le_refl _))) ?_ (by repeat (first | exact .nil | (apply Tk.cons;focus ((repeat (first | exact .here | apply Rem.there));done))))
 rintro _ _ ⟨rfl,rfl⟩
 simp only [List.cons_append,List.nil_append]
 refine .assign (.x (.move ?_))
 refine .nei ?_
 refine .z ?_
 refine .condF rfl (cB9 (by first|simp;done|simp;omega|omega)) ?_
 refine .skip (.blockNormal (.next (.region ?_)))
 refine .add ?_
 refine .move (.nil ?_)
 refine .again (RC.succ ?_)
 refine .sr ?_
 refine .lss ?_
 refine .z (.seq ?_)
 refine .condT rfl (cB9 (by first|simp;done|simp;omega|omega)) ?_
 refine .skip (.next (.seq (.block (.sr ?_))))
 refine .idx1 ?_ nc
 refine .ld ?_ sc92
 refine .assign (.x (.move ?_))
 refine .callF (us:=#[.pointer (some ⟨s,0,none⟩)]) (cap:=#[]) (vs:=[]) rfl rfl Tryz.call81 (Spec.bound (K8 (c:=c) (a:=a) (V0:=tagV d) (V:=(fmtA p (wr fc 245 (supB p)))) (D:=fmtB p [245]) h.ok (I7 h))) ?_ (by repeat (first | exact .nil | (apply Tk.cons;focus ((repeat (first | exact .here | apply Rem.there));done))))
 rintro _ _ ⟨rfl,rfl⟩
 simp only [List.cons_append,List.nil_append]
 refine .assign (.x (.move ?_))
 refine .nei ?_
 refine .z ?_
 refine .condF rfl (cB9 (by first|simp;done|simp;omega|omega)) ?_
 refine .skip (.blockNormal (.next (.region ?_)))
 refine .add ?_
 refine .move (.nil ?_)
 refine .again (RC.succ ?_)
 refine .sr ?_
 refine .lss ?_
 refine .z (.seq ?_)
 refine .condT rfl (cB9 (by first|simp;done|simp;omega|omega)) ?_
 refine .skip (.next (.seq (.block (.sr ?_))))
 refine .idx1 ?_ nc
 refine .ld ?_ sc92
 refine .assign (.x (.move ?_))
 refine .callF (us:=#[.pointer (some ⟨c,0,none⟩)]) (cap:=#[]) (vs:=[]) rfl rfl Tryz.call82 (Spec.bound (L5 (n:=p.n) (d:=d) (V0:=tagV d) (V:=mkW p) (D:=insD (fmtB p [245]) (p.tb+0 / 8)) (Da d) h246)) ?_ (by repeat (first | exact .nil | (apply Tk.cons;focus ((repeat (first | exact .here | apply Rem.there));done))))
 rintro _ _ ⟨J,rfl,hJ,rfl⟩
 refine .assign (.x (.move ?_))
 refine .nei ?_
 refine .z ?_
 refine .condF rfl (cB9 (by first|simp;done|simp;omega|omega)) ?_
 refine .skip (.blockNormal (.next (.region ?_)))
 refine .add ?_
 refine .move (.nil ?_)
 refine .again (RC.succ ?_)
 refine .sr ?_
 refine .lss ?_
 refine .z (.seq ?_)
 refine .condF rfl (cB9 (by first|simp;done|simp;omega|omega)) ?_
 refine .exit (.thenExit (.thenExit (.blockExit (?_))))
 refine .next (.sr (.assign (.z (.ret (?_)))))
 exact .ret1 (h1:=.tmp (t:=4) rfl) ⟨_,⟨J,rfl,hJ,rfl⟩,Am.auto⟩
theorem Qd {d:Nat} {p:Pl} {J:JS} {V:Nat->ad} {T:FT} (h:PlIs p) (hJ:DevOk p.n V J) (hsup:V 245=supB p) (hr:Rep p (cm0 V) (fmT T)):Spec Tryz.prog 37 #[.pointer (some ⟨d,0,none⟩)] [DevR d p.n J.cur 0] fun F v M=>∃ f,v=.tuple #[.pointer (some ⟨f,0,none⟩),.int .i64 0]/\M=FSR f p T :: F:=by
 refine Spec.intro Tryz.func37 rfl rfl fun B F=>?_
 simp only [Tryz.ntmps37,List.cons_append,List.nil_append,env0,Nat.reduceAdd]
 have hS:=hJ.settled
 have hn1:=hJ.n1
 have hn2:=hJ.n2
 have hv:=(hS.home 245 (by decide) (by omega)).trans hsup
 refine .sr (.assign (.assign (.x (.move ?_))))
 refine .call (hc:=Tryz.call83) (sp:=Rg (n:=p.n) (J:=J) hn1 hn2 hJ.ok hJ.last) (h:=?_)
 rintro _ _ ⟨j,rfl,rfl⟩
 refine .move ?_
 refine .extract (.extract ?_)
 refine .assign (.assign (.z (.seq (.sr (.move ?_)))))
 refine .nei ?_
 refine .z ?_
 refine .condF rfl (cB9 (by first|simp;done|simp;omega|omega)) ?_
 refine .skip (.next (.sr (.move ?_)))
 refine .call (hc:=Tryz.call84) (sp:=Oj (d:=d) (n:=p.n) (J:=J.settled) (k:=245) (by decide) (by omega)) (h:=?_)
 rintro _ _ ⟨gb,q,rfl,⟨hq1,hq2,hq3⟩,rfl⟩
 rw [hv]
 refine .move ?_
 refine .extract (.extract ?_)
 refine .assign (.assign (.z (.seq (.sr (.move ?_)))))
 refine .nei ?_
 refine .z ?_
 refine .condF rfl (cB9 (by first|simp;done|simp;omega|omega)) ?_
 refine .skip (.next (.sr (.move ?_)))
 refine .call (hc:=Tryz.call85) (sp:=Sq (R:=buf gb 5 q (bvs (supB p))) h Reads.buf) (h:=?_)
 rintro _ _ ⟨rfl,rfl⟩
 refine .move ?_
 refine .extract (.extract ?_)
 refine .alloc z121 fun b7=>?_
 refine .stV ?_ gk
 refine .to (A:=pt b7 (.cells p.cells 121 (0,0))) (A':=pt b7 (.cells p.cells 121 (0,0))) (fun h hh=>hh) ?_
 refine .assign (.z (.seq (.seq ?_)))
 refine .openR (JR.opens j d p.n J.settled) fun x hx=>?_
 simp only [jL,List.cons_append,List.nil_append]
 refine .dr ([pt b7 (.cells p.cells 121 (0,0))]) [] 9 mixed .autoJ ?_
 refine .tk 0 rfl .move ?_
 refine .tk 1 rfl .nei ?_
 refine .tk 2 rfl .move ?_
 refine .tn 3 rfl (.fa Ig) ?_
 refine .tn 4 rfl (.ld sc3) ?_
 refine .tn 5 rfl .move ?_
 refine .on 6 rfl fun hnp=>?_
 refine .gT ?_
 refine .call (hc:=Tryz.call73) (sp:=fg (n:=p.n) (t:=0) (cur:=J.settled.cur)) (h:=?_)
 rintro _ _ ⟨rfl,rfl⟩
 refine .nil (.wa hnp ?_)
 refine .tn 7 rfl .nei ?_
 refine .tk 8 rfl .pickF ?_
 refine .fin ?_
 refine .next ?_
 refine .condF rfl (cB9 (by first|simp;done|simp;omega|omega)) ?_
 refine .skip (.next (.sr ?_))
 refine .shutR (JR.opens j d p.n J.settled) x hx ?_
 refine .move ?_
 refine .ldA ?_ gk
 refine .call (hc:=Tryz.call75) (sp:=Ih (p:=p) (T:=T) hn1 hn2) (h:=?_)
 rintro _ _ ⟨f,c,a,s,mp,rfl,rfl⟩
 simp only [List.cons_append,List.nil_append]
 refine .shutR (TR.opens c p.n (cm0 V) (cm0 V) [] false) (j,d,⟨J.settled,[],false,false⟩) ⟨rfl,(fun k h1 h2=>(hS.home k h1 h2).trans (qo V (by omega)).symm),(fun k h1 h2=>(hS.home k h1 h2).trans (qo V (by omega)).symm),rfl,fun r hr=>(by rw [Gu] at hr;cases hr),fun h=>(by cases h)⟩ ?_
 refine .shutR (IN.opens s a c p (fmT T) (fmT T) 0 false) (cm0 V,cm0 V,[]) ⟨hr,hr,Dk.nil p,Nat.zero_le _⟩ ?_
 refine .shutR (FSR.opens f p T) (c,a,s,mp) trivial ?_
 refine .assign (.assign (.z (.ret (?_))))
 exact .ret2 (h1:=.tmp (t:=2) rfl) (h2:=.tmp (t:=3) rfl) ⟨_,⟨f,rfl,rfl⟩,Am.auto⟩
theorem E5 {d:Nat} {p:Pl} {J:JS} (h:PlIs p) (hJ:DevOk p.n (mkW p) J):Spec Tryz.prog 37 #[.pointer (some ⟨d,0,none⟩)] [DevR d p.n J.cur 0] fun F v M=>∃ f,v=.tuple #[.pointer (some ⟨f,0,none⟩),.int .i64 0]/\M=FSR f p eh :: F :=
 Qd h hJ (Pt h) (by rw [xm];exact Pv h)
theorem Nv :dj Tryz.prog 166 2=true:=by kernel_rfl
theorem Qe :ae Tryz.prog 166 0 0=true:=by kernel_rfl
theorem t8 (l:List Ent):(l.flatMap entL).length=l.length * 2:=bc (enc:=entL) (m:=2) ki l
theorem Mr {l:List Ent} {i:Nat} {x:Ent} (h:l[i]?=some x):(l.flatMap entL)[i * 2]?=some (sv x.1)/\(l.flatMap entL)[i * 2+1]?=some (nI x.2):=by
 induction l generalizing i with
 | nil=>cases h
 | cons a l ih =>
  rw [List.flatMap_cons]
  cases i with
  | zero =>
   injection h with h;subst h
   exact ⟨rfl,rfl⟩
  | succ i =>
   have:=ih (i:=i) h
   rw [show (i+1) * 2=i * 2+2 from by omega]
   constructor
   ·rw [List.getElem?_append_right (by show 2<=_;omega)]
    show (l.flatMap entL)[i * 2+2 - 2]?=_
    rw [Nat.add_sub_cancel];exact this.1
   ·rw [List.getElem?_append_right (by show 2<=_;omega)]
    show (l.flatMap entL)[i * 2+2+1 - 2]?=_
    rw [show i * 2+2+1 - 2=i * 2+1 from by omega];exact this.2
theorem Ja {l:List Ent} {i:Nat} {x:Ent} (h:l[i]?=some x):((l.flatMap entL).drop (i * 2)).take 2=entL x:=by
 have h1:=Mr h
 refine List.ext_getElem? fun j=>?_
 rw [List.getElem?_take]
 split
 ·rename_i hj
  rw [List.getElem?_drop]
  rcases j with _ | _ | j
  ·exact h1.1
  ·exact h1.2
  ·omega
 ·rename_i hj
  rw [List.getElem?_eq_none (by show 2<=j;omega)]
theorem Bu {sl:List Slot} (hd:DirOk sl):((lq sl).map (·.1)).Nodup:=by
 unfold List.Nodup
 rw [List.pairwise_map]
 unfold lq
 rw [List.pairwise_filterMap]
 rw [List.pairwise_iff_getElem]
 intro i j hi hj hij x hx y hy hxy
 have hx:sl[i]=some x:=hx
 have hy:sl[j]=some y:=hy
 obtain ⟨n1,i1⟩:=x
 obtain ⟨n2,i2⟩:=y
 have hxy:n1=n2:=hxy
 subst hxy
 have:=hd.one i j n1 i1 i2 (by rw [List.getElem?_eq_getElem hi,hx]) (by rw [List.getElem?_eq_getElem hj,hy])
 omega
abbrev SortE (l:List Ent):Prop:=l.Pairwise fun x y=>¬ y.1 < x.1
theorem bsSn (a:ByteArray):a8 Tryz.prog 62 1 [(0,.string a)] 9 #[.string a]:=fun w=>by kernel_rfl
theorem E6 {α:Type} {l:List α} {k:Nat} (h:k < l.length):l.take (k+1)=l.take k++[l[k]]:=List.take_succ_eq_append_getElem h
theorem Nw {f:Nat} {p:Pl} {T:FT} {path:ad} (ho:PlOk p) (hT:TOk T) (hpl:path.length<=1000000) {i z:Nat} {sl:List Slot} (hl:d4 T path=(i,2,z,0)) (hd:T i=some (.dir sl)):Spec Tryz.prog 59 #[.pointer (some ⟨f,0,none⟩),sv path] [FSR f p T] fun F v M=>∃ u l,v=.tuple #[u,.int .i64 0]/\((l:List Ent).Perm (lq sl)/\SortE l)/\M=rowR 9 1 u (l.map (·.1)).length (svs (l.map (·.1))) :: FSR f p T :: F:=by
 refine Spec.intro Tryz.func59 rfl rfl fun B F=>?_
 simp only [Tryz.ntmps59,List.cons_append,List.nil_append,env0,Nat.reduceAdd]
 refine .openR (FSR.opens f p T) fun y _=>?_
 obtain ⟨c,a,s,mp⟩:=y
 simp only [fsLs,List.cons_append,List.nil_append]
 have hto:=hT i sl hd
 refine .sr (.assign (.assign (.x (.move (.move ?_)))))
 refine .call (hc:=Tryz.call107) (sp:=td (f:=f) (s:=s) (a:=a) (c:=c) (mp:=mp) (b:=false) (ov:=false) (dead:=false) (p:=p) (T:=T) (F0:=fmT T) (W:=0) (op:=false) (path:=path) ho hT hpl) (h:=?_)
 rintro _ _ ⟨rfl,rfl⟩
 rw [hl]
 refine .move ?_
 refine .extract (.extract (.extract ?_))
 refine .alloc z159 fun b7=>?_
 refine .assign ?_
 refine .stV ?_ cw
 refine .assign (.z (.seq (.sr (.move ?_))))
 refine .nei ?_
 refine .z ?_
 refine .condF rfl (cB9 (by first|simp;done|simp;omega|omega)) ?_
 refine .skip (.next (.sr (.move (.nilCheck ?_))))
 refine .fa ?_ cp
 refine .ld ?_ ix
 refine .move ?_
 refine .call (hc:=Tryz.call108) (sp:=Pg (s:=s) (a:=a) (c:=c) (p:=p) (F0:=fmT T) (Fm:=fmT T) (W:=0) (d:=i) (op:=false) (sl:=sl) ho (bx hd) hto.1 (by omega)) (h:=?_)
 rintro _ _ ⟨u,l,rfl,⟨hlp,hls⟩,rfl⟩
 have hll:=hlp.length_eq
 have hle:=p9 (sl:=sl)
 refine .fact (ah (el:=166) (size:=2) (v:=u) (k:=l.length) (xs:=l.flatMap entL)) (fun ⟨A,cc,hu,hR0,hc1,hc2,hlen⟩=>?_)
 subst hu
 refine .move ?_
 refine .extract (.extract ?_)
 refine .assign (.assign (.z (.seq (.sr (.move ?_)))))
 refine .nei ?_
 refine .z ?_
 refine .condF rfl (cB9 (by first|simp;done|simp;omega|omega)) ?_
 refine .skip (.next (.sr (.assign ?_)))
 refine .emp (rowR.nil (e:=9) (size:=1) _) ?_
 refine .z (.seq (.sr (.move ?_)))
 refine .lenS ?_ Pp
 refine .move (.z (.block ?_))
 refine .loopA (σ:=Nat×Value) (fun y=>[(10,y.2),(35,.slice A l.length cc),(36,.int .i64 (l.length:Int)),(37,.int .i64 ((y.1:Nat):Int))]) (fun y=>[rowR 9 1 y.2 y.1 (svs ((l.map (·.1)).take y.1)),rowR 166 2 (.slice A l.length cc) l.length (l.flatMap entL),pt f (fO c a s false false false mp),LD mp T,IN s a c p (fmT T) (fmT T) 0 false]++F) (fun y=>y.1<=l.length) (fun y=>l.length - y.1) (0,.slice none 0 0) (Nat.zero_le _) ?_
 rintro y hk
 obtain ⟨k,o⟩:=y
 simp only at hk ⊢
 refine .sr ?_
 refine .lss ?_
 refine .z (.seq ?_)
 refine .cond rfl (fun hb=>?_) (fun hb=>?_)
 ·have hlt:k < l.length:=by have h:(k:Int) < (l.length:Int):=of_decide_eq_true hb;omega
  rcases A with _ | ⟨ab,ao,asp⟩
  ·exact absurd (congrArg List.length (show l.flatMap entL=[] from hR0)) (by rw [t8,List.length_nil];omega)
  have hsp:asp=none:=hR0.1
  subst hsp
  have hlk:l[k]?=some l[k]:=List.getElem?_eq_getElem hlt
  have hml:(l.map (·.1)).length=l.length:=List.length_map ..
  refine .skip (.next (.seq (.block (.sr ?_))))
  refine .idx ?_ Se
  refine .ldAR (i:=((k:Nat):Int).toNat * 2) (us:=entL l[k]) ?_ Nv hR0 (by rw [Int.toNat_natCast];exact Ja hlk) (by rw [t8,Int.toNat_natCast];omega)
  refine .alloc z166 fun b12=>?_
  refine .stV ?_ Nv
  refine .y (.move ?_)
  refine .fa ?_ Qe
  refine .ld ?_ sc9
  refine .buildS (fun b44=>?_) (bsSn _)
  refine .append (m:=1) (news:=[sv l[k].1]) so62 (by decide) (by repeat (first | exact .here | apply Rem.there | apply Repl.there | apply Mem.there)) Reads.pt (by repeat (first | exact .here | apply Rem.there | apply Repl.there | apply Mem.there)) rfl (by intro x hx;simp only [List.mem_cons,List.not_mem_nil,or_false] at hx;subst hx;rfl) (by show k+1<=maxLen;unfold maxLen;omega) (by show (k+1) * _<=_;omega) ⟨_,z9,rfl⟩ (fun u2 hu2=>?_)
  refine .assign (.nil (.blockNormal (.next (.region ?_))))
  refine .add ?_
  refine .move (.nil ?_)
  refine .to (A:=rowR 9 1 u2 (k+1) (svs ((l.map (·.1)).take k)++[sv l[k].1])) (A':=rowR 9 1 u2 (k+1) (svs ((l.map (·.1)).take (k+1)))) (fun h hh=>by rw [E6 (by omega),List.getElem_map];unfold svs at hh ⊢;rw [List.map_append];exact hh) ?_
  refine .cast (d:=37) (u:=.int .i64 ((k+1:Nat):Int)) rfl (cI9 (by omega)) ?_
  exact .back (k+1,u2) (by show k+1<=l.length;omega) (by show l.length - (k+1) < l.length - k;omega)
 ·have hge:k=l.length:=by have h:¬ (k:Int) < (l.length:Int):=of_decide_eq_false hb;omega
  subst hge
  have hml:(l.map (·.1)).length=l.length:=List.length_map ..
  rw [List.take_of_length_le (Nat.le_of_eq hml)]
  refine .exit (.thenExit (.thenExit (.blockExit (?_))))
  refine .next (.sr (.move (.assign (.assign (.z ?_)))))
  refine .ret (?_)
  refine .shutR (FSR.opens f p T) (c,a,s,mp) trivial ?_
  exact .ret2 (h1:=.tmp (t:=4) rfl) (h2:=.tmp (t:=5) rfl) ⟨_,⟨o,l,rfl,⟨hlp,hls⟩,by rw [hml]⟩,Am.auto⟩
theorem lc :dj Tryz.prog 23 5=true:=by kernel_rfl
theorem Tj {p:Pl} {dn:ad} (hdn:am dn=true) (hi:2<=p.ino):DirF p dn 0 (mkT eh 0 [] dn 1 (.dir [])) [] []:=by
 have hs:setS ([]:List Slot) (bj []) (some (dn,1))=[some (dn,1)]:=rfl
 have hat:∀ j,mkT eh 0 [] dn 1 (.dir []) j=if j=0 then some (.dir [some (dn,1)]) else if j=1 then some (.dir []) else none:=fun j=>by
  rw [lx,hs]
  by_cases h0:j=0
  ·rw [if_pos h0,if_pos h0]
  ·rw [if_neg h0,if_neg h0]
   by_cases h1:j=1
   ·rw [if_pos h1,if_pos h1]
   ·rw [if_neg h1,if_neg h1]
    unfold eh
    rw [if_neg h0]
 refine ⟨hdn,by rw [hat];rfl,by rw [hat];rfl,DirOk.nil,Nat.le_refl _,fun q nm i=>⟨fun h=>by simp at h,fun ⟨x,hx,_⟩=>by simp at hx⟩,fun x hx=>by simp at hx,fun j hj _=>by rw [hat,if_neg (by omega),if_neg (by omega)],fun x hx=>by simp at hx,List.Pairwise.nil,?_⟩
 have h1:=d2 (fmT eh) (show 1 < p.ino by omega) (some (NodeT.dir []).f)
 rw [d3,gr (show eh 1=none from rfl)] at h1
 have h2:=d2 (fmT (updT eh 1 (some (.dir [])))) (show 0 < p.ino by omega) (some (NodeT.dir [some (dn,1)]).f)
 rw [d3,bx (T:=updT eh 1 (some (.dir []))) (i:=0) (x:=.dir []) rfl] at h2
 have e0:hasO none=0:=rfl
 have e1:hasO (some (NodeT.dir []).f)=0:=by show has (dirB []).length=0;rw [av];rfl
 have e2:hasO (some (NodeT.dir [some (dn,1)]).f)=1:=by
  have h64:has 64=1:=rfl
  show has (dirB [some (dn,1)]).length=1
  rw [av]
  exact h64
 have e3:tot (fmT eh) p.ino=0:=by rw [xm];exact Cr _
 have e4:mkT eh 0 [] dn 1 (.dir [])=updT (updT eh 1 (some (.dir []))) 0 (some (.dir [some (dn,1)])):=by unfold mkT;rw [hs]
 have e5:has (64 * 0)=0:=rfl
 show tot (fmT (mkT eh 0 [] dn 1 (.dir []))) p.ino=1+has (64 * 0)+0
 rw [e4]
 omega
theorem Qf {dn:ad} (hdn:am dn=true):ax eh (47 :: dn)=(0,dn,0):=by
 have hl:=ap hdn
 unfold ax
 have hp:fd (47 :: dn)=some [dn]:=by
  unfold fd
  simp only [if_true]
  rw [if_neg (by intro h;rw [h] at hl;simp at hl),lw hdn,if_neg (by simp)]
  rw [show [dn].all am=true from by rw [List.all_cons,List.all_nil,hdn];rfl]
  rfl
 rw [hp]
 rfl
theorem q8 {dn:ad} (hdn:am dn=true):fd (47 :: dn)=some [dn]:=by
 have hl:=ap hdn
 unfold fd
 simp only [if_true]
 rw [if_neg (by intro h;rw [h] at hl;simp at hl),lw hdn,if_neg (by simp)]
 rw [show [dn].all am=true from by rw [List.all_cons,List.all_nil,hdn];rfl]
 rfl
theorem DirF.leadsD {p:Pl} {dn:ad} {N:Nat} {T:FT} {sl:List Slot} {fl:List PF} (h:DirF p dn N T sl fl):d4 T (47 :: dn)=(1,2,(NodeT.dir sl).size,0):=by
 unfold d4
 rw [q8 h.dnm]
 have hw:bw T 0 [dn]=(1,0):=by
  unfold bw
  rw [h.findD]
  rfl
 show (if (bw T 0 [dn]).2=0 then _ else _)=_
 rw [hw,if_pos rfl]
 show (match T 1 with | some y=>(1,y.kind,y.size,0) | none=>(1,0,0,4))=_
 rw [h.dir]
 rfl
theorem Ms {α:Type} {l:List α} {a:α} (h1:a∈l) (h2:∀ x∈l,x=a) (h3:l.Nodup):l=[a]:=by
 match l,h1 with
 | [x],_=>rw [h2 x (List.mem_singleton.2 rfl)]
 | x :: y :: l,_ =>
  have e1:=h2 x (List.mem_cons_self ..)
  have e2:=h2 y (List.mem_cons_of_mem _ (List.mem_cons_self ..))
  rw [List.nodup_cons] at h3
  exact absurd (by rw [e1,e2];exact List.mem_cons_self ..) h3.1
theorem Jb {f:Nat} {p:Pl} {dn:ad} {N:Nat} {y:SegA} (hp:PlP p) (hf:FitsP p N [y]) :
  Spec Tryz.prog 59 #[.pointer (some ⟨f,0,none⟩),sv (47 :: dn)] [DRF f p dn N [y]] fun F v M=>∃ u,v=.tuple #[u,.int .i64 0]/\M=rowR 9 1 u 1 (svs [aw y.1]) :: DRF f p dn N [y] :: F:=by
 refine Spec.opens (DRF.opens f p dn N [y]) fun fl hfl=>?_
 refine Spec.opens (DR.opens f p dn N fl) fun z hd=>?_
 obtain ⟨T,sl⟩:=z
 have hd:DirF p dn N T sl fl:=hd
 have hN:=hf.n
 refine Spec.post' (Nw (f:=f) (p:=p) (T:=T) (path:=47 :: dn) (i:=1) (z:=(NodeT.dir sl).size) (sl:=sl) hp.ok (hd.tok (by omega)) (by have:=ap hd.dnm;simp only [List.length_cons];omega) hd.leadsD hd.dir) ?_
 rintro F v M B w ⟨u,l,rfl,⟨hlp,_⟩,rfl⟩ hs
 obtain ⟨fa,x,fb,rfl,ha,⟨hxn,hxc⟩,hb⟩:=hfl.split (pre:=[]) (post:=[])
 have ha0:fa=[]:=by unfold FilesOf at ha;exact List.map_eq_nil_iff.1 ha
 have hb0:fb=[]:=by unfold FilesOf at hb;exact List.map_eq_nil_iff.1 hb
 subst ha0
 subst hb0
 have hnm:l.map (·.1)=[aw y.1]:=by
  refine Ms ?_ ?_ ?_
  ·refine List.mem_map.2 ⟨(x.nm,x.i),hlp.mem_iff.2 (entsS_mem.2 ⟨x.q,(hd.slot _ _ _).2 ⟨x,List.mem_singleton.2 rfl,rfl,rfl,rfl⟩⟩),hxn⟩
  ·intro n hn
   obtain ⟨⟨nm,i⟩,hm,rfl⟩:=List.mem_map.1 hn
   obtain ⟨q,hq⟩:=entsS_mem.1 (hlp.mem_iff.1 hm)
   obtain ⟨x',hx',h1,h2,h3⟩:=(hd.slot _ _ _).1 hq
   rw [List.mem_singleton.1 hx'] at h2
   rw [<- hxn,h2]
  ·exact (hlp.map _).nodup_iff.2 (Bu hd.ok)
 rw [hnm] at hs
 refine ⟨_,⟨u,rfl,rfl⟩,Sat.front (.there .here) ?_⟩
 refine Sat.shuts (M:=rowR _ 1 u 1 (svs [aw y.1]) :: F) (DRF.opens f p dn N [y]) hfl ?_
 exact Sat.shuts (DR.opens f p dn N _) (x:=(T,sl)) hd (Sat.front (.there .here) hs)
theorem Tl {f:Nat} {p:Pl} {dn:ad} {N:Nat} {pre post:List SegA} {y:SegA} (hp:PlP p) (hf:FitsP p N (pre++y :: post)) (hc:(byt y).length<=70656) :
  Spec Tryz.prog 116 #[.pointer (some ⟨f,0,none⟩),sv (em dn (aw y.1)),nI 0,nI 70656] [DRF f p dn N (pre++y :: post)] fun F v M=>∃ u,v=.tuple #[u,.int .i64 0]/\M=rowR 5 1 u (byt y).length (bvs (byt y)) :: DRF f p dn N (pre++y :: post) :: F:=by
 refine Spec.opens (DRF.opens f p dn N _) fun fl hfl=>?_
 have hN:=hf.n
 obtain ⟨fa,x,fb,rfl,ha,⟨hxn,hxc⟩,hb⟩:=hfl.split
 have h:=Sm (f:=f) (p:=p) (dn:=dn) (N:=N) (fl:=fa++x :: fb) (x:=x) hp.ok (by omega) (List.mem_append_right _ (List.mem_cons_self ..)) (by rw [hxn,cz];decide) (by rw [hxc];exact hc)
 rw [hxn,hxc] at h
 refine Spec.post' h ?_
 rintro F v M B w ⟨u,rfl,rfl⟩ hs
 exact ⟨_,⟨u,rfl,rfl⟩,Sat.front (.there .here) (Sat.shuts (M:=rowR _ _ _ _ _ :: F) (DRF.opens f p dn N _) hfl (Sat.front (.there .here) hs))⟩
theorem Nx (f:Nat) (s:ByteArray) (a b c:Int) (d:Bool) (e:Int):bi Tryz.prog 84 [(0,.pointer (some ⟨f,0,none⟩)),(1,.string s),(2,.agg #[.int .i64 a,.int .i64 b,.int .i64 c,.bool d,.int .i64 e])] #[.pointer (some ⟨f,0,none⟩),.string s,.int .i64 a,.int .i64 b,.int .i64 c,.bool d,.int .i64 e,.slice none 0 0]:=fun w=>by kernel_rfl
theorem sufP (b:Nat):decide ((aw b).drop ((aw b).length - ([46,110,101,119]:ad).length)=([46,110,101,119]:ad))=false:=by
 refine decide_eq_false fun h=>?_
 have hd:(aw b).length - ([46,110,101,119]:ad).length=16:=by rw [cz];rfl
 rw [hd] at h
 have h1:((aw b).drop 16)[0]?=some 46:=by rw [h];rfl
 rw [List.getElem?_drop,xo (by decide)] at h1
 injection h1 with h1
 have h2:=ox b (19 - (16+0))
 have h3:=ow b (19 - (16+0))
 rw [h1] at h2
 have:(46:UInt8).toNat=46:=rfl
 omega
theorem Jc {f bf bd:Nat} {p:Pl} {dn:ad} (hp:PlP p) (hdn:am dn=true) (hi:6<=p.ino):Spec Tryz.prog 58 #[.pointer (some ⟨bf,0,none⟩),.pointer (some ⟨bd,0,none⟩)] [FSB f p (fmT eh) eh 0,bun [pt bf (.cells #[.pointer (some ⟨f,0,none⟩)] 29 (0,0)),pt bd (.cells #[sv (47 :: dn)] 9 (0,0))]] fun F v M=>∃ y:FT×List Slot×List PF,(DirF p dn 1 y.1 y.2.1 y.2.2/\FilesOf y.2.2 [(0,[])])/\v=okV/\M=FSB f p (fmT eh) y.1 18 :: bun [pt bf (.cells #[.pointer (some ⟨f,0,none⟩)] 29 (0,0)),pt bd (.cells #[sv (47 :: dn)] 9 (0,0))] :: F:=by
 refine Spec.intro Tryz.func58 rfl rfl fun B F=>?_
 simp only [Tryz.ntmps58,List.cons_append,List.nil_append,env0,Nat.reduceAdd]
 refine .openR (bun.opens _) fun _ _=>?_
 simp only [List.cons_append,List.nil_append]
 have hdl:=ap hdn
 have hdc:=hp.dc
 refine .sr (.assign (.z (.seq (.sr ?_))))
 refine .ld ?_ sc29
 refine .ld ?_ sc9
 refine .call (hc:=Tryz.call31) (sp:=C8 (f:=f) (p:=p) (T:=eh) (F0:=fmT eh) (W0:=0) (path:=47 :: dn) (d:=0) (i:=1) (nm:=dn) (sl:=[]) (x:=.dir []) hp.ok Lt (by simp only [List.length_cons];omega) (by intro h;injection h with _ h;rw [h] at hdl;simp at hdl) (Qf hdn) (by unfold cg;rw [if_pos hdn];rfl) rfl (by omega) rfl (fun j hj=>by rw [show j=0 by omega];simp [eh]) rfl rfl (hp.w (by decide)) (by
  have h1:tot (fmT eh) p.ino=0:=by rw [xm];exact Cr _
  have h2:has (max (64 * ([]:List Slot).length) (64 * bj []+64))=1:=rfl
  rw [h1,h2]
  omega)) (h:=?_)
 rintro _ _ ⟨rfl,rfl⟩
 refine .assign (.x (.move ?_))
 refine .nei ?_
 refine .z ?_
 refine .condF rfl rfl ?_
 refine .skip (.next (.seq ?_))
 refine .dr ([pt bf (.cells #[.pointer (some ⟨f,0,none⟩)] 29 (0,0)),pt bd (.cells #[sv (47 :: dn)] 9 (0,0))]) [] 9 mixed .autoJ ?_
 refine .tk 0 rfl (.ld sc29) ?_
 refine .tk 1 rfl (.ld sc9) ?_
 refine .on 2 rfl fun hnp=>?_
 refine .call (hc:=Tryz.call47) (sp:=kn (dir:=47 :: dn) (b:=0) (by simp only [List.length_cons];omega) (by decide)) (h:=?_)
 rintro _ _ ⟨rfl,rfl⟩
 rw [ko]
 refine .nil (.wa hnp ?_)
 refine .on 3 rfl fun hnp=>?_
 refine .shutR (DB.opens f p dn 0 (fmT eh) [] 9) (_,[]) (Tj hdn (by omega)) ?_
 refine .shutR (DBF.opens f p dn 0 (fmT eh) [] 9) [] rfl ?_
 refine .call (hc:=Tryz.call46) (sp:=Br (f:=f) (base:=((0:Nat):Int)) (path:=em dn (aw 0)) (H:=DBF f p dn 0 (fmT eh) [] 9) (H':=DBF f p dn 1 (fmT eh) [(0,[])] 18) (by decide) (Di (ss:=[]) hp ⟨by decide,by omega,by decide,by decide⟩ (by decide) (by decide) (fun y hy=>absurd hy List.not_mem_nil))) (h:=?_)
 rintro _ _ ⟨s,rfl,rfl⟩
 refine .nil (.wa hnp ?_)
 refine .tk 4 rfl .move ?_
 refine .tk 5 rfl .extract ?_
 refine .tk 6 rfl .extract ?_
 refine .tk 7 rfl .assign ?_
 refine .tk 8 rfl .assign ?_
 refine .fin ?_
 refine .next (.sr (.move (.assign (.z (.ret (?_))))))
 refine .openR (DBF.opens f p dn 1 (fmT eh) [(0,[])] 18) fun fl hfl=>?_
 simp only [List.cons_append,List.nil_append]
 refine .openR (DB.opens f p dn 1 (fmT eh) fl 18) fun z hd=>?_
 simp only [List.cons_append,List.nil_append]
 refine .shutR (bun.opens [pt bf (.cells #[.pointer (some ⟨f,0,none⟩)] 29 (0,0)),pt bd (.cells #[sv (47 :: dn)] 9 (0,0))]) () trivial ?_
 exact .ret1 (h1:=.tmp (t:=2) rfl) ⟨_,⟨(z.1,z.2,fl),⟨hd,hfl⟩,rfl,rfl⟩,Am.auto⟩
theorem Mt {f:Nat} {p:Pl} {dn:ad} {st:Sts} (hp:PlP p) (hdn:am dn=true) (hi:6<=p.ino) (hst:cf st=true):Spec Tryz.prog 29 #[.pointer (some ⟨f,0,none⟩),sv (47 :: dn),.agg st.v.toArray] [FSR f p eh] fun F v M=>v=okV/\M=DRF f p dn 1 [(0,[])] :: F:=by
 refine Spec.intro Tryz.func29 rfl rfl fun B F=>?_
 simp only [Tryz.ntmps29,List.cons_append,List.nil_append,env0,Nat.reduceAdd]
 refine .sr ?_
 refine .box fun b3=>?_
 refine .box fun b4=>?_
 refine .box fun b5=>?_
 refine .assign (.z (.seq (.sr ?_)))
 refine .ldA ?_ lc
 refine .call (hc:=Tryz.call10) (sp:=km (s:=st)) (h:=?_)
 rintro _ _ ⟨rfl,rfl⟩
 rw [hst]
 refine .not ?_
 refine .z ?_
 refine .condF rfl rfl ?_
 refine .skip (.next (.sr ?_))
 refine .ld ?_ sc29
 refine .makeFuncB ?_
 refine .shutR (bun.opens [pt b3 (.cells #[.pointer (some ⟨f,0,none⟩)] 29 (0,0)),pt b4 (.cells #[sv (47 :: dn)] 9 (0,0))]) () trivial ?_
 refine .call (hc:=Tryz.call41) (sp:=pw (f:=f) (p:=p) (α:=FT×List Slot×List PF) (q:=fun y=>(DirF p dn 1 y.1 y.2.1 y.2.2/\FilesOf y.2.2 [(0,[])])) (T:=eh) (T':=fun y=>y.1) (W':=fun _=>18) (X0:=bun [pt b3 (.cells #[.pointer (some ⟨f,0,none⟩)] 29 (0,0)),pt b4 (.cells #[sv (47 :: dn)] 9 (0,0))]) (X':=fun _=>bun [pt b3 (.cells #[.pointer (some ⟨f,0,none⟩)] 29 (0,0)),pt b4 (.cells #[sv (47 :: dn)] 9 (0,0))]) hp.ok (hc:=Tryz.call58) (Jc hp hdn hi)) (h:=?_)
 rintro _ _ ⟨y,hy,rfl,rfl⟩
 refine .shutR (DR.opens f p dn 1 y.2.2) (y.1,y.2.1) hy.1 ?_
 refine .shutR (DRF.opens f p dn 1 [(0,[])]) y.2.2 hy.2 ?_
 refine .assign (.z (.ret (?_)))
 exact .ret1 (h1:=.tmp (t:=6) rfl) ⟨_,⟨rfl,rfl⟩,Am.auto⟩
theorem Bv {f N:Nat} {p:Pl} {dn:ad} {st:Sts} (hp:PlP p) (hdn:am dn=true) (hf:FitsP p N [(0,[])]) (hst:cf st=true):Spec Tryz.prog 30 #[.pointer (some ⟨f,0,none⟩),sv (47 :: dn),.agg st.v.toArray] [DRF f p dn N [(0,[])]] fun F v M=>∃ pp,v=.tuple #[.pointer (some ⟨pp,0,none⟩),.int .i64 0]/\M=PT pp f dn st [] [(0,[])] :: DRF f p dn N [(0,[])] :: F:=by
 refine Spec.intro Tryz.func30 rfl rfl fun B F=>?_
 simp only [Tryz.ntmps30,List.cons_append,List.nil_append,env0,Nat.reduceAdd]
 have hdl:=ap hdn
 refine .sr ?_
 refine .box fun b5=>?_
 refine .assign (.assign (.z (.seq (.sr ?_))))
 refine .ldA ?_ lc
 refine .call (hc:=Tryz.call10) (sp:=km (s:=st)) (h:=?_)
 rintro _ _ ⟨rfl,rfl⟩
 rw [hst]
 refine .not ?_
 refine .z ?_
 refine .condF rfl rfl ?_
 refine .skip (.next (.sr (.move (.move ?_))))
 refine .call (hc:=Tryz.call59) (sp:=Jb (y:=(0,[])) hp hf) (h:=?_)
 rintro _ _ ⟨u,rfl,rfl⟩
 refine .rowOpen (v:=u) (xs:=svs [aw 0]) (hx:=fun h=>by cases h) fun A c hv hR hc1 hc2=>?_
 subst hv
 refine .move ?_
 refine .extract (.extract ?_)
 refine .assign (.assign (.z (.seq (.sr (.move ?_)))))
 refine .nei ?_
 refine .z ?_
 refine .condF rfl rfl ?_
 refine .skip (.next (.sr (.move (.move ?_))))
 refine .ldA ?_ lc
 refine .build ?_ (Nx f (bstr (47 :: dn)) st.seg st.bytes st.age st.comp st.delay)
 refine .box fun b34=>?_
 refine .assign (.z (.seq (.sr (.move ?_))))
 refine .lenS ?_ sl62
 refine .move (.z (.block ?_))
 obtain ⟨ab,ao,asp⟩:=A
 have hasp:asp=none:=hR.1
 subst hasp
 refine .loopN 2 (RC.succ ?_)
 refine .sr ?_
 refine .lss ?_
 refine .z (.seq ?_)
 refine .condT rfl rfl ?_
 refine .skip (.next (.seq (.block (.sr ?_))))
 refine .idx1 ?_ so62
 rw [show ao+((0:Int)).toNat=ao+0 from rfl]
 refine .ldR (i:=0) (v:=sv (aw 0)) ?_ sc9 hR rfl
 refine .assign (.z (.seq (.sr (.move ?_))))
 refine .call (hc:=Tryz.call60) (sp:=P3 (xs:=aw 0) (ps:=[46,110,101,119]) (by rw [cz];decide) (by rw [cz];decide)) (h:=?_)
 rintro _ _ ⟨rfl,rfl⟩
 rw [sufP 0]
 refine .z ?_
 refine .condF rfl rfl ?_
 refine .skip (.next (.sr (.move ?_)))
 refine .call (hc:=Tryz.call62) (sp:=Mg (b:=0) (by decide)) (h:=?_)
 rintro _ _ ⟨rfl,rfl⟩
 refine .move ?_
 refine .extract (.extract ?_)
 refine .assign (.assign (.z (.seq (.sr (.move ?_)))))
 refine .not ?_
 refine .z ?_
 refine .condF rfl rfl ?_
 refine .skip (.next (.sr (.move (.move (.move ?_)))))
 refine .call (hc:=Tryz.call47) (sp:=kn (dir:=47 :: dn) (b:=0) (by simp only [List.length_cons];omega) (by decide)) (h:=?_)
 rintro _ _ ⟨rfl,rfl⟩
 rw [ko]
 refine .move ?_
 refine .call (hc:=Tryz.call63) (sp:=Mo (f:=f) (base:=((0:Nat):Int)) (path:=em dn (aw 0)) (H:=DRF f p dn N [(0,[])]) (by decide) (Tl (pre:=[]) (post:=[]) (y:=(0,[])) hp hf (by decide))) (h:=?_)
 rintro _ _ ⟨s,rfl,rfl⟩
 refine .move ?_
 refine .extract (.extract ?_)
 refine .assign (.assign (.z (.seq (.sr (.move ?_)))))
 refine .nei ?_
 refine .z ?_
 refine .condF rfl rfl ?_
 refine .skip (.next (.region (.move (.move (.nilCheck ?_)))))
 refine .fa ?_ e8
 refine .ld ?_ sc82
 refine .move ?_
 refine .buildS (fun b77=>?_) (bsPS _)
 refine .emp (A:=rowR 86 1 (.slice none 0 0) 0 []) (rowR.nil _) ?_
 refine .append (v:=.slice none 0 0) (m:=1) (k:=0) (xs:=[]) (news:=[.pointer (some ⟨s,0,none⟩)]) so82 (by decide) (by repeat (first | exact .here | apply Rem.there | apply Repl.there | apply Mem.there)) (Reads.pt (cs:=#[.pointer (some ⟨s,0,none⟩)])) (by repeat (first | exact .here | apply Rem.there | apply Repl.there | apply Mem.there)) rfl (vo _ (fun v hv=>⟨s,List.mem_singleton.1 hv⟩)) (by decide) (by decide) ⟨_,z86,rfl⟩ (fun v' hv'=>?_)
 refine .toE (A:=rowR 86 1 v' (0+1) ([]++[.pointer (some ⟨s,0,none⟩)])) (ce (fun h=>by have:=(hv'.1 h).2;cases this)) ?_
 rintro ⟨g2,q2⟩ ⟨rfl,h2a,h2b,_⟩
 refine .nilCheck ?_
 refine .fa ?_ e8
 refine .st ?_ sc82
 refine .nil (.blockNormal (.next (.region ?_)))
 refine .add ?_
 refine .move (.nil ?_)
 refine .again (RC.succ ?_)
 refine .sr ?_
 refine .lss ?_
 refine .z (.seq ?_)
 refine .condF rfl rfl ?_
 refine .exit (.thenExit (.thenExit (.blockExit (?_))))
 refine .next (.seq (.sr (.move (.nilCheck ?_))))
 refine .fa ?_ e8
 refine .ld ?_ sc82
 refine .lenS ?_ sl82
 refine .eqi ?_
 refine .z ?_
 refine .condF rfl rfl ?_
 refine .skip (.next (.sr (.move (.assign (.assign (.z ?_))))))
 refine .ret (?_)
 refine .to (A:=SGP s f (em dn (aw 0)) ((0:Nat):Int) []) (A':=SGA f dn ⟨s,0,[]⟩) (fun h hh=>hh) ?_
 refine .emp (A:=segsH f dn ([]++[])) (by unfold segsH;exact bun.nil) ?_
 refine .segIn [] [] (⟨s,0,[]⟩:Seg) ?_
 refine .shutR (PT.opens b34 f dn st [] [(0,[])]) (g2,q2,[(⟨s,0,[]⟩:Seg)]) ⟨rfl,h2a,h2b,by show 1<=_;decide⟩ ?_
 exact .ret2 (h1:=.tmp (t:=6) rfl) (h2:=.tmp (t:=7) rfl) ⟨_,⟨b34,rfl,rfl⟩,Am.auto⟩
theorem sl40 :Tryz.prog.underlying 40=some (.slice 44):=by kernel_rfl
def atL (b:Bt) (t:Int):List Rc->Option Int
 | []=>none
 | r :: l=>if t<=r.time then some (b.base+r.off) else atL b t l
def atB (t:Int):List Bt->Option Int
 | []=>none
 | b :: l=>match atL b t b.recs with
  | some o=>some o
  | none=>atB t l
def zt (m:Int):List Rc->Int
 | []=>m
 | r :: l=>zt (if m < r.time then r.time else m) l
def ua (m:Int):List Bt->Int
 | []=>m
 | b :: l=>ua (zt m b.recs) l
theorem Tm {os:List (Nat×Obj)} {l:List BRow} {j:Nat} {x:BRow} {A2:Addr} {c2:Nat} (hx:l[j]?=some x) (hxs:x.s=.slice (some A2) x.b.recs.length c2):((l.flatMap BRow.v).drop (j * 5)).take 5=x.b.v (.slice (some A2) x.b.recs.length c2):=by
 rw [il BRow.v_len _ _ _ hx]
 unfold BRow.v
 rw [hxs]
theorem zu {α:Type} {l:List α} {i:Nat} {x:α} (h:l[i]?=some x):l.drop i=x :: l.drop (i+1):=by
 have hi:=(List.getElem?_eq_some_iff.1 h).1
 rw [List.drop_eq_getElem_cons hi,(List.getElem?_eq_some_iff.1 h).2]
theorem Tn {s f:Nat} {path:ad} {base:Int} {bs:List Bt} (hl:bs.length<=100000) (hb:∀ b∈bs,(0<=b.base/\b.base<=1125899906842624)/\∀ r∈b.recs,0<=r.off/\r.off<=1000):Spec Tryz.prog 66 #[.pointer (some ⟨s,0,none⟩)] [SGP s f path base bs] fun F v M=>v=.int .i64 (ua (-1) bs)/\M=SGP s f path base bs :: F:=by
 refine Spec.intro Tryz.func66 rfl rfl fun B F=>?_
 simp only [Tryz.ntmps66,List.cons_append,List.nil_append,env0,Nat.reduceAdd]
 refine .sr (.assign (.x (.assign (.z (.seq (.sr (.move ?_)))))))
 refine .call (hc:=Tryz.call122) (sp:=sgAll (bs:=bs) hl) (h:=?_)
 rintro v _ rfl
 refine .openR (BL.opens _ _) fun y hy=>?_
 obtain ⟨l,os2⟩:=y
 obtain ⟨hl1,hl2⟩:=hy
 simp only [List.cons_append,List.nil_append] at hl1 hl2 ⊢
 refine .fact (ah (el:=44) (size:=5) (k:=l.length) (v:=v) (xs:=l.flatMap BRow.v)) fun ⟨A,c,hv,hR,_,_,_⟩=>?_
 subst hv
 have hll:l.length=bs.length:=by rw [<- hl1,List.length_map]
 refine .lenS ?_ sl40
 refine .move (.z (.block ?_))
 refine .loopA (σ:=Nat×Int) (fun y=>[(3,.int .i64 y.2),(9,.slice A l.length c),(10,.int .i64 ((l.length:Nat):Int)),(11,.int .i64 ((y.1:Nat):Int))]) (fun y=>[rowR 44 5 (.slice A l.length c) l.length (l.flatMap BRow.v),frz os2,SGP s f path base bs]++F) (fun y=>y.1<=l.length/\ua (-1) bs=ua y.2 (bs.drop y.1)) (fun y=>l.length - y.1) (0,-1) ⟨Nat.zero_le _,rfl⟩ ?_
 rintro y hy
 obtain ⟨j,m⟩:=y
 obtain ⟨hj,hres⟩:=hy
 simp only at hj hres ⊢
 refine .sr ?_
 refine .lss ?_
 refine .z (.seq ?_)
 refine .cond rfl (fun hd=>?_) (fun hd=>?_)
 ·have hlt:j < l.length:=by have h:((j:Nat):Int) < ((l.length:Nat):Int):=of_decide_eq_true hd;omega
  obtain ⟨x,hx⟩:∃ x,l[j]?=some x:=⟨_,List.getElem?_eq_getElem hlt⟩
  obtain ⟨hpos,hlen,A2,c2,hxs,hRx⟩:=hl2 x (List.mem_of_getElem? hx)
  obtain ⟨ab,ao,rfl⟩:=E4 hR (by omega)
  obtain ⟨a2b,a2o,a2s⟩:=A2
  have ha2s:a2s=none:=hRx.1
  subst ha2s
  have hbx:bs[j]?=some x.b:=by rw [<- hl1,List.getElem?_map,hx];rfl
  have hbd:=zu hbx
  have hus:=Tm (os:=os2) hx hxs
  rw [hbd] at hres
  refine .skip (.next (.seq (.block (.sr ?_))))
  refine .idx ?_ so40
  refine .cast (d:=13) (u:=.pointer (some ⟨ab,ao+j * 5,none⟩)) rfl (congrArg (fun z=>Value.pointer (some ⟨ab,z,none⟩)) (by show ao+((j:Nat):Int).toNat * 5=_;rw [Int.toNat_natCast])) ?_
  refine .ldAR (i:=j * 5) ?_ gj hR hus (kj BRow.v_len hlt)
  refine .alloc z44 fun b5=>?_
  refine .stV ?_ gj
  refine .x ?_
  refine .fa ?_ mt
  refine .ld ?_ sc37
  refine .lenS ?_ sl37
  refine .move (.z (.block ?_))
  refine .loopA (σ:=Nat×Int) (fun z=>[(3,.int .i64 z.2),(9,.slice (some ⟨ab,ao,none⟩) l.length c),(10,.int .i64 ((l.length:Nat):Int)),(11,.int .i64 ((j:Nat):Int)),(5,.pointer (some ⟨b5,0,none⟩)),(16,.slice (some ⟨a2b,a2o,none⟩) x.b.recs.length c2),(17,.int .i64 ((x.b.recs.length:Nat):Int)),(18,.int .i64 ((z.1:Nat):Int))]) (fun z=>[pt b5 (.cells (x.b.v (.slice (some ⟨a2b,a2o,none⟩) x.b.recs.length c2)).toArray 44 (0,0)),rowR 44 5 (.slice (some ⟨ab,ao,none⟩) l.length c) l.length (l.flatMap BRow.v),frz os2,SGP s f path base bs]++F) (fun z=>z.1<=x.b.recs.length/\zt m x.b.recs=zt z.2 (x.b.recs.drop z.1)) (fun z=>x.b.recs.length - z.1) (0,m) ⟨Nat.zero_le _,rfl⟩ ?_
  rintro z hz
  obtain ⟨k,m2⟩:=z
  obtain ⟨hk,hin⟩:=hz
  simp only at hk hin ⊢
  refine .sr ?_
  refine .lss ?_
  refine .z (.seq ?_)
  refine .cond rfl (fun hd2=>?_) (fun hd2=>?_)
  ·have hkt:k < x.b.recs.length:=by have h:((k:Nat):Int) < ((x.b.recs.length:Nat):Int):=of_decide_eq_true hd2;omega
   obtain ⟨r,hr⟩:∃ r,x.b.recs[k]?=some r:=⟨_,List.getElem?_eq_getElem hkt⟩
   rw [zu hr] at hin
   have hru:=il Rc.v_len _ _ _ hr
   have hbr:=hb x.b (List.mem_of_getElem? hbx)
   have hrr:=hbr.2 r (List.mem_of_getElem? hr)
   refine .skip (.next (.seq (.block (.sr ?_))))
   refine .idx ?_ so37
   refine .cast (d:=20) (u:=.pointer (some ⟨a2b,a2o+k * 6,none⟩)) rfl (congrArg (fun z=>Value.pointer (some ⟨a2b,z,none⟩)) (by show a2o+((k:Nat):Int).toNat * 6=_;rw [Int.toNat_natCast])) ?_
   refine .ldAR (i:=k * 6) ?_ tl hRx hru (kj Rc.v_len hkt)
   refine .alloc z95 fun b7=>?_
   refine .stV ?_ tl
   refine .y (.move ?_)
   refine .fa ?_ zk
   refine .ld ?_ sc3
   refine .maxI ?_
   refine .assign (.nil (.blockNormal (.next (.region ?_))))
   refine .add ?_
   refine .move (.nil ?_)
   exact .back (k+1,if m2 < r.time then r.time else m2) ⟨by show k+1<=_;omega,by rw [hin];rfl⟩ (by show x.b.recs.length - (k+1) < x.b.recs.length - k;omega)
  ·have hke:k=x.b.recs.length:=by have h:¬ ((k:Nat):Int) < ((x.b.recs.length:Nat):Int):=of_decide_eq_false hd2;omega
   subst hke
   rw [List.drop_length] at hin
   refine .exit (.thenExit (.thenExit (.blockExit (?_))))
   refine .blockNormal (.next (.region ?_))
   refine .add ?_
   refine .move (.nil ?_)
   exact .back (j+1,m2) ⟨by show j+1<=_;omega,by rw [hres];show ua (zt _ _) _=_;rw [hin];rfl⟩ (by show l.length - (j+1) < l.length - j;omega)
 ·have hge:j=l.length:=by have h:¬ ((j:Nat):Int) < ((l.length:Nat):Int):=of_decide_eq_false hd;omega
  rw [hge,hll,List.drop_length] at hres
  refine .exit (.thenExit (.thenExit (.blockExit (?_))))
  refine .next (.sr (.move (.assign (.z (.ret (?_))))))
  exact .ret1 (h1:=.tmp (t:=2) rfl) ⟨_,⟨by rw [hres];rfl,rfl⟩,Am.auto⟩
def mv (st:Sts) (now:Int) (y:SegA):Bool:=decide (0<=st.age) && decide (ua (-1) y.2+st.age < now)
def mw (st:Sts) (n:Int):Bool:=decide (0<=st.bytes) && decide (st.bytes < n)
def nt (st:Sts) (now:Int) (y:SegA) (post:List SegA):Bool:=!post.isEmpty && (mv st now y || mw st ((bytT ((y :: post).take post.length):Nat):Int))
theorem E7 {f k:Nat} {dn:ad} {l:List Seg} {z:Seg} (h:l[k]?=some z):Spec Tryz.prog 44 #[z.ptr] [segsH f dn l] fun F u M=>u=.int .i64 (((byt z.a).length:Nat):Int)/\M=segsH f dn l :: F:=by
 have hk:=(List.getElem?_eq_some_iff.1 h).1
 have e:l=l.take k++z :: l.drop (k+1):=by
  conv=>lhs;rw [<- List.take_append_drop k l]
  rw [List.drop_eq_getElem_cons hk,(List.getElem?_eq_some_iff.1 h).2]
 have h1:=l9 (f:=f) (dn:=dn) (pre:=l.take k) (post:=l.drop (k+1)) (x:=z)
 rwa [<- e] at h1
theorem kr {f:Nat} {dn:ad} {pre post:List Seg} {x:Seg} (hl:x.bs.length<=100000) (hb:∀ b∈x.bs,(0<=b.base/\b.base<=1125899906842624)/\∀ r∈b.recs,0<=r.off/\r.off<=1000):Spec Tryz.prog 66 #[x.ptr] [segsH f dn (pre++x :: post)] fun F u M=>u=.int .i64 (ua (-1) x.bs)/\M=segsH f dn (pre++x :: post) :: F:=segsH.one (Tn hl hb)
theorem Jd {l:List Seg} {k:Nat} {z:Seg} (h:l[k]?=some z):bytT ((l.take (k+1)).map Seg.a)=bytT ((l.take k).map Seg.a)+(byt z.a).length:=by
 rw [List.take_add_one,h,Option.toList_some,List.map_append,xw]
 rfl
theorem Qg (l:List Seg) (k:Nat):bytT ((l.take k).map Seg.a)<=bytT (l.map Seg.a):=by
 conv=>rhs;rw [<- List.take_append_drop k l,List.map_append,xw]
 omega
theorem E8 {st:Sts} (h:cf st=true):(512<=st.seg/\st.seg<=8192)/\(-1<=st.bytes/\st.bytes<=1099511627776)/\(-1<=st.age/\st.age<=1125899906842624)/\(0<=st.delay/\st.delay<=1125899906842624):=by
 unfold cf at h
 simp only [Bool.and_eq_true,decide_eq_true_eq] at h
 omega
theorem E9 {pp f N:Nat} {p:Pl} {dn:ad} {st:Sts} {dp:List Value} {now:Int} {y:SegA} {post:List SegA} (hp:PlP p) (hf:FitsP p N (y :: post)) (hdn:dn.length<=900) (hst:cf st=true) (hnow:-9223372036854775808<=now/\now<=9223372036854775807) (hy:y.1<=1125899906842624) (hrows:y.2.length<=9999)
  (hyb:∀ b∈y.2,(0<=b.base/\b.base<=1125899906842624)/\∀ r∈b.recs,0<=r.off/\r.off<=1000) (hlast:post≠[]->0<=ua (-1) y.2/\ua (-1) y.2<=1125899906842624):Spec Tryz.prog 32 #[.pointer (some ⟨pp,0,none⟩),.int .i64 now] [PT pp f dn st dp (y :: post),DRF f p dn N (y :: post)]
  fun F v M=>(nt st now y post=false/\v=.tuple #[.bool false,.int .i64 0]/\M=PT pp f dn st dp (y :: post) :: DRF f p dn N (y :: post) :: F) ∨ (nt st now y post=true/\∃ x,v=.tuple #[.bool true,.int .i64 0]/\M=PT pp f dn st (dp++[x]) post :: DRF f p dn N post :: F):=by
 refine Spec.intro Tryz.func32 rfl rfl fun B F=>?_
 simp only [Tryz.ntmps32,List.cons_append,List.nil_append,env0,Nat.reduceAdd]
 refine .openR (PT.opens pp f dn st dp (y :: post)) fun x hx=>?_
 obtain ⟨g0,c0,l⟩:=x
 obtain ⟨hls,hc1,hc2,hn2⟩:=hx
 simp only [ptLs,List.cons_append,List.nil_append] at hls hc1 hc2 hn2 ⊢
 obtain ⟨z,l0,rfl,rfl,hl0⟩:=vm hls
 have hn:0 < (z :: l0).length:=by simp
 have hnc:(z :: l0).length<=c0 - dp.length:=by omega
 have hll:l0.length=post.length:=by rw [<- hl0,List.length_map]
 have hrng:=E8 hst
 have hflen:=hf.len
 simp only [List.length_cons] at hflen
 have hby:=hf.byt
 rw [<- hls] at hby
 by_cases hpe:post=[]
 ·have hgo:nt st now z.a post=false:=by unfold nt;rw [hpe];rfl
  have hl00:l0.length=0:=by rw [hll,hpe];rfl
  refine .sr (.assign (.assign (.z (.seq (.sr (.move ?_))))))
  refine .call (hc:=Tryz.call38) (sp:=ly hn hn2) (h:=?_)
  rintro _ _ ⟨rfl,rfl⟩
  refine .not ?_
  refine .z ?_
  refine .condF rfl rfl ?_
  refine .skip (.next (.seq (.sr (.move ?_))))
  refine .call (hc:=Tryz.call65) (sp:=p2 (pp:=pp) (f:=f) (g:=g0) (r:=dp.length) (n:=(z :: l0).length) (c:=c0 - dp.length) (dn:=dn) (st:=st) hn hn2 hnc) (h:=?_)
  rintro _ _ ⟨rfl,rfl⟩
  rw [show (z :: l0).length - 1=l0.length from rfl]
  refine .lenS ?_ sl82
  refine .eqi ?_
  refine .z ?_
  refine .condT rfl (cB9 (by first|exact decide_eq_true (by omega)|exact decide_eq_false (by omega)|simp;done|simp;omega|omega)) ?_
  refine .sr (.assign (.assign (.z ?_)))
  refine .ret (.thenRet (?_))
  refine .shutR (PT.opens pp f dn st dp (z.a :: post)) (g0,c0,z :: l0) ⟨hls,hc1,hc2,hn2⟩ ?_
  exact .ret2 (h1:=.tmp (t:=4) rfl) (h2:=.tmp (t:=5) rfl) ⟨_,.inl ⟨hgo,rfl,rfl⟩,Am.auto⟩
 ·have hpl:0 < post.length:=List.length_pos_iff.2 hpe
  obtain ⟨hla1,hla2⟩:=hlast hpe
  refine .sr (.assign (.assign (.z (.seq (.sr (.move ?_))))))
  refine .call (hc:=Tryz.call38) (sp:=ly hn hn2) (h:=?_)
  rintro _ _ ⟨rfl,rfl⟩
  refine .not ?_
  refine .z ?_
  refine .condF rfl rfl ?_
  refine .skip (.next (.seq (.sr (.move ?_))))
  refine .call (hc:=Tryz.call65) (sp:=p2 (pp:=pp) (f:=f) (g:=g0) (r:=dp.length) (n:=(z :: l0).length) (c:=c0 - dp.length) (dn:=dn) (st:=st) hn hn2 hnc) (h:=?_)
  rintro _ _ ⟨rfl,rfl⟩
  rw [show (z :: l0).length - 1=l0.length from rfl]
  refine .lenS ?_ sl82
  refine .eqi ?_
  refine .z ?_
  refine .condF rfl (cB9 (by first|exact decide_eq_true (by omega)|exact decide_eq_false (by omega)|simp;done|simp;omega|omega)) ?_
  refine .skip (.next (.sr (.move (.nilCheck ?_))))
  refine .fa ?_ e8
  refine .ld ?_ sc82
  refine .idx1 ?_ so82
  refine .ldR (i:=0) (v:=z.ptr) ?_ sc86 (ju (l:=z :: l0)) rfl
  refine .assign (.x (.assign (.z (.seq (.sr (.move ?_))))))
  refine .call (hc:=Tryz.call65) (sp:=p2 (pp:=pp) (f:=f) (g:=g0) (r:=dp.length) (n:=(z :: l0).length) (c:=c0 - dp.length) (dn:=dn) (st:=st) hn hn2 hnc) (h:=?_)
  rintro _ _ ⟨rfl,rfl⟩
  rw [show (z :: l0).length - 1=l0.length from rfl]
  refine .lenS ?_ sl82
  refine .move (.z (.block ?_))
  refine .cast (d:=7) (u:=.int .i64 ((bytT (((z :: l0).take 0).map Seg.a):Nat):Int)) rfl rfl ?_
  refine .loopA (σ:=Nat) (fun k=>[(0,.pointer (some ⟨pp,0,none⟩)),(1,.int .i64 now),(6,z.ptr),(7,.int .i64 ((bytT (((z :: l0).take k).map Seg.a):Nat):Int)),(27,.slice (some ⟨g0,dp.length,none⟩) l0.length (c0 - dp.length)),(28,.int .i64 ((l0.length:Nat):Int)),(29,.int .i64 ((k:Nat):Int))]) (fun k=>[pt pp (lb f dn st (.slice (some ⟨g0,dp.length,none⟩) (z :: l0).length (c0 - dp.length))),buf g0 86 c0 (dp++(z :: l0).map Seg.ptr),segsH f dn (z :: l0),DRF f p dn N (z.a :: post)]++F) (fun k=>k<=l0.length) (fun k=>l0.length - k) 0 (Nat.zero_le _) ?_
  rintro k hk
  refine .sr ?_
  refine .lss ?_
  refine .z (.seq ?_)
  refine .cond rfl (fun hd=>?_) (fun hd=>?_)
  ·have hkl:k < l0.length:=by have h:((k:Nat):Int) < ((l0.length:Nat):Int):=of_decide_eq_true hd;omega
   obtain ⟨u,hu⟩:∃ u,(z :: l0)[k]?=some u:=⟨_,List.getElem?_eq_getElem (by simp only [List.length_cons];omega)⟩
   have hst1:=Jd hu
   have hst2:=Qg (z :: l0) (k+1)
   refine .skip (.next (.seq (.block (.sr ?_))))
   refine .idx1 ?_ so82
   refine .ldR (i:=((k:Nat):Int).toNat) (v:=u.ptr) ?_ sc86 (ju (l:=z :: l0)) (by rw [Int.toNat_natCast,List.getElem?_map,hu];rfl)
   refine .assign (.y (.move (.move ?_)))
   refine .call (hc:=Tryz.call44) (sp:=E7 (f:=f) (dn:=dn) (l:=z :: l0) hu) (h:=?_)
   rintro _ _ ⟨rfl,rfl⟩
   refine .add ?_
   refine .cast (d:=36) (u:=.int .i64 ((bytT (((z :: l0).take (k+1)).map Seg.a):Nat):Int)) rfl (cI9 (by rw [hst1];omega)) ?_
   refine .assign (.nil (.blockNormal (.next (.region ?_))))
   refine .add ?_
   refine .move (.nil ?_)
   exact .back (k+1) (show k+1<=l0.length from hkl) (show l0.length - (k+1) < l0.length - k by omega)
  ·have hke:k=l0.length:=by have h:¬ ((k:Nat):Int) < ((l0.length:Nat):Int):=of_decide_eq_false hd;have h2:k<=l0.length:=hk;omega
   subst hke
   have hbe:bytT (((z :: l0).take l0.length).map Seg.a)=bytT ((z.a :: post).take post.length):=by rw [<- hls,<-List.map_take,hll]
   rw [hbe]
   have hgo0:nt st now z.a post=(mv st now z.a || mw st ((bytT ((z.a :: post).take post.length):Nat):Int)):=by unfold nt;rw [show post.isEmpty=false by cases post with | nil=>exact absurd rfl hpe | cons a b=>rfl];rfl
   generalize hG:((bytT ((z.a :: post).take post.length):Nat):Int)=G at *
   generalize hL:ua (-1) z.a.2=la at *
   by_cases ha1:st.age < 0
   ·by_cases hb1:st.bytes < 0
    ·refine .exit (.thenExit (.thenExit (.blockExit (?_))))
     refine .next (.sr (.move ?_))
     refine .call (hc:=Tryz.call66) (sp:=kr (f:=f) (dn:=dn) (pre:=[]) (post:=l0) (x:=z) (by show z.a.2.length<=_;omega) hyb) (h:=?_)
     rintro _ _ ⟨rfl,rfl⟩
     rw [show z.bs=z.a.2 from rfl]
     refine .assign (.x (.move (.nilCheck ?_)))
     refine .fa ?_ d9
     refine .fa ?_ iu
     refine .ld ?_ sc3
     refine .geq ?_
     refine .move ?_
     refine .cast (d:=46) (u:=.bool false) rfl (cB9 (by first|exact decide_eq_true (by omega)|exact decide_eq_false (by omega)|simp;done|simp;omega|omega)) ?_
     refine .gF (.gF (.gF (.gU (.gU (.gU ?_)))))
     refine .gU (.gU (.gU (.gU (.gU (.gU ?_)))))
     refine .gF (.pickF ?_)
     refine .assign (.z (.seq (.sr (.move ?_))))
     refine .not ?_
     refine .move (.gT (.move (.gT (.nilCheck (.gT ?_)))))
     refine .fa ?_ d9
     refine .gT ?_
     refine .fa ?_ ir
     refine .gT ?_
     refine .ld ?_ sc3
     refine .gT ?_
     refine .lss ?_
     refine .gT (.move ?_)
     refine .cast (d:=70) (u:=.bool true) rfl (cB9 (by first|exact decide_eq_true (by omega)|exact decide_eq_false (by omega)|simp;done|simp;omega|omega)) ?_
     refine .gF (.gF (.gF (.gF (.gF (.gF ?_)))))
     refine .gF (.gT (.pickT (.pickT (.z ?_))))
     refine .condT rfl rfl ?_
     refine .sr (.assign (.assign (.z ?_)))
     refine .ret (.thenRet (?_))
     have hgo:nt st now z.a post=false:=by rw [hgo0];unfold mv mw;rw [hL];simp;omega
     refine .shutR (PT.opens pp f dn st dp (z.a :: post)) (g0,c0,z :: l0) ⟨hls,hc1,hc2,hn2⟩ ?_
     exact .ret2 (h1:=.tmp (t:=4) rfl) (h2:=.tmp (t:=5) rfl) ⟨_,.inl ⟨hgo,rfl,rfl⟩,Am.auto⟩
    ·by_cases hb2:G<=st.bytes
     ·refine .exit (.thenExit (.thenExit (.blockExit (?_))))
      refine .next (.sr (.move ?_))
      refine .call (hc:=Tryz.call66) (sp:=kr (f:=f) (dn:=dn) (pre:=[]) (post:=l0) (x:=z) (by show z.a.2.length<=_;omega) hyb) (h:=?_)
      rintro _ _ ⟨rfl,rfl⟩
      rw [show z.bs=z.a.2 from rfl]
      refine .assign (.x (.move (.nilCheck ?_)))
      refine .fa ?_ d9
      refine .fa ?_ iu
      refine .ld ?_ sc3
      refine .geq ?_
      refine .move ?_
      refine .cast (d:=46) (u:=.bool false) rfl (cB9 (by first|exact decide_eq_true (by omega)|exact decide_eq_false (by omega)|simp;done|simp;omega|omega)) ?_
      refine .gF (.gF (.gF (.gU (.gU (.gU ?_)))))
      refine .gU (.gU (.gU (.gU (.gU (.gU ?_)))))
      refine .gF (.pickF ?_)
      refine .assign (.z (.seq (.sr (.move ?_))))
      refine .not ?_
      refine .move (.gT (.move (.gT (.nilCheck (.gT ?_)))))
      refine .fa ?_ d9
      refine .gT ?_
      refine .fa ?_ ir
      refine .gT ?_
      refine .ld ?_ sc3
      refine .gT ?_
      refine .lss ?_
      refine .gT (.move ?_)
      refine .cast (d:=70) (u:=.bool false) rfl (cB9 (by first|exact decide_eq_true (by omega)|exact decide_eq_false (by omega)|simp;done|simp;omega|omega)) ?_
      refine .gT (.move (.gT (.move (.gT (.nilCheck ?_)))))
      refine .gT ?_
      refine .fa ?_ d9
      refine .gT ?_
      refine .fa ?_ ir
      refine .gT ?_
      refine .ld ?_ sc3
      refine .gT ?_
      refine .leq ?_
      refine .gT (.pickF (.pickT (.z ?_)))
      refine .condT rfl (cB9 (by first|exact decide_eq_true (by omega)|exact decide_eq_false (by omega)|simp;done|simp;omega|omega)) ?_
      refine .sr (.assign (.assign (.z ?_)))
      refine .ret (.thenRet (?_))
      have hgo:nt st now z.a post=false:=by rw [hgo0];unfold mv mw;rw [hL];simp;omega
      refine .shutR (PT.opens pp f dn st dp (z.a :: post)) (g0,c0,z :: l0) ⟨hls,hc1,hc2,hn2⟩ ?_
      exact .ret2 (h1:=.tmp (t:=4) rfl) (h2:=.tmp (t:=5) rfl) ⟨_,.inl ⟨hgo,rfl,rfl⟩,Am.auto⟩
     ·refine .exit (.thenExit (.thenExit (.blockExit (?_))))
      refine .next (.sr (.move ?_))
      refine .call (hc:=Tryz.call66) (sp:=kr (f:=f) (dn:=dn) (pre:=[]) (post:=l0) (x:=z) (by show z.a.2.length<=_;omega) hyb) (h:=?_)
      rintro _ _ ⟨rfl,rfl⟩
      rw [show z.bs=z.a.2 from rfl]
      refine .assign (.x (.move (.nilCheck ?_)))
      refine .fa ?_ d9
      refine .fa ?_ iu
      refine .ld ?_ sc3
      refine .geq ?_
      refine .move ?_
      refine .cast (d:=46) (u:=.bool false) rfl (cB9 (by first|exact decide_eq_true (by omega)|exact decide_eq_false (by omega)|simp;done|simp;omega|omega)) ?_
      refine .gF (.gF (.gF (.gU (.gU (.gU ?_)))))
      refine .gU (.gU (.gU (.gU (.gU (.gU ?_)))))
      refine .gF (.pickF ?_)
      refine .assign (.z (.seq (.sr (.move ?_))))
      refine .not ?_
      refine .move (.gT (.move (.gT (.nilCheck (.gT ?_)))))
      refine .fa ?_ d9
      refine .gT ?_
      refine .fa ?_ ir
      refine .gT ?_
      refine .ld ?_ sc3
      refine .gT ?_
      refine .lss ?_
      refine .gT (.move ?_)
      refine .cast (d:=70) (u:=.bool false) rfl (cB9 (by first|exact decide_eq_true (by omega)|exact decide_eq_false (by omega)|simp;done|simp;omega|omega)) ?_
      refine .gT (.move (.gT (.move (.gT (.nilCheck ?_)))))
      refine .gT ?_
      refine .fa ?_ d9
      refine .gT ?_
      refine .fa ?_ ir
      refine .gT ?_
      refine .ld ?_ sc3
      refine .gT ?_
      refine .leq ?_
      refine .gT (.pickF (.pickT (.z ?_)))
      refine .condF rfl (cB9 (by first|exact decide_eq_true (by omega)|exact decide_eq_false (by omega)|simp;done|simp;omega|omega)) ?_
      refine .skip (.next (.seq (.seq ?_)))
      have hgo:nt st now z.a post=true:=by rw [hgo0];unfold mv mw;rw [hL];simp;omega
      refine .dr ([pt pp (lb f dn st (.slice (some ⟨g0,dp.length,none⟩) (z :: l0).length (c0 - dp.length)))]) [] 13 mixed .autoJ ?_
      refine .tk 0 rfl .move ?_
      refine .tk 1 rfl .nilCheck ?_
      refine .tk 2 rfl (.fa vl) ?_
      refine .tk 3 rfl (.ld sc29) ?_
      refine .tk 4 rfl .move ?_
      refine .tk 5 rfl .nilCheck ?_
      refine .tk 6 rfl (.fa Do) ?_
      refine .tk 7 rfl (.ld sc9) ?_
      refine .tk 8 rfl .move ?_
      refine .on 9 rfl fun hnp=>?_
      refine .call (hc:=Tryz.call50) (sp:=qz (f:=f) (dn:=dn) (pre:=[]) (post:=l0) (x:=z)) (h:=?_)
      rintro _ _ ⟨rfl,rfl⟩
      refine .nil (.wa hnp ?_)
      refine .on 10 rfl fun hnp=>?_
      refine .call (hc:=Tryz.call47) (sp:=kn (dir:=47 :: dn) (b:=z.base) (by simp only [List.length_cons];omega) hy) (h:=?_)
      rintro _ _ ⟨rfl,rfl⟩
      rw [ko]
      refine .nil (.wa hnp ?_)
      refine .on 11 rfl fun hnp=>?_
      refine .call (hc:=Tryz.call61) (sp:=xy (f:=f) (p:=p) (dn:=dn) (N:=N) (pre:=[]) (post:=post) (y:=z.a) hp hf) (h:=?_)
      rintro _ _ ⟨rfl,rfl⟩
      refine .nil (.wa hnp ?_)
      refine .tk 12 rfl .assign ?_
      refine .fin ?_
      refine .next (.sr (.move ?_))
      refine .nei ?_
      refine .z ?_
      refine .condF rfl rfl ?_
      refine .skip (.next (.sr ?_))
      refine .segOut [] l0 ?_
      refine .move (.move (.nilCheck ?_))
      refine .fa ?_ e8
      refine .ld ?_ sc82
      refine .slcL ?_ so82
      refine .cast (d:=100) (u:=.slice (some ⟨g0,(dp++[z.ptr]).length,none⟩) l0.length (c0 - (dp++[z.ptr]).length)) rfl (by rw [if_neg (by show ¬ c0 - dp.length=1;simp only [List.length_cons] at hnc;omega),List.length_append,List.length_singleton,Nat.sub_sub];rfl) ?_
      refine .nilCheck ?_
      refine .fa ?_ e8
      refine .st ?_ sc82
      refine .x (.assign (.assign (.z (.ret (?_)))))
      refine .to (A:=buf g0 86 c0 (dp++(z :: l0).map Seg.ptr)) (A':=buf g0 86 c0 ((dp++[z.ptr])++l0.map Seg.ptr)) (fun h hh=>by rw [List.append_assoc];exact hh) ?_
      refine .shutR (PT.opens pp f dn st (dp++[z.ptr]) post) (g0,c0,l0) ⟨hl0,by simp only [List.length_append,List.length_cons,List.length_nil] at hc1 ⊢;omega,hc2,by simp only [List.length_cons] at hn2 ⊢;omega⟩ ?_
      exact .ret2 (h1:=.tmp (t:=4) rfl) (h2:=.tmp (t:=5) rfl) ⟨_,.inr ⟨hgo,z.ptr,rfl,rfl⟩,Am.auto⟩
   ·by_cases ha2:la+st.age < now
    ·refine .exit (.thenExit (.thenExit (.blockExit (?_))))
     refine .next (.sr (.move ?_))
     refine .call (hc:=Tryz.call66) (sp:=kr (f:=f) (dn:=dn) (pre:=[]) (post:=l0) (x:=z) (by show z.a.2.length<=_;omega) hyb) (h:=?_)
     rintro _ _ ⟨rfl,rfl⟩
     rw [show z.bs=z.a.2 from rfl]
     refine .assign (.x (.move (.nilCheck ?_)))
     refine .fa ?_ d9
     refine .fa ?_ iu
     refine .ld ?_ sc3
     refine .geq ?_
     refine .move ?_
     refine .cast (d:=46) (u:=.bool true) rfl (cB9 (by first|exact decide_eq_true (by omega)|exact decide_eq_false (by omega)|simp;done|simp;omega|omega)) ?_
     refine .gT (.move (.gT ?_))
     refine .lss ?_
     refine .gT (.move ?_)
     refine .cast (d:=49) (u:=.bool false) rfl (cB9 (by first|exact decide_eq_true (by omega)|exact decide_eq_false (by omega)|simp;done|simp;omega|omega)) ?_
     refine .gT (.move (.gT (.move (.gT (.move ?_)))))
     refine .gT (.nilCheck (.gT ?_))
     refine .fa ?_ d9
     refine .gT ?_
     refine .fa ?_ iu
     refine .gT ?_
     refine .ld ?_ sc3
     refine .gT ?_
     refine .add ?_
     refine .gT ?_
     refine .gtr ?_
     refine .gT (.pickF (.pickT ?_))
     refine .assign (.z (.seq (.sr (.move ?_))))
     refine .not ?_
     refine .move ?_
     refine .cast (d:=63) (u:=.bool false) rfl (cB9 (by first|exact decide_eq_true (by omega)|exact decide_eq_false (by omega)|simp;done|simp;omega|omega)) ?_
     refine .gF (.gF (.gF (.gF (.gF (.gF ?_)))))
     refine .gF (.gU (.gU (.gU (.gU (.gU ?_)))))
     refine .gU (.gU (.gF (.pickF (.z ?_))))
     refine .condF rfl rfl ?_
     refine .skip (.next (.seq (.seq ?_)))
     have hgo:nt st now z.a post=true:=by rw [hgo0];unfold mv mw;rw [hL];simp;omega
     refine .dr ([pt pp (lb f dn st (.slice (some ⟨g0,dp.length,none⟩) (z :: l0).length (c0 - dp.length)))]) [] 13 mixed .autoJ ?_
     refine .tk 0 rfl .move ?_
     refine .tk 1 rfl .nilCheck ?_
     refine .tk 2 rfl (.fa vl) ?_
     refine .tk 3 rfl (.ld sc29) ?_
     refine .tk 4 rfl .move ?_
     refine .tk 5 rfl .nilCheck ?_
     refine .tk 6 rfl (.fa Do) ?_
     refine .tk 7 rfl (.ld sc9) ?_
     refine .tk 8 rfl .move ?_
     refine .on 9 rfl fun hnp=>?_
     refine .call (hc:=Tryz.call50) (sp:=qz (f:=f) (dn:=dn) (pre:=[]) (post:=l0) (x:=z)) (h:=?_)
     rintro _ _ ⟨rfl,rfl⟩
     refine .nil (.wa hnp ?_)
     refine .on 10 rfl fun hnp=>?_
     refine .call (hc:=Tryz.call47) (sp:=kn (dir:=47 :: dn) (b:=z.base) (by simp only [List.length_cons];omega) hy) (h:=?_)
     rintro _ _ ⟨rfl,rfl⟩
     rw [ko]
     refine .nil (.wa hnp ?_)
     refine .on 11 rfl fun hnp=>?_
     refine .call (hc:=Tryz.call61) (sp:=xy (f:=f) (p:=p) (dn:=dn) (N:=N) (pre:=[]) (post:=post) (y:=z.a) hp hf) (h:=?_)
     rintro _ _ ⟨rfl,rfl⟩
     refine .nil (.wa hnp ?_)
     refine .tk 12 rfl .assign ?_
     refine .fin ?_
     refine .next (.sr (.move ?_))
     refine .nei ?_
     refine .z ?_
     refine .condF rfl rfl ?_
     refine .skip (.next (.sr ?_))
     refine .segOut [] l0 ?_
     refine .move (.move (.nilCheck ?_))
     refine .fa ?_ e8
     refine .ld ?_ sc82
     refine .slcL ?_ so82
     refine .cast (d:=100) (u:=.slice (some ⟨g0,(dp++[z.ptr]).length,none⟩) l0.length (c0 - (dp++[z.ptr]).length)) rfl (by rw [if_neg (by show ¬ c0 - dp.length=1;simp only [List.length_cons] at hnc;omega),List.length_append,List.length_singleton,Nat.sub_sub];rfl) ?_
     refine .nilCheck ?_
     refine .fa ?_ e8
     refine .st ?_ sc82
     refine .x (.assign (.assign (.z (.ret (?_)))))
     refine .to (A:=buf g0 86 c0 (dp++(z :: l0).map Seg.ptr)) (A':=buf g0 86 c0 ((dp++[z.ptr])++l0.map Seg.ptr)) (fun h hh=>by rw [List.append_assoc];exact hh) ?_
     refine .shutR (PT.opens pp f dn st (dp++[z.ptr]) post) (g0,c0,l0) ⟨hl0,by simp only [List.length_append,List.length_cons,List.length_nil] at hc1 ⊢;omega,hc2,by simp only [List.length_cons] at hn2 ⊢;omega⟩ ?_
     exact .ret2 (h1:=.tmp (t:=4) rfl) (h2:=.tmp (t:=5) rfl) ⟨_,.inr ⟨hgo,z.ptr,rfl,rfl⟩,Am.auto⟩
    ·by_cases hb1:st.bytes < 0
     ·refine .exit (.thenExit (.thenExit (.blockExit (?_))))
      refine .next (.sr (.move ?_))
      refine .call (hc:=Tryz.call66) (sp:=kr (f:=f) (dn:=dn) (pre:=[]) (post:=l0) (x:=z) (by show z.a.2.length<=_;omega) hyb) (h:=?_)
      rintro _ _ ⟨rfl,rfl⟩
      rw [show z.bs=z.a.2 from rfl]
      refine .assign (.x (.move (.nilCheck ?_)))
      refine .fa ?_ d9
      refine .fa ?_ iu
      refine .ld ?_ sc3
      refine .geq ?_
      refine .move ?_
      refine .cast (d:=46) (u:=.bool true) rfl (cB9 (by first|exact decide_eq_true (by omega)|exact decide_eq_false (by omega)|simp;done|simp;omega|omega)) ?_
      refine .gT (.move (.gT ?_))
      refine .lss ?_
      refine .gT (.move ?_)
      refine .cast (d:=49) (u:=.bool false) rfl (cB9 (by first|exact decide_eq_true (by omega)|exact decide_eq_false (by omega)|simp;done|simp;omega|omega)) ?_
      refine .gT (.move (.gT (.move (.gT (.move ?_)))))
      refine .gT (.nilCheck (.gT ?_))
      refine .fa ?_ d9
      refine .gT ?_
      refine .fa ?_ iu
      refine .gT ?_
      refine .ld ?_ sc3
      refine .gT ?_
      refine .add ?_
      refine .gT ?_
      refine .gtr ?_
      refine .gT (.pickF (.pickT ?_))
      refine .assign (.z (.seq (.sr (.move ?_))))
      refine .not ?_
      refine .move ?_
      refine .cast (d:=63) (u:=.bool true) rfl (cB9 (by first|exact decide_eq_true (by omega)|exact decide_eq_false (by omega)|simp;done|simp;omega|omega)) ?_
      refine .gT (.move (.gT (.nilCheck (.gT ?_))))
      refine .fa ?_ d9
      refine .gT ?_
      refine .fa ?_ ir
      refine .gT ?_
      refine .ld ?_ sc3
      refine .gT ?_
      refine .lss ?_
      refine .gT (.move ?_)
      refine .cast (d:=70) (u:=.bool true) rfl (cB9 (by first|exact decide_eq_true (by omega)|exact decide_eq_false (by omega)|simp;done|simp;omega|omega)) ?_
      refine .gF (.gF (.gF (.gF (.gF (.gF ?_)))))
      refine .gF (.gT (.pickT (.pickT (.z ?_))))
      refine .condT rfl rfl ?_
      refine .sr (.assign (.assign (.z ?_)))
      refine .ret (.thenRet (?_))
      have hgo:nt st now z.a post=false:=by rw [hgo0];unfold mv mw;rw [hL];simp;omega
      refine .shutR (PT.opens pp f dn st dp (z.a :: post)) (g0,c0,z :: l0) ⟨hls,hc1,hc2,hn2⟩ ?_
      exact .ret2 (h1:=.tmp (t:=4) rfl) (h2:=.tmp (t:=5) rfl) ⟨_,.inl ⟨hgo,rfl,rfl⟩,Am.auto⟩
     ·by_cases hb2:G<=st.bytes
      ·refine .exit (.thenExit (.thenExit (.blockExit (?_))))
       refine .next (.sr (.move ?_))
       refine .call (hc:=Tryz.call66) (sp:=kr (f:=f) (dn:=dn) (pre:=[]) (post:=l0) (x:=z) (by show z.a.2.length<=_;omega) hyb) (h:=?_)
       rintro _ _ ⟨rfl,rfl⟩
       rw [show z.bs=z.a.2 from rfl]
       refine .assign (.x (.move (.nilCheck ?_)))
       refine .fa ?_ d9
       refine .fa ?_ iu
       refine .ld ?_ sc3
       refine .geq ?_
       refine .move ?_
       refine .cast (d:=46) (u:=.bool true) rfl (cB9 (by first|exact decide_eq_true (by omega)|exact decide_eq_false (by omega)|simp;done|simp;omega|omega)) ?_
       refine .gT (.move (.gT ?_))
       refine .lss ?_
       refine .gT (.move ?_)
       refine .cast (d:=49) (u:=.bool false) rfl (cB9 (by first|exact decide_eq_true (by omega)|exact decide_eq_false (by omega)|simp;done|simp;omega|omega)) ?_
       refine .gT (.move (.gT (.move (.gT (.move ?_)))))
       refine .gT (.nilCheck (.gT ?_))
       refine .fa ?_ d9
       refine .gT ?_
       refine .fa ?_ iu
       refine .gT ?_
       refine .ld ?_ sc3
       refine .gT ?_
       refine .add ?_
       refine .gT ?_
       refine .gtr ?_
       refine .gT (.pickF (.pickT ?_))
       refine .assign (.z (.seq (.sr (.move ?_))))
       refine .not ?_
       refine .move ?_
       refine .cast (d:=63) (u:=.bool true) rfl (cB9 (by first|exact decide_eq_true (by omega)|exact decide_eq_false (by omega)|simp;done|simp;omega|omega)) ?_
       refine .gT (.move (.gT (.nilCheck (.gT ?_))))
       refine .fa ?_ d9
       refine .gT ?_
       refine .fa ?_ ir
       refine .gT ?_
       refine .ld ?_ sc3
       refine .gT ?_
       refine .lss ?_
       refine .gT (.move ?_)
       refine .cast (d:=70) (u:=.bool false) rfl (cB9 (by first|exact decide_eq_true (by omega)|exact decide_eq_false (by omega)|simp;done|simp;omega|omega)) ?_
       refine .gT (.move (.gT (.move (.gT (.nilCheck ?_)))))
       refine .gT ?_
       refine .fa ?_ d9
       refine .gT ?_
       refine .fa ?_ ir
       refine .gT ?_
       refine .ld ?_ sc3
       refine .gT ?_
       refine .leq ?_
       refine .gT (.pickF (.pickT (.z ?_)))
       refine .condT rfl (cB9 (by first|exact decide_eq_true (by omega)|exact decide_eq_false (by omega)|simp;done|simp;omega|omega)) ?_
       refine .sr (.assign (.assign (.z ?_)))
       refine .ret (.thenRet (?_))
       have hgo:nt st now z.a post=false:=by rw [hgo0];unfold mv mw;rw [hL];simp;omega
       refine .shutR (PT.opens pp f dn st dp (z.a :: post)) (g0,c0,z :: l0) ⟨hls,hc1,hc2,hn2⟩ ?_
       exact .ret2 (h1:=.tmp (t:=4) rfl) (h2:=.tmp (t:=5) rfl) ⟨_,.inl ⟨hgo,rfl,rfl⟩,Am.auto⟩
      ·refine .exit (.thenExit (.thenExit (.blockExit (?_))))
       refine .next (.sr (.move ?_))
       refine .call (hc:=Tryz.call66) (sp:=kr (f:=f) (dn:=dn) (pre:=[]) (post:=l0) (x:=z) (by show z.a.2.length<=_;omega) hyb) (h:=?_)
       rintro _ _ ⟨rfl,rfl⟩
       rw [show z.bs=z.a.2 from rfl]
       refine .assign (.x (.move (.nilCheck ?_)))
       refine .fa ?_ d9
       refine .fa ?_ iu
       refine .ld ?_ sc3
       refine .geq ?_
       refine .move ?_
       refine .cast (d:=46) (u:=.bool true) rfl (cB9 (by first|exact decide_eq_true (by omega)|exact decide_eq_false (by omega)|simp;done|simp;omega|omega)) ?_
       refine .gT (.move (.gT ?_))
       refine .lss ?_
       refine .gT (.move ?_)
       refine .cast (d:=49) (u:=.bool false) rfl (cB9 (by first|exact decide_eq_true (by omega)|exact decide_eq_false (by omega)|simp;done|simp;omega|omega)) ?_
       refine .gT (.move (.gT (.move (.gT (.move ?_)))))
       refine .gT (.nilCheck (.gT ?_))
       refine .fa ?_ d9
       refine .gT ?_
       refine .fa ?_ iu
       refine .gT ?_
       refine .ld ?_ sc3
       refine .gT ?_
       refine .add ?_
       refine .gT ?_
       refine .gtr ?_
       refine .gT (.pickF (.pickT ?_))
       refine .assign (.z (.seq (.sr (.move ?_))))
       refine .not ?_
       refine .move ?_
       refine .cast (d:=63) (u:=.bool true) rfl (cB9 (by first|exact decide_eq_true (by omega)|exact decide_eq_false (by omega)|simp;done|simp;omega|omega)) ?_
       refine .gT (.move (.gT (.nilCheck (.gT ?_))))
       refine .fa ?_ d9
       refine .gT ?_
       refine .fa ?_ ir
       refine .gT ?_
       refine .ld ?_ sc3
       refine .gT ?_
       refine .lss ?_
       refine .gT (.move ?_)
       refine .cast (d:=70) (u:=.bool false) rfl (cB9 (by first|exact decide_eq_true (by omega)|exact decide_eq_false (by omega)|simp;done|simp;omega|omega)) ?_
       refine .gT (.move (.gT (.move (.gT (.nilCheck ?_)))))
       refine .gT ?_
       refine .fa ?_ d9
       refine .gT ?_
       refine .fa ?_ ir
       refine .gT ?_
       refine .ld ?_ sc3
       refine .gT ?_
       refine .leq ?_
       refine .gT (.pickF (.pickT (.z ?_)))
       refine .condF rfl (cB9 (by first|exact decide_eq_true (by omega)|exact decide_eq_false (by omega)|simp;done|simp;omega|omega)) ?_
       refine .skip (.next (.seq (.seq ?_)))
       have hgo:nt st now z.a post=true:=by rw [hgo0];unfold mv mw;rw [hL];simp;omega
       refine .dr ([pt pp (lb f dn st (.slice (some ⟨g0,dp.length,none⟩) (z :: l0).length (c0 - dp.length)))]) [] 13 mixed .autoJ ?_
       refine .tk 0 rfl .move ?_
       refine .tk 1 rfl .nilCheck ?_
       refine .tk 2 rfl (.fa vl) ?_
       refine .tk 3 rfl (.ld sc29) ?_
       refine .tk 4 rfl .move ?_
       refine .tk 5 rfl .nilCheck ?_
       refine .tk 6 rfl (.fa Do) ?_
       refine .tk 7 rfl (.ld sc9) ?_
       refine .tk 8 rfl .move ?_
       refine .on 9 rfl fun hnp=>?_
       refine .call (hc:=Tryz.call50) (sp:=qz (f:=f) (dn:=dn) (pre:=[]) (post:=l0) (x:=z)) (h:=?_)
       rintro _ _ ⟨rfl,rfl⟩
       refine .nil (.wa hnp ?_)
       refine .on 10 rfl fun hnp=>?_
       refine .call (hc:=Tryz.call47) (sp:=kn (dir:=47 :: dn) (b:=z.base) (by simp only [List.length_cons];omega) hy) (h:=?_)
       rintro _ _ ⟨rfl,rfl⟩
       rw [ko]
       refine .nil (.wa hnp ?_)
       refine .on 11 rfl fun hnp=>?_
       refine .call (hc:=Tryz.call61) (sp:=xy (f:=f) (p:=p) (dn:=dn) (N:=N) (pre:=[]) (post:=post) (y:=z.a) hp hf) (h:=?_)
       rintro _ _ ⟨rfl,rfl⟩
       refine .nil (.wa hnp ?_)
       refine .tk 12 rfl .assign ?_
       refine .fin ?_
       refine .next (.sr (.move ?_))
       refine .nei ?_
       refine .z ?_
       refine .condF rfl rfl ?_
       refine .skip (.next (.sr ?_))
       refine .segOut [] l0 ?_
       refine .move (.move (.nilCheck ?_))
       refine .fa ?_ e8
       refine .ld ?_ sc82
       refine .slcL ?_ so82
       refine .cast (d:=100) (u:=.slice (some ⟨g0,(dp++[z.ptr]).length,none⟩) l0.length (c0 - (dp++[z.ptr]).length)) rfl (by rw [if_neg (by show ¬ c0 - dp.length=1;simp only [List.length_cons] at hnc;omega),List.length_append,List.length_singleton,Nat.sub_sub];rfl) ?_
       refine .nilCheck ?_
       refine .fa ?_ e8
       refine .st ?_ sc82
       refine .x (.assign (.assign (.z (.ret (?_)))))
       refine .to (A:=buf g0 86 c0 (dp++(z :: l0).map Seg.ptr)) (A':=buf g0 86 c0 ((dp++[z.ptr])++l0.map Seg.ptr)) (fun h hh=>by rw [List.append_assoc];exact hh) ?_
       refine .shutR (PT.opens pp f dn st (dp++[z.ptr]) post) (g0,c0,l0) ⟨hl0,by simp only [List.length_append,List.length_cons,List.length_nil] at hc1 ⊢;omega,hc2,by simp only [List.length_cons] at hn2 ⊢;omega⟩ ?_
       exact .ret2 (h1:=.tmp (t:=4) rfl) (h2:=.tmp (t:=5) rfl) ⟨_,.inr ⟨hgo,z.ptr,rfl,rfl⟩,Am.auto⟩
theorem x8 :∀ (l:List Rc) (k i:Nat),(fy k l)[i]?=(l[i]?).map fun r=>{ r with off:=((k+i:Nat):Int) }
 | [],_,_=>by simp [fy]
 | r :: l,k,0=>by simp [fy]
 | r :: l,k,i+1=>by
  simp only [fy,List.getElem?_cons_succ]
  rw [x8 l (k+1) i,show k+1+i=k+(i+1) by omega]
theorem Mu (b:Bt):(batB b).length=48+(b.recs.flatMap fun r=>encB r (be b)).length:=by
 rw [Dg]
 unfold gm
 rw [List.length_append,fm]
theorem Mv {base prod seq:Int} {l:List Rc} (hn:1<=l.length/\l.length<=100) (hb:0<=base/\base<=1125899906842624) (hp:0<=prod) (hs:0<=seq) (hck:∀ r∈l,∀ j:Nat,j < 100->ckE { r with off:=((j:Nat):Int) }=0) (hfit:(batB (au base prod seq l)).length<=6000):batE (au base prod seq l)=0:=by
 have hl:(au base prod seq l).recs.length=l.length:=jt l 0
 have hsp:(au base prod seq l).span=((l.length:Nat):Int):=by show max ((l.length:Nat):Int) 1=_;omega
 have hat:∀ j r,l[j]?=some r->Ev (au base prod seq l) j=((j:Nat):Int):=fun j r hr=>by
  have h1:(au base prod seq l).recs[j]?=some { r with off:=((0+j:Nat):Int) }:=by
   show (fy 0 l)[j]?=_
   rw [x8,hr]
   rfl
  rw [xv h1]
  show ((0+j:Nat):Int)=_
  omega
 have ho:ip (au base prod seq l)=true:=by
  refine (Df ?_ fun j hj=>?_).symm
  ·unfold eo
   have e1:(au base prod seq l).base=base:=rfl
   have e2:(au base prod seq l).prod=prod:=rfl
   have e3:(au base prod seq l).seq=seq:=rfl
   rw [hl,hsp,e1,e2,e3,decide_eq_false (by omega),decide_eq_false (by omega),decide_eq_false (by omega),decide_eq_false (by omega),decide_eq_false (by omega),decide_eq_false (by omega),decide_eq_false (by omega)]
   rfl
  ·rw [hl] at hj
   obtain ⟨r,hr⟩:∃ r,l[j]?=some r:=⟨_,List.getElem?_eq_getElem hj⟩
   unfold mu
   rw [hat j r hr,hsp,decide_eq_false (by omega),Bool.false_or]
   by_cases h0:j=0
   ·subst h0
    rfl
   ·obtain ⟨r2,hr2⟩:∃ r2,l[j - 1]?=some r2:=⟨_,List.getElem?_eq_getElem (by omega)⟩
    rw [hat (j - 1) r2 hr2,decide_eq_false (p:=((j:Nat):Int)<=((j - 1:Nat):Int)) (by omega),Bool.and_false]
    rfl
 have hall:∀ r∈(au base prod seq l).recs,ckE r=0:=fun r hr=>by
  obtain ⟨j,hj⟩:=List.getElem?_of_mem hr
  have h1:(fy 0 l)[j]?=some r:=hj
  rw [x8] at h1
  cases h2:l[j]? with
  | none=>rw [h2] at h1;cases h1
  | some r0 =>
   rw [h2] at h1
   injection h1 with h1
   rw [<- h1]
   have hj2:=(List.getElem?_eq_some_iff.1 h2).1
   exact hck r0 (List.mem_of_getElem? h2) (0+j) (by omega)
 unfold batE
 rw [if_pos (by unfold oz;rw [if_pos ho];exact tr hall),if_neg (by omega)]
theorem Je {r:Rc} {t:Int} {K:Nat} (hK:∀ j:Nat,j < 100->(encB { r with off:=((j:Nat):Int) } t).length=K):∀ (n k:Nat),k+n<=100->((fy k (List.replicate n r)).flatMap fun r=>encB r t).length=n * K
 | 0,_,_=>by simp [fy]
 | n+1,k,h=>by
  rw [List.replicate_succ,fy,List.flatMap_cons,List.length_append,hK k (by omega),Je hK n (k+1) (by omega),Nat.succ_mul]
  omega
def repB (base:Int) (n:Nat) (r:Rc):Bt:=au base 0 0 (List.replicate n r)
theorem Fa {base:Int} {n:Nat} {r:Rc} (hn:1<=n):be (repB base n r)=r.time:=by
 obtain ⟨m,rfl⟩:∃ m,n=m+1:=⟨n - 1,by omega⟩
 rfl
theorem Jf {base:Int} {n:Nat} {r:Rc} (hn:1<=n):(repB base n r).span=((n:Nat):Int):=by
 show max (((List.replicate n r).length:Nat):Int) 1=_
 rw [List.length_replicate]
 omega
theorem Dp {base:Int} {n K:Nat} {r:Rc} (hn:1<=n/\n<=100) (hK:∀ j:Nat,j < 100->(encB { r with off:=((j:Nat):Int) } r.time).length=K):(batB (repB base n r)).length=48+n * K:=by
 rw [Mu,Fa hn.1]
 show 48+((fy 0 (List.replicate n r)).flatMap fun x=>encB x r.time).length=_
 rw [Je hK n 0 (by omega)]
theorem Qh {base:Int} {n K:Nat} {r:Rc} (hn:1<=n/\n<=100) (hb:0<=base/\base<=1125899906842624) (hck:∀ j:Nat,j < 100->ckE { r with off:=((j:Nat):Int) }=0) (hK:∀ j:Nat,j < 100->(encB { r with off:=((j:Nat):Int) } r.time).length=K) (hfit:48+n * K<=6000):batE (repB base n r)=0:=by
 have hl:(List.replicate n r).length=n:=List.length_replicate
 refine Mv (by rw [hl];exact hn) hb (by decide) (by decide) (fun x hx j hj=>by rw [List.eq_of_mem_replicate hx];exact hck j hj) ?_
 have h:=Dp (base:=base) hn hK
 unfold repB at h
 rw [h]
 exact hfit
theorem To {n:Nat} (h:127 < n) (h2:n < 16384):(vint n).length=2:=by
 rw [xr h,List.length_cons,l8 (by omega)]
 rfl
theorem Ny {n:Nat} (h:n<=127):(vint n).length=1:=by rw [l8 (by omega)];rfl
theorem zig_0 :zigN 0=0:=by decide +kernel
def recS (key val:ad) (t:Int):Rc:=⟨!decide (key=[]),key,true,val,t,0⟩
theorem Qi {key val:ad} {t:Int} (ht:0<=t/\t<=1125899906842624) (hk:key.length<=2000) (hv:val.length<=2000):∀ j:Nat,j < 100->ckE { recS key val t with off:=((j:Nat):Int) }=0:=fun j hj=>by
 refine (ck0 ?_ ?_).symm
 ·show ((!(!decide (key=[])) && !decide (key=[])) || (!true && !decide (val=[])) || decide (t < 0) || decide (1125899906842624 < t) || decide (((j:Nat):Int) < 0) || decide (100<=((j:Nat):Int)))=false
  rw [decide_eq_false (p:=t < 0) (by omega),decide_eq_false (p:=1125899906842624 < t) (by omega),decide_eq_false (p:=((j:Nat):Int) < 0) (by omega),decide_eq_false (p:=100<=((j:Nat):Int)) (by omega)]
  cases decide (key=[])<;>rfl
 ·show (decide ((2000:Int) < ((key.length:Nat):Int)) || decide ((2000:Int) < ((val.length:Nat):Int)))=false
  rw [decide_eq_false (by omega),decide_eq_false (by omega)]
  rfl
theorem Mw {key val:ad} {t:Int} (j:Nat) (hj:j < 100):(encB { recS key val t with off:=((j:Nat):Int) } t).length=3+(if key=[] then 0 else (vint key.length).length+key.length)+((vint val.length).length+val.length):=by
 have h1:(vint (((j:Nat):Int)).toNat).length=1:=Ny (by omega)
 have h2:(vint (zigN (t - t))).length=1:=by rw [Int.sub_self,zig_0];exact Ny (by decide)
 unfold encB flB txtB
 show ((_:ad)++(vint (((j:Nat):Int)).toNat++(vint (zigN (t - t))++((if (!decide (key=[]))=true then vint key.length++key else [])++(if true=true then vint val.length++val else []))))).length=_
 rw [List.length_append,List.length_append,List.length_append,List.length_append,h1,h2,if_pos rfl,List.length_append]
 by_cases hk:key=[]
 ·subst hk
  simp
  omega
 ·rw [if_neg hk,if_pos (by simp [hk]),List.length_append]
  simp
  omega
def d5 (n c:Nat):ad:=(List.range n).map fun i=>UInt8.ofNat (c+i / 7)
theorem qe (n c:Nat):(d5 n c).length=n:=by simp [d5]
def ma (f:Nat->UInt8) (n k:Nat):ad:=(List.range n).map fun j=>if j < k then f j else 0
theorem zw (f:Nat->UInt8) (n k:Nat):(ma f n k).length=n:=by simp [ma]
theorem Fb (f:Nat->UInt8) (n:Nat):ma f n 0=List.replicate n 0:=by
 unfold ma
 simp only [Nat.not_lt_zero,if_false]
 rw [List.map_const',List.length_range]
theorem Jg (f:Nat->UInt8) (n:Nat):ma f n n=(List.range n).map f:=by
 unfold ma
 apply List.map_congr_left
 intro j hj
 rw [if_pos (List.mem_range.1 hj)]
theorem Jh (f:Nat->UInt8) {n k:Nat} (h:k < n):(ma f n k).set k (f k)=ma f n (k+1):=by
 apply List.ext_getElem
 ·simp [ma]
 ·intro j h1 h2
  simp only [ma,List.getElem_set,List.getElem_map,List.getElem_range]
  by_cases hj:k=j
  ·subst hj;rw [if_pos rfl,if_pos (by omega)]
  ·rw [if_neg hj]
   by_cases h3:j < k
   ·rw [if_pos h3,if_pos (by omega)]
   ·rw [if_neg h3,if_neg (by omega)]
theorem Fc (v:Nat):Value.int .u8 (IntKind.u8.wrap (v:Int))=bv (UInt8.ofNat v):=by
 unfold bv
 rw [IntKind.wrap_u8,UInt8.toNat_ofNat']
 congr 1
theorem Ji {n c:Nat} (hn:n<=100000) (hc:c<=100000):Spec Tryz.prog 48 #[.int .i64 (n:Int),.int .i64 (c:Int)] [] fun F v M=>∃ b,v=.slice (some ⟨b,0,none⟩) n n/\M=buf b 5 n (bvs (d5 n c)) :: F:=by
 refine Spec.intro Tryz.func48 rfl rfl fun B F=>?_
 simp only [Tryz.ntmps48,List.cons_append,List.nil_append,env0,Nat.reduceAdd]
 refine .sr (.assign (.x (.move ?_)))
 refine .mkS (k:=(n:Int)) z5 (fun b8=>?_) so79 (by omega) (by omega) (by omega)
 refine .cast (d:=8) (u:=.slice (some ⟨b8,0,none⟩) n n) rfl (by rw [Int.toNat_natCast]) ?_
 refine .to (A:=buf b8 5 (n:Int).toNat (List.replicate (n:Int).toNat (.int .u8 0))) (A':=buf b8 5 n (bvs (ma (fun i=>UInt8.ofNat (c+i / 7)) n 0))) (fun h hh=>by rw [Fb,az];rw [Int.toNat_natCast] at hh;exact hh) ?_
 refine .assign (.z (.seq (.sr (.assign (.z (.block ?_))))))
 refine .loopA (σ:=Nat) (fun i=>[(0,.int .i64 (n:Int)),(1,.int .i64 (c:Int)),(5,.slice (some ⟨b8,0,none⟩) n n),(6,.int .i64 (i:Int))]) (fun i=>buf b8 5 n (bvs (ma (fun i=>UInt8.ofNat (c+i / 7)) n i)) :: F) (fun i=>i<=n) (fun i=>n - i) 0 (Nat.zero_le _) ?_
 rintro i hi
 refine .seq (.sr (.move (.move ?_)))
 refine .lss ?_
 refine .z ?_
 refine .cond rfl (fun hb=>?_) (fun hb=>?_)
 ·have hlt:i < n:=by have:=of_decide_eq_true hb;omega
  refine .skip (.next (.seq (.block (.region (.move (.move (.move (.move ?_))))))))
  refine .quo ?_
  refine .add ?_
  refine .cast (d:=19) (u:=.int .i64 ((c+i / 7:Nat):Int)) rfl (cI9 (by omega)) ?_
  refine .cvt ?_ un3 un5
  refine .cast (d:=20) (u:=bv (UInt8.ofNat (c+i / 7))) rfl (Fc _) ?_
  refine .idx1 ?_ so79
  refine .stB ?_ sc5 (show 0+((i:Nat):Int).toNat < (bvs (ma (fun i=>UInt8.ofNat (c+i / 7)) n i)).length by rw [ag,zw];omega)
  refine .nil (.blockNormal (.next (.region (.move ?_))))
  refine .add ?_
  refine .assign (.nil ?_)
  refine .to (A:=buf b8 5 n ((bvs (ma (fun i=>UInt8.ofNat (c+i / 7)) n i)).set (0+((i:Nat):Int).toNat) (bv (UInt8.ofNat (c+i / 7))))) (A':=buf b8 5 n (bvs (ma (fun i=>UInt8.ofNat (c+i / 7)) n (i+1)))) (fun h hh=>by rw [<- Jh (fun i=>UInt8.ofNat (c+i / 7)) hlt,o9];rw [show 0+((i:Nat):Int).toNat=i from by omega] at hh;exact hh) ?_
  refine .cast (d:=6) (u:=.int .i64 ((i+1:Nat):Int)) rfl (cI9 (by omega)) ?_
  exact .back (i+1) (by omega) (by omega)
 ·have hge:¬ i < n:=by have:=of_decide_eq_false hb;omega
  have hin:i=n:=by omega
  subst hin
  refine .exit (.thenExit (.thenExit (.blockExit (?_))))
  refine .next (.sr (.move (.assign (.z (.ret (?_))))))
  refine .to (A:=buf b8 5 i (bvs (ma (fun i=>UInt8.ofNat (c+i / 7)) i i))) (A':=buf b8 5 i (bvs (d5 i c))) (fun h hh=>by rw [Jg] at hh;exact hh) ?_
  exact .ret1 (h1:=.tmp (t:=4) rfl) ⟨_,⟨b8,rfl,rfl⟩,Am.auto⟩
theorem z23 :a6 Tryz.prog 23=some (#[.int .i64 0,.int .i64 0,.int .i64 0,.bool false,.int .i64 0]):=by kernel_rfl
def pE (n ino:Nat):Pl:=⟨n,ino,246,247,248,248+(ino+7) / 8,n - (248+(ino+7) / 8)⟩
theorem pE_is {n ino:Nat} (h1:1<=ino) (h2:ino<=4096) (hn:249+(ino+7) / 8<=n) (hn2:n<=4000):PlIs (pE n ino):=by
 refine ⟨?_,?_,?_,?_,?_,?_,?_,?_,?_,?_,?_⟩
 all_goals (simp only [pE];try first | omega | (left;omega))
theorem p15_is :PlIs (pE 1500 250):=pE_is (by decide) (by decide) (by decide) (by decide)
theorem p15_P :PlP (pE 1500 250):=⟨p15_is.ok,by decide,.inr (by decide)⟩
theorem Tp (a:Bool) (s t:ByteArray) (x:Int):bi Tryz.prog 95 [(0,.bool a),(1,.string s),(2,.bool true),(3,.string t),(4,.int .i64 x)] #[.bool a,.string s,.bool true,.string t,.int .i64 x,.int .i64 0]:=fun w=>by kernel_rfl
def stPlain :Sts:=⟨600,-1,-1,false,0⟩
theorem i7 :Spec Tryz.prog 13 #[] [] fun F v M=>v=.agg stPlain.v.toArray/\M=F:=by
 refine Spec.intro Tryz.func13 rfl rfl fun B F=>?_
 simp only [Tryz.ntmps13,List.cons_append,List.nil_append,env0,Nat.reduceAdd]
 refine .sr ?_
 refine .alloc z23 fun b0=>?_
 refine .x ?_
 refine .build ?_ Me
 refine .stV ?_ lc
 refine .z (.ret (?_))
 exact .ret1 ⟨_,⟨rfl,rfl⟩,Am.auto⟩
theorem Bw {n size:Nat} {key:ad} {t:Int} (hn:1<=n/\n<=100) (hs:size<=2000):Spec Tryz.prog 17 #[.int .i64 ((n:Nat):Int),sv key,.int .i64 ((size:Nat):Int),.int .i64 t] [] fun F v M=>∃ A c,v=.slice (some A) (List.replicate n (recS key (d5 size 65) t)).length c/\M=rowR 95 6 v n ((List.replicate n (recS key (d5 size 65) t)).flatMap Rc.v) :: F:=by
 refine Spec.intro Tryz.func17 rfl rfl fun B F=>?_
 simp only [Tryz.ntmps17,List.cons_append,List.nil_append,env0,Nat.reduceAdd]
 refine .sr (.assign (.x (.assign (.z (.seq (.sr (.assign (.z (.block ?_)))))))))
 refine .emp (A:=rowR 95 6 (.slice none 0 0) 0 ((List.replicate 0 (recS key (d5 size 65) t)).flatMap Rc.v)) (rowR.nil _) ?_
 refine .loopA (σ:=Nat×Value) (fun y=>[(0,.int .i64 ((n:Nat):Int)),(1,sv key),(2,.int .i64 ((size:Nat):Int)),(3,.int .i64 t),(9,y.2),(10,.int .i64 ((y.1:Nat):Int))]) (fun y=>[rowR 95 6 y.2 y.1 ((List.replicate y.1 (recS key (d5 size 65) t)).flatMap Rc.v)]++F) (fun y=>y.1<=n) (fun y=>n - y.1) (0,.slice none 0 0) (Nat.zero_le _) ?_
 rintro y hy
 obtain ⟨i,u⟩:=y
 simp only at hy ⊢
 refine .seq (.sr (.move (.move ?_)))
 refine .lss ?_
 refine .z ?_
 refine .cond rfl (fun hd=>?_) (fun hd=>?_)
 ·have hin:i < n:=by have h:((i:Nat):Int) < ((n:Nat):Int):=of_decide_eq_true hd;omega
  refine .skip (.next (.seq (.block (.region (.move (.move ?_))))))
  refine .neS key [] ?_
  refine .move (.move ?_)
  refine .call (hc:=Tryz.call48) (sp:=Ji (n:=size) (c:=65) (by omega) (by decide)) (h:=?_)
  rintro _ _ ⟨bq,rfl,rfl⟩
  refine .cvtBS (xs:=d5 size 65) ?_ by79 st9 Reads.buf (qe _ _)
  refine .move ?_
  refine .build ?_ (Tp _ _ _ _)
  refine .buildS (fun b25=>?_) (S0 _ _ _ _ _ _)
  refine .append (v:=u) (m:=1) (k:=i) (xs:=(List.replicate i (recS key (d5 size 65) t)).flatMap Rc.v) (news:=Rc.v (recS key (d5 size 65) t)) so37 (by decide) (by repeat (first | exact .here | apply Rem.there | apply Repl.there | apply Mem.there)) (Reads.pt (cs:=(Rc.v (recS key (d5 size 65) t)).toArray)) (by repeat (first | exact .here | apply Rem.there | apply Repl.there | apply Mem.there)) rfl (by simp [Rc.v,Value.single,sv,recS]) (by unfold maxLen;omega) (by omega) ⟨_,z95,rfl⟩ (fun v' hv'=>?_)
  rw [show (List.replicate i (recS key (d5 size 65) t)).flatMap Rc.v++Rc.v (recS key (d5 size 65) t)=(List.replicate (i+1) (recS key (d5 size 65) t)).flatMap Rc.v by rw [List.replicate_succ',List.flatMap_append,List.flatMap_singleton]]
  refine .assign (.nil (.blockNormal (.next (.region (.move ?_)))))
  refine .add ?_
  refine .assign (.nil ?_)
  exact .back (i+1,v') (show i+1<=n from hin) (show n - (i+1) < n - i by omega)
 ·have hge:i=n:=by have h:¬ ((i:Nat):Int) < ((n:Nat):Int):=of_decide_eq_false hd;omega
  subst hge
  refine .fact (ah (el:=95) (size:=6) (k:=i) (v:=u) (xs:=(List.replicate i (recS key (d5 size 65) t)).flatMap Rc.v)) fun ⟨A5,c5,hv5,hR5,_,_,_⟩=>?_
  subst hv5
  obtain ⟨A,rfl⟩:∃ A,A5=some A:=by
   cases A5 with
   | none =>
    have h0:(List.replicate i (recS key (d5 size 65) t)).flatMap Rc.v=[]:=hR5
    have h1:=bc Rc.v_len (List.replicate i (recS key (d5 size 65) t))
    rw [h0,List.length_replicate] at h1
    simp at h1
    omega
   | some a=>exact ⟨a,rfl⟩
  refine .exit (.thenExit (.thenExit (.blockExit (?_))))
  refine .next (.sr (.move (.assign (.z (.ret (?_))))))
  exact .ret1 (h1:=.tmp (t:=8) rfl) ⟨_,⟨A,c5,by rw [List.length_replicate],rfl⟩,Am.auto⟩
theorem Dq {st:Sts} (hst:cf st=true):Spec Tryz.prog 14 #[.agg st.v.toArray] [] fun F v M=>∃ d f pp,v=.tuple #[.pointer (some ⟨d,0,none⟩),.pointer (some ⟨f,0,none⟩),.pointer (some ⟨pp,0,none⟩),.bool true]/\M=PT pp f [112] st [] [(0,[])] :: DRF f (pE 1500 250) [112] 1 [(0,[])] :: F:=by
 refine Spec.intro Tryz.func14 rfl rfl fun B F=>?_
 simp only [Tryz.ntmps14,List.cons_append,List.nil_append,env0,Nat.reduceAdd]
 refine .sr ?_
 refine .box fun b1=>?_
 refine .assign (.assign (.assign (.assign (.x ?_))))
 refine .call (hc:=Tryz.call35) (sp:=Q3 (n:=1500) (by decide) (by decide)) (h:=?_)
 rintro _ _ ⟨d,rfl,rfl⟩
 refine .move ?_
 refine .extract (.extract ?_)
 refine .assign (.assign (.z (.seq (.sr (.move ?_)))))
 refine .nei ?_
 refine .move (.gT (.move (.gT ?_)))
 refine .eqNil ?_ Fv
 refine .pickF (.move (.gT (.move (.gT ?_))))
 refine .call (hc:=Tryz.call36) (sp:=Ti p15_is) (h:=?_)
 rintro _ _ ⟨J,rfl,hJ,rfl⟩
 refine .gT ?_
 refine .nei ?_
 refine .pickF (.z ?_)
 refine .condF rfl (cB9 (by first|simp;done|simp;omega|omega)) ?_
 refine .skip (.next (.sr (.move ?_)))
 refine .call (hc:=Tryz.call37) (sp:=E5 p15_is hJ) (h:=?_)
 rintro _ _ ⟨f,rfl,rfl⟩
 refine .move ?_
 refine .extract (.extract ?_)
 refine .assign (.assign (.z (.seq (.sr (.move ?_)))))
 refine .nei ?_
 refine .move (.gT (.move (.gT ?_)))
 refine .eqNil ?_ s9
 refine .pickF (.move (.gT (.move (.gT ?_))))
 refine .ldA ?_ lc
 refine .gT ?_
 refine .call (hc:=Tryz.call29) (sp:=Mt (f:=f) (dn:=[112]) (st:=st) p15_P (by decide) (by decide) hst) (h:=?_)
 rintro _ _ ⟨rfl,rfl⟩
 refine .gT ?_
 refine .nei ?_
 refine .pickF (.z ?_)
 refine .condF rfl (cB9 (by first|simp;done|simp;omega|omega)) ?_
 refine .skip (.next (.sr (.move ?_)))
 refine .ldA ?_ lc
 refine .call (hc:=Tryz.call30) (sp:=Bv (f:=f) (N:=1) (dn:=[112]) (st:=st) p15_P (by decide) ⟨by decide,by decide,by decide,by decide⟩ hst) (h:=?_)
 rintro _ _ ⟨pp,rfl,rfl⟩
 refine .move ?_
 refine .extract (.extract ?_)
 refine .assign (.assign (.x (.move (.move (.move (.move ?_))))))
 refine .eqi ?_
 refine .move (.gT (.move (.gT ?_)))
 refine .neNil ?_ Qa
 refine .pickT (.assign (.assign (.assign (.assign (.z ?_)))))
 refine .ret (?_)
 exact .ret4 (h1:=.tmp (t:=2) rfl) (h2:=.tmp (t:=3) rfl) (h3:=.tmp (t:=4) rfl) (h4:=.tmp (t:=5) rfl) ⟨_,⟨d,f,pp,rfl,rfl⟩,Am.auto⟩
def ownT (r:Nat->Rc) (w k:Nat):List SegA:=(List.range k).map fun j=>(w+j,[repB (((w+j:Nat)):Int) 1 (r (w+j))])
theorem ub (r:Nat->Rc) (w k:Nat):ownT r w (k+1)=(w,[repB ((w:Nat):Int) 1 (r w)]) :: ownT r (w+1) k:=by
 unfold ownT
 rw [List.range_succ_eq_map,List.map_cons,List.map_map]
 congr 1
 refine List.map_congr_left fun j _=>?_
 show (w+(j+1),[repB (((w+(j+1):Nat)):Int) 1 (r (w+(j+1)))])=_
 rw [show w+(j+1)=w+1+j by omega]
theorem uc (r:Nat->Rc) (w k:Nat):ownT r w (k+1)=ownT r w k++[(w+k,[repB (((w+k:Nat)):Int) 1 (r (w+k))])]:=by
 unfold ownT
 rw [List.range_succ,List.map_append]
 rfl
theorem o0 (r:Nat->Rc) (w k:Nat):(ownT r w k).length=k:=by simp [ownT]
theorem Mx {r:Nat->Rc} {w k:Nat} {y:SegA} (h:y∈ownT r w k):∃ j,j < k/\y=(w+j,[repB (((w+j:Nat)):Int) 1 (r (w+j))]):=by
 unfold ownT at h
 obtain ⟨j,hj,rfl⟩:=List.mem_map.1 h
 exact ⟨j,List.mem_range.1 hj,rfl⟩
def ownS (r:Nat->Rc) (n:Nat):List SegA:=if n=0 then [(0,[])] else ownT r 0 n
theorem Qj (i:Nat) (b:Bt):byt (i,[b])=batB b:=by unfold byt;simp
theorem x9 {r:Nat->Rc} {m:Nat} (hr:∀ j:Nat,(batB (repB ((j:Nat):Int) 1 (r j))).length=m):∀ (k w:Nat),bytT (ownT r w k)=k * m
 | 0,_=>by simp [ownT,bytT]
 | k+1,w=>by
  rw [ub]
  have h:=x9 hr k (w+1)
  unfold bytT at h ⊢
  rw [List.map_cons,List.sum_cons,h,Qj,hr,Nat.succ_mul]
  omega
theorem Jj {r:Nat->Rc} {w k:Nat}:(ownT r w (k+1)).take k=ownT r w k:=by
 rw [uc,List.take_append_of_le_length (by rw [o0];exact Nat.le_refl _),List.take_of_length_le (by rw [o0];exact Nat.le_refl _)]
structure OwnR (r:Nat->Rc) (m:Nat):Prop where
 len:∀ j:Nat,(batB (repB ((j:Nat):Int) 1 (r j))).length=m
 ok:∀ j:Nat,j<=1000->batE (repB ((j:Nat):Int) 1 (r j))=0
 big:512 < m+m/\m<=1400
 t:∀ j:Nat,j<=1000->0<=(r j).time/\(r j).time<=1125899906842624
theorem OwnR.of {key val:Nat->ad} {t:Nat->Int} {K:Nat} (hk:∀ j,(key j).length<=100) (hK:∀ j,3+(if key j=[] then 0 else (vint (key j).length).length+(key j).length)+((vint (val j).length).length+(val j).length)=K) (ht:∀ j:Nat,j<=1000->0<=t j/\t j<=1125899906842624) (hb:512 < (48+K)+(48+K)/\48+K<=1400):OwnR (fun j=>recS (key j) (val j) (t j)) (48+K):=by
 have hv:∀ j,(val j).length<=2000:=fun j=>by have:=hK j;omega
 have hKK:∀ i j:Nat,j < 100->(encB { recS (key i) (val i) (t i) with off:=((j:Nat):Int) } (recS (key i) (val i) (t i)).time).length=K:=fun i j hj=>by
  rw [<- hK i]
  exact Mw j hj
 refine ⟨fun j=>?_,fun j hj=>?_,hb,ht⟩
 ·rw [Dp ⟨by decide,by decide⟩ (hKK j),Nat.one_mul]
 ·exact Qh ⟨by decide,by decide⟩ ⟨by omega,by omega⟩ (Qi (ht j hj) (by have:=hk j;omega) (hv j)) (hKK j) (by omega)
theorem repB_next {base:Nat} {i:Int} {r:Rc}:t6 i [repB ((base:Nat):Int) 1 r]=(((base+1:Nat)):Int):=by
 show ((base:Nat):Int)+(repB ((base:Nat):Int) 1 r).span=_
 rw [Jf (by decide)]
 omega
theorem Jk {base:Int} {r:Rc} (h:0<=r.time):ua (-1) [repB base 1 r]=r.time:=by
 show zt (-1) [{ r with off:=((0:Nat):Int) }]=r.time
 unfold zt zt
 show (if -1 < r.time then r.time else -1)=r.time
 rw [if_pos (by omega)]
theorem zx {r:Nat->Rc} {m:Nat} (h:OwnR r m) {w k N:Nat} {p:Pl} (hk:k<=50) (hN:N<=200) (hi:N+3<=p.ino):FitsP p N (ownT r w k) :=
 ⟨hN,hi,by rw [o0];omega,by rw [x9 h.len];have:=h.big;have h2:=Nat.mul_le_mul hk (show m<=1400 by omega);omega⟩
theorem Jl {N:Nat} {p:Pl} (hN:N<=200) (hi:N+3<=p.ino):FitsP p N [(0,[])]:=⟨hN,hi,by decide,by decide⟩
theorem Jm {pp f n N c m:Nat} {dn:ad} {st:Sts} {p:Pl} {r:Nat->Rc} {A:Addr} {R:HP} (hp:PlP p) (h:OwnR r m) (hsg:st.seg=512) (hn:n<=45) (hN1:N+1<=200) (hN2:N+4<=p.ino) (hdn:dn.length<=900) (hR:Reads R (some A) ([r n].flatMap Rc.v)) :
  Spec Tryz.prog 16 #[.pointer (some ⟨pp,0,none⟩),.int .i64 0,.int .i64 0,.slice (some A) 1 c] [PT pp f dn st [] (ownS r n),DRF f p dn N (ownS r n),R] fun F v M=>v=.tuple #[.int .i64 ((n:Nat):Int),.int .i64 0]/\M=PT pp f dn st [] (ownS r (n+1)) :: DRF f p dn (N+1) (ownS r (n+1)) :: R :: F:=by
 cases n with
 | zero =>
  have h1:=vp (pp:=pp) (f:=f) (N:=N) (base:=0) (nb:=0) (c:=c) (dn:=dn) (st:=st) (p:=p) (pre:=[]) (bs:=[]) (A:=A) (R:=R) (prod:=0) (seq:=0) (l:=[r 0]) hp (Jl (by omega) (by omega)) hN1 hN2 (by decide) hdn hR (by simp) (by simp) (h.ok 0 (by decide)) rfl (fun y hy=>by rw [List.mem_singleton.1 hy];exact ⟨by decide,fun h=>absurd rfl h⟩) (by decide) (by decide)
  have e:addP st.seg [] 0 [] (au ((0:Nat):Int) 0 0 [r 0])=ownS r 1:=by
   unfold addP
   rw [if_pos (.inl rfl)]
   rfl
  rw [e] at h1
  exact h1
 | succ n =>
  have hs:ownS r (n+1)=ownT r 0 n++[(n,[repB ((n:Nat):Int) 1 (r n)])]:=by
   show ownT r 0 (n+1)=_
   rw [uc,Nat.zero_add]
  have hf:FitsP p N (ownT r 0 n++[(n,[repB ((n:Nat):Int) 1 (r n)])]):=by
   rw [<- hs]
   exact zx h (by omega) (by omega) (by omega)
  have h1:=vp (pp:=pp) (f:=f) (N:=N) (base:=n) (nb:=n+1) (c:=c) (dn:=dn) (st:=st) (p:=p) (pre:=ownT r 0 n) (bs:=[repB ((n:Nat):Int) 1 (r n)]) (A:=A) (R:=R) (prod:=0) (seq:=0) (l:=[r (n+1)]) hp hf hN1 hN2 (by rw [o0];omega) hdn hR (by simp) (by simp) (h.ok (n+1) (by omega)) repB_next.symm (fun y hy=>by
   rcases List.mem_append.1 hy with hy | hy
   ·obtain ⟨j,hj,rfl⟩:=Mx hy
    exact ⟨by show 0+j<=_;omega,fun _=>by show ((0+j:Nat):Int) < _;omega⟩
   ·rw [List.mem_singleton.1 hy]
    exact ⟨by show n<=_;omega,fun _=>by show ((n:Nat):Int) < _;omega⟩) (by simp) (by rw [List.flatMap_singleton,h.len];have:=h.big;omega)
  have e:addP st.seg (ownT r 0 n) n [repB ((n:Nat):Int) 1 (r n)] (au (((n+1:Nat)):Int) 0 0 [r (n+1)])=ownS r (n+2):=by
   unfold addP
   have hl2:=h.len (n+1)
   have hbig:=h.big
   rw [show au (((n+1:Nat)):Int) 0 0 [r (n+1)]=repB (((n+1:Nat)):Int) 1 (r (n+1)) from rfl,List.flatMap_singleton,h.len,hl2,if_neg (by omega),<-hs]
   show ownS r (n+1)++[((((n+1:Nat)):Int).toNat,_)]=ownT r 0 (n+2)
   rw [Int.toNat_natCast,uc (k:=n+1),Nat.zero_add]
   rfl
  rw [e,<-hs] at h1
  exact h1
def Bx (st:Sts) (now:Int) (r:Nat->Rc) (m w k:Nat):Bool:=!decide (k=0) && ((decide (0<=st.age) && decide ((r w).time+st.age < now)) || (decide (0<=st.bytes) && decide (st.bytes < ((k * m:Nat):Int))))
theorem ud {pp f w k N m:Nat} {dn:ad} {st:Sts} {p:Pl} {r:Nat->Rc} {dp:List Value} {now:Int} (hp:PlP p) (h:OwnR r m) (hst:cf st=true) (hk:w+k<=45) (hN1:N<=200) (hN2:N+3<=p.ino) (hdn:dn.length<=900) (hnow:-9223372036854775808<=now/\now<=9223372036854775807) :
  Spec Tryz.prog 32 #[.pointer (some ⟨pp,0,none⟩),.int .i64 now] [PT pp f dn st dp (ownT r w (k+1)),DRF f p dn N (ownT r w (k+1))] fun F v M=>(Bx st now r m w k=false/\v=.tuple #[.bool false,.int .i64 0]/\M=PT pp f dn st dp (ownT r w (k+1)) :: DRF f p dn N (ownT r w (k+1)) :: F) ∨ (Bx st now r m w k=true/\∃ x,v=.tuple #[.bool true,.int .i64 0]/\M=PT pp f dn st (dp++[x]) (ownT r (w+1) k) :: DRF f p dn N (ownT r (w+1) k) :: F):=by
 have hc:=ub r w k
 have ht:=h.t w (by omega)
 have hl:=Jk (base:=((w:Nat):Int)) ht.1
 have hf:FitsP p N ((w,[repB ((w:Nat):Int) 1 (r w)]) :: ownT r (w+1) k):=by
  rw [<- hc]
  exact zx h (by omega) hN1 hN2
 have e:nt st now (w,[repB ((w:Nat):Int) 1 (r w)]) (ownT r (w+1) k)=Bx st now r m w k:=by
  have hlen:=o0 r (w+1) k
  unfold nt mv mw Bx
  rw [hl,hlen,<-hc,Jj,x9 h.len]
  congr 2
  cases k with
  | zero=>rfl
  | succ k=>rw [ub];rfl
 have h1:=E9 (pp:=pp) (f:=f) (N:=N) (p:=p) (dn:=dn) (st:=st) (dp:=dp) (now:=now) (y:=(w,[repB ((w:Nat):Int) 1 (r w)])) (post:=ownT r (w+1) k) hp hf hdn hst hnow (by show w<=_;omega) (by show 1<=_;decide) (fun b hb=>by
  rw [List.mem_singleton.1 hb]
  refine ⟨⟨by show (0:Int)<=((w:Nat):Int);omega,by show ((w:Nat):Int)<=_;omega⟩,fun x hx=>?_⟩
  have hx2:x∈[{ r w with off:=((0:Nat):Int) }]:=hx
  rw [List.mem_singleton.1 hx2]
  exact ⟨show (0:Int)<=((0:Nat):Int) by decide,show ((0:Nat):Int)<=1000 by decide⟩) (fun _=>by rw [hl];exact ht)
 rw [<- hc,e] at h1
 exact h1
theorem Dr :Spec Tryz.prog 12 #[] [] fun F v M=>v=.bool true/\M=F:=by
 refine Spec.intro Tryz.func12 rfl rfl fun B F=>?_
 simp only [Tryz.ntmps12,List.cons_append,List.nil_append,env0,Nat.reduceAdd]
 have hown:OwnR (fun _=>recS [] (d5 300 65) 0) (48+305):=OwnR.of (key:=fun _=>[]) (val:=fun _=>d5 300 65) (t:=fun _=>0) (fun _=>by decide) (fun _=>by rw [if_pos rfl,qe,To (by decide) (by decide)]) (fun _ _=>by decide) (by decide)
 obtain ⟨st,hstd⟩:∃ st:Sts,st=⟨512,0,-1,false,0⟩:=⟨_,rfl⟩
 have hst:cf st=true:=by rw [hstd];decide
 have hsg:st.seg=512:=by rw [hstd]
 refine .sr (.assign (.x ?_))
 refine .call (hc:=Tryz.call13) (sp:=i7) (h:=?_)
 rintro _ _ ⟨rfl,hM⟩
 obtain rfl:=hM.symm
 refine .alloc z23 fun b1=>?_
 refine .stV ?_ lc
 refine .x ?_
 refine .fa ?_ tv
 refine .st ?_ sc3
 refine .x ?_
 refine .fa ?_ ir
 refine .st ?_ sc3
 refine .x ?_
 refine .ldA ?_ lc
 refine .cast (d:=19) (u:=.agg st.v.toArray) rfl (by rw [hstd];rfl) ?_
 refine .call (hc:=Tryz.call14) (sp:=Dq (st:=st) hst) (h:=?_)
 rintro _ _ ⟨d,f,pp,rfl,rfl⟩
 refine .move ?_
 refine .extract (.extract (.extract (.extract ?_)))
 refine .assign (.assign (.assign (.assign (.z (.seq (.sr (.move ?_)))))))
 refine .not ?_
 refine .z ?_
 refine .condF rfl rfl ?_
 refine .skip (.next (.seq (.sr (.assign (.z (.block ?_))))))
 refine .to (A:=PT pp f [112] st [] [(0,[])]) (A':=PT pp f [112] st [] (ownS (fun _=>recS [] (d5 300 65) 0) 0)) (fun h hh=>hh) ?_
 refine .to (A:=DRF f (pE 1500 250) [112] 1 [(0,[])]) (A':=DRF f (pE 1500 250) [112] (0+1) (ownS (fun _=>recS [] (d5 300 65) 0) 0)) (fun h hh=>hh) ?_
 refine .loopA (σ:=Nat) (fun i=>[(4,.pointer (some ⟨pp,0,none⟩)),(6,.int .i64 ((i:Nat):Int))]) (fun i=>[PT pp f [112] st [] (ownS (fun _=>recS [] (d5 300 65) 0) i),DRF f (pE 1500 250) [112] (i+1) (ownS (fun _=>recS [] (d5 300 65) 0) i)]++F) (fun i=>i<=3) (fun i=>3 - i) 0 (Nat.zero_le _) ?_
 rintro i hi
 refine .seq (.sr (.move ?_))
 refine .lss ?_
 refine .z ?_
 refine .cond rfl (fun hd=>?_) (fun hd=>?_)
 ·have hi3:i < 3:=by have h:((i:Nat):Int) < 3:=of_decide_eq_true hd;omega
  refine .skip (.next (.seq (.block (.sr (.move ?_)))))
  refine .call (hc:=Tryz.call17) (sp:=Bw (n:=1) (size:=300) (key:=[]) (t:=0) (by decide) (by decide)) (h:=?_)
  rintro _ _ ⟨A1,c1,rfl,rfl⟩
  refine .fact (ah (el:=95) (size:=6) (k:=1) (v:=.slice (some A1) (List.replicate 1 (recS [] (d5 300 65) 0)).length c1) (xs:=(List.replicate 1 (recS [] (d5 300 65) 0)).flatMap Rc.v)) fun ⟨A5,c5,hv5,hR5,_,_,_⟩=>?_
  injection hv5 with hA5 _ hc5
  subst hA5
  subst hc5
  refine .call (hc:=Tryz.call16) (sp:=Jm (dn:=[112]) (n:=i) (N:=i+1) (r:=(fun _=>recS [] (d5 300 65) 0)) p15_P hown hsg (by omega) (by omega) (by show i+1+4<=250;omega) (by decide) hR5) (h:=?_)
  rintro _ _ ⟨rfl,rfl⟩
  refine .move ?_
  refine .extract (.extract (.assign (.assign (.x (.move ?_)))))
  refine .nei ?_
  refine .move (.gT (.move (.gT (.move (.gT ?_)))))
  refine .nei ?_
  refine .pickF (.z ?_)
  refine .condF rfl (cB9 (by first|exact decide_eq_true (by omega)|exact decide_eq_false (by omega)|simp;done|simp;omega|omega)) ?_
  refine .skip (.blockNormal (.next (.region (.move ?_))))
  refine .add ?_
  refine .assign (.nil ?_)
  exact .back (i+1) (show i+1<=3 from hi3) (show 3 - (i+1) < 3 - i by omega)
 ·have hge:i=3:=by have h:¬ ((i:Nat):Int) < 3:=of_decide_eq_false hd;have h2:i<=3:=hi;omega
  subst hge
  refine .to (A:=PT pp f [112] st [] (ownS (fun _=>recS [] (d5 300 65) 0) 3)) (A':=PT pp f [112] st [] (ownT (fun _=>recS [] (d5 300 65) 0) 0 (2+1))) (fun h hh=>hh) ?_
  refine .to (A:=DRF f (pE 1500 250) [112] (3+1) (ownS (fun _=>recS [] (d5 300 65) 0) 3)) (A':=DRF f (pE 1500 250) [112] (3+1) (ownT (fun _=>recS [] (d5 300 65) 0) 0 (2+1))) (fun h hh=>hh) ?_
  refine .exit (.thenExit (.thenExit (.blockExit (?_))))
  refine .next (.sr (.move ?_))
  have hg0:Bx st 0 (fun _=>recS [] (d5 300 65) 0) (48+305) 0 2=true:=by rw [hstd];decide
  refine .call (hc:=Tryz.call32) (sp:=ud (pp:=pp) (f:=f) (N:=3+1) (dn:=[112]) (w:=0) (k:=2) (now:=0) p15_P hown hst (by decide) (by decide) (by decide) (by decide) (by decide)) (h:=?_)
  rintro _ _ (⟨h0,_,_⟩ | ⟨_,x0,rfl,rfl⟩)
  ·rw [hg0] at h0;cases h0
  refine .move ?_
  refine .extract (.extract (.assign (.assign (.x (.move ?_)))))
  have hg1:Bx st 0 (fun _=>recS [] (d5 300 65) 0) (48+305) 1 1=true:=by rw [hstd];decide
  refine .call (hc:=Tryz.call32) (sp:=ud (pp:=pp) (f:=f) (N:=3+1) (dn:=[112]) (w:=1) (k:=1) (now:=0) p15_P hown hst (by decide) (by decide) (by decide) (by decide) (by decide)) (h:=?_)
  rintro _ _ (⟨h0,_,_⟩ | ⟨_,x1,rfl,rfl⟩)
  ·rw [hg1] at h0;cases h0
  refine .move ?_
  refine .extract (.extract (.assign (.assign (.x (.move ?_)))))
  have hg2:Bx st 0 (fun _=>recS [] (d5 300 65) 0) (48+305) 2 0=false:=by rw [hstd];decide
  refine .call (hc:=Tryz.call32) (sp:=ud (pp:=pp) (f:=f) (N:=3+1) (dn:=[112]) (w:=2) (k:=0) (now:=0) p15_P hown hst (by decide) (by decide) (by decide) (by decide) (by decide)) (h:=?_)
  rintro _ _ (⟨_,rfl,rfl⟩ | ⟨h0,_,_,_⟩)
  rotate_left
  ·rw [hg2] at h0;cases h0
  refine .move ?_
  refine .extract (.extract (.assign (.assign (.x (.move ?_)))))
  refine .eqi ?_
  refine .move (.gT (.move (.gT ?_)))
  refine .eqi ?_
  refine .pickT (.move (.gT (.move (.gT ?_))))
  refine .eqi ?_
  refine .pickT (.move (.gT (.move (.pickT (.move ?_)))))
  refine .gT (.move (.pickT (.move (.gT (.move ?_)))))
  refine .gT ?_
  refine .not ?_
  refine .pickT (.move (.gT (.move (.gT ?_))))
  refine .call (hc:=Tryz.call19) (sp:=I4 (post:=[]) (y:=(2,[repB ((2:Nat):Int) 1 (recS [] (d5 300 65) 0)])) rfl) (h:=?_)
  rintro _ _ ⟨rfl,rfl⟩
  refine .gT ?_
  refine .eqi ?_
  refine .pickT (.move (.gT (.move (.gT ?_))))
  refine .call (hc:=Tryz.call18) (sp:=Dn (pre:=[]) (y:=(2,[repB ((2:Nat):Int) 1 (recS [] (d5 300 65) 0)])) rfl (by decide)) (h:=?_)
  rintro _ _ ⟨rfl,rfl⟩
  rw [repB_next]
  refine .gT ?_
  refine .eqi ?_
  refine .pickT (.assign (.z (.ret (?_))))
  exact .ret1 (h1:=.tmp (t:=0) rfl) ⟨_,⟨rfl,rfl⟩,Am.auto⟩
open Go.Shelf Go.RowKit Go.Maps
theorem Jn {m cc:Nat} {es:Array MapEntry}:Spec Tryz.prog 164 #[.map (some m)] [pt m (.map es cc)] fun F v M=>∃ m',v=.map (some m')/\M=pt m' (.map es cc) :: pt m (.map es cc) :: F:=by
 intro B F w hs
 have hm:=hs.get (b:=m) Mem.here
 refine (AnyW.maps_Clone Nm m es cc w hm).mono ?_
 rintro e w' ⟨rfl,rfl⟩
 exact ⟨_,_,rfl,⟨_,rfl,rfl⟩,hs.new (.map es cc)⟩
abbrev MkX :=Array MapEntry×Nat×List (Nat×ad)
def mkH (n m:Nat):HP:=exH (fun x:MkX=>MapIs intE x.1 x.2.1 (wkv x.2.2)/\Fit n x.2.2) (fun x=>[pt m (.map x.1 x.2.1)])
theorem mkH.opens (n m:Nat):Opens (mkH n m) (fun x:MkX=>MapIs intE x.1 x.2.1 (wkv x.2.2)/\Fit n x.2.2) (fun x=>[pt m (.map x.1 x.2.1)]):=exH.opens
theorem Tq {c j d n:Nat} {S:CS}:Spec Tryz.prog 90 #[.pointer (some ⟨c,0,none⟩)] [CR c j d n S] fun F v M=>∃ m,v=.map (some m)/\M=mkH n m :: CR c j d n S :: F:=by
 refine Spec.intro Tryz.func90 rfl rfl fun B F=>?_
 simp only [Tryz.ntmps90,List.cons_append,List.nil_append,env0,Nat.reduceAdd]
 refine .openR (CR.opens c j d n S) fun x hp=>?_
 simp only [cL,List.cons_append,List.nil_append]
 refine .sr (.assign (.x (.move (.nilCheck ?_))))
 refine .fa ?_ ia
 refine .ld ?_ r5
 refine .call (hc:=Tryz.call164) (sp:=Jn) (h:=?_)
 rintro _ _ ⟨m2,rfl,rfl⟩
 refine .assign (.z (.ret (?_)))
 refine .shutR (CR.opens c j d n S) x hp ?_
 refine .shutR (mkH.opens n m2) (x.es,x.c,S.W) ⟨hp.hm,hp.hf⟩ ?_
 exact .ret1 (h1:=.tmp (t:=2) rfl) ⟨_,⟨m2,rfl,rfl⟩,Am.auto⟩
theorem cBack {c j d n m:Nat} {S:CS}:Spec Tryz.prog 91 #[.pointer (some ⟨c,0,none⟩),.map (some m)] [CR c j d n S,mkH n m] fun F v M=>∃ W',v=.tuple #[]/\M=CR c j d n ⟨S.J,W',S.op,S.ov⟩ :: F:=by
 refine Spec.intro Tryz.func91 rfl rfl fun B F=>?_
 simp only [Tryz.ntmps91,List.cons_append,List.nil_append,env0,Nat.reduceAdd]
 refine .openR (CR.opens c j d n S) fun x hp=>?_
 simp only [cL,List.cons_append,List.nil_append]
 refine .openR (mkH.opens n m) fun y hy=>?_
 obtain ⟨es,cc,W2⟩:=y
 simp only [List.cons_append,List.nil_append] at hy ⊢
 refine .region (.move (.move (.nilCheck ?_)))
 refine .fa ?_ ia
 refine .st ?_ r5
 refine .nil ?_
 refine .shutR (CR.opens c j d n ⟨S.J,W2,S.op,S.ov⟩) ⟨m,es,cc⟩ ⟨hy.1,hy.2,hp.n1,hp.n2⟩ ?_
 exact .ret0 ⟨_,⟨W2,rfl,rfl⟩,Am.auto⟩
theorem Tr {c n:Nat} {V0 V:Nat->ad} {D:List Nat} {op:Bool}:Spec Tryz.prog 90 #[.pointer (some ⟨c,0,none⟩)] [TR c n V0 V D op] fun F v M=>∃ m,v=.map (some m)/\M=mkH n m :: TR c n V0 V D op :: F:=by
 refine Spec.opens (TR.opens c n V0 V D op) fun y hy=>(Tq (c:=c) (j:=y.1) (d:=y.2.1) (n:=n) (S:=y.2.2)).post' ?_
 rintro F v M B w ⟨m,rfl,rfl⟩ hs
 exact ⟨_,⟨m,rfl,rfl⟩,Sat.front (.there .here) (Sat.shuts (TR.opens c n V0 V D op) (x:=y) hy (Sat.front (.there .here) hs))⟩
theorem tBack {c n m:Nat} {V0 V:Nat->ad} {D:List Nat}:Spec Tryz.prog 91 #[.pointer (some ⟨c,0,none⟩),.map (some m)] [TR c n V0 V D true,mkH n m] fun F v M=>∃ V' D',v=.tuple #[]/\M=TR c n V0 V' D' true :: F:=by
 refine Spec.opens (TR.opens c n V0 V D true) fun y hy=>(cBack (c:=c) (j:=y.1) (d:=y.2.1) (n:=n) (m:=m) (S:=y.2.2)).post' ?_
 rintro F v M B w ⟨W',rfl,rfl⟩ hs
 exact ⟨_,⟨fun k=>CS.view ⟨y.2.2.J,W',y.2.2.op,y.2.2.ov⟩ k,W'.map (·.1),rfl,rfl⟩,Sat.shuts (TR.opens c n V0 _ _ true) (x:=(y.1,y.2.1,⟨y.2.2.J,W',y.2.2.op,y.2.2.ov⟩)) ⟨hy.hop,hy.h0,fun k _ _=>rfl,rfl,hy.tg,hy.ov⟩ hs⟩
def INX (s a c:Nat) (p:Pl) (F0:FM):HP:=exH (fun y:(Nat->ad)×(Nat->ad)×List Nat=>Rep p y.1 F0) (inLs s a c p true)
theorem INX.opens (s a c:Nat) (p:Pl) (F0:FM):Opens (INX s a c p F0) (fun y:(Nat->ad)×(Nat->ad)×List Nat=>Rep p y.1 F0) (inLs s a c p true):=exH.opens
theorem Ts {s a c:Nat} {p:Pl} {F0 F:FM} {W:Nat} {op:Bool}:Spec Tryz.prog 90 #[.pointer (some ⟨c,0,none⟩)] [IN s a c p F0 F W op] fun G v M=>∃ m,v=.map (some m)/\M=mkH p.n m :: IN s a c p F0 F W op :: G:=by
 refine Spec.opens (IN.opens s a c p F0 F W op) fun y hy=>((Tr (c:=c) (n:=p.n) (V0:=y.1) (V:=y.2.1) (D:=y.2.2)).last).post' ?_
 rintro G v M B w ⟨m,rfl,rfl⟩ hs
 exact ⟨_,⟨m,rfl,rfl⟩,Sat.front (.there .here) (Sat.shuts (IN.opens s a c p F0 F W op) (x:=y) hy (hs.take (.cons (.there (.there .here)) (.cons (.there (.there .here)) (.cons (.there .here) .nil)))))⟩
theorem Tt {s a c m:Nat} {p:Pl} {F0 F:FM} {W:Nat}:Spec Tryz.prog 91 #[.pointer (some ⟨c,0,none⟩),.map (some m)] [IN s a c p F0 F W true,mkH p.n m] fun G v M=>v=.tuple #[]/\M=INX s a c p F0 :: G:=by
 refine Spec.opens (IN.opens s a c p F0 F W true) fun y hy=>?_
 refine Spec.post' (Spec.pre' (Spec.frame (pt s (stO c a p)) (Spec.frame (pt a (alO c p)) (tBack (c:=c) (n:=p.n) (m:=m) (V0:=y.1) (V:=y.2.1) (D:=y.2.2)))) (pre':=inLs s a c p true y++[mkH p.n m]) fun B w F hs=>hs.take (.cons .here (.cons .here (.cons .here (.cons .here .nil))))) ?_
 rintro G v M B w ⟨V',D',rfl,rfl⟩ hs
 exact ⟨_,⟨rfl,rfl⟩,Sat.shuts (INX.opens s a c p F0) (x:=(y.1,V',D')) hy.r0 (hs.take (.cons (.there (.there .here)) (.cons (.there .here) (.cons .here .nil))))⟩
theorem Tu {s a c:Nat} {p:Pl} {F0:FM}:Spec Tryz.prog 180 #[.pointer (some ⟨c,0,none⟩)] [INX s a c p F0] fun G v M=>v=.bool false/\M=INX s a c p F0 :: G:=by
 refine Spec.opens (INX.opens s a c p F0) fun y hy=>((Sl (c:=c) (n:=p.n) (V0:=y.1) (V:=y.2.1) (D:=y.2.2)).last).post' ?_
 rintro G v M B w ⟨rfl,rfl⟩ hs
 exact ⟨_,⟨rfl,rfl⟩,Sat.shuts (INX.opens s a c p F0) (x:=y) hy (Am.wk Am.auto B w hs)⟩
theorem Qk {s a c:Nat} {p:Pl} {F0:FM}:Spec Tryz.prog 165 #[.pointer (some ⟨c,0,none⟩)] [INX s a c p F0] fun G v M=>v=okV/\M=IN s a c p F0 F0 0 false :: G:=by
 refine Spec.opens (INX.opens s a c p F0) fun y hy=>((Ri (c:=c) (n:=p.n) (V0:=y.1) (V:=y.2.1) (D:=y.2.2)).last).post' ?_
 rintro G v M B w ⟨rfl,rfl⟩ hs
 exact ⟨_,⟨rfl,rfl⟩,Sat.shuts (IN.opens s a c p F0 F0 0 false) (x:=(y.1,y.1,[])) ⟨hy,hy,Dk.nil p,Nat.zero_le _⟩ (Am.wk Am.auto B w hs)⟩
def Ql (f:Nat) (p:Pl) (F0:FM) (y:Nat×Nat×Nat×Nat×FT):List HP:=[pt f (fO y.1 y.2.1 y.2.2.1 true false false y.2.2.2.1),LD y.2.2.2.1 y.2.2.2.2,INX y.2.2.1 y.2.1 y.1 p F0]
def FSX (f:Nat) (p:Pl) (F0:FM):HP:=exH (fun _:Nat×Nat×Nat×Nat×FT=>True) (Ql f p F0)
theorem FSX.opens (f:Nat) (p:Pl) (F0:FM):Opens (FSX f p F0) (fun _:Nat×Nat×Nat×Nat×FT=>True) (Ql f p F0):=exH.opens
theorem Jo {f s a c mp e:Nat} {p:Pl} {T S:FT} {F0 F1:FM} {W0 W:Nat} {R R':HP} {k:FuncId} {cap:Array Value} (he:e≠0) (hc:∀ args w,(callFunc k args).run Tryz.prog w=.ok (.enter k args) w)
  (sp:Spec Tryz.prog k cap [pt f (fO c a s true false false mp),LD mp S,IN s a c p F0 (fmT S) W0 true,R] fun F v M=>v=nI e/\M=pt f (fO c a s true false false mp) :: LD mp S :: IN s a c p F0 F1 W true :: R' :: F):Spec Tryz.prog 110 #[.pointer (some ⟨f,0,none⟩),.func (.func k) #[] cap] [pt f (fO c a s true false false mp),LD mp S,IN s a c p F0 (fmT S) W0 true,R] fun F v M=>v=nI e/\M=pt f (fO c a s true false false mp) :: LD mp T :: INX s a c p F0 :: R' :: F:=by
 refine Spec.introD Tryz.func110 rfl rfl fun B F=>?_
 simp only [Tryz.ntmps110,List.cons_append,List.nil_append,env0,Nat.reduceAdd]
 have sp':=sp
 rw [show cap=(([]:List Value)).toArray++cap from by simp] at sp'
 refine .sr (.assign (.z (.seq (.sr (.move ?_)))))
 refine .call (hc:=Tryz.call89) (sp:=vg (f:=f) (s:=s) (a:=a) (c:=c) (mp:=mp) (b:=true) (ov:=false) (dead:=false)) (h:=?_)
 rintro _ _ ⟨rfl,rfl⟩
 refine .z ?_
 refine .condF rfl rfl ?_
 refine .skip (.next (.sr (.move ?_)))
 refine .call (hc:=Tryz.call92) (sp:=ou (f:=f) (s:=s) (a:=a) (c:=c) (mp:=mp) (b:=true) (ov:=false) (dead:=false) (S:=S) (T:=S)) (h:=?_)
 rintro _ _ ⟨rfl,rfl⟩
 refine .x (.move ?_)
 refine .defer ?_
 refine .z (.seq (.sr (.move (.nilCheck ?_))))
 refine .fa ?_ ii
 refine .ld ?_ sc4
 refine .not ?_
 refine .z ?_
 refine .condF rfl rfl ?_
 refine .skip (.next (.seq (.sr (.move (.nilCheck ?_)))))
 refine .fa ?_ xn
 refine .ld ?_ sc4
 refine .z ?_
 refine .condF rfl rfl ?_
 refine .skip (.next (.sr (.move (.nilCheck ?_))))
 refine .fa ?_ dv
 refine .ld ?_ cj
 refine .call (hc:=Tryz.call90) (sp:=Ts (s:=s) (a:=a) (c:=c) (p:=p) (F0:=F0) (F:=fmT S) (W:=W0) (op:=true)) (h:=?_)
 rintro _ _ ⟨m2,rfl,rfl⟩
 refine .assign (.x (.move ?_))
 refine .callV (hc:=hc) (sp:=sp') (h:=?_)
 rintro _ _ ⟨rfl,rfl⟩
 refine .assign (.z (.seq (.sr (.move ?_))))
 refine .nei ?_
 refine .z ?_
 refine .condT rfl (cB9 (by simp;omega)) ?_
 refine .region (.move (.nilCheck ?_))
 refine .fa ?_ dv
 refine .ld ?_ cj
 refine .move ?_
 refine .call (hc:=Tryz.call91) (sp:=Tt (s:=s) (a:=a) (c:=c) (p:=p) (m:=m2) (F0:=F0) (F:=F1) (W:=W)) (h:=?_)
 rintro _ _ ⟨rfl,rfl⟩
 refine .z (.seq (.sr (.move (.nilCheck ?_))))
 refine .fa ?_ dv
 refine .ld ?_ cj
 refine .call (hc:=Tryz.call180) (sp:=Tu (s:=s) (a:=a) (c:=c) (p:=p) (F0:=F0)) (h:=?_)
 rintro _ _ ⟨rfl,rfl⟩
 refine .z ?_
 refine .condF rfl rfl ?_
 refine .skip (.next (.sr (.move (.assign (.z ?_)))))
 refine .ret (?_)
 refine .retD1 (t:=4) (hc:=Tryz.call92) (sp:=te (f:=f) (s:=s) (a:=a) (c:=c) (mp:=mp) (b:=true) (ov:=false) (dead:=false) (S:=S) (T:=T)) (fun v' M' h=>?_)
 obtain ⟨_,rfl⟩:=h
 exact ⟨_,⟨rfl,rfl⟩,Am.auto⟩
theorem My {f s a c mp:Nat} {p:Pl} {T:FT} {F0:FM} {W0:Nat} {path:ad} {bp bf bk kind d i:Nat} {nm:ad} (ho:PlOk p) (hT:TOk T) (hpl:path.length<=1000000) (hp:path≠[47]) (hpar:ax T path=(d,nm,0)) (hfi:cg T d nm=(i,0)):Spec Tryz.prog 119 #[.pointer (some ⟨bp,0,none⟩),.pointer (some ⟨bf,0,none⟩),.pointer (some ⟨bk,0,none⟩)] [pt f (fO c a s true false false mp),LD mp T,IN s a c p F0 (fmT T) W0 true,bun [pt bp (.cells #[sv path] 9 (0,0)),pt bf (.cells #[.pointer (some ⟨f,0,none⟩)] 29 (0,0)),pt bk (.cells #[nI kind] 3 (0,0))]] fun F v M=>v=nI 5/\M=pt f (fO c a s true false false mp) :: LD mp T :: IN s a c p F0 (fmT T) W0 true :: bun [pt bp (.cells #[sv path] 9 (0,0)),pt bf (.cells #[.pointer (some ⟨f,0,none⟩)] 29 (0,0)),pt bk (.cells #[nI kind] 3 (0,0))] :: F:=by
 refine Spec.intro Tryz.func119 rfl rfl fun B F=>?_
 simp only [Tryz.ntmps119,List.cons_append,List.nil_append,env0,Nat.reduceAdd]
 refine .openR (bun.opens _) fun _ _=>?_
 simp only [List.cons_append,List.nil_append]
 refine .sr (.assign (.z (.seq (.sr ?_))))
 refine .ld ?_ sc9
 refine .eqS path [47] ?_
 refine .cast (d:=11) (u:=.bool false) rfl (cB9 (decide_eq_false hp)) ?_
 refine .z ?_
 refine .condF rfl rfl ?_
 refine .skip (.next (.sr ?_))
 refine .ld ?_ sc29
 refine .ld ?_ sc9
 refine .call (hc:=Tryz.call112) (sp:=i4 (f:=f) (s:=s) (a:=a) (c:=c) (mp:=mp) (b:=true) (ov:=false) (dead:=false) (p:=p) (T:=T) (F0:=F0) (W:=W0) (op:=true) (path:=path) ho hT hpl) (h:=?_)
 rintro _ _ ⟨rfl,rfl⟩
 rw [hpar]
 refine .move ?_
 refine .extract (.extract (.extract ?_))
 refine .assign (.assign (.assign (.z (.seq (.sr (.move ?_))))))
 refine .nei ?_
 refine .z ?_
 refine .condF rfl rfl ?_
 refine .skip (.next (.seq (.sr ?_)))
 refine .ld ?_ sc29
 refine .move (.move ?_)
 refine .call (hc:=Tryz.call113) (sp:=ot (f:=f) (s:=s) (a:=a) (c:=c) (mp:=mp) (b:=true) (ov:=false) (dead:=false) (p:=p) (T:=T) (F0:=F0) (W:=W0) (op:=true) (d:=d) (nm:=nm) ho hT) (h:=?_)
 rintro _ _ ⟨rfl,rfl⟩
 rw [hfi]
 refine .move ?_
 refine .extract (.extract (.assign (.assign (.x (.move ?_)))))
 refine .nei ?_
 refine .z ?_
 refine .condT rfl rfl ?_
 refine .seq (.sr (.move ?_))
 refine .eqi ?_
 refine .z ?_
 refine .condT rfl rfl ?_
 refine .sr (.assign (.z ?_))
 refine .ret (.thenRet (.thenRet (?_)))
 refine .shutR (bun.opens [pt bp (.cells #[sv path] 9 (0,0)),pt bf (.cells #[.pointer (some ⟨f,0,none⟩)] 29 (0,0)),pt bk (.cells #[nI kind] 3 (0,0))]) () trivial ?_
 exact .ret1 (h1:=.tmp (t:=3) rfl) ⟨_,⟨rfl,rfl⟩,Am.auto⟩
theorem Qm {f:Nat} {p:Pl} {T:FT} {F0:FM} {W0:Nat} {path:ad} {kind d i:Nat} {nm:ad} (ho:PlOk p) (hT:TOk T) (hpl:path.length<=1000000) (hp:path≠[47]) (hpar:ax T path=(d,nm,0)) (hfi:cg T d nm=(i,0)):Spec Tryz.prog 64 #[.pointer (some ⟨f,0,none⟩),sv path,nI kind] [FSB f p F0 T W0] fun F v M=>v=nI 5/\M=FSX f p F0 :: F:=by
 refine Spec.intro Tryz.func64 rfl rfl fun B F=>?_
 simp only [Tryz.ntmps64,List.cons_append,List.nil_append,env0,Nat.reduceAdd]
 refine .openR (FSB.opens f p F0 T W0) fun y _=>?_
 obtain ⟨c,a,s,mp⟩:=y
 simp only [Ep,List.cons_append,List.nil_append]
 refine .sr ?_
 refine .box fun b3=>?_
 refine .box fun b4=>?_
 refine .box fun b5=>?_
 refine .assign (.x ?_)
 refine .ld ?_ sc29
 refine .makeFuncB ?_
 refine .shutR (bun.opens [pt b4 (.cells #[sv path] 9 (0,0)),pt b3 (.cells #[.pointer (some ⟨f,0,none⟩)] 29 (0,0)),pt b5 (.cells #[nI kind] 3 (0,0))]) () trivial ?_
 refine .call (hc:=Tryz.call110) (sp:=Jo (s:=s) (a:=a) (c:=c) (p:=p) (f:=f) (mp:=mp) (T:=T) (S:=T) (F0:=F0) (W0:=W0) (e:=5) (by decide) (hc:=Tryz.call119) (sp:=(My (bp:=b4) (bf:=b3) (bk:=b5) ho hT hpl hp hpar hfi))) (h:=?_)
 rintro _ _ ⟨rfl,rfl⟩
 refine .assign (.z (.ret (?_)))
 refine .shutR (FSX.opens f p F0) (c,a,s,mp,T) trivial ?_
 exact .ret1 (h1:=.tmp (t:=6) rfl) ⟨_,⟨rfl,rfl⟩,Am.auto⟩
theorem Mz {f:Nat} {p:Pl} {T:FT} {F0:FM} {W0:Nat} {path:ad} {d i:Nat} {nm:ad} (ho:PlOk p) (hT:TOk T) (hpl:path.length<=1000000) (hp:path≠[47]) (hpar:ax T path=(d,nm,0)) (hfi:cg T d nm=(i,0)):Spec Tryz.prog 31 #[.pointer (some ⟨f,0,none⟩),sv path] [FSB f p F0 T W0] fun F v M=>v=nI 5/\M=FSX f p F0 :: F:=by
 refine Spec.intro Tryz.func31 rfl rfl fun B F=>?_
 simp only [Tryz.ntmps31,List.cons_append,List.nil_append,env0,Nat.reduceAdd]
 refine .sr (.assign (.x (.move (.move ?_))))
 refine .call (hc:=Tryz.call64) (sp:=Qm (f:=f) (p:=p) (T:=T) (kind:=2) ho hT hpl hp hpar hfi) (h:=?_)
 rintro _ _ ⟨rfl,rfl⟩
 refine .assign (.z (.ret (?_)))
 exact .ret1 (h1:=.tmp (t:=4) rfl) ⟨_,⟨rfl,rfl⟩,Am.auto⟩
theorem M0 {f:Nat} {p:Pl} {T:FT}:Spec Tryz.prog 94 #[.pointer (some ⟨f,0,none⟩)] [FSX f p (fmT T)] fun F v M=>v=okV/\M=FSR f p T :: F:=by
 refine Spec.intro Tryz.func94 rfl rfl fun B F=>?_
 simp only [Tryz.ntmps94,List.cons_append,List.nil_append,env0,Nat.reduceAdd]
 refine .openR (FSX.opens f p (fmT T)) fun y _=>?_
 obtain ⟨c,a,s,mp,S⟩:=y
 simp only [Ql,List.cons_append,List.nil_append]
 refine .sr (.assign (.z (.seq (.sr (.move ?_)))))
 refine .eqNil ?_ s9
 refine .move (.gT (.move (.gT (.nilCheck (.gT ?_)))))
 refine .fa ?_ dv
 refine .gT ?_
 refine .ld ?_ cj
 refine .gT ?_
 refine .eqNil ?_ jf
 refine .pickF (.z ?_)
 refine .condF rfl rfl ?_
 refine .skip (.next (.seq (.sr (.move (.nilCheck ?_)))))
 refine .fa ?_ ii
 refine .ld ?_ sc4
 refine .not ?_
 refine .z ?_
 refine .condF rfl rfl ?_
 refine .skip (.next (.sr (.move (.nilCheck ?_))))
 refine .fa ?_ ii
 refine .st ?_ sc4
 refine .x (.move (.nilCheck ?_))
 refine .fa ?_ dv
 refine .ld ?_ cj
 refine .call (hc:=Tryz.call165) (sp:=Qk (s:=s) (a:=a) (c:=c) (p:=p) (F0:=fmT T)) (h:=?_)
 rintro _ _ ⟨rfl,rfl⟩
 refine .x (.move ?_)
 refine .call (hc:=Tryz.call92) (sp:=ou (f:=f) (s:=s) (a:=a) (c:=c) (mp:=mp) (b:=false) (ov:=false) (dead:=false) (S:=S) (T:=T)) (h:=?_)
 rintro _ _ ⟨rfl,rfl⟩
 refine .x (.assign (.z (.ret (?_))))
 refine .shutR (FSR.opens f p T) (c,a,s,mp) trivial ?_
 exact .ret1 (h1:=.tmp (t:=2) rfl) ⟨_,⟨rfl,rfl⟩,Am.auto⟩
theorem By {f e:Nat} {p:Pl} {T:FT} {X0 X1:HP} {k:FuncId} {cap:Array Value} (he:e≠0) (hc:∀ args w,(callFunc k args).run Tryz.prog w=.ok (.enter k args) w)
  (sp:Spec Tryz.prog k cap [FSB f p (fmT T) T 0,X0] fun F v M=>v=nI e/\M=FSX f p (fmT T) :: X1 :: F):Spec Tryz.prog 41 #[.pointer (some ⟨f,0,none⟩),.func (.func k) #[] cap] [FSR f p T,X0] fun F v M=>v=nI e/\M=FSR f p T :: X1 :: F:=by
 refine Spec.intro Tryz.func41 rfl rfl fun B F=>?_
 simp only [Tryz.ntmps41,List.cons_append,List.nil_append,env0,Nat.reduceAdd]
 have sp':=sp
 rw [show cap=(([]:List Value)).toArray++cap from by simp] at sp'
 refine .openR (FSR.opens f p T) fun y _=>?_
 obtain ⟨c,a,s,mp⟩:=y
 simp only [fsLs,List.cons_append,List.nil_append]
 refine .sr (.assign (.z (.seq (.sr (.move ?_)))))
 refine .call (hc:=Tryz.call89) (sp:=vg (f:=f) (s:=s) (a:=a) (c:=c) (mp:=mp) (b:=false) (ov:=false) (dead:=false)) (h:=?_)
 rintro _ _ ⟨rfl,rfl⟩
 refine .z ?_
 refine .condF rfl rfl ?_
 refine .skip (.next (.seq (.sr (.move (.nilCheck ?_)))))
 refine .fa ?_ ii
 refine .ld ?_ sc4
 refine .z ?_
 refine .shutR (FSR.opens f p T) (c,a,s,mp) trivial ?_
 refine .condF rfl rfl ?_
 refine .skip (.next (.sr (.move ?_)))
 refine .call (hc:=Tryz.call93) (sp:=Ie (f:=f) (p:=p) (T:=T)) (h:=?_)
 rintro _ _ ⟨rfl,rfl⟩
 refine .z (.seq (.sr (.move ?_)))
 refine .callV (hc:=hc) (sp:=sp') (h:=?_)
 rintro _ _ ⟨rfl,rfl⟩
 refine .assign (.x (.move ?_))
 refine .nei ?_
 refine .z ?_
 refine .condT rfl (cB9 (by simp;omega)) ?_
 refine .sr (.move ?_)
 refine .call (hc:=Tryz.call94) (sp:=M0 (f:=f) (p:=p) (T:=T)) (h:=?_)
 rintro _ _ ⟨rfl,rfl⟩
 refine .x (.move (.assign (.z ?_)))
 refine .ret (.thenRet (?_))
 exact .ret1 (h1:=.tmp (t:=4) rfl) ⟨_,⟨rfl,rfl⟩,Am.auto⟩
end Go.Proofs.YtmihjfcbofejoaaGreatDoor
end
section
namespace Go.Proofs.YtmihjfcbofejoaaGreatDoor
open Go
section
variable {P:Program} {B:Base} {n:Fr} {Q:Exit->Act->World->Prop} {e:Env} {L:List HP}
def marksH (Ds:List Nat):HP:=exH (fun _:Unit=>True) (fun _=>Ds.map fun D=>pt D (.deferred (some [])))
theorem marksH.nil :marksH [] (fun _=>none):=exH.opens.of () trivial _ (by unfold star;exact ⟨[],trivial⟩)
variable {fn:Func} {F:List HP} {R:List HP->Value->List HP->Prop}
theorem qf {tmps:Array Value} {S:Ending->World->Prop} {M:List HP}:∀ (Ds:List Nat) (w:World),Sat B w ((Ds.map fun D=>pt D (.deferred (some [])))++M)->(∀ w',Sat B w' M->LeavesInM Fence.wide 0 P fn tmps S [] .returning w')->LeavesInM Fence.wide 0 P fn tmps S (Ds.map uk) .returning w
 | [],w,hs,h=>h w hs
 | D :: Ds,w,hs,h=>⟨by simp,.inl ⟨D,_,rfl,run_takeDeferred (Sat.get hs Mem.here),qf Ds _ (Sat.set hs Repl.here).tail h⟩⟩
theorem WQ.retMs2 {xt:Exit} {Ds:List Nat} {r s:ResultVar} {v u:Value} {L':List HP} (h:∃ M,R F (.tuple #[v,u]) M/\Am L' M) (rm:Rem L (marksH Ds) L') (h1:RV P e L' r v) (h2:RV P e L' s u)
  (hres:fn.results=#[r,s]:=by rfl) (hD:n.ds=Ds.map uk:=by rfl) (hx:(xt=.ret ∨ xt=.normal):=by first | exact .inl rfl | exact .inr rfl) :
  WQ B n (bodyPostM Fence.wide 0 P fn (Post B F R)) xt e L:=by
 obtain ⟨M,hR,hAm⟩:=h
 intro a w ha hs
 obtain ⟨_,_,hs1⟩:=Sat.opens (Sat.front rm hs) exH.opens
 have key:LeavesInM Fence.wide 0 P fn a.tmps (Post B F R) a.defers .returning w:=by
  rw [ha.defers,hD]
  exact qf Ds w hs1 fun w' hs'=>⟨_,B4 hres ha hs' h1 h2,_,M,rfl,hR,hAm.wk B _ hs'⟩
 rcases hx with rfl | rfl<;>exact key
variable {ll D:Nat} {mk:LoopState->Option Code->Loop} {fnn:Nat} {tmps:Array Value}
end
end Go.Proofs.YtmihjfcbofejoaaGreatDoor
end
