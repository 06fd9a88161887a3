/- A part of the proof of lawFsFull: texts of this work put together. -/
import Derived.Test.YtdmjkjeoamiedaaGreatDoorQq5
import Derived.KernelRfl
import Derived.Laws.Concat
set_option linter.unusedVariables false
set_option linter.unusedSimpArgs false
set_option linter.unusedSectionVars false
section
namespace Go.Proofs.YtdmjkjeoamiedaaGreatDoor
open Go
theorem fo159_0:fieldOk Tryz.prog 159 0 0=true:=by kernel_rfl
theorem sc157:scalarOk Tryz.prog 157=true:=by kernel_rfl
abbrev RF (m s:Nat):HP:=pt m (.cells #[.pointer (some ⟨s,0,none⟩),.pointer none,.bool false] 159 (0,0))
theorem partsT_names {path:Bytes} {l:List Bytes} (h:partsT path=some l):∀ x∈l,nameOk x=true:=by
 unfold partsT at h
 split at h
 ·cases h
 ·split at h
  ·split at h
   ·injection h with h;subst h;intro x hx;cases hx
   ·split at h
    ·cases h
    ·split at h
     ·rename_i hall;injection h with h;subst h;exact List.all_eq_true.1 hall
     ·cases h
  ·cases h
theorem walkT_app {T:FT}:∀ (l:List Bytes) (d:Nat) (nm:Bytes),walkT T d (l++[nm])=if (walkT T d l).2=0 then (if (findT T (walkT T d l).1 nm).2=0 then ((findT T (walkT T d l).1 nm).1,0) else (0,(findT T (walkT T d l).1 nm).2)) else (0,(walkT T d l).2)
 | [],d,nm=>by
  show walkT T d [nm]=_
  rw [show walkT T d []=(d,0) from rfl,if_pos rfl]
  rfl
 | x :: r,d,nm=>by
  by_cases h:(findT T d x).2=0
  ·rw [List.cons_append,walkT_step h,walkT_step h,walkT_app r]
  ·rw [List.cons_append,walkT_stop h,walkT_stop h,if_neg h]
def rwalkT (T:FT) (path:Bytes):Int×Int×Bytes×Int:=match partsT path with
 | none=>(0,-1,[],1)
 | some l=>if l=[] then (0,0,[],0) else
  if (walkT T 0 l.dropLast).2=0 then
   (if (findT T (walkT T 0 l.dropLast).1 (l.getLastD [])).2=6 then (0,-1,[],6)
    else if (findT T (walkT T 0 l.dropLast).1 (l.getLastD [])).2=0 then (((walkT T 0 l.dropLast).1:Int),((findT T (walkT T 0 l.dropLast).1 (l.getLastD [])).1:Int),l.getLastD [],0)
    else (((walkT T 0 l.dropLast).1:Int),-1,l.getLastD [],0))
  else (0,-1,[],((walkT T 0 l.dropLast).2:Int))
theorem getLastD_get {l:List Bytes} (h:l≠[]):l.getLastD []=l[l.length - 1]'(by have:=List.length_pos_iff.2 h;omega):=by
 rw [List.getLastD_eq_getLast?,List.getLast?_eq_getElem?,List.getElem?_eq_getElem];rfl
theorem dropLast_last {l:List Bytes} (h:l≠[]):l.dropLast++[l.getLastD []]=l:=by
 rw [getLastD_get h,<-List.getLast_eq_getElem h]
 exact List.dropLast_concat_getLast h
theorem rWalk {m s:Nat} {p:Pl} {T:FT} {os:List (Nat×Obj)} {N:Nat} (hi0:1<=p.ino) (hi1:p.ino<=4096) {path:Bytes} (hT:RT p T) (hpl:path.length<=100000):Spec Tryz.prog 158 #[.pointer (some ⟨m,0,none⟩),sv path] [RF m s,RS s p T os N,frz os] fun F v M=>v=.tuple #[.int .i64 (rwalkT T path).1,.int .i64 (rwalkT T path).2.1,sv (rwalkT T path).2.2.1,.int .i64 (rwalkT T path).2.2.2]/\M=RF m s :: RS s p T os N :: frz os :: F:=by
 refine Spec.intro Tryz.func158 rfl rfl fun B F=>?_
 simp only [Tryz.ntmps158,List.cons_append,List.nil_append,env0,Nat.reduceAdd]
 refine .sr (.assign (.assign (.assign (.assign (.x (.move ?_))))))
 refine .call (hc:=Tryz.call235) (sp:=rNames hpl) (h:=?_)
 rintro _ _ (⟨l,u,hp,rfl,rfl⟩ | ⟨hp,⟨u,rfl⟩,hM⟩)
 rotate_left
 obtain rfl:=hM.symm
 ·have hrw:rwalkT T path=(0,-1,[],1):=by unfold rwalkT;rw [hp]
  refine .move ?_
  refine .extract ?_
  refine .extract ?_
  refine .assign (.assign (.z (.seq (.sr (.move ?_)))))
  refine .not ?_
  refine .z ?_
  refine .condT rfl rfl ?_
  refine .sr (.assign (.assign (.assign (.assign (.z ?_)))))
  refine .ret (.thenRet (?_))
  exact .ret4 (h1:=.tmp (t:=4) rfl) (h2:=.tmp (t:=5) rfl) (h3:=.tmp (t:=6) rfl) (h4:=.tmp (t:=7) rfl) ⟨_,⟨by rw [hrw];try rfl,rfl⟩,Am.auto⟩
 ·refine .fact (rowR_shape (el:=9) (size:=1) (v:=u) (k:=l.length) (xs:=svs l)) (fun ⟨A,cc,hu,hR,hc1,hc2,hlen⟩=>?_)
  subst hu
  have hno:=partsT_names hp
  have hl8:=partsT_len hp
  have hrw0:rwalkT T path=if l=[] then (0,0,[],0) else
    if (walkT T 0 l.dropLast).2=0 then
     (if (findT T (walkT T 0 l.dropLast).1 (l.getLastD [])).2=6 then (0,-1,[],6)
      else if (findT T (walkT T 0 l.dropLast).1 (l.getLastD [])).2=0 then (((walkT T 0 l.dropLast).1:Int),((findT T (walkT T 0 l.dropLast).1 (l.getLastD [])).1:Int),l.getLastD [],0)
      else (((walkT T 0 l.dropLast).1:Int),-1,l.getLastD [],0))
    else (0,-1,[],((walkT T 0 l.dropLast).2:Int)):=by unfold rwalkT;rw [hp]
  by_cases hl0:l=[]
  ·subst hl0
   have hrw:rwalkT T path=(0,0,[],0):=by rw [hrw0,if_pos rfl]
   refine .move ?_
   refine .extract ?_
   refine .extract ?_
   refine .assign (.assign (.z (.seq (.sr (.move ?_)))))
   refine .not ?_
   refine .z ?_
   refine .condF rfl rfl ?_
   refine .skip (.next (.sr (.assign (.z (.seq (.sr (.move ?_)))))))
   refine .lenS ?_ sl92
   refine .eqi ?_
   refine .z ?_
   refine .condT rfl (congrArg Value.bool (by first|simp;done|simp;omega|omega)) ?_
   refine .sr (.assign (.assign (.assign (.assign (.z ?_)))))
   refine .ret (.thenRet (?_))
   exact .ret4 (h1:=.tmp (t:=4) rfl) (h2:=.tmp (t:=5) rfl) (h3:=.tmp (t:=6) rfl) (h4:=.tmp (t:=7) rfl) ⟨_,⟨by rw [hrw];try rfl,rfl⟩,Am.auto⟩
  ·rw [if_neg hl0] at hrw0
   have hlp:0 < l.length:=List.length_pos_iff.2 hl0
   rcases A with _ | ⟨ab,ao,asp⟩
   ·exact absurd (congrArg List.length (show svs l=[] from hR)) (by rw [svs_length];simp only [List.length_nil];omega)
   have hsp:asp=none:=hR.1
   subst hsp
   have hdl:l.dropLast.length=l.length - 1:=List.length_dropLast
   have hnl:∀ k (h:k < l.length),l[k].length<=1000000:=fun k h=>by have:=(nameOk_len (hno _ (List.getElem_mem h))).2;omega
   refine .move ?_
   refine .extract ?_
   refine .extract ?_
   refine .assign (.assign (.z (.seq (.sr (.move ?_)))))
   refine .not ?_
   refine .z ?_
   refine .condF rfl rfl ?_
   refine .skip (.next (.sr (.assign (.z (.seq (.sr (.move ?_)))))))
   refine .lenS ?_ sl92
   refine .eqi ?_
   refine .z ?_
   refine .condF rfl (congrArg Value.bool (by first|simp;done|simp;omega|omega)) ?_
   refine .skip (.next (.seq (.sr (.assign (.z (.block ?_))))))
   refine .loopA (σ:=Nat×Nat) (fun y=>[(0,.pointer (some ⟨m,0,none⟩)),(8,.slice (some ⟨ab,ao,none⟩) l.length cc),(10,nI y.2),(11,.int .i64 ((y.1:Nat):Int))]) (fun _=>[rowR 9 1 (.slice (some ⟨ab,ao,none⟩) l.length cc) l.length (svs l),RF m s,RS s p T os N,frz os]++F) (fun y=>y.1+1<=l.length/\walkT T y.2 (l.dropLast.drop y.1)=walkT T 0 l.dropLast) (fun y=>l.length - y.1) (0,0) ⟨hlp,rfl⟩ ?_
   rintro y hy
   obtain ⟨k,d⟩:=y
   obtain ⟨hk,hwk⟩:=hy
   simp only at hk hwk ⊢
   refine .seq (.sr (.move ?_))
   refine .add ?_
   refine .move ?_
   refine .lenS ?_ sl92
   refine .lss ?_
   refine .z ?_
   refine .cond rfl (fun hb=>?_) (fun hb=>?_)
   ·have hlt:k+1 < l.length:=by have h:(k:Int)+1 < (l.length:Int):=of_decide_eq_true hb;omega
    have hkd:k < l.dropLast.length:=by omega
    have hkl:k < l.length:=by omega
    have hdk:=List.drop_eq_getElem_cons hkd
    rw [List.getElem_dropLast] at hdk
    have hgk:(svs l)[((k:Nat):Int).toNat]?=some (sv (l[k]'hkl)):=svs_get (by omega)
    obtain ⟨i,e,hf⟩:∃ i e,findT T d (l[k]'hkl)=(i,e):=⟨_,_,rfl⟩
    refine .skip (.next (.seq (.block (.seq ?_))))
    refine .dr ([pt m (.cells #[.pointer (some ⟨s,0,none⟩),.pointer none,.bool false] 159 (0,0)),rowR 9 1 (.slice (some ⟨ab,ao,none⟩) l.length cc) l.length (svs l)]) [] 15 mixed .autoJ ?_
    refine .tk 0 rfl .move ?_
    refine .tk 1 rfl .nilCheck ?_
    refine .tk 2 rfl (.fa fo159_0) ?_
    refine .tk 3 rfl (.ld sc157) ?_
    refine .tk 4 rfl .move ?_
    refine .tk 5 rfl .move ?_
    refine .tk 6 rfl .move ?_
    refine .tk 7 rfl (.idx1 so92) ?_
    refine .tk 8 rfl (Qt.ldR (i:=((k:Nat):Int).toNat) sc9 hR hgk) ?_
    refine .on 9 rfl fun hnp=>?_
    refine .call (hc:=Tryz.call236) (sp:=rsFind (s:=s) (p:=p) (T:=T) (os:=os) (N:=N) hi0 hi1 (d:=d) (nm:=l[k]'hkl) hT (hnl k hkl)) (h:=?_)
    rintro _ _ ⟨rfl,rfl⟩
    rw [hf]
    refine .nil (.wa hnp ?_)
    refine .tk 10 rfl .move ?_
    refine .tk 11 rfl .extract ?_
    refine .tk 12 rfl .extract ?_
    refine .tk 13 rfl .assign ?_
    refine .tk 14 rfl .assign ?_
    refine .fin ?_
    by_cases he:e=0
    ·subst he
     refine .next (.seq (.sr (.move ?_)))
     refine .nei ?_
     refine .z ?_
     refine .condF rfl (congrArg Value.bool (by first|simp;done|simp;omega|omega)) ?_
     refine .skip (.next (.region (.move (.assign (.nil (.blockNormal (.next (.region (.move ?_)))))))))
     refine .add ?_
     refine .assign (.nil ?_)
     refine .cast (d:=11) (u:=.int .i64 ((k+1:Nat):Int)) rfl (congrArg (Value.int .i64) (by omega)) ?_
     exact .back (k+1,i) ⟨by show k+1+1<=l.length;omega,by show walkT T i (l.dropLast.drop (k+1))=_;rw [<- hwk,hdk,walkT_step (by rw [hf]),hf]⟩ (by show l.length - (k+1) < l.length - k;omega)
    ·refine .next (.seq (.sr (.move ?_)))
     refine .nei ?_
     refine .z ?_
     refine .condT rfl (congrArg Value.bool (by first|simp;done|simp;omega|omega)) ?_
     refine .sr (.move (.assign (.assign (.assign (.assign (.z ?_))))))
     refine .ret (.thenRet (.blockRet (.thenRet (.thenRet (.blockRet (.thenRet (?_)))))))
     have hst:walkT T 0 l.dropLast=(0,e):=by rw [<- hwk,hdk,walkT_stop (by rw [hf];exact he),hf]
     have hrw:rwalkT T path=(0,-1,[],(e:Int)):=by rw [hrw0,hst,if_neg he]
     exact .ret4 (h1:=.tmp (t:=4) rfl) (h2:=.tmp (t:=5) rfl) (h3:=.tmp (t:=6) rfl) (h4:=.tmp (t:=7) rfl) ⟨_,⟨by rw [hrw];try rfl,rfl⟩,Am.auto⟩
   ·have hge:k+1=l.length:=by have h:¬ (k:Int)+1 < (l.length:Int):=of_decide_eq_false hb;omega
    rw [List.drop_eq_nil_of_le (by omega)] at hwk
    have hwd:walkT T 0 l.dropLast=(d,0):=by rw [<- hwk];rfl
    rw [hwd,if_pos rfl] at hrw0
    obtain ⟨nm,hnm⟩:∃ nm,l.getLastD []=nm:=⟨_,rfl⟩
    have hgl:(svs l)[((l.length:Int) - 1).toNat]?=some (sv nm):=by
     rw [show ((l.length:Int) - 1).toNat=l.length - 1 from by omega,<-hnm,getLastD_get hl0]
     exact svs_get (by omega)
    have hnml:nm.length<=1000000:=by rw [<- hnm,getLastD_get hl0];exact hnl _ _
    rw [hnm] at hrw0
    obtain ⟨i,e,hf⟩:∃ i e,findT T d nm=(i,e):=⟨_,_,rfl⟩
    rw [hf] at hrw0
    refine .exit (.thenExit (.thenExit (.blockExit (?_))))
    refine .next (.seq ?_)
    refine .dr ([pt m (.cells #[.pointer (some ⟨s,0,none⟩),.pointer none,.bool false] 159 (0,0)),rowR 9 1 (.slice (some ⟨ab,ao,none⟩) l.length cc) l.length (svs l)]) [] 17 mixed .autoJ ?_
    refine .tk 0 rfl .move ?_
    refine .tk 1 rfl .nilCheck ?_
    refine .tk 2 rfl (.fa fo159_0) ?_
    refine .tk 3 rfl (.ld sc157) ?_
    refine .tk 4 rfl .move ?_
    refine .tk 5 rfl .move ?_
    refine .tk 6 rfl .move ?_
    refine .tk 7 rfl (.lenS sl92) ?_
    refine .tk 8 rfl .sub ?_
    refine .tk 9 rfl (.idx1 so92) ?_
    refine .tk 10 rfl (Qt.ldR (i:=((l.length:Int) - 1).toNat) sc9 hR hgl) ?_
    refine .on 11 rfl fun hnp=>?_
    refine .call (hc:=Tryz.call236) (sp:=rsFind (s:=s) (p:=p) (T:=T) (os:=os) (N:=N) hi0 hi1 (d:=d) (nm:=nm) hT hnml) (h:=?_)
    rintro _ _ ⟨rfl,rfl⟩
    rw [hf]
    refine .nil (.wa hnp ?_)
    refine .tk 12 rfl .move ?_
    refine .tk 13 rfl .extract ?_
    refine .tk 14 rfl .extract ?_
    refine .tk 15 rfl .assign ?_
    refine .tk 16 rfl .assign ?_
    refine .fin ?_
    by_cases h6:e=6
    ·subst h6
     have hrw:rwalkT T path=(0,-1,[],6):=by rw [hrw0];rfl
     refine .next (.seq (.sr (.move ?_)))
     refine .eqi ?_
     refine .z ?_
     refine .condT rfl (congrArg Value.bool (by first|simp;done|simp;omega|omega)) ?_
     refine .sr (.assign (.assign (.assign (.assign (.z ?_)))))
     refine .ret (.thenRet (?_))
     exact .ret4 (h1:=.tmp (t:=4) rfl) (h2:=.tmp (t:=5) rfl) (h3:=.tmp (t:=6) rfl) (h4:=.tmp (t:=7) rfl) ⟨_,⟨by rw [hrw];try rfl,rfl⟩,Am.auto⟩
    ·by_cases h0:e=0
     ·subst h0
      have hrw:rwalkT T path=((d:Int),(i:Int),nm,0):=by rw [hrw0];rfl
      refine .next (.seq (.sr (.move ?_)))
      refine .eqi ?_
      refine .z ?_
      refine .condF rfl (congrArg Value.bool (by first|simp;done|simp;omega|omega)) ?_
      refine .skip (.next (.seq (.sr (.move ?_))))
      refine .nei ?_
      refine .z ?_
      refine .condF rfl (congrArg Value.bool (by first|simp;done|simp;omega|omega)) ?_
      refine .skip (.next (.seq ?_))
      refine .dr ([rowR 9 1 (.slice (some ⟨ab,ao,none⟩) l.length cc) l.length (svs l)]) [] 12 mixed .autoJ ?_
      refine .tk 0 rfl .move ?_
      refine .tk 1 rfl .move ?_
      refine .tk 2 rfl .move ?_
      refine .tk 3 rfl .move ?_
      refine .tk 4 rfl (.lenS sl92) ?_
      refine .tk 5 rfl .sub ?_
      refine .tk 6 rfl (.idx1 so92) ?_
      refine .tk 7 rfl (Qt.ldR (i:=((l.length:Int) - 1).toNat) sc9 hR hgl) ?_
      refine .tk 8 rfl .assign ?_
      refine .tk 9 rfl .assign ?_
      refine .tk 10 rfl .assign ?_
      refine .tk 11 rfl .assign ?_
      refine .fin ?_
      refine .next ?_
      refine .ret (?_)
      exact .ret4 (h1:=.tmp (t:=4) rfl) (h2:=.tmp (t:=5) rfl) (h3:=.tmp (t:=6) rfl) (h4:=.tmp (t:=7) rfl) ⟨_,⟨by rw [hrw];try rfl,rfl⟩,Am.auto⟩
     ·have hrw:rwalkT T path=((d:Int),-1,nm,0):=by rw [hrw0,if_neg h6,if_neg h0]
      refine .next (.seq (.sr (.move ?_)))
      refine .eqi ?_
      refine .z ?_
      refine .condF rfl (congrArg Value.bool (by first|simp;done|simp;omega|omega)) ?_
      refine .skip (.next (.seq (.sr (.move ?_))))
      refine .nei ?_
      refine .z ?_
      refine .condT rfl (congrArg Value.bool (by first|simp;done|simp;omega|omega)) ?_
      refine .seq ?_
      refine .dr ([rowR 9 1 (.slice (some ⟨ab,ao,none⟩) l.length cc) l.length (svs l)]) [] 11 mixed .autoJ ?_
      refine .tk 0 rfl .move ?_
      refine .tk 1 rfl .move ?_
      refine .tk 2 rfl .move ?_
      refine .tk 3 rfl (.lenS sl92) ?_
      refine .tk 4 rfl .sub ?_
      refine .tk 5 rfl (.idx1 so92) ?_
      refine .tk 6 rfl (Qt.ldR (i:=((l.length:Int) - 1).toNat) sc9 hR hgl) ?_
      refine .tk 7 rfl .assign ?_
      refine .tk 8 rfl .assign ?_
      refine .tk 9 rfl .assign ?_
      refine .tk 10 rfl .assign ?_
      refine .fin ?_
      refine .next ?_
      refine .ret (.thenRet (?_))
      exact .ret4 (h1:=.tmp (t:=4) rfl) (h2:=.tmp (t:=5) rfl) (h3:=.tmp (t:=6) rfl) (h4:=.tmp (t:=7) rfl) ⟨_,⟨by rw [hrw];try rfl,rfl⟩,Am.auto⟩
def leadW (T:FT) (path:Bytes):Nat×Nat:=match partsT path with
 | none=>(0,1)
 | some l=>walkT T 0 l
theorem findT_46 {T:FT} {d:Nat} {nm:Bytes} (hn:nameOk nm=true):(findT T d nm).2=0 ∨ (findT T d nm).2=4 ∨ (findT T d nm).2=6:=by
 unfold findT
 rw [if_pos hn]
 split
 ·exact .inr (.inl rfl)
 ·exact .inr (.inr rfl)
 ·split
  ·exact .inl rfl
  ·exact .inr (.inl rfl)
theorem rwalk_e (T:FT) (path:Bytes):0<=(rwalkT T path).2.2.2:=by
 unfold rwalkT
 split
 ·decide
 ·split
  ·decide
  ·split
   ·split
    ·decide
    ·split<;>exact Int.le_refl 0
   ·exact Int.natCast_nonneg _
theorem leadW_rw (T:FT) (path:Bytes):leadW T path=if (rwalkT T path).2.2.2=0 then (if (rwalkT T path).2.1 < 0 then (0,4) else ((rwalkT T path).2.1.toNat,0)) else (0,(rwalkT T path).2.2.2.toNat):=by
 unfold leadW rwalkT
 cases hp:partsT path with
 | none=>rfl
 | some l =>
  simp only
  by_cases hl:l=[]
  ·subst hl;rfl
  ·rw [if_neg hl]
   have hla:=walkT_app (T:=T) l.dropLast 0 (l.getLastD [])
   rw [dropLast_last hl] at hla
   have hno:nameOk (l.getLastD [])=true:=partsT_names hp _ (by rw [getLastD_get hl];exact List.getElem_mem _)
   obtain ⟨d,e,hw⟩:∃ d e,walkT T 0 l.dropLast=(d,e):=⟨_,_,rfl⟩
   rw [hw] at hla ⊢
   simp only at hla ⊢
   by_cases he:e=0
   ·subst he
    rw [if_pos rfl] at hla ⊢
    have h46:=findT_46 (T:=T) (d:=d) hno
    obtain ⟨i,e2,hf⟩:∃ i e2,findT T d (l.getLastD [])=(i,e2):=⟨_,_,rfl⟩
    rw [hf] at hla h46 ⊢
    simp only at hla h46 ⊢
    rcases h46 with rfl | rfl | rfl
    ·rw [hla];simp
    ·rw [hla];rfl
    ·rw [hla];rfl
   ·rw [if_neg he] at hla ⊢
    rw [hla]
    simp only
    rw [if_neg (by omega)]
    rfl
theorem leadsT_W (T:FT) (path:Bytes):leadsT T path=if (leadW T path).2=0 then (match T (leadW T path).1 with
  | some x=>((leadW T path).1,x.kind,x.size,0)
  | none=>((leadW T path).1,0,0,4)) else (0,0,0,(leadW T path).2):=by
 unfold leadsT leadW
 cases partsT path<;>rfl
theorem bdSt0:BuildOk Tryz.prog 51 [] #[.int .i64 0,.int .i64 0]:=fun w=>by kernel_rfl
theorem rLead {m s:Nat} {p:Pl} {T:FT} {os:List (Nat×Obj)} {N:Nat} (hi0:1<=p.ino) (hi1:p.ino<=4096) {path:Bytes} (hT:RT p T) (hpl:path.length<=100000):Spec Tryz.prog 84 #[.pointer (some ⟨m,0,none⟩),sv path] [RF m s,RS s p T os N,frz os] fun F v M=>v=.tuple #[nI (leadW T path).1,nI (leadW T path).2]/\M=RF m s :: RS s p T os N :: frz os :: F:=by
 refine Spec.intro Tryz.func84 rfl rfl fun B F=>?_
 simp only [Tryz.ntmps84,List.cons_append,List.nil_append,env0,Nat.reduceAdd]
 refine .sr (.assign (.assign (.x (.move (.move ?_)))))
 refine .call (hc:=Tryz.call158) (sp:=rWalk (m:=m) (s:=s) (p:=p) (T:=T) (os:=os) (N:=N) hi0 hi1 (path:=path) hT hpl) (h:=?_)
 rintro _ _ ⟨rfl,rfl⟩
 obtain ⟨⟨d,i,nm,e⟩,hw⟩:∃ r,rwalkT T path=r:=⟨_,rfl⟩
 have hlw:=leadW_rw T path
 rw [hw] at hlw ⊢
 simp only at hlw ⊢
 refine .move ?_
 refine .extract ?_
 refine .extract ?_
 refine .extract ?_
 refine .extract ?_
 refine .assign (.assign (.assign (.assign (.z (.seq (.sr ?_))))))
 by_cases he:e=0
 ·rw [if_pos he] at hlw
  by_cases hi:i < 0
  ·rw [if_pos hi] at hlw
   rw [hlw]
   refine .move ?_
   refine .nei ?_
   refine .z ?_
   refine .condF rfl (congrArg Value.bool (by first|simp;done|simp;omega|omega)) ?_
   refine .skip (.next (.seq (.sr (.move ?_))))
   refine .lss ?_
   refine .z ?_
   refine .condT rfl (congrArg Value.bool (by first|simp;done|simp;omega|omega)) ?_
   refine .sr (.assign (.assign (.z ?_)))
   refine .ret (.thenRet (?_))
   exact .ret2 (h1:=.tmp (t:=4) rfl) (h2:=.tmp (t:=5) rfl) ⟨_,⟨rfl,rfl⟩,Am.auto⟩
  ·rw [if_neg hi] at hlw
   have hin:((i.toNat:Nat):Int)=i:=by omega
   refine .move ?_
   refine .nei ?_
   refine .z ?_
   refine .condF rfl (congrArg Value.bool (by first|simp;done|simp;omega|omega)) ?_
   refine .skip (.next (.seq (.sr (.move ?_))))
   refine .lss ?_
   refine .z ?_
   refine .condF rfl (congrArg Value.bool (by first|simp;done|simp;omega|omega)) ?_
   refine .skip (.next (.sr (.move (.assign (.assign (.z ?_))))))
   refine .ret (?_)
   exact .ret2 (h1:=.tmp (t:=4) rfl) (h2:=.tmp (t:=5) rfl) ⟨_,⟨by rw [hlw,show nI i.toNat=.int .i64 i from congrArg (Value.int .i64) hin];try rfl,rfl⟩,Am.auto⟩
 ·rw [if_neg he] at hlw
  have hen:((e.toNat:Nat):Int)=e:=by have:=rwalk_e T path;rw [hw] at this;exact Int.toNat_of_nonneg this
  refine .move ?_
  refine .nei ?_
  refine .z ?_
  refine .condT rfl (congrArg Value.bool (by first|simp;done|simp;omega|omega)) ?_
  refine .sr (.move (.assign (.assign (.z ?_))))
  refine .ret (.thenRet (?_))
  exact .ret2 (h1:=.tmp (t:=4) rfl) (h2:=.tmp (t:=5) rfl) ⟨_,⟨by rw [hlw,show nI e.toNat=.int .i64 e from congrArg (Value.int .i64) hen];try rfl,rfl⟩,Am.auto⟩
theorem rStat {m s:Nat} {p:Pl} {T:FT} {os:List (Nat×Obj)} {N:Nat} (hi0:1<=p.ino) (hi1:p.ino<=4096) {path:Bytes} (hT:RT p T) (hpl:path.length<=100000):Spec Tryz.prog 33 #[.pointer (some ⟨m,0,none⟩),sv path] [RF m s,RS s p T os N,frz os] fun F v M=>v=.tuple #[.agg #[nI (leadsT T path).2.1,nI (leadsT T path).2.2.1],nI (leadsT T path).2.2.2]/\M=RF m s :: RS s p T os N :: frz os :: F:=by
 refine Spec.intro Tryz.func33 rfl rfl fun B F=>?_
 simp only [Tryz.ntmps33,List.cons_append,List.nil_append,env0,Nat.reduceAdd]
 obtain ⟨i,e,hw⟩:∃ i e,leadW T path=(i,e):=⟨_,_,rfl⟩
 have hlt:=leadsT_W T path
 rw [hw] at hlt
 simp only at hlt
 by_cases he:e=0
 ·subst he
  rw [if_pos rfl] at hlt
  cases hTi:T i with
  | none =>
   simp only [hTi] at hlt
   refine .sr ?_
   refine .alloc z51 fun b4=>?_
   refine .assign (.x (.move (.move ?_)))
   refine .call (hc:=Tryz.call84) (sp:=rLead (m:=m) (s:=s) (p:=p) (T:=T) (os:=os) (N:=N) hi0 hi1 (path:=path) hT hpl) (h:=?_)
   rintro _ _ ⟨rfl,rfl⟩
   rw [hw]
   refine .move ?_
   refine .extract ?_
   refine .extract ?_
   refine .assign (.assign (.z (.seq (.sr (.move ?_)))))
   refine .nei ?_
   refine .z ?_
   refine .condF rfl (congrArg Value.bool (by first|simp;done|simp;omega|omega)) ?_
   refine .skip (.next (.sr (.move ?_)))
   refine .nilCheck ?_
   refine .fa ?_ fo159_0
   refine .ld ?_ sc157
   refine .move ?_
   refine .call (hc:=Tryz.call85) (sp:=rsStatNo (s:=s) (p:=p) (T:=T) (os:=os) (N:=N) hi0 hi1 (i:=i) hT hTi) (h:=?_)
   rintro _ _ ⟨rfl,rfl⟩
   refine .extract ?_
   refine .extract ?_
   refine .stV ?_ agg51
   refine .assign (.z ?_)
   refine .ret (?_)
   exact .ret2 (h2:=.tmp (t:=5) rfl) ⟨_,⟨by rw [hlt];try rfl,rfl⟩,Am.auto⟩
  | some x =>
   simp only [hTi] at hlt
   refine .sr ?_
   refine .alloc z51 fun b4=>?_
   refine .assign (.x (.move (.move ?_)))
   refine .call (hc:=Tryz.call84) (sp:=rLead (m:=m) (s:=s) (p:=p) (T:=T) (os:=os) (N:=N) hi0 hi1 (path:=path) hT hpl) (h:=?_)
   rintro _ _ ⟨rfl,rfl⟩
   rw [hw]
   refine .move ?_
   refine .extract ?_
   refine .extract ?_
   refine .assign (.assign (.z (.seq (.sr (.move ?_)))))
   refine .nei ?_
   refine .z ?_
   refine .condF rfl (congrArg Value.bool (by first|simp;done|simp;omega|omega)) ?_
   refine .skip (.next (.sr (.move ?_)))
   refine .nilCheck ?_
   refine .fa ?_ fo159_0
   refine .ld ?_ sc157
   refine .move ?_
   refine .call (hc:=Tryz.call85) (sp:=rsStat (s:=s) (p:=p) (T:=T) (os:=os) (N:=N) hi0 hi1 (i:=i) (x:=x) hT hTi) (h:=?_)
   rintro _ _ ⟨rfl,rfl⟩
   refine .extract ?_
   refine .extract ?_
   refine .stV ?_ agg51
   refine .assign (.z ?_)
   refine .ret (?_)
   exact .ret2 (h2:=.tmp (t:=5) rfl) ⟨_,⟨by rw [hlt];try rfl,rfl⟩,Am.auto⟩
 ·rw [if_neg he] at hlt
  refine .sr ?_
  refine .alloc z51 fun b4=>?_
  refine .assign (.x (.move (.move ?_)))
  refine .call (hc:=Tryz.call84) (sp:=rLead (m:=m) (s:=s) (p:=p) (T:=T) (os:=os) (N:=N) hi0 hi1 (path:=path) hT hpl) (h:=?_)
  rintro _ _ ⟨rfl,rfl⟩
  rw [hw]
  refine .move ?_
  refine .extract ?_
  refine .extract ?_
  refine .assign (.assign (.z (.seq (.sr (.move ?_)))))
  refine .nei ?_
  refine .z ?_
  refine .condT rfl (congrArg Value.bool (by first|simp;done|simp;omega|omega)) ?_
  refine .sr ?_
  refine .build ?_ bdSt0
  refine .move ?_
  refine .stV ?_ agg51
  refine .assign (.z ?_)
  refine .ret (.thenRet (?_))
  exact .ret2 (h2:=.tmp (t:=5) rfl) ⟨_,⟨by rw [hlt];try rfl,rfl⟩,Am.auto⟩
theorem fo159_2:fieldOk Tryz.prog 159 2 2=true:=by kernel_rfl
theorem rwalk_par {T:FT} {path nm:Bytes} {d:Nat} (hpar:parentT T path=(d,nm,0)) (hfi:findT T d nm=(0,4)):rwalkT T path=((d:Int),-1,nm,0):=by
 unfold parentT at hpar
 unfold rwalkT
 cases hp:partsT path with
 | none=>rw [hp] at hpar;cases hpar
 | some l =>
  rw [hp] at hpar
  simp only at hpar ⊢
  by_cases hl:l=[]
  ·rw [if_pos hl] at hpar;cases hpar
  ·rw [if_neg hl] at hpar ⊢
   by_cases hw:(walkT T 0 l.dropLast).2=0
   ·rw [if_pos hw] at hpar ⊢
    split at hpar
    ·injection hpar with e1 e2
     injection e2 with e2 _
     rw [e1,e2,hfi];rfl
    ·cases hpar
   ·rw [if_neg hw] at hpar
    injection hpar with _ e2
    injection e2 with _ e3
    exact absurd e3 hw
theorem empty_rok {x:NodeT} (h:x.empty):x.rok/\x.r=[]:=by
 cases x with
 | file b=>cases h;exact ⟨trivial,rfl⟩
 | dir sl=>cases h;exact ⟨⟨⟨DirOk.nil,Nat.zero_le _⟩,fun q nm i h=>by cases h⟩,rfl⟩
theorem rOne {m s:Nat} {p:Pl} {T:FT} {os:List (Nat×Obj)} {N:Nat} (hi0:1<=p.ino) (hi1:p.ino<=4096):Spec Tryz.prog 119 #[.pointer (some ⟨m,0,none⟩)] [RF m s,RS s p T os N] fun F v M=>∃ s2,v=.pointer (some ⟨s2,0,none⟩)/\M=RF m s :: RS s p T os 0 :: RS s2 p T os 0 :: F:=by
 refine Spec.intro Tryz.func119 rfl rfl fun B F=>?_
 simp only [Tryz.ntmps119,List.cons_append,List.nil_append,env0,Nat.reduceAdd]
 refine .sr (.assign (.z (.seq (.sr (.move ?_)))))
 refine .nilCheck ?_
 refine .fa ?_ fo159_2
 refine .ld ?_ sc4
 refine .not ?_
 refine .z ?_
 refine .condT rfl rfl ?_
 refine .region (.move ?_)
 refine .nilCheck ?_
 refine .fa ?_ fo159_0
 refine .ld ?_ sc157
 refine .call (hc:=Tryz.call193) (sp:=rsBegin0 (s:=s) (p:=p) (T:=T) (os:=os) (N:=N) hi0 hi1) (h:=?_)
 rintro _ _ ⟨rfl,rfl⟩
 refine .x (.move ?_)
 refine .nilCheck ?_
 refine .fa ?_ fo159_0
 refine .ld ?_ sc157
 refine .call (hc:=Tryz.call194) (sp:=rsCopy (s:=s) (p:=p) (T:=T) (os:=os) (N:=0) hi0 hi1 (by decide)) (h:=?_)
 rintro _ _ ⟨s2,rfl,rfl⟩
 refine .assign (.z ?_)
 refine .ret (?_)
 exact .ret1 (h1:=.tmp (t:=2) rfl) ⟨_,⟨s2,rfl,rfl⟩,Am.auto⟩
theorem rEndOk {x y:Value}:Spec Tryz.prog 120 #[x,y,.int .i64 0] [] fun F v M=>v=.int .i64 0/\M=F:=by
 refine Spec.intro Tryz.func120 rfl rfl fun B F=>?_
 simp only [Tryz.ntmps120,List.cons_append,List.nil_append,env0,Nat.reduceAdd]
 refine .sr (.assign (.z (.seq (.sr (.move ?_)))))
 refine .nei ?_
 refine .z ?_
 refine .condF rfl (congrArg Value.bool (by first|simp;done|simp;omega|omega)) ?_
 refine .skip (.next (.sr (.move (.assign (.z ?_)))))
 refine .ret (?_)
 exact .ret1 (h1:=.tmp (t:=6) rfl) ⟨_,⟨rfl,rfl⟩,Am.auto⟩
theorem rMake {m s:Nat} {p:Pl} {T:FT} {os:List (Nat×Obj)} {N:Nat} (hi0:1<=p.ino) (hi1:p.ino<=4096) {path:Bytes} {kind d i:Nat} {nm:Bytes} {sl:List Slot} {x:NodeT} (hdc:p.dc<=1000000) (hT:RT p T) (htot:tot (fmT T) p.ino<=p.dc) (hpl:path.length<=100000) (hpar:parentT T path=(d,nm,0)) (hfi:findT T d nm=(0,4)) (hd:T d=some (.dir sl)) (hi:i < p.ino) (hTi:T i=none) (hb:∀ j < i,T j≠none) (hx:x.empty) (hk:x.kind=kind) (hfit:tot (fmT T) p.ino+has (max (64 * sl.length) (64 * freeS sl+64))<=p.dc+has (64 * sl.length)):Spec Tryz.prog 83 #[.pointer (some ⟨m,0,none⟩),sv path,nI kind] [RF m s,RS s p T os N,frz os] fun F v M=>v=.int .i64 0/\∃ os2,(∀ e∈os,e∈os2)/\M=RF m s :: RS s p (mkT T d sl nm i x) os2 (0+0+1+(has 64+2)+1) :: frz os2 :: F:=by
 refine Spec.intro Tryz.func83 rfl rfl fun B F=>?_
 simp only [Tryz.ntmps83,List.cons_append,List.nil_append,env0,Nat.reduceAdd]
 have hrw:=rwalk_par hpar hfi
 obtain ⟨hxo,hxr⟩:=empty_rok hx
 have hlk:=findT_no (by rw [hfi]) hd
 have hne:d≠i:=fun h=>by rw [h,hTi] at hd;cases hd
 have hk12:kind=1 ∨ kind=2:=by rw [<- hk];cases x with | file b=>exact .inl rfl | dir sl=>exact .inr rfl
 have hT1:RT p (updT T i (some x)):=hT.upd hi hxo
 have hd1:updT T i (some x) d=some (.dir sl):=by rw [updT_other _ _ hne];exact hd
 have htt:tot (fmT (updT T i (some x))) p.ino=tot (fmT T) p.ino:=by
  have h:=tot_upd' (fmT T) hi (some x.f)
  rw [fmT_updS,fmT_none hTi] at h
  have h1:hasO none=0:=rfl
  have h2:hasO (some x.f)=0:=by show has x.f.2.length=0;rw [x.f_size,<-x.r_length,hxr];rfl
  omega
 have h64:has 64=1:=rfl
 refine .sr (.assign (.x (.move (.move ?_))))
 refine .call (hc:=Tryz.call158) (sp:=rWalk (m:=m) (s:=s) (p:=p) (T:=T) (os:=os) (N:=N) hi0 hi1 (path:=path) hT hpl) (h:=?_)
 rintro _ _ ⟨rfl,rfl⟩
 rw [hrw]
 refine .move ?_
 refine .extract ?_
 refine .extract ?_
 refine .extract ?_
 refine .extract ?_
 refine .assign (.assign (.assign (.assign (.z (.seq (.sr (.move ?_)))))))
 refine .nei ?_
 refine .z ?_
 refine .condF rfl (congrArg Value.bool (by first|simp;done|simp;omega|omega)) ?_
 refine .skip (.next (.seq (.sr (.move ?_))))
 refine .geq ?_
 refine .z ?_
 refine .condF rfl (congrArg Value.bool (by first|simp;done|simp;omega|omega)) ?_
 refine .skip (.next (.sr (.move ?_)))
 refine .call (hc:=Tryz.call119) (sp:=rOne (m:=m) (s:=s) (p:=p) (T:=T) (os:=os) (N:=N) hi0 hi1) (h:=?_)
 rintro _ _ ⟨s2,rfl,rfl⟩
 refine .assign (.x (.move ?_))
 refine .nilCheck ?_
 refine .fa ?_ fo159_0
 refine .ld ?_ sc157
 refine .move ?_
 refine .call (hc:=Tryz.call159) (sp:=rsMake (s:=s) (p:=p) (T:=T) (os:=os) (N:=0) hi0 hi1 (i:=i) (kind:=kind) (x:=x) hk12 hi hTi hb hk hxr (by decide)) (h:=?_)
 rintro _ _ ⟨rfl,rfl⟩
 refine .move ?_
 refine .extract ?_
 refine .extract ?_
 refine .assign (.assign (.z (.seq (.sr (.move ?_)))))
 refine .eqi ?_
 refine .z ?_
 refine .condT rfl (congrArg Value.bool (by first|simp;done|simp;omega|omega)) ?_
 refine .region (.move ?_)
 refine .nilCheck ?_
 refine .fa ?_ fo159_0
 refine .ld ?_ sc157
 refine .move (.move (.move ?_))
 refine .call (hc:=Tryz.call160) (sp:=rsAdd (s:=s) (p:=p) (T:=updT T i (some x)) (os:=os) (N:=0+0+1) hi0 hi1 (d:=d) (i:=i) (nm:=nm) (sl:=sl) hdc hT1 (by rw [htt];exact htot) hlk.1 hd1 hlk.2 (by omega) (by decide) (by rw [htt];exact hfit)) (h:=?_)
 rintro _ _ ⟨rfl,os2,hsub,rfl⟩
 refine .assign (.x (.move (.move (.move ?_))))
 refine .call (hc:=Tryz.call120) (sp:=rEndOk) (h:=?_)
 rintro _ _ ⟨rfl,hM⟩
 obtain rfl:=hM.symm
 refine .assign (.z ?_)
 refine .ret (?_)
 exact .ret1 (h1:=.tmp (t:=6) rfl) ⟨_,⟨rfl,os2,hsub,rfl⟩,Am.auto⟩
theorem rCreate {m s:Nat} {p:Pl} {T:FT} {os:List (Nat×Obj)} {N:Nat} (hi0:1<=p.ino) (hi1:p.ino<=4096) {path:Bytes} {d i:Nat} {nm:Bytes} {sl:List Slot} {x:NodeT} (hdc:p.dc<=1000000) (hT:RT p T) (htot:tot (fmT T) p.ino<=p.dc) (hpl:path.length<=100000) (hpar:parentT T path=(d,nm,0)) (hfi:findT T d nm=(0,4)) (hd:T d=some (.dir sl)) (hi:i < p.ino) (hTi:T i=none) (hb:∀ j < i,T j≠none) (hx:x.empty) (hk:x.kind=1) (hfit:tot (fmT T) p.ino+has (max (64 * sl.length) (64 * freeS sl+64))<=p.dc+has (64 * sl.length)):Spec Tryz.prog 30 #[.pointer (some ⟨m,0,none⟩),sv path] [RF m s,RS s p T os N,frz os] fun F v M=>v=.int .i64 0/\∃ os2,(∀ e∈os,e∈os2)/\M=RF m s :: RS s p (mkT T d sl nm i x) os2 (0+0+1+(has 64+2)+1) :: frz os2 :: F:=by
 refine Spec.intro Tryz.func30 rfl rfl fun B F=>?_
 simp only [Tryz.ntmps30,List.cons_append,List.nil_append,env0,Nat.reduceAdd]
 refine .sr (.assign (.x (.move (.move ?_))))
 refine .call (hc:=Tryz.call83) (sp:=rMake (m:=m) (s:=s) (p:=p) (T:=T) (os:=os) (N:=N) hi0 hi1 (kind:=1) hdc hT htot hpl hpar hfi hd hi hTi hb hx hk hfit) (h:=?_)
 rintro _ _ ⟨rfl,os2,hsub,rfl⟩
 refine .assign (.z ?_)
 refine .ret (?_)
 exact .ret1 (h1:=.tmp (t:=4) rfl) ⟨_,⟨rfl,os2,hsub,rfl⟩,Am.auto⟩
def pD (n ino:Nat):Pl:=⟨n,ino,246,247,248,248+(ino+7) / 8,n - (248+(ino+7) / 8)⟩
theorem pD_is {n ino:Nat} (h1:1<=ino) (h2:ino<=4096) (hn:249+(ino+7) / 8<=n) (hn2:n<=4000):PlIs (pD n ino):=by
 refine ⟨?_,?_,?_,?_,?_,?_,?_,?_,?_,?_,?_⟩
 all_goals (simp only [pD];try first | omega | (left;omega))
theorem tot_rootT (n:Nat):tot (fmT rootT) n=0:=by rw [fmT_root];exact tot_root n
theorem has_64:has 64=1:=rfl
theorem bdSto (a b c d e f h:Int) (A:Option Addr) (k cc:Nat):BuildOk Tryz.prog 247 [(0,.agg #[.int .i64 a,.int .i64 b,.int .i64 c,.int .i64 d,.int .i64 e,.int .i64 f,.int .i64 h]),(1,.slice A k cc)] #[.int .i64 a,.int .i64 b,.int .i64 c,.int .i64 d,.int .i64 e,.int .i64 f,.int .i64 h,.slice A k cc,.int .i64 0,.slice none 0 0]:=fun w=>by kernel_rfl
theorem bdRF (s:Nat):BuildOk Tryz.prog 159 [(0,.pointer (some ⟨s,0,none⟩))] #[.pointer (some ⟨s,0,none⟩),.pointer none,.bool false]:=fun w=>by kernel_rfl
theorem flat_pos {k:Nat} (h:1<=k):0 < ((List.replicate k [Value.int .i64 0,.slice none 0 0]).flatten).length:=by
 obtain ⟨j,rfl⟩:∃ j,k=j+1:=⟨k - 1,by omega⟩
 rw [List.replicate_succ,List.flatten_cons,List.length_append]
 exact Nat.lt_of_lt_of_le (by decide:0 < [Value.int .i64 0,Value.slice none 0 0].length) (Nat.le_add_right _ _)
theorem refStore0 {p:Pl} (h1:1<=p.ino) (h2:p.ino<=4096):Spec Tryz.prog 117 #[.agg p.cells] [] fun F v M=>∃ s,v=.pointer (some ⟨s,0,none⟩)/\M=F:=by
 refine Spec.intro Tryz.func117 rfl rfl fun B F=>?_
 simp only [Tryz.ntmps117,List.cons_append,List.nil_append,env0,Nat.reduceAdd]
 refine .sr ?_
 refine .box fun b1=>?_
 refine .to (A:=pt b1 (.cells p.cells 199 (0,0))) (A':=pt b1 (.cells p.cells 199 (0,0))) (fun h hh=>hh) ?_
 refine .assign (.z (.seq ?_))
 refine .dr ([pt b1 (.cells p.cells 199 (0,0))]) [] 7 mixed .autoJ ?_
 refine .tk 0 rfl (.ldA agg199) ?_
 refine .tk 1 rfl (.fa fo199_1) ?_
 refine .tk 2 rfl (.ld sc3) ?_
 refine .on 3 rfl fun hnp=>?_
 refine .mkSt (k:=p.ino) (zs:=[.int .i64 0,.slice none 0 0]) z244 rfl (by decide) (fun b7=>?_) so245 (by omega) (by omega)
 refine .nil (.wa hnp ?_)
 refine .tk 4 rfl (.build (bdSto _ _ _ _ _ _ _ _ _ _)) ?_
 refine .on 5 rfl fun hnp=>?_
 refine .box fun b9=>?_
 refine .nil (.wa hnp ?_)
 refine .tk 6 rfl .assign ?_
 refine .fin ?_
 refine .next (.sr (.move ?_))
 refine .nilCheck ?_
 refine .fa ?_ fo247_1
 refine .ld ?_ sc245
 refine .idx ?_ so245
 refine .fa ?_ fo244_0
 refine .stL (xs:=(List.replicate p.ino [Value.int .i64 0,.slice none 0 0]).flatten) (i:=0) ?_ sc3 (flat_pos h1)
 refine .x (.move (.assign (.z ?_)))
 refine .ret (?_)
 exact .ret1 (h1:=.tmp (t:=2) rfl) ⟨_,⟨b9,rfl,rfl⟩,Am.auto⟩
theorem refMakeOk {p:Pl} (h:PlIs p):Spec Tryz.prog 116 #[nI p.n,nI p.ino] [] fun F v M=>v=.tuple #[.agg p.cells,.int .i64 0]/\M=F:=by
 have h2:=h.bm;have h3:=h.m1;have h4:=h.da;have h5:=h.dc;have h8:=h.n2;have h9:=h.i1;have h10:=h.i2;have h11:=h.d1
 refine Spec.post (refMakeS (n:=p.n) (ino:=p.ino) (by omega) h8 h9 h10) ?_
 rintro F v M ⟨⟨q,hq,hn,hi,rfl⟩ | ⟨rfl,hno⟩,rfl⟩
 ·rw [hq.one h hn hi];exact ⟨_,⟨rfl,rfl⟩,Wk.refl⟩
 ·exact absurd (hno p h rfl rfl) id
theorem refFs0 {p:Pl} (h:PlIs p):Spec Tryz.prog 57 #[nI p.n,nI p.ino] [] fun F v M=>∃ m,v=.tuple #[.pointer (some ⟨m,0,none⟩),.int .i64 0]/\M=F:=by
 refine Spec.intro Tryz.func57 rfl rfl fun B F=>?_
 simp only [Tryz.ntmps57,List.cons_append,List.nil_append,env0,Nat.reduceAdd]
 refine .sr (.assign (.assign (.x (.move (.move ?_)))))
 refine .call (hc:=Tryz.call116) (sp:=refMakeOk h) (h:=?_)
 rintro _ _ ⟨rfl,hM⟩
 obtain rfl:=hM.symm
 refine .move ?_
 refine .extract ?_
 refine .extract ?_
 refine .alloc z199 fun b6=>?_
 refine .stV ?_ agg199
 refine .to (A:=pt b6 (.cells p.cells 199 (0,0))) (A':=pt b6 (.cells p.cells 199 (0,0))) (fun h hh=>hh) ?_
 refine .assign (.z (.seq (.sr (.move ?_))))
 refine .nei ?_
 refine .z ?_
 refine .condF rfl (congrArg Value.bool (by first|simp;done|simp;omega|omega)) ?_
 refine .skip (.next (.sr ?_))
 refine .ldA ?_ agg199
 refine .call (hc:=Tryz.call117) (sp:=refStore0 (p:=p) h.i1 h.i2) (h:=?_)
 rintro _ _ ⟨s,rfl,rfl⟩
 refine .build ?_ (bdRF _)
 refine .box fun b20=>?_
 refine .assign (.assign (.z ?_))
 refine .ret (?_)
 exact .ret2 (h1:=.tmp (t:=4) rfl) (h2:=.tmp (t:=5) rfl) ⟨_,⟨b20,rfl,rfl⟩,Am.auto⟩
def aT (b:Bytes):FT:=fun i=>if i=0 then some (.dir [some ([97],1)]) else if i=1 then some (.file b) else none
theorem aT_ok (b:Bytes):TOk (aT b):=by
 intro d sl h
 unfold aT at h
 split at h
 ·injection h with h;injection h with h;subst h
  refine ⟨⟨fun q n i h=>?_,fun q r n i j h1 h2=>?_⟩,by decide⟩
  ·rcases q with _ | q
   ·injection h with h;injection h with h;injection h with h1 h2;subst h1;subst h2;exact ⟨by decide,by decide⟩
   ·simp at h
  ·rcases q with _ | q
   ·rcases r with _ | r
    ·rfl
    ·simp at h2
   ·simp at h1
 ·split at h
  ·injection h with h;cases h
  ·cases h
theorem aT_file (b:Bytes):fileT (aT b) [47,97]=(1,1,b.length,0):=rfl
theorem aT_leads (b:Bytes):leadsT (aT b) [47,97]=(1,1,b.length,0):=rfl
theorem aT_1 (b:Bytes):aT b 1=some (.file b):=rfl
theorem aT_upd (b b':Bytes):updT (aT b) 1 (some (.file b'))=aT b':=by
 funext i
 unfold updT aT
 by_cases h:i=1
 ·subst h;rfl
 ·rw [if_neg h]
  by_cases h0:i=0
  ·rw [if_pos h0,if_pos h0]
  ·rw [if_neg h0,if_neg h0,if_neg h,if_neg h]
theorem mkT_a:mkT rootT 0 [] [97] 1 (.file [])=aT []:=by
 funext i
 unfold mkT updT rootT aT
 by_cases h0:i=0
 ·rw [if_pos h0,if_pos h0];rfl
 ·rw [if_neg h0,if_neg h0]
  by_cases h1:i=1
  ·rw [if_pos h1,if_neg h0]
  ·rw [if_neg h1,if_neg h0]
theorem tot_aT (b:Bytes) {n:Nat} (h:2<=n):tot (fmT (aT b)) n=1+has b.length:=by
 obtain ⟨k,rfl⟩:∃ k,n=k+2:=⟨n - 2,by omega⟩
 clear h
 induction k with
 | zero =>
  show 0+has 64+has b.length=_
  rw [has_64]
 | succ k ih =>
  show tot (fmT (aT b)) (k+2)+hasO (fmT (aT b) (k+2))=_
  rw [ih]
  have:fmT (aT b) (k+2)=none:=fmT_none (by unfold aT;rw [if_neg (by omega),if_neg (by omega)])
  rw [this];rfl
theorem sl188:Tryz.prog.underlying 188=some (.slice 192):=by kernel_rfl
def RemErr (T:FT) (path:Bytes) (e:Nat):Prop :=
 (parentT T path).2.2=e ∨ ∃ d nm i fe,parentT T path=(d,nm,0)/\findT T d nm=(i,fe)/\(fe=e ∨ (fe=0/\e=7/\∃ sl,T i=some (.dir sl)/\entsS sl≠[]))
def rmT (T:FT) (d:Nat) (sl:List Slot) (q i:Nat):FT:=updT (updT T d (some (.dir (setS sl q none)))) i none
def NodeT.bare:NodeT->Prop
 | .file _=>True
 | .dir sl=>entsS sl=[]
theorem fsRemoveCE {f s a c mp:Nat} {p:Pl} {T:FT} {path:Bytes} {b2 b3 e:Nat} (ho:PlOk p) (hT:TOk T) (hpl:path.length<=1000000) (hm:RemErr T path e) (he:e≠0):Spec Tryz.prog 108 #[.pointer (some ⟨b2,0,none⟩),.pointer (some ⟨b3,0,none⟩)] [pt f (fO c a s false false false mp),LD mp T,IN s a c p (fmT T) (fmT T) 0 true,bun [pt b2 (.cells #[.pointer (some ⟨f,0,none⟩)] 23 (0,0)),pt b3 (.cells #[sv path] 9 (0,0))]] fun F v M=>v=nI e/\M=pt f (fO c a s false false false mp) :: LD mp T :: IN s a c p (fmT T) (fmT T) 0 true :: bun [pt b2 (.cells #[.pointer (some ⟨f,0,none⟩)] 23 (0,0)),pt b3 (.cells #[sv path] 9 (0,0))] :: F:=by
 refine Spec.intro Tryz.func108 rfl rfl fun B F=>?_
 simp only [Tryz.ntmps108,List.cons_append,List.nil_append,env0,Nat.reduceAdd]
 refine .openR (bun.opens _) fun _ _=>?_
 simp only [List.cons_append,List.nil_append]
 rcases hm with hm | ⟨d,nm,i,fe,hpar,hfi,hm | ⟨rfl,rfl,sl,hTi,hne⟩⟩
 ·obtain ⟨d,nm,pe,hpar⟩:∃ d nm pe,parentT T path=(d,nm,pe):=⟨_,_,_,rfl⟩
  rw [hpar] at hm
  simp only at hm
  subst hm
  refine .sr (.assign (.x ?_))
  refine .ld ?_ sc23
  refine .ld ?_ sc9
  refine .call (hc:=Tryz.call109) (sp:=fsParent (f:=f) (s:=s) (a:=a) (c:=c) (mp:=mp) (b:=false) (ov:=false) (dead:=false) (p:=p) (T:=T) (F0:=fmT T) (W:=0) (op:=true) (path:=path) ho hT hpl) (h:=?_)
  rintro _ _ ⟨rfl,rfl⟩
  rw [hpar]
  refine .move ?_
  refine .extract ?_
  refine .extract ?_
  refine .extract ?_
  refine .assign (.assign (.assign (.z (.seq (.sr (.move ?_))))))
  refine .nei ?_
  refine .z ?_
  refine .condT rfl (congrArg Value.bool (by first|simp;done|simp;omega|omega)) ?_
  refine .sr (.move (.assign (.z ?_)))
  refine .ret (.thenRet (?_))
  refine .shutR (bun.opens [pt b2 (.cells #[.pointer (some ⟨f,0,none⟩)] 23 (0,0)),pt b3 (.cells #[sv path] 9 (0,0))]) () trivial ?_
  exact .ret1 (h1:=.tmp (t:=2) rfl) ⟨_,⟨rfl,rfl⟩,Am.auto⟩
 ·subst hm
  refine .sr (.assign (.x ?_))
  refine .ld ?_ sc23
  refine .ld ?_ sc9
  refine .call (hc:=Tryz.call109) (sp:=fsParent (f:=f) (s:=s) (a:=a) (c:=c) (mp:=mp) (b:=false) (ov:=false) (dead:=false) (p:=p) (T:=T) (F0:=fmT T) (W:=0) (op:=true) (path:=path) ho hT hpl) (h:=?_)
  rintro _ _ ⟨rfl,rfl⟩
  rw [hpar]
  refine .move ?_
  refine .extract ?_
  refine .extract ?_
  refine .extract ?_
  refine .assign (.assign (.assign (.z (.seq (.sr (.move ?_))))))
  refine .nei ?_
  refine .z ?_
  refine .condF rfl (congrArg Value.bool (by first|simp;done|simp;omega|omega)) ?_
  refine .skip (.next (.sr ?_))
  refine .ld ?_ sc23
  refine .move (.move ?_)
  refine .call (hc:=Tryz.call110) (sp:=fsFind (f:=f) (s:=s) (a:=a) (c:=c) (mp:=mp) (b:=false) (ov:=false) (dead:=false) (p:=p) (T:=T) (F0:=fmT T) (W:=0) (op:=true) (d:=d) (nm:=nm) ho hT) (h:=?_)
  rintro _ _ ⟨rfl,rfl⟩
  rw [hfi]
  refine .move ?_
  refine .extract ?_
  refine .extract ?_
  refine .assign (.assign (.z (.seq (.sr (.move ?_)))))
  refine .nei ?_
  refine .z ?_
  refine .condT rfl (congrArg Value.bool (by first|simp;done|simp;omega|omega)) ?_
  refine .sr (.move (.assign (.z ?_)))
  refine .ret (.thenRet (?_))
  refine .shutR (bun.opens [pt b2 (.cells #[.pointer (some ⟨f,0,none⟩)] 23 (0,0)),pt b3 (.cells #[sv path] 9 (0,0))]) () trivial ?_
  exact .ret1 (h1:=.tmp (t:=2) rfl) ⟨_,⟨rfl,rfl⟩,Am.auto⟩
 ·refine .sr (.assign (.x ?_))
  refine .ld ?_ sc23
  refine .ld ?_ sc9
  refine .call (hc:=Tryz.call109) (sp:=fsParent (f:=f) (s:=s) (a:=a) (c:=c) (mp:=mp) (b:=false) (ov:=false) (dead:=false) (p:=p) (T:=T) (F0:=fmT T) (W:=0) (op:=true) (path:=path) ho hT hpl) (h:=?_)
  rintro _ _ ⟨rfl,rfl⟩
  rw [hpar]
  refine .move ?_
  refine .extract ?_
  refine .extract ?_
  refine .extract ?_
  refine .assign (.assign (.assign (.z (.seq (.sr (.move ?_))))))
  refine .nei ?_
  refine .z ?_
  refine .condF rfl (congrArg Value.bool (by first|simp;done|simp;omega|omega)) ?_
  refine .skip (.next (.sr ?_))
  refine .ld ?_ sc23
  refine .move (.move ?_)
  refine .call (hc:=Tryz.call110) (sp:=fsFind (f:=f) (s:=s) (a:=a) (c:=c) (mp:=mp) (b:=false) (ov:=false) (dead:=false) (p:=p) (T:=T) (F0:=fmT T) (W:=0) (op:=true) (d:=d) (nm:=nm) ho hT) (h:=?_)
  rintro _ _ ⟨rfl,rfl⟩
  rw [hfi]
  refine .move ?_
  refine .extract ?_
  refine .extract ?_
  refine .assign (.assign (.z (.seq (.sr (.move ?_)))))
  refine .nei ?_
  refine .z ?_
  refine .condF rfl (congrArg Value.bool (by first|simp;done|simp;omega|omega)) ?_
  refine .skip (.next (.seq (.sr ?_)))
  refine .ld ?_ sc23
  refine .nilCheck ?_
  refine .fa ?_ fo129_2
  refine .ld ?_ sc126
  refine .move ?_
  refine .call (hc:=Tryz.call111) (sp:=dList (s:=s) (a:=a) (c:=c) (p:=p) (F0:=fmT T) (Fm:=fmT T) (W:=0) (d:=i) (op:=true) (sl:=sl) ho (fmT_some hTi) (hT _ _ hTi).1 (by have:=(hT _ _ hTi).2;omega)) (h:=?_)
  rintro _ _ ⟨u,l,rfl,⟨hpm,hso⟩,rfl⟩
  have hll:=hpm.length_eq
  refine .fact (rowR_shape (el:=192) (size:=2) (v:=u) (k:=l.length) (xs:=l.flatMap entL)) (fun ⟨A,cc,hu,hR,hc1,hc2,hlen⟩=>?_)
  subst hu
  have hlp:0 < l.length:=by rw [hll];exact List.length_pos_iff.2 hne
  refine .move ?_
  refine .extract ?_
  refine .extract ?_
  refine .assign (.assign (.x (.move ?_)))
  refine .eqi ?_
  refine .move ?_
  refine .cast (d:=41) (u:=.bool true) rfl (congrArg Value.bool (by first|simp;done|simp;omega|omega)) ?_
  refine .gT ?_
  refine .move ?_
  refine .gT ?_
  refine .lenS ?_ sl188
  refine .gT ?_
  refine .gtr ?_
  refine .pickT ?_
  refine .z ?_
  refine .condT rfl (congrArg Value.bool (by first|simp;done|simp;omega|omega)) ?_
  refine .sr (.assign (.z ?_))
  refine .ret (.thenRet (?_))
  refine .shutR (bun.opens [pt b2 (.cells #[.pointer (some ⟨f,0,none⟩)] 23 (0,0)),pt b3 (.cells #[sv path] 9 (0,0))]) () trivial ?_
  exact .ret1 (h1:=.tmp (t:=2) rfl) ⟨_,⟨rfl,rfl⟩,Am.auto⟩
theorem fsRemoveC {f s a c mp:Nat} {p:Pl} {T:FT} {path:Bytes} {b2 b3:Nat} (ho:PlOk p) (hT:TOk T) (hpl:path.length<=1000000) {d i q:Nat} {nm:Bytes} {sl:List Slot} {x:NodeT} (hpar:parentT T path=(d,nm,0)) (hd:T d=some (.dir sl)) (hnm:nameOk nm=true) (hl:lookS nm sl=some (q,i)) (hx:T i=some x) (hbx:x.bare) (hid:i≠d) (hi0:i≠0) (hw:Rw p 0 13) (hfit:tot (fmT T) p.ino<=p.dc):Spec Tryz.prog 108 #[.pointer (some ⟨b2,0,none⟩),.pointer (some ⟨b3,0,none⟩)] [pt f (fO c a s false false false mp),LD mp T,IN s a c p (fmT T) (fmT T) 0 true,bun [pt b2 (.cells #[.pointer (some ⟨f,0,none⟩)] 23 (0,0)),pt b3 (.cells #[sv path] 9 (0,0))]] fun F v M=>v=okV/\M=pt f (fO c a s false false false mp) :: LD mp T :: IN s a c p (fmT T) (fmT (rmT T d sl q i)) 8 true :: bun [pt b2 (.cells #[.pointer (some ⟨f,0,none⟩)] 23 (0,0)),pt b3 (.cells #[sv path] 9 (0,0))] :: F:=by
 refine Spec.intro Tryz.func108 rfl rfl fun B F=>?_
 simp only [Tryz.ntmps108,List.cons_append,List.nil_append,env0,Nat.reduceAdd]
 refine .openR (bun.opens _) fun _ _=>?_
 simp only [List.cons_append,List.nil_append]
 have hfi:findT T d nm=(i,0):=by unfold findT;rw [if_pos hnm];simp only [hd,hl]
 have hF1:updM (fmT T) d (some (2,dirB (setS sl q none)))=fmT (updT T d (some (.dir (setS sl q none)))):=fmT_updS T d (.dir _)
 have hx1:fmT (updT T d (some (.dir (setS sl q none)))) i=some x.f:=fmT_some (by rw [updT_other _ _ hid];exact hx)
 have hto:=hT d sl hd
 cases x with
 | file b =>
  refine .sr (.assign (.x ?_))
  refine .ld ?_ sc23
  refine .ld ?_ sc9
  refine .call (hc:=Tryz.call109) (sp:=fsParent (f:=f) (s:=s) (a:=a) (c:=c) (mp:=mp) (b:=false) (ov:=false) (dead:=false) (p:=p) (T:=T) (F0:=fmT T) (W:=0) (op:=true) (path:=path) ho hT hpl) (h:=?_)
  rintro _ _ ⟨rfl,rfl⟩
  rw [hpar]
  refine .move ?_
  refine .extract ?_
  refine .extract ?_
  refine .extract ?_
  refine .assign (.assign (.assign (.z (.seq (.sr (.move ?_))))))
  refine .nei ?_
  refine .z ?_
  refine .condF rfl (congrArg Value.bool (by first|simp;done|simp;omega|omega)) ?_
  refine .skip (.next (.sr ?_))
  refine .ld ?_ sc23
  refine .move (.move ?_)
  refine .call (hc:=Tryz.call110) (sp:=fsFind (f:=f) (s:=s) (a:=a) (c:=c) (mp:=mp) (b:=false) (ov:=false) (dead:=false) (p:=p) (T:=T) (F0:=fmT T) (W:=0) (op:=true) (d:=d) (nm:=nm) ho hT) (h:=?_)
  rintro _ _ ⟨rfl,rfl⟩
  rw [hfi]
  refine .move ?_
  refine .extract ?_
  refine .extract ?_
  refine .assign (.assign (.z (.seq (.sr (.move ?_)))))
  refine .nei ?_
  refine .z ?_
  refine .condF rfl (congrArg Value.bool (by first|simp;done|simp;omega|omega)) ?_
  refine .skip (.next (.seq (.sr ?_)))
  refine .ld ?_ sc23
  refine .nilCheck ?_
  refine .fa ?_ fo129_2
  refine .ld ?_ sc126
  refine .move ?_
  refine .call (hc:=Tryz.call111) (sp:=dListE (s:=s) (a:=a) (c:=c) (p:=p) (F0:=fmT T) (Fm:=fmT T) (W:=0) (op:=true) (d:=(i:Int)) (e:=6) ho (.inr (.inr ⟨rfl,⟨1,b,by omega,by rw [Int.toNat_natCast];exact fmT_some hx,by decide⟩,rfl⟩)) (by decide)) (h:=?_)
  rintro _ _ ⟨rfl,rfl⟩
  refine .move ?_
  refine .extract ?_
  refine .extract ?_
  refine .assign (.assign (.x (.move ?_)))
  refine .eqi ?_
  refine .move ?_
  refine .cast (d:=41) (u:=.bool false) rfl (congrArg Value.bool (by first|simp;done|simp;omega|omega)) ?_
  refine .gF ?_
  refine .gF ?_
  refine .gF ?_
  refine .pickF ?_
  refine .z ?_
  refine .condF rfl rfl ?_
  refine .skip (.next (.seq (.sr ?_)))
  refine .ld ?_ sc23
  refine .nilCheck ?_
  refine .fa ?_ fo129_2
  refine .ld ?_ sc126
  refine .move (.move ?_)
  refine .call (hc:=Tryz.call100) (sp:=dRemove (s:=s) (a:=a) (c:=c) (p:=p) (F0:=fmT T) (Fm:=fmT T) (W:=0) (d:=d) (nm:=nm) (sl:=sl) ho hnm (fmT_some hd) hto.1 (by omega) (lookS_some hl) hw hfit) (h:=?_)
  rintro _ _ ⟨rfl,rfl⟩
  rw [hF1]
  refine .assign (.x (.move ?_))
  refine .nei ?_
  refine .z ?_
  refine .condF rfl (congrArg Value.bool (by first|simp;done|simp;omega|omega)) ?_
  refine .skip (.next (.sr ?_))
  refine .ld ?_ sc23
  refine .nilCheck ?_
  refine .fa ?_ fo129_2
  refine .ld ?_ sc126
  refine .move ?_
  refine .call (hc:=Tryz.call105) (sp:=nDrop (s:=s) (a:=a) (c:=c) (p:=p) (F0:=fmT T) (F:=fmT (updT T d (some (.dir (setS sl q none))))) (W:=0+8) (i:=i) ho hx1 hi0 (by unfold Rw at hw ⊢;omega)) (h:=?_)
  rintro _ _ ⟨rfl,rfl⟩
  rw [show updM (fmT (updT T d (some (.dir (setS sl q none))))) i none=fmT (rmT T d sl q i) from fmT_updN _ _]
  refine .assign (.z ?_)
  refine .ret (?_)
  refine .shutR (bun.opens [pt b2 (.cells #[.pointer (some ⟨f,0,none⟩)] 23 (0,0)),pt b3 (.cells #[sv path] 9 (0,0))]) () trivial ?_
  exact .ret1 (h1:=.tmp (t:=2) rfl) ⟨_,⟨rfl,rfl⟩,Am.auto⟩
 | dir sl2 =>
  refine .sr (.assign (.x ?_))
  refine .ld ?_ sc23
  refine .ld ?_ sc9
  refine .call (hc:=Tryz.call109) (sp:=fsParent (f:=f) (s:=s) (a:=a) (c:=c) (mp:=mp) (b:=false) (ov:=false) (dead:=false) (p:=p) (T:=T) (F0:=fmT T) (W:=0) (op:=true) (path:=path) ho hT hpl) (h:=?_)
  rintro _ _ ⟨rfl,rfl⟩
  rw [hpar]
  refine .move ?_
  refine .extract ?_
  refine .extract ?_
  refine .extract ?_
  refine .assign (.assign (.assign (.z (.seq (.sr (.move ?_))))))
  refine .nei ?_
  refine .z ?_
  refine .condF rfl (congrArg Value.bool (by first|simp;done|simp;omega|omega)) ?_
  refine .skip (.next (.sr ?_))
  refine .ld ?_ sc23
  refine .move (.move ?_)
  refine .call (hc:=Tryz.call110) (sp:=fsFind (f:=f) (s:=s) (a:=a) (c:=c) (mp:=mp) (b:=false) (ov:=false) (dead:=false) (p:=p) (T:=T) (F0:=fmT T) (W:=0) (op:=true) (d:=d) (nm:=nm) ho hT) (h:=?_)
  rintro _ _ ⟨rfl,rfl⟩
  rw [hfi]
  refine .move ?_
  refine .extract ?_
  refine .extract ?_
  refine .assign (.assign (.z (.seq (.sr (.move ?_)))))
  refine .nei ?_
  refine .z ?_
  refine .condF rfl (congrArg Value.bool (by first|simp;done|simp;omega|omega)) ?_
  refine .skip (.next (.seq (.sr ?_)))
  refine .ld ?_ sc23
  refine .nilCheck ?_
  refine .fa ?_ fo129_2
  refine .ld ?_ sc126
  refine .move ?_
  refine .call (hc:=Tryz.call111) (sp:=dList (s:=s) (a:=a) (c:=c) (p:=p) (F0:=fmT T) (Fm:=fmT T) (W:=0) (d:=i) (op:=true) (sl:=sl2) ho (fmT_some hx) (hT _ _ hx).1 (by have:=(hT _ _ hx).2;omega)) (h:=?_)
  rintro _ _ ⟨u,l,rfl,⟨hpm,hso⟩,rfl⟩
  have hll:=hpm.length_eq
  refine .fact (rowR_shape (el:=192) (size:=2) (v:=u) (k:=l.length) (xs:=l.flatMap entL)) (fun ⟨A,cc,hu,hR,hc1,hc2,hlen⟩=>?_)
  subst hu
  have hlp:l.length=0:=by have hb2:entsS sl2=[]:=hbx;rw [hll,hb2];rfl
  rw [hlp]
  refine .move ?_
  refine .extract ?_
  refine .extract ?_
  refine .assign (.assign (.x (.move ?_)))
  refine .eqi ?_
  refine .move ?_
  refine .cast (d:=41) (u:=.bool true) rfl (congrArg Value.bool (by first|simp;done|simp;omega|omega)) ?_
  refine .gT ?_
  refine .move ?_
  refine .gT ?_
  refine .lenS ?_ sl188
  refine .gT ?_
  refine .gtr ?_
  refine .pickT ?_
  refine .z ?_
  refine .condF rfl (congrArg Value.bool (by first|simp;done|simp;omega|omega)) ?_
  refine .skip (.next (.seq (.sr ?_)))
  refine .ld ?_ sc23
  refine .nilCheck ?_
  refine .fa ?_ fo129_2
  refine .ld ?_ sc126
  refine .move (.move ?_)
  refine .call (hc:=Tryz.call100) (sp:=dRemove (s:=s) (a:=a) (c:=c) (p:=p) (F0:=fmT T) (Fm:=fmT T) (W:=0) (d:=d) (nm:=nm) (sl:=sl) ho hnm (fmT_some hd) hto.1 (by omega) (lookS_some hl) hw hfit) (h:=?_)
  rintro _ _ ⟨rfl,rfl⟩
  rw [hF1]
  refine .assign (.x (.move ?_))
  refine .nei ?_
  refine .z ?_
  refine .condF rfl (congrArg Value.bool (by first|simp;done|simp;omega|omega)) ?_
  refine .skip (.next (.sr ?_))
  refine .ld ?_ sc23
  refine .nilCheck ?_
  refine .fa ?_ fo129_2
  refine .ld ?_ sc126
  refine .move ?_
  refine .call (hc:=Tryz.call105) (sp:=nDrop (s:=s) (a:=a) (c:=c) (p:=p) (F0:=fmT T) (F:=fmT (updT T d (some (.dir (setS sl q none))))) (W:=0+8) (i:=i) ho hx1 hi0 (by unfold Rw at hw ⊢;omega)) (h:=?_)
  rintro _ _ ⟨rfl,rfl⟩
  rw [show updM (fmT (updT T d (some (.dir (setS sl q none))))) i none=fmT (rmT T d sl q i) from fmT_updN _ _]
  refine .assign (.z ?_)
  refine .ret (?_)
  refine .shutR (bun.opens [pt b2 (.cells #[.pointer (some ⟨f,0,none⟩)] 23 (0,0)),pt b3 (.cells #[sv path] 9 (0,0))]) () trivial ?_
  exact .ret1 (h1:=.tmp (t:=2) rfl) ⟨_,⟨rfl,rfl⟩,Am.auto⟩
theorem fsRemove {f:Nat} {p:Pl} {T:FT} {path:Bytes} (ho:PlOk p) (hT:TOk T) (hpl:path.length<=1000000) {d i q:Nat} {nm:Bytes} {sl:List Slot} {x:NodeT} (hpar:parentT T path=(d,nm,0)) (hd:T d=some (.dir sl)) (hnm:nameOk nm=true) (hl:lookS nm sl=some (q,i)) (hx:T i=some x) (hbx:x.bare) (hid:i≠d) (hi0:i≠0) (hw:Rw p 0 13) (hfit:tot (fmT T) p.ino<=p.dc):Spec Tryz.prog 50 #[.pointer (some ⟨f,0,none⟩),sv path] [FSR f p T] fun F v M=>v=okV/\M=FSR f p (rmT T d sl q i) :: F:=by
 refine Spec.intro Tryz.func50 rfl rfl fun B F=>?_
 simp only [Tryz.ntmps50,List.cons_append,List.nil_append,env0,Nat.reduceAdd]
 refine .openR (FSR.opens f p T) fun y _=>?_
 obtain ⟨c,a,s,mp⟩:=y
 simp only [fsLs,List.cons_append,List.nil_append]
 refine .sr ?_
 refine .box fun b2=>?_
 refine .box fun b3=>?_
 refine .assign (.x ?_)
 refine .ld ?_ sc23
 refine .shutR (bun.opens [pt b2 (.cells #[.pointer (some ⟨f,0,none⟩)] 23 (0,0)),pt b3 (.cells #[sv path] 9 (0,0))]) () trivial ?_
 refine .makeFuncB ?_
 refine .call (hc:=Tryz.call92) (sp:=fsChange (s:=s) (a:=a) (c:=c) (p:=p) (f:=f) (mp:=mp) (T:=rmT T d sl q i) (S:=T) ho (hc:=Tryz.call108) (sp:=(fsRemoveC (b2:=b2) (b3:=b3) ho hT hpl hpar hd hnm hl hx hbx hid hi0 hw hfit))) (h:=?_)
 rintro _ _ ⟨rfl,rfl⟩
 refine .assign (.z ?_)
 refine .ret (?_)
 refine .shutR (FSR.opens f p (rmT T d sl q i)) (c,a,s,mp) trivial ?_
 exact .ret1 (h1:=.tmp (t:=4) rfl) ⟨_,⟨rfl,rfl⟩,Am.auto⟩
theorem fsRemoveE {f:Nat} {p:Pl} {T:FT} {path:Bytes} (ho:PlOk p) (hT:TOk T) (hpl:path.length<=1000000) {e:Nat} (hm:RemErr T path e) (he:e≠0):Spec Tryz.prog 50 #[.pointer (some ⟨f,0,none⟩),sv path] [FSR f p T] fun F v M=>v=nI e/\M=FSR f p T :: F:=by
 refine Spec.intro Tryz.func50 rfl rfl fun B F=>?_
 simp only [Tryz.ntmps50,List.cons_append,List.nil_append,env0,Nat.reduceAdd]
 refine .openR (FSR.opens f p T) fun y _=>?_
 obtain ⟨c,a,s,mp⟩:=y
 simp only [fsLs,List.cons_append,List.nil_append]
 refine .sr ?_
 refine .box fun b2=>?_
 refine .box fun b3=>?_
 refine .assign (.x ?_)
 refine .ld ?_ sc23
 refine .shutR (bun.opens [pt b2 (.cells #[.pointer (some ⟨f,0,none⟩)] 23 (0,0)),pt b3 (.cells #[sv path] 9 (0,0))]) () trivial ?_
 refine .makeFuncB ?_
 refine .call (hc:=Tryz.call92) (sp:=fsChangeE (s:=s) (a:=a) (c:=c) (p:=p) (f:=f) (mp:=mp) (T:=T) (S:=T) he ho (hc:=Tryz.call108) (sp:=(fsRemoveCE (b2:=b2) (b3:=b3) ho hT hpl hm he))) (h:=?_)
 rintro _ _ ⟨rfl,rfl⟩
 refine .assign (.z ?_)
 refine .ret (?_)
 refine .shutR (FSR.opens f p T) (c,a,s,mp) trivial ?_
 exact .ret1 (h1:=.tmp (t:=4) rfl) ⟨_,⟨rfl,rfl⟩,Am.auto⟩
theorem fsFree {f:Nat} {p:Pl} {T:FT} (ho:PlOk p):Spec Tryz.prog 52 #[.pointer (some ⟨f,0,none⟩)] [FSR f p T] fun F v M=>v=.tuple #[.int .i64 ((p.dc:Int) - tot (fmT T) p.ino),.int .i64 ((p.ino:Int) - cntF (fmT T) p.ino)]/\M=FSR f p T :: F:=by
 refine Spec.intro Tryz.func52 rfl rfl fun B F=>?_
 simp only [Tryz.ntmps52,List.cons_append,List.nil_append,env0,Nat.reduceAdd]
 refine .openR (FSR.opens f p T) fun y _=>?_
 obtain ⟨c,a,s,mp⟩:=y
 simp only [fsLs,List.cons_append,List.nil_append]
 refine .sr (.assign (.assign (.z (.seq (.sr (.move ?_))))))
 refine .eqNil ?_ ptr23
 refine .move ?_
 refine .gT ?_
 refine .move ?_
 refine .gT ?_
 refine .nilCheck ?_
 refine .gT ?_
 refine .fa ?_ fo129_0
 refine .gT ?_
 refine .ld ?_ sc124
 refine .gT ?_
 refine .eqNil ?_ ptr124
 refine .pickF ?_
 refine .z ?_
 refine .condF rfl rfl ?_
 refine .skip (.next (.sr (.move ?_)))
 refine .nilCheck ?_
 refine .fa ?_ fo129_1
 refine .ld ?_ sc125
 refine .call (hc:=Tryz.call112) (sp:=nFree (s:=s) (a:=a) (c:=c) (p:=p) (F0:=fmT T) (F:=fmT T) (W:=0) (op:=false) ho) (h:=?_)
 rintro _ _ ⟨rfl,rfl⟩
 refine .extract ?_
 refine .extract ?_
 refine .assign (.assign (.z ?_))
 refine .ret (?_)
 refine .shutR (FSR.opens f p T) (c,a,s,mp) trivial ?_
 exact .ret2 (h1:=.tmp (t:=2) rfl) (h2:=.tmp (t:=3) rfl) ⟨_,⟨rfl,rfl⟩,Am.auto⟩
theorem fsCreateL {f:Nat} {p:Pl} {l l':TL} {path:Bytes} {d i:Nat} {nm:Bytes} {sl:List Slot} (ho:PlOk p) (hok:∀ e∈l,e.2.ok) (hn:(l.map (·.1)).Nodup) (hb:∀ e∈l,e.1 < p.ino) (hpl:path.length<=1000000) (hp:path≠[47]) (hpar:parentT (trL l) path=(d,nm,0)) (hfi:findT (trL l) d nm=(0,4)) (hd:kget l d=some (.dir sl)) (hi:i < p.ino) (hTi:kget l i=none) (hlo:∀ j < i,kget l j≠none)
  (hw:Rw p 0 14) (hfit:totL l+has (max (64 * sl.length) (64 * freeS sl+64))<=p.dc+has (64 * sl.length)) (hl':kput (kput l i (.file [])) d (.dir (setS sl (freeS sl) (some (nm,i))))=l') :
  Spec Tryz.prog 17 #[.pointer (some ⟨f,0,none⟩),sv path] [FSR f p (trL l)] fun F v M=>v=okV/\M=FSR f p (trL l') :: F:=by
 have:=fsCreate (f:=f) (p:=p) (T:=trL l) (path:=path) (d:=d) (i:=i) (nm:=nm) (sl:=sl) (x:=.file []) ho (trL_ok hok) hpl hp hpar hfi hd hi hTi hlo rfl rfl hw (by rw [tot_trL hn hb];exact hfit)
 rwa [trL_mk,hl'] at this
theorem fsMkdirL {f:Nat} {p:Pl} {l l':TL} {path:Bytes} {d i:Nat} {nm:Bytes} {sl:List Slot} (ho:PlOk p) (hok:∀ e∈l,e.2.ok) (hn:(l.map (·.1)).Nodup) (hb:∀ e∈l,e.1 < p.ino) (hpl:path.length<=1000000) (hp:path≠[47]) (hpar:parentT (trL l) path=(d,nm,0)) (hfi:findT (trL l) d nm=(0,4)) (hd:kget l d=some (.dir sl)) (hi:i < p.ino) (hTi:kget l i=none) (hlo:∀ j < i,kget l j≠none)
  (hw:Rw p 0 14) (hfit:totL l+has (max (64 * sl.length) (64 * freeS sl+64))<=p.dc+has (64 * sl.length)) (hl':kput (kput l i (.dir [])) d (.dir (setS sl (freeS sl) (some (nm,i))))=l') :
  Spec Tryz.prog 28 #[.pointer (some ⟨f,0,none⟩),sv path] [FSR f p (trL l)] fun F v M=>v=okV/\M=FSR f p (trL l') :: F:=by
 have:=fsMkdir (f:=f) (p:=p) (T:=trL l) (path:=path) (d:=d) (i:=i) (nm:=nm) (sl:=sl) (x:=.dir []) ho (trL_ok hok) hpl hp hpar hfi hd hi hTi hlo rfl rfl hw (by rw [tot_trL hn hb];exact hfit)
 rwa [trL_mk,hl'] at this
theorem fsAppendL {f:Nat} {p:Pl} {l l':TL} {path:Bytes} {i m cc:Nat} {fb bs:Bytes} {R:HP} {A:Option Addr} (ho:PlOk p) (hok:∀ e∈l,e.2.ok) (hn:(l.map (·.1)).Nodup) (hb:∀ e∈l,e.1 < p.ino) (hpl:path.length<=1000000) (hft:fileT (trL l) path=(i,1,fb.length,0)) (hTi:kget l i=some (.file fb)) (hR:bs=[] ∨ Reads R A (bvs bs)) (hm:bs.length=m) (hcc:m<=cc) (hcb:cc<=maxLen)
  (hw:Rw p 0 (has (fb.length+m) - has fb.length+(m+511) / 512+10)) (hbg:fb.length+m<=70656) (hfit:totL l+has (fb.length+m)<=p.dc+has fb.length) (hl':kput l i (.file (wrB fb fb.length bs))=l') :
  Spec Tryz.prog 18 #[.pointer (some ⟨f,0,none⟩),sv path,.slice A m cc] [FSR f p (trL l),R] fun F v M=>v=okV/\M=FSR f p (trL l') :: R :: F:=by
 have hmx:max fb.length (fb.length+m)=fb.length+m:=Nat.max_eq_right (Nat.le_add_right _ _)
 have:=fsAppend (f:=f) (p:=p) (T:=trL l) (path:=path) (i:=i) (fb:=fb) (bs:=bs) (R:=R) (A:=A) (m:=m) (cc:=cc) ho (trL_ok hok) hpl hft hTi hR hm hcc hcb (by rw [hmx];exact hw) (Nat.le_refl _) hbg (by rw [hmx,tot_trL hn hb];exact hfit)
 rwa [trL_put,hl'] at this
theorem okNil:NodeT.ok (.dir []):=⟨DirOk.nil,by decide⟩
theorem ok1 {nm:Bytes} {k:Nat} (hn:1<=nm.length/\nm.length<=50) (hk:k < 4294967296):NodeT.ok (.dir [some (nm,k)]):=⟨DirOk.one1 hn hk,by show 1<=1000;decide⟩
theorem lt_of_all {l:TL} {n:Nat} (h:(l.all fun e=>decide (e.1 < n))=true):∀ e∈l,e.1 < n:=fun e he=>by simpa using List.all_eq_true.1 h e he
section
variable {P:Program} {B:Base} {n:Fr} {Q Q':Exit->Act->World->Prop} {e:Env} {L:List HP} {ops:Array Oper} {l:List Oper}
variable {d:Nat} {ty:TypeId} {pos:String} {af:Array Edge} {x y z:Operand} {gd:Option (Nat×Bool)}
theorem bstr_append (xs ys:Bytes):bstr xs++bstr ys=bstr (xs++ys):=by
 apply ByteArray.ext
 simp [bstr]
theorem Qt.catS {t u:TypeId} (xs ys:Bytes) (hl:xs.length+ys.length<=9223372036854775807) (hx:evo e x=some (sv xs):=by rfl) (hy:evo e y=some (sv ys):=by rfl) :
  Qt P B n e L ⟨some d,.binOp .add t x y u,ty,pos,af,gd⟩ (sv (xs++ys)) :=
 Qt.strs (xs:=bstr xs) (ys:=bstr ys) (fun w=>by
  rw [binOp_string_add,run_string_add_sum w _ _ (by rw [bstr_size,bstr_size];exact hl),bstr_append];rfl) hx hy
theorem WL.catS {t u:TypeId} (xs ys:Bytes) (h:WL P B n ops l Q ((d,sv (xs++ys)) :: e) L) (hl:xs.length+ys.length<=9223372036854775807) (hx:evo e x=some (sv xs):=by rfl) (hy:evo e y=some (sv ys):=by rfl) (hd:Nat.ble (d+1) n.k=true:=by rfl) :
  WL P B n ops (⟨some d,.binOp .add t x y u,ty,pos,af,none⟩ :: l) Q e L:=WL.pure h hd (Qt.catS xs ys hl hx hy)
end
def mayT (from_ to:Bytes):Bool:=match partsT from_,partsT to with
 | some a,some b=>decide (0 < a.length) && decide (0 < b.length) && !decide (to.take (from_++[47]).length=from_++[47])
 | _,_=>false
theorem hasPreS {xs ps:Bytes}:Spec Tryz.prog 175 #[sv xs,sv ps] [] fun F v M=>v=.bool (decide (xs.take ps.length=ps))/\M=F:=by
 refine Spec.intro Tryz.func175 rfl rfl fun B F=>?_
 simp only [Tryz.ntmps175,List.cons_append,List.nil_append,env0,Nat.reduceAdd]
 refine .sr (.assign (.x (.move (.move ?_))))
 refine .call (hc:=Tryz.call248) (sp:=hasPre) (h:=?_)
 rintro _ _ ⟨rfl,rfl⟩
 refine .assign (.z ?_)
 refine .ret (?_)
 exact .ret1 (h1:=.tmp (t:=4) rfl) ⟨_,⟨rfl,rfl⟩,Am.auto⟩
theorem fsMay {xs ys:Bytes} (hx:xs.length<=1000000) (hy:ys.length<=1000000):Spec Tryz.prog 94 #[sv xs,sv ys] [] fun F v M=>v=.bool (mayT xs ys)/\M=F:=by
 refine Spec.intro Tryz.func94 rfl rfl fun B F=>?_
 simp only [Tryz.ntmps94,List.cons_append,List.nil_append,env0,Nat.reduceAdd]
 cases hpx:partsT xs with
 | none =>
  cases hpy:partsT ys with
  | none =>
   have hmt:mayT xs ys=false:=by unfold mayT;rw [hpx]
   refine .sr (.assign (.x (.move ?_)))
   refine .call (hc:=Tryz.call154) (sp:=fsPartsNo hx hpx) (h:=?_)
   rintro _ _ ⟨rfl,hM⟩
   obtain rfl:=hM.symm
   refine .move ?_
   refine .extract ?_
   refine .extract ?_
   refine .assign (.assign (.x (.move ?_)))
   refine .call (hc:=Tryz.call154) (sp:=fsPartsNo hy hpy) (h:=?_)
   rintro _ _ ⟨rfl,hM⟩
   obtain rfl:=hM.symm
   refine .move ?_
   refine .extract ?_
   refine .extract ?_
   refine .assign (.assign (.x (.move ?_)))
   refine .eqi ?_
   refine .move ?_
   refine .cast (d:=21) (u:=.bool false) rfl (congrArg Value.bool (by first | (simp;done) | (exact decide_eq_true (by omega)) | (exact decide_eq_false (by omega)) | (simp;omega) | omega)) ?_
   refine .gF ?_
   refine .gF ?_
   refine .pickF ?_
   refine .move ?_
   refine .gF ?_
   refine .gF ?_
   refine .gF ?_
   refine .pickF ?_
   refine .move ?_
   refine .gF ?_
   refine .gF ?_
   refine .gF ?_
   refine .pickF ?_
   refine .move ?_
   refine .gF ?_
   refine .gF ?_
   refine .gF ?_
   refine .gF ?_
   refine .gF ?_
   refine .pickF ?_
   refine .assign (.z ?_)
   refine .ret (?_)
   exact .ret1 (h1:=.tmp (t:=4) rfl) ⟨_,⟨by rw [hmt],rfl⟩,Am.auto⟩
  | some ly =>
   have hmt:mayT xs ys=false:=by unfold mayT;rw [hpx]
   refine .sr (.assign (.x (.move ?_)))
   refine .call (hc:=Tryz.call154) (sp:=fsPartsNo hx hpx) (h:=?_)
   rintro _ _ ⟨rfl,hM⟩
   obtain rfl:=hM.symm
   refine .move ?_
   refine .extract ?_
   refine .extract ?_
   refine .assign (.assign (.x (.move ?_)))
   refine .call (hc:=Tryz.call154) (sp:=fsParts hy hpy) (h:=?_)
   rintro _ _ ⟨uy,rfl,rfl⟩
   refine .fact (rowR_shape (el:=9) (size:=1) (v:=uy) (k:=ly.length) (xs:=svs ly)) (fun ⟨Ay,ccy,huy,hRy,hc1y,hc2y,hleny⟩=>?_)
   subst huy
   refine .move ?_
   refine .extract ?_
   refine .extract ?_
   refine .assign (.assign (.x (.move ?_)))
   refine .eqi ?_
   refine .move ?_
   refine .cast (d:=21) (u:=.bool false) rfl (congrArg Value.bool (by first | (simp;done) | (exact decide_eq_true (by omega)) | (exact decide_eq_false (by omega)) | (simp;omega) | omega)) ?_
   refine .gF ?_
   refine .gF ?_
   refine .pickF ?_
   refine .move ?_
   refine .gF ?_
   refine .gF ?_
   refine .gF ?_
   refine .pickF ?_
   refine .move ?_
   refine .gF ?_
   refine .gF ?_
   refine .gF ?_
   refine .pickF ?_
   refine .move ?_
   refine .gF ?_
   refine .gF ?_
   refine .gF ?_
   refine .gF ?_
   refine .gF ?_
   refine .pickF ?_
   refine .assign (.z ?_)
   refine .ret (?_)
   exact .ret1 (h1:=.tmp (t:=4) rfl) ⟨_,⟨by rw [hmt],rfl⟩,Am.auto⟩
 | some lx =>
  cases hpy:partsT ys with
  | none =>
   have hmt:mayT xs ys=false:=by unfold mayT;rw [hpx,hpy]
   refine .sr (.assign (.x (.move ?_)))
   refine .call (hc:=Tryz.call154) (sp:=fsParts hx hpx) (h:=?_)
   rintro _ _ ⟨ux,rfl,rfl⟩
   refine .fact (rowR_shape (el:=9) (size:=1) (v:=ux) (k:=lx.length) (xs:=svs lx)) (fun ⟨Ax,ccx,hux,hRx,hc1x,hc2x,hlenx⟩=>?_)
   subst hux
   refine .move ?_
   refine .extract ?_
   refine .extract ?_
   refine .assign (.assign (.x (.move ?_)))
   refine .call (hc:=Tryz.call154) (sp:=fsPartsNo hy hpy) (h:=?_)
   rintro _ _ ⟨rfl,hM⟩
   obtain rfl:=hM.symm
   refine .move ?_
   refine .extract ?_
   refine .extract ?_
   refine .assign (.assign (.x (.move ?_)))
   refine .eqi ?_
   refine .move ?_
   refine .cast (d:=21) (u:=.bool true) rfl (congrArg Value.bool (by first | (simp;done) | (exact decide_eq_true (by omega)) | (exact decide_eq_false (by omega)) | (simp;omega) | omega)) ?_
   refine .gT ?_
   refine .move ?_
   refine .gT ?_
   refine .eqi ?_
   refine .pickT ?_
   refine .move ?_
   refine .cast (d:=25) (u:=.bool false) rfl (congrArg Value.bool (by first | (simp;done) | (exact decide_eq_true (by omega)) | (exact decide_eq_false (by omega)) | (simp;omega) | omega)) ?_
   refine .gF ?_
   refine .gF ?_
   refine .gF ?_
   refine .pickF ?_
   refine .move ?_
   refine .gF ?_
   refine .gF ?_
   refine .gF ?_
   refine .pickF ?_
   refine .move ?_
   refine .gF ?_
   refine .gF ?_
   refine .gF ?_
   refine .gF ?_
   refine .gF ?_
   refine .pickF ?_
   refine .assign (.z ?_)
   refine .ret (?_)
   exact .ret1 (h1:=.tmp (t:=4) rfl) ⟨_,⟨by rw [hmt],rfl⟩,Am.auto⟩
  | some ly =>
   have hmt:mayT xs ys=(decide (0 < lx.length) && decide (0 < ly.length) && !decide (ys.take (xs++[47]).length=xs++[47])):=by unfold mayT;rw [hpx,hpy]
   by_cases h1:0 < lx.length
   ·by_cases h2:0 < ly.length
    ·refine .sr (.assign (.x (.move ?_)))
     refine .call (hc:=Tryz.call154) (sp:=fsParts hx hpx) (h:=?_)
     rintro _ _ ⟨ux,rfl,rfl⟩
     refine .fact (rowR_shape (el:=9) (size:=1) (v:=ux) (k:=lx.length) (xs:=svs lx)) (fun ⟨Ax,ccx,hux,hRx,hc1x,hc2x,hlenx⟩=>?_)
     subst hux
     refine .move ?_
     refine .extract ?_
     refine .extract ?_
     refine .assign (.assign (.x (.move ?_)))
     refine .call (hc:=Tryz.call154) (sp:=fsParts hy hpy) (h:=?_)
     rintro _ _ ⟨uy,rfl,rfl⟩
     refine .fact (rowR_shape (el:=9) (size:=1) (v:=uy) (k:=ly.length) (xs:=svs ly)) (fun ⟨Ay,ccy,huy,hRy,hc1y,hc2y,hleny⟩=>?_)
     subst huy
     refine .move ?_
     refine .extract ?_
     refine .extract ?_
     refine .assign (.assign (.x (.move ?_)))
     refine .eqi ?_
     refine .move ?_
     refine .cast (d:=21) (u:=.bool true) rfl (congrArg Value.bool (by first | (simp;done) | (exact decide_eq_true (by omega)) | (exact decide_eq_false (by omega)) | (simp;omega) | omega)) ?_
     refine .gT ?_
     refine .move ?_
     refine .gT ?_
     refine .eqi ?_
     refine .pickT ?_
     refine .move ?_
     refine .cast (d:=25) (u:=.bool true) rfl (congrArg Value.bool (by first | (simp;done) | (exact decide_eq_true (by omega)) | (exact decide_eq_false (by omega)) | (simp;omega) | omega)) ?_
     refine .gT ?_
     refine .move ?_
     refine .gT ?_
     refine .lenS ?_ sl92
     refine .gT ?_
     refine .gtr ?_
     refine .pickT ?_
     refine .move ?_
     refine .cast (d:=30) (u:=.bool true) rfl (congrArg Value.bool (by first | (simp;done) | (exact decide_eq_true (by omega)) | (exact decide_eq_false (by omega)) | (simp;omega) | omega)) ?_
     refine .gT ?_
     refine .move ?_
     refine .gT ?_
     refine .lenS ?_ sl92
     refine .gT ?_
     refine .gtr ?_
     refine .pickT ?_
     refine .move ?_
     refine .cast (d:=35) (u:=.bool true) rfl (congrArg Value.bool (by first | (simp;done) | (exact decide_eq_true (by omega)) | (exact decide_eq_false (by omega)) | (simp;omega) | omega)) ?_
     refine .gT ?_
     refine .move ?_
     refine .gT ?_
     refine .move ?_
     refine .gT ?_
     refine .catS xs [47] ?_ (by simp only [List.length_cons,List.length_nil];omega)
     refine .gT ?_
     refine .call (hc:=Tryz.call175) (sp:=hasPreS (xs:=ys) (ps:=xs++[47])) (h:=?_)
     rintro _ _ ⟨rfl,rfl⟩
     refine .gT ?_
     refine .not ?_
     refine .pickT ?_
     refine .assign (.z ?_)
     refine .ret (?_)
     exact .ret1 (h1:=.tmp (t:=4) rfl) ⟨_,⟨by rw [hmt,decide_eq_true h1,decide_eq_true h2];rfl,rfl⟩,Am.auto⟩
    ·refine .sr (.assign (.x (.move ?_)))
     refine .call (hc:=Tryz.call154) (sp:=fsParts hx hpx) (h:=?_)
     rintro _ _ ⟨ux,rfl,rfl⟩
     refine .fact (rowR_shape (el:=9) (size:=1) (v:=ux) (k:=lx.length) (xs:=svs lx)) (fun ⟨Ax,ccx,hux,hRx,hc1x,hc2x,hlenx⟩=>?_)
     subst hux
     refine .move ?_
     refine .extract ?_
     refine .extract ?_
     refine .assign (.assign (.x (.move ?_)))
     refine .call (hc:=Tryz.call154) (sp:=fsParts hy hpy) (h:=?_)
     rintro _ _ ⟨uy,rfl,rfl⟩
     refine .fact (rowR_shape (el:=9) (size:=1) (v:=uy) (k:=ly.length) (xs:=svs ly)) (fun ⟨Ay,ccy,huy,hRy,hc1y,hc2y,hleny⟩=>?_)
     subst huy
     refine .move ?_
     refine .extract ?_
     refine .extract ?_
     refine .assign (.assign (.x (.move ?_)))
     refine .eqi ?_
     refine .move ?_
     refine .cast (d:=21) (u:=.bool true) rfl (congrArg Value.bool (by first | (simp;done) | (exact decide_eq_true (by omega)) | (exact decide_eq_false (by omega)) | (simp;omega) | omega)) ?_
     refine .gT ?_
     refine .move ?_
     refine .gT ?_
     refine .eqi ?_
     refine .pickT ?_
     refine .move ?_
     refine .cast (d:=25) (u:=.bool true) rfl (congrArg Value.bool (by first | (simp;done) | (exact decide_eq_true (by omega)) | (exact decide_eq_false (by omega)) | (simp;omega) | omega)) ?_
     refine .gT ?_
     refine .move ?_
     refine .gT ?_
     refine .lenS ?_ sl92
     refine .gT ?_
     refine .gtr ?_
     refine .pickT ?_
     refine .move ?_
     refine .cast (d:=30) (u:=.bool true) rfl (congrArg Value.bool (by first | (simp;done) | (exact decide_eq_true (by omega)) | (exact decide_eq_false (by omega)) | (simp;omega) | omega)) ?_
     refine .gT ?_
     refine .move ?_
     refine .gT ?_
     refine .lenS ?_ sl92
     refine .gT ?_
     refine .gtr ?_
     refine .pickT ?_
     refine .move ?_
     refine .cast (d:=35) (u:=.bool false) rfl (congrArg Value.bool (by first | (simp;done) | (exact decide_eq_true (by omega)) | (exact decide_eq_false (by omega)) | (simp;omega) | omega)) ?_
     refine .gF ?_
     refine .gF ?_
     refine .gF ?_
     refine .gF ?_
     refine .gF ?_
     refine .pickF ?_
     refine .assign (.z ?_)
     refine .ret (?_)
     exact .ret1 (h1:=.tmp (t:=4) rfl) ⟨_,⟨by rw [hmt,decide_eq_true h1,decide_eq_false h2];rfl,rfl⟩,Am.auto⟩
   ·refine .sr (.assign (.x (.move ?_)))
    refine .call (hc:=Tryz.call154) (sp:=fsParts hx hpx) (h:=?_)
    rintro _ _ ⟨ux,rfl,rfl⟩
    refine .fact (rowR_shape (el:=9) (size:=1) (v:=ux) (k:=lx.length) (xs:=svs lx)) (fun ⟨Ax,ccx,hux,hRx,hc1x,hc2x,hlenx⟩=>?_)
    subst hux
    refine .move ?_
    refine .extract ?_
    refine .extract ?_
    refine .assign (.assign (.x (.move ?_)))
    refine .call (hc:=Tryz.call154) (sp:=fsParts hy hpy) (h:=?_)
    rintro _ _ ⟨uy,rfl,rfl⟩
    refine .fact (rowR_shape (el:=9) (size:=1) (v:=uy) (k:=ly.length) (xs:=svs ly)) (fun ⟨Ay,ccy,huy,hRy,hc1y,hc2y,hleny⟩=>?_)
    subst huy
    refine .move ?_
    refine .extract ?_
    refine .extract ?_
    refine .assign (.assign (.x (.move ?_)))
    refine .eqi ?_
    refine .move ?_
    refine .cast (d:=21) (u:=.bool true) rfl (congrArg Value.bool (by first | (simp;done) | (exact decide_eq_true (by omega)) | (exact decide_eq_false (by omega)) | (simp;omega) | omega)) ?_
    refine .gT ?_
    refine .move ?_
    refine .gT ?_
    refine .eqi ?_
    refine .pickT ?_
    refine .move ?_
    refine .cast (d:=25) (u:=.bool true) rfl (congrArg Value.bool (by first | (simp;done) | (exact decide_eq_true (by omega)) | (exact decide_eq_false (by omega)) | (simp;omega) | omega)) ?_
    refine .gT ?_
    refine .move ?_
    refine .gT ?_
    refine .lenS ?_ sl92
    refine .gT ?_
    refine .gtr ?_
    refine .pickT ?_
    refine .move ?_
    refine .cast (d:=30) (u:=.bool false) rfl (congrArg Value.bool (by first | (simp;done) | (exact decide_eq_true (by omega)) | (exact decide_eq_false (by omega)) | (simp;omega) | omega)) ?_
    refine .gF ?_
    refine .gF ?_
    refine .gF ?_
    refine .pickF ?_
    refine .move ?_
    refine .gF ?_
    refine .gF ?_
    refine .gF ?_
    refine .gF ?_
    refine .gF ?_
    refine .pickF ?_
    refine .assign (.z ?_)
    refine .ret (?_)
    exact .ret1 (h1:=.tmp (t:=4) rfl) ⟨_,⟨by rw [hmt,decide_eq_false h1];rfl,rfl⟩,Am.auto⟩
theorem fsRenameC0 {f s a c mp:Nat} {p:Pl} {T:FT} {from_ to:Bytes} {b3 b4 b5:Nat} (h1:from_.length<=1000000) (h2:to.length<=1000000) (hm:mayT from_ to=false):Spec Tryz.prog 93 #[.pointer (some ⟨b4,0,none⟩),.pointer (some ⟨b5,0,none⟩),.pointer (some ⟨b3,0,none⟩)] [pt f (fO c a s false false false mp),LD mp T,IN s a c p (fmT T) (fmT T) 0 true,bun [pt b3 (.cells #[.pointer (some ⟨f,0,none⟩)] 23 (0,0)),pt b4 (.cells #[sv from_] 9 (0,0)),pt b5 (.cells #[sv to] 9 (0,0))]] fun F v M=>v=nI 1/\M=pt f (fO c a s false false false mp) :: LD mp T :: IN s a c p (fmT T) (fmT T) 0 true :: bun [pt b3 (.cells #[.pointer (some ⟨f,0,none⟩)] 23 (0,0)),pt b4 (.cells #[sv from_] 9 (0,0)),pt b5 (.cells #[sv to] 9 (0,0))] :: F:=by
 refine Spec.intro Tryz.func93 rfl rfl fun B F=>?_
 simp only [Tryz.ntmps93,List.cons_append,List.nil_append,env0,Nat.reduceAdd]
 refine .openR (bun.opens _) fun _ _=>?_
 simp only [List.cons_append,List.nil_append]
 refine .sr (.assign (.z (.seq (.sr ?_))))
 refine .ld ?_ sc9
 refine .ld ?_ sc9
 refine .call (hc:=Tryz.call94) (sp:=fsMay h1 h2) (h:=?_)
 rintro _ _ ⟨rfl,rfl⟩
 rw [hm]
 refine .not ?_
 refine .z ?_
 refine .condT rfl rfl ?_
 refine .sr (.assign (.z ?_))
 refine .ret (.thenRet (?_))
 refine .shutR (bun.opens [pt b3 (.cells #[.pointer (some ⟨f,0,none⟩)] 23 (0,0)),pt b4 (.cells #[sv from_] 9 (0,0)),pt b5 (.cells #[sv to] 9 (0,0))]) () trivial ?_
 exact .ret1 (h1:=.tmp (t:=3) rfl) ⟨_,⟨rfl,rfl⟩,Am.auto⟩
theorem fsRenameNo {f:Nat} {p:Pl} {T:FT} {from_ to:Bytes} (ho:PlOk p) (h1:from_.length<=1000000) (h2:to.length<=1000000) (hm:mayT from_ to=false):Spec Tryz.prog 47 #[.pointer (some ⟨f,0,none⟩),sv from_,sv to] [FSR f p T] fun F v M=>v=nI 1/\M=FSR f p T :: F:=by
 refine Spec.intro Tryz.func47 rfl rfl fun B F=>?_
 simp only [Tryz.ntmps47,List.cons_append,List.nil_append,env0,Nat.reduceAdd]
 refine .openR (FSR.opens f p T) fun y _=>?_
 obtain ⟨c,a,s,mp⟩:=y
 simp only [fsLs,List.cons_append,List.nil_append]
 refine .sr ?_
 refine .box fun b3=>?_
 refine .box fun b4=>?_
 refine .box fun b5=>?_
 refine .assign (.x ?_)
 refine .ld ?_ sc23
 refine .shutR (bun.opens [pt b3 (.cells #[.pointer (some ⟨f,0,none⟩)] 23 (0,0)),pt b4 (.cells #[sv from_] 9 (0,0)),pt b5 (.cells #[sv to] 9 (0,0))]) () trivial ?_
 refine .makeFuncB ?_
 refine .call (hc:=Tryz.call92) (sp:=fsChangeE (s:=s) (a:=a) (c:=c) (p:=p) (f:=f) (mp:=mp) (T:=T) (S:=T) (e:=1) (by decide) ho (hc:=Tryz.call93) (sp:=(fsRenameC0 (b3:=b3) (b4:=b4) (b5:=b5) h1 h2 hm))) (h:=?_)
 rintro _ _ ⟨rfl,rfl⟩
 refine .assign (.z ?_)
 refine .ret (?_)
 refine .shutR (FSR.opens f p T) (c,a,s,mp) trivial ?_
 exact .ret1 (h1:=.tmp (t:=6) rfl) ⟨_,⟨rfl,rfl⟩,Am.auto⟩
theorem l10Fresh {p:Pl} (h:PlIs p):Spec Tryz.prog 46 #[nI p.n,nI p.ino] [] fun F v M=>∃ d f m,v=.tuple #[.pointer (some ⟨d,0,none⟩),.pointer (some ⟨f,0,none⟩),.pointer (some ⟨m,0,none⟩),.bool true]/\M=FSR f p rootT :: F:=by
 refine Spec.intro Tryz.func46 rfl rfl fun B F=>?_
 simp only [Tryz.ntmps46,List.cons_append,List.nil_append,env0,Nat.reduceAdd]
 have hn2:=h.n2
 have h246:246<=p.n:=by have:=h.bm;have:=h.m1;have:=h.da;have:=h.dc;have:=h.d1;omega
 refine .sr (.assign (.assign (.assign (.assign (.x (.move ?_))))))
 refine .call (hc:=Tryz.call62) (sp:=devNew (n:=p.n) (by omega) (by omega)) (h:=?_)
 rintro _ _ ⟨d,rfl,rfl⟩
 refine .move ?_
 refine .extract ?_
 refine .extract ?_
 refine .assign (.assign (.x (.move (.move ?_))))
 refine .call (hc:=Tryz.call57) (sp:=refFs0 h) (h:=?_)
 rintro _ _ ⟨m,rfl,rfl⟩
 refine .move ?_
 refine .extract ?_
 refine .extract ?_
 refine .assign (.assign (.z (.seq (.sr (.move ?_)))))
 refine .nei ?_
 refine .move ?_
 refine .cast (d:=27) (u:=.bool false) rfl (congrArg Value.bool (by first|simp;done|simp;omega|omega)) ?_
 refine .gT ?_
 refine .move ?_
 refine .gT ?_
 refine .nei ?_
 refine .pickF ?_
 refine .move ?_
 refine .cast (d:=31) (u:=.bool false) rfl (congrArg Value.bool (by first|simp;done|simp;omega|omega)) ?_
 refine .gT ?_
 refine .move ?_
 refine .gT ?_
 refine .eqNil ?_ ptr22
 refine .pickF ?_
 refine .move ?_
 refine .gT ?_
 refine .move ?_
 refine .gT ?_
 refine .move ?_
 refine .gT ?_
 refine .call (hc:=Tryz.call63) (sp:=fsMkfs h) (h:=?_)
 rintro _ _ ⟨J,rfl,hJ,rfl⟩
 refine .gT ?_
 refine .nei ?_
 refine .pickF ?_
 refine .z ?_
 refine .condF rfl (congrArg Value.bool (by first|simp;done|simp;omega|omega)) ?_
 refine .skip (.next (.sr (.move ?_)))
 refine .call (hc:=Tryz.call64) (sp:=fsMountNew h hJ) (h:=?_)
 rintro _ _ ⟨f,rfl,rfl⟩
 refine .move ?_
 refine .extract ?_
 refine .extract ?_
 refine .assign (.assign (.x (.move (.move (.move (.move ?_))))))
 refine .eqi ?_
 refine .move ?_
 refine .gT ?_
 refine .move ?_
 refine .gT ?_
 refine .neNil ?_ ptr23
 refine .pickT ?_
 refine .assign (.assign (.assign (.assign (.z ?_))))
 refine .ret (?_)
 exact .ret4 (h1:=.tmp (t:=4) rfl) (h2:=.tmp (t:=5) rfl) (h3:=.tmp (t:=6) rfl) (h4:=.tmp (t:=7) rfl) ⟨_,⟨d,f,m,rfl,rfl⟩,Am.auto⟩
theorem agg192:aggOk Tryz.prog 192 2=true:=by kernel_rfl
theorem fo192_0:fieldOk Tryz.prog 192 0 0=true:=by kernel_rfl
abbrev SortE (l:List Ent):Prop:=l.Pairwise fun x y=>¬ y.1 < x.1
def insE (l:List Ent) (j:Nat) (x:Ent):List Ent:=l.take j++x :: l.drop j
theorem insE_length (l:List Ent) {j:Nat} (h:j<=l.length) (x:Ent):(insE l j x).length=l.length+1:=by
 unfold insE
 rw [List.length_append,List.length_cons,List.length_take,List.length_drop];omega
theorem insE_end (l:List Ent) (x:Ent):insE l l.length x=l++[x]:=by unfold insE;rw [List.take_length,List.drop_length]
theorem insE_perm (l:List Ent) (j:Nat) (x:Ent):(insE l j x).Perm (l++[x]):=by
 unfold insE
 have h:=(List.take_append_drop j l)
 refine (List.perm_middle).trans ?_
 rw [List.take_append_drop]
 exact (List.perm_append_singleton x l).symm
theorem insE_at {l:List Ent} {j:Nat} (h:j<=l.length) (x:Ent):(insE l j x)[j]?=some x:=by
 unfold insE
 rw [List.getElem?_append_right (by rw [List.length_take];omega),List.length_take,Nat.min_eq_left h,Nat.sub_self];rfl
theorem insE_lo {l:List Ent} {j i:Nat} (h:j<=l.length) (hi:i < j) (x:Ent):(insE l j x)[i]?=l[i]?:=by
 unfold insE
 rw [List.getElem?_append_left (by rw [List.length_take];omega),List.getElem?_take,if_pos hi]
theorem insE_hi {l:List Ent} {j i:Nat} (h:j<=l.length) (hi:j<=i) (x:Ent):(insE l j x)[i+1]?=l[i]?:=by
 unfold insE
 rw [List.getElem?_append_right (by rw [List.length_take];omega),List.length_take,Nat.min_eq_left h,show i+1 - j=(i - j)+1 from by omega,List.getElem?_cons_succ,List.getElem?_drop,show j+(i - j)=i from by omega]
theorem insE_swap {l:List Ent} {j:Nat} (h:j+1<=l.length) (x:Ent) {y:Ent} (hy:l[j]?=some y):((insE l (j+1) x).set (j+1) y).set j x=insE l j x:=by
 refine List.ext_getElem? fun i=>?_
 have hl:=insE_length l h x
 rw [List.getElem?_set]
 by_cases h1:j=i
 ·subst h1
  rw [if_pos rfl,if_pos (by rw [List.length_set];omega),insE_at (by omega)]
 ·rw [if_neg h1,List.getElem?_set]
  by_cases h2:j+1=i
  ·subst h2
   rw [if_pos rfl,if_pos (by omega),insE_hi (by omega) (Nat.le_refl _),hy]
  ·rw [if_neg h2]
   by_cases h3:i < j
   ·rw [insE_lo h (by omega),insE_lo (by omega) h3]
   ·obtain ⟨k,rfl⟩:∃ k,i=k+1:=⟨i - 1,by omega⟩
    rw [insE_hi h (by omega),insE_hi (by omega) (by omega)]
theorem SortE.ins {l:List Ent} (hs:SortE l) {j:Nat} {x:Ent} (hj:j<=l.length) (hhi:∀ y∈l.drop j,x.1 < y.1) (hlo:j=0 ∨ ∃ y,l[j - 1]?=some y/\¬ x.1 < y.1):SortE (insE l j x):=by
 unfold insE
 refine List.pairwise_append.2 ⟨List.Pairwise.sublist (List.take_sublist j l) hs,List.pairwise_cons.2 ⟨fun y hy h=>?_,List.Pairwise.sublist (List.drop_sublist j l) hs⟩,fun a ha b hb=>?_⟩
 ·exact List.lt_irrefl _ (List.lt_trans h (hhi y hy))
 ·obtain ⟨i,hi,hia⟩:=List.mem_iff_getElem.1 ha
  rw [List.length_take] at hi
  rw [List.getElem_take] at hia
  have hij:i < j:=by omega
  rcases List.mem_cons.1 hb with rfl | hb
  ·rcases hlo with h0 | ⟨y,hy,hxy⟩
   ·omega
   ·obtain ⟨hjl,hyl⟩:=List.getElem?_eq_some_iff.1 hy
    rcases Nat.lt_or_ge i (j - 1) with h | h
    ·have h3:=List.pairwise_iff_getElem.1 hs i (j - 1) (by omega) hjl h
     rw [hia,hyl] at h3
     intro h4
     have b1:y.1<=b.1:=hxy
     have b2:a.1<=y.1:=h3
     exact (List.le_trans b2 b1) h4
    ·have:i=j - 1:=by omega
     subst this
     rw [hia] at hyl;subst hyl;exact hxy
  ·obtain ⟨k,hk,hkb⟩:=List.mem_iff_getElem.1 hb
   rw [List.length_drop] at hk
   rw [List.getElem_drop] at hkb
   have h3:=List.pairwise_iff_getElem.1 hs i (j+k) (by omega) (by omega) (by omega)
   rw [hia,hkb] at h3
   exact h3
theorem entF_length (l:List Ent):(l.flatMap entL).length=l.length * 2:=flat_length (enc:=entL) (m:=2) entL_length l
theorem entF_get {l:List Ent} {i:Nat} {x:Ent} (h:l[i]?=some x):(l.flatMap entL)[i * 2]?=some (sv x.1)/\(l.flatMap entL)[i * 2+1]?=some (nI x.2):=by
 induction l generalizing i with
 | nil=>cases h
 | cons a l ih =>
  rw [List.flatMap_cons]
  cases i with
  | zero =>
   injection h with h;subst h
   exact ⟨rfl,rfl⟩
  | succ i =>
   have:=ih (i:=i) h
   rw [show (i+1) * 2=i * 2+2 from by omega]
   constructor
   ·rw [List.getElem?_append_right (by show 2<=_;omega)]
    show (l.flatMap entL)[i * 2+2 - 2]?=_
    rw [Nat.add_sub_cancel];exact this.1
   ·rw [List.getElem?_append_right (by show 2<=_;omega)]
    show (l.flatMap entL)[i * 2+2+1 - 2]?=_
    rw [show i * 2+2+1 - 2=i * 2+1 from by omega];exact this.2
theorem entF_part {l:List Ent} {i:Nat} {x:Ent} (h:l[i]?=some x):((l.flatMap entL).drop (i * 2)).take 2=entL x:=by
 have h1:=entF_get h
 refine List.ext_getElem? fun j=>?_
 rw [List.getElem?_take]
 split
 ·rename_i hj
  rw [List.getElem?_drop]
  rcases j with _ | _ | j
  ·exact h1.1
  ·exact h1.2
  ·omega
 ·rename_i hj
  rw [List.getElem?_eq_none (by show 2<=j;omega)]
theorem entF_set {l:List Ent} {i:Nat} (h:i < l.length) (x:Ent):(l.flatMap entL).take (i * 2)++entL x++(l.flatMap entL).drop (i * 2+2)=(l.set i x).flatMap entL:=by
 induction l generalizing i with
 | nil=>cases h
 | cons a l ih =>
  cases i with
  | zero=>rfl
  | succ i =>
   have:=ih (i:=i) (by simpa using h)
   rw [List.set_cons_succ,List.flatMap_cons,List.flatMap_cons,<-this]
   have e1:(entL a++l.flatMap entL).take ((i+1) * 2)=entL a++(l.flatMap entL).take (i * 2):=by
    rw [show (i+1) * 2=(entL a).length+i * 2 from by show _=2+i * 2;omega,List.take_length_add_append]
   have e2:(entL a++l.flatMap entL).drop ((i+1) * 2+2)=(l.flatMap entL).drop (i * 2+2):=by
    rw [show (i+1) * 2+2=(entL a).length+(i * 2+2) from by show _=2+(i * 2+2);omega,List.drop_length_add_append]
   rw [e1,e2]
   simp only [List.append_assoc]
theorem bsSn (a:ByteArray):BuildSOk Tryz.prog 92 1 [(0,.string a)] 9 #[.string a]:=fun w=>by kernel_rfl
theorem take_succ' {α:Type} {l:List α} {k:Nat} (h:k < l.length):l.take (k+1)=l.take k++[l[k]]:=List.take_succ_eq_append_getElem h
theorem fsList {f:Nat} {p:Pl} {T:FT} {path:Bytes} (ho:PlOk p) (hT:TOk T) (hpl:path.length<=1000000) {i z:Nat} {sl:List Slot} (hl:leadsT T path=(i,2,z,0)) (hd:T i=some (.dir sl)):Spec Tryz.prog 51 #[.pointer (some ⟨f,0,none⟩),sv path] [FSR f p T] fun F v M=>∃ u l,v=.tuple #[u,.int .i64 0]/\((l:List Ent).Perm (entsS sl)/\SortE l)/\M=rowR 9 1 u (l.map (·.1)).length (svs (l.map (·.1))) :: FSR f p T :: F:=by
 refine Spec.intro Tryz.func51 rfl rfl fun B F=>?_
 simp only [Tryz.ntmps51,List.cons_append,List.nil_append,env0,Nat.reduceAdd]
 refine .openR (FSR.opens f p T) fun y _=>?_
 obtain ⟨c,a,s,mp⟩:=y
 simp only [fsLs,List.cons_append,List.nil_append]
 have hto:=hT i sl hd
 refine .sr (.assign (.assign (.x (.move (.move ?_)))))
 refine .call (hc:=Tryz.call77) (sp:=fsLeads (f:=f) (s:=s) (a:=a) (c:=c) (mp:=mp) (b:=false) (ov:=false) (dead:=false) (p:=p) (T:=T) (F0:=fmT T) (W:=0) (op:=false) (path:=path) ho hT hpl) (h:=?_)
 rintro _ _ ⟨rfl,rfl⟩
 rw [hl]
 refine .move ?_
 refine .extract ?_
 refine .extract ?_
 refine .extract ?_
 refine .alloc z51 fun b7=>?_
 refine .assign ?_
 refine .stV ?_ agg51
 refine .assign (.z (.seq (.sr (.move ?_))))
 refine .nei ?_
 refine .z ?_
 refine .condF rfl (congrArg Value.bool (by first|simp;done|simp;omega|omega)) ?_
 refine .skip (.next (.sr (.move ?_)))
 refine .nilCheck ?_
 refine .fa ?_ fo129_2
 refine .ld ?_ sc126
 refine .move ?_
 refine .call (hc:=Tryz.call111) (sp:=dList (s:=s) (a:=a) (c:=c) (p:=p) (F0:=fmT T) (Fm:=fmT T) (W:=0) (d:=i) (op:=false) (sl:=sl) ho (fmT_some hd) hto.1 (by omega)) (h:=?_)
 rintro _ _ ⟨u,l,rfl,⟨hlp,hls⟩,rfl⟩
 have hll:=hlp.length_eq
 have hle:=entsS_length (sl:=sl)
 refine .fact (rowR_shape (el:=192) (size:=2) (v:=u) (k:=l.length) (xs:=l.flatMap entL)) (fun ⟨A,cc,hu,hR0,hc1,hc2,hlen⟩=>?_)
 subst hu
 refine .move ?_
 refine .extract ?_
 refine .extract ?_
 refine .assign (.assign (.z (.seq (.sr (.move ?_)))))
 refine .nei ?_
 refine .z ?_
 refine .condF rfl (congrArg Value.bool (by first|simp;done|simp;omega|omega)) ?_
 refine .skip (.next (.sr (.assign ?_)))
 refine .emp (rowR.nil (e:=9) (size:=1) _) ?_
 refine .z (.seq (.sr (.move ?_)))
 refine .lenS ?_ sl188
 refine .move (.z (.block ?_))
 refine .loopA (σ:=Nat×Value) (fun y=>[(10,y.2),(35,.slice A l.length cc),(36,.int .i64 (l.length:Int)),(37,.int .i64 ((y.1:Nat):Int))]) (fun y=>[rowR 9 1 y.2 y.1 (svs ((l.map (·.1)).take y.1)),rowR 192 2 (.slice A l.length cc) l.length (l.flatMap entL),pt f (fO c a s false false false mp),LD mp T,IN s a c p (fmT T) (fmT T) 0 false]++F) (fun y=>y.1<=l.length) (fun y=>l.length - y.1) (0,.slice none 0 0) (Nat.zero_le _) ?_
 rintro y hk
 obtain ⟨k,o⟩:=y
 simp only at hk ⊢
 refine .sr ?_
 refine .lss ?_
 refine .z (.seq ?_)
 refine .cond rfl (fun hb=>?_) (fun hb=>?_)
 ·have hlt:k < l.length:=by have h:(k:Int) < (l.length:Int):=of_decide_eq_true hb;omega
  rcases A with _ | ⟨ab,ao,asp⟩
  ·exact absurd (congrArg List.length (show l.flatMap entL=[] from hR0)) (by rw [entF_length,List.length_nil];omega)
  have hsp:asp=none:=hR0.1
  subst hsp
  have hlk:l[k]?=some l[k]:=List.getElem?_eq_getElem hlt
  have hml:(l.map (·.1)).length=l.length:=List.length_map ..
  refine .skip (.next (.seq (.block (.sr ?_))))
  refine .idx ?_ so188
  refine .ldAR (i:=((k:Nat):Int).toNat * 2) (us:=entL l[k]) ?_ agg192 hR0 (by rw [Int.toNat_natCast];exact entF_part hlk) (by rw [entF_length,Int.toNat_natCast];omega)
  refine .alloc z192 fun b12=>?_
  refine .stV ?_ agg192
  refine .y (.move ?_)
  refine .fa ?_ fo192_0
  refine .ld ?_ sc9
  refine .buildS (fun b44=>?_) (bsSn _)
  refine .append (m:=1) (news:=[sv l[k].1]) so92 (by decide) (by repeat (first | exact .here | apply Rem.there | apply Repl.there | apply Mem.there)) Reads.pt (by repeat (first | exact .here | apply Rem.there | apply Repl.there | apply Mem.there)) rfl (by intro x hx;simp only [List.mem_cons,List.not_mem_nil,or_false] at hx;subst hx;rfl) (by show k+1<=maxLen;unfold maxLen;omega) (by show (k+1) * _<=_;omega) ⟨_,z9,rfl⟩ (fun u2 hu2=>?_)
  refine .assign (.nil (.blockNormal (.next (.region ?_))))
  refine .add ?_
  refine .move (.nil ?_)
  refine .to (A:=rowR 9 1 u2 (k+1) (svs ((l.map (·.1)).take k)++[sv l[k].1])) (A':=rowR 9 1 u2 (k+1) (svs ((l.map (·.1)).take (k+1)))) (fun h hh=>by rw [take_succ' (by omega),List.getElem_map];unfold svs at hh ⊢;rw [List.map_append];exact hh) ?_
  refine .cast (d:=37) (u:=.int .i64 ((k+1:Nat):Int)) rfl (congrArg (Value.int .i64) (by omega)) ?_
  exact .back (k+1,u2) (by show k+1<=l.length;omega) (by show l.length - (k+1) < l.length - k;omega)
 ·have hge:k=l.length:=by have h:¬ (k:Int) < (l.length:Int):=of_decide_eq_false hb;omega
  subst hge
  have hml:(l.map (·.1)).length=l.length:=List.length_map ..
  rw [List.take_of_length_le (Nat.le_of_eq hml)]
  refine .exit (.thenExit (.thenExit (.blockExit (?_))))
  refine .next (.sr (.move (.assign (.assign (.z ?_)))))
  refine .ret (?_)
  refine .shutR (FSR.opens f p T) (c,a,s,mp) trivial ?_
  exact .ret2 (h1:=.tmp (t:=4) rfl) (h2:=.tmp (t:=5) rfl) ⟨_,⟨o,l,rfl,⟨hlp,hls⟩,by rw [hml]⟩,Am.auto⟩
theorem alikeTexts {R R':HP} {A A':Option Addr} {n c c':Nat} {xs:List Bytes} (hR:xs=[] ∨ Reads R A (svs xs)) (hR':xs=[] ∨ Reads R' A' (svs xs)) (hn:xs.length=n) (hb1:n<=9223372036854775807):Spec Tryz.prog 53 #[.slice A n c,.slice A' n c'] [R,R'] fun F v M=>v=.bool true/\M=R :: R' :: F:=by
 refine Spec.intro Tryz.func53 rfl rfl fun B F=>?_
 simp only [Tryz.ntmps53,List.cons_append,List.nil_append,env0,Nat.reduceAdd]
 refine .sr (.assign (.z (.seq (.sr (.move ?_)))))
 refine .lenS ?_ sl92
 refine .move ?_
 refine .lenS ?_ sl92
 refine .nei ?_
 refine .z ?_
 refine .condF rfl (congrArg Value.bool (by first|simp;done|simp;omega|omega)) ?_
 refine .skip (.next (.seq (.sr (.assign (.z (.block ?_))))))
 refine .loopA (σ:=Nat) (fun i=>[(0,.slice A n c),(1,.slice A' n c'),(5,.int .i64 (i:Int))]) (fun i=>R :: R' :: F) (fun i=>i<=n) (fun i=>n - i) 0 (Nat.zero_le _) ?_
 rintro i hi
 refine .seq (.sr (.move (.move ?_)))
 refine .lenS ?_ sl92
 refine .lss ?_
 refine .z ?_
 refine .cond rfl (fun hb=>?_) (fun hb=>?_)
 ·have hlt:i < xs.length:=by have h:(i:Int) < (n:Int):=of_decide_eq_true hb;omega
  have hRx:=hR.resolve_left (by intro h0;rw [h0] at hlt;simp at hlt)
  have hRy:=hR'.resolve_left (by intro h0;rw [h0] at hlt;simp at hlt)
  rcases A with _ | ⟨ab,ao,asp⟩
  ·exact absurd (congrArg List.length (show svs xs=[] from hRx)) (by rw [svs_length,List.length_nil];omega)
  rcases A' with _ | ⟨ab',ao',asp'⟩
  ·exact absurd (congrArg List.length (show svs xs=[] from hRy)) (by rw [svs_length,List.length_nil];omega)
  have hsp:asp=none:=hRx.1
  subst hsp
  have hsp':asp'=none:=hRy.1
  subst hsp'
  have hg:(svs xs)[((i:Nat):Int).toNat]?=some (sv xs[i]):=svs_get hlt
  refine .skip (.next (.seq (.block (.seq ?_))))
  refine .dr ([R,R']) [] 9 mixed .autoJ ?_
  refine .tk 0 rfl .move ?_
  refine .tk 1 rfl .move ?_
  refine .tk 2 rfl (.idx1 so92) ?_
  refine .tk 3 rfl (Qt.ldR (i:=((i:Nat):Int).toNat) sc9 hRx hg) ?_
  refine .tk 4 rfl .move ?_
  refine .tk 5 rfl .move ?_
  refine .tk 6 rfl (.idx1 so92) ?_
  refine .tk 7 rfl (Qt.ldR (i:=((i:Nat):Int).toNat) sc9 hRy hg) ?_
  refine .tk 8 rfl (Qt.neS xs[i] xs[i]) ?_
  refine .fin ?_
  refine .next ?_
  refine .condF rfl (congrArg Value.bool (by simp)) ?_
  refine .skip (.blockNormal (.next (.region (.move ?_))))
  refine .add ?_
  refine .assign (.nil ?_)
  refine .cast (d:=5) (u:=.int .i64 ((i+1:Nat):Int)) rfl (congrArg (Value.int .i64) (by omega)) ?_
  exact .back (i+1) (by show i+1<=n;omega) (by omega)
 ·refine .exit (.thenExit (.thenExit (.blockExit (?_))))
  refine .next (.sr (.assign (.z ?_)))
  refine .ret (?_)
  exact .ret1 (h1:=.tmp (t:=4) rfl) ⟨_,⟨rfl,rfl⟩,Am.auto⟩
theorem sl282:Tryz.prog.underlying 282=some (.slice 285):=by kernel_rfl
theorem so282:sliceOk Tryz.prog 282 285 2 24=true:=by kernel_rfl
theorem fo285_0:fieldOk Tryz.prog 285 0 0=true:=by kernel_rfl
theorem z285:zeroOf Tryz.prog 285=some (#[.string ⟨#[]⟩,.int .i64 0]):=by kernel_rfl
theorem agg285:aggOk Tryz.prog 285 2=true:=by kernel_rfl
theorem bdE6 (s:ByteArray) (i:Int):BuildOk Tryz.prog 285 [(0,.string s),(1,.int .i64 i)] #[.string s,.int .i64 i]:=fun w=>by kernel_rfl
theorem bsE6 (s:ByteArray) (i:Int):BuildSOk Tryz.prog 282 1 [(0,.agg #[.string s,.int .i64 i])] 285 #[.string s,.int .i64 i]:=fun w=>by kernel_rfl
theorem rowR_reads {el size g k c:Nat} {xs:List Value}:Reads (rowR el size (.slice (some ⟨g,0,none⟩) k c) k xs) (some ⟨g,0,none⟩) xs:=by
 refine ⟨rfl,fun h' hh'=>?_⟩
 unfold rowR at hh'
 obtain ⟨q1,q2⟩:=hh'
 rcases q2 with ⟨q2,_⟩ | ⟨g',cap',cur',q2,q3,q4,q5,q6,q7⟩
 ·simp at q2
 ·injection q2 with q21 q22 q23
  injection q21 with q21
  injection q21 with q21
  subst q21
  refine ⟨true,cur',el,(0,0),q3,fun i hi=>?_⟩
  rw [<- q1] at q7
  have:=take_get q7 i hi
  simpa using this
theorem Qt.ltS {P:Program} {B:Base} {n:Fr} {e:Env} {L:List HP} {d:Nat} {ty:TypeId} {pos:String} {af:Array Edge} {x y:Operand} {gd:Option (Nat×Bool)} {t u:TypeId} (xs ys:Bytes) (hx:evo e x=some (sv xs):=by rfl) (hy:evo e y=some (sv ys):=by rfl) :
  Qt P B n e L ⟨some d,.binOp .lss t x y u,ty,pos,af,gd⟩ (.bool (decide (xs < ys))) :=
 Qt.strs (xs:=bstr xs) (ys:=bstr ys) (fun w=>by
  have h1:Op.bytesLess (bstr xs).toList (bstr ys).toList=decide (xs < ys):=by rw [Go.Proofs.bytesLess_eq,ByteArray.toList_eq,ByteArray.toList_eq];rfl
  rw [binOp_string_lss,h1];rfl) hx hy
theorem entsS_none {sl:List Slot} {k:Nat} (h:k < sl.length) (hs:sl[k]=none):entsS (sl.take (k+1))=entsS (sl.take k):=by
 unfold entsS
 rw [take_succ' h,List.filterMap_append,hs]
 exact List.append_nil _
theorem entsS_some {sl:List Slot} {k:Nat} {x:Ent} (h:k < sl.length) (hs:sl[k]=some x):entsS (sl.take (k+1))=entsS (sl.take k)++[x]:=by
 unfold entsS
 rw [take_succ' h,List.filterMap_append,hs]
 rfl
theorem rsList {s:Nat} {p:Pl} {T:FT} {os:List (Nat×Obj)} {N:Nat} (hi0:1<=p.ino) (hi1:p.ino<=4096) {d:Nat} {sl:List Slot} (hT:RT p T) (hTd:T d=some (.dir sl)):Spec Tryz.prog 198 #[.pointer (some ⟨s,0,none⟩),nI d] [RS s p T os N,frz os] fun F v M=>∃ u l,v=.tuple #[u,.int .i64 0]/\((l:List Ent).Perm (entsS sl)/\SortE l)/\M=rowR 285 2 u l.length (l.flatMap entL) :: RS s p T os N :: frz os :: F:=by
 refine Spec.intro Tryz.func198 rfl rfl fun B F=>?_
 simp only [Tryz.ntmps198,List.cons_append,List.nil_append,env0,Nat.reduceAdd]
 have hi:d < p.ino:=in_ino hT hTd
 have hsl:=(hT.ok d sl hTd).2
 refine .sr (.assign (.assign (.z (.seq (.sr (.move (.move ?_)))))))
 refine .call (hc:=Tryz.call161) (sp:=rsThere (s:=s) (p:=p) (T:=T) (os:=os) (N:=N) hi0 hi1 (i:=d) hT) (h:=?_)
 rintro _ _ ⟨rfl,rfl⟩
 rw [hTd]
 refine .not ?_
 refine .z ?_
 refine .condF rfl rfl ?_
 refine .skip (.next (.seq (.sr ?_)))
 refine .openR (RS.opens s p T os N) fun y hy=>?_
 obtain ⟨u,L,wk,mv,ms⟩:=y
 simp only [rsLs,List.cons_append,List.nil_append]
 refine .fact (rowR_some (el:=244) (size:=2) (v:=u) (k:=p.ino) (xs:=L.flatMap rowV) (by omega)) (fun ⟨ab,cc,hu,hR,hc1,hc2⟩=>?_)
 subst hu
 have hlen:L.length=p.ino:=hy.len
 have hil:d < L.length:=by omega
 have hrow:=hy.row d hil
 obtain ⟨A1,c1,hs1,hr1,hl1,hm1⟩:=hrow.sl
 obtain ⟨e1,hek⟩:∃ e,L[d]=e:=⟨_,rfl⟩
 have hkd:e1.1=refK (T d):=hek ▸ hrow.kd
 have hg0:(L.flatMap rowV)[((d:Nat):Int).toNat * 2+0]?=some (nI e1.1):=by rw [Int.toNat_natCast,<-hek];exact (rowV_get hil).1
 have hg1:(L.flatMap rowV)[((d:Nat):Int).toNat * 2+1]?=some (.slice A1 (refBy (T d)).length c1):=by rw [Int.toNat_natCast,<-hs1];exact (rowV_get hil).2
 rw [hkd] at hg0
 rw [hTd] at hg0
 rw [refBy_dir hTd] at hg1 hr1 hl1
 have hrl:=rdirB_length sl
 refine .move ?_
 refine .nilCheck ?_
 refine .fa ?_ fo247_1
 refine .ld ?_ sc245
 refine .move ?_
 refine .idx ?_ so245
 refine .fa ?_ fo244_0
 refine .ldR (R:=rowR 244 2 (.slice (some ⟨ab,0,none⟩) p.ino cc) p.ino (L.flatMap rowV)) ?_ sc3 hR hg0
 refine .cast (d:=24) (u:=nI 2) rfl rfl ?_
 refine .nei ?_
 refine .z ?_
 refine .condF rfl (congrArg Value.bool (by first|simp;done|simp;omega|omega)) ?_
 refine .skip (.next (.sr (.assign ?_)))
 refine .emp (rowR.nil (e:=285) (size:=2) _) ?_
 refine .x (.move ?_)
 refine .nilCheck ?_
 refine .fa ?_ fo247_1
 refine .ld ?_ sc245
 refine .move ?_
 refine .idx ?_ so245
 refine .fa ?_ fo244_1
 refine .ldR (R:=rowR 244 2 (.slice (some ⟨ab,0,none⟩) p.ino cc) p.ino (L.flatMap rowV)) ?_ sc33 hR hg1
 refine .assign (.z (.seq (.sr (.assign (.z (.block ?_))))))
 refine .loopA (σ:=Nat×Value×List Ent) (fun y=>[(6,y.2.1),(7,.slice A1 (rdirB sl).length c1),(8,.int .i64 ((y.1:Nat):Int))]) (fun y=>[rowR 285 2 y.2.1 y.2.2.length (y.2.2.flatMap entL),pt s (sO p (.slice (some ⟨ab,0,none⟩) p.ino cc) wk mv),rowR 244 2 (.slice (some ⟨ab,0,none⟩) p.ino cc) p.ino (L.flatMap rowV),rowR 3 1 mv ms.length (ints ms),frz os]++F) (fun y=>y.1<=sl.length/\y.2.2.Perm (entsS (sl.take y.1))/\SortE y.2.2) (fun y=>sl.length - y.1) (0,.slice none 0 0,[]) ⟨Nat.zero_le _,List.Perm.refl _,List.Pairwise.nil⟩ ?_
 rintro y hi3
 obtain ⟨k,u,acc⟩:=y
 obtain ⟨hk,hpm,hso⟩:=hi3
 simp only at hk hpm hso ⊢
 refine .seq (.sr (.move ?_))
 refine .mul ?_
 refine .move ?_
 refine .lenS ?_ sl33
 refine .lss ?_
 refine .z ?_
 refine .cond rfl (fun hb=>?_) (fun hb=>?_)
 ·have hlt:k < sl.length:=by have h:64 * (k:Int) < ((rdirB sl).length:Int):=of_decide_eq_true hb;omega
  have hrR:=hr1.resolve_left (fun h=>by rw [h] at hrl;simp only [List.length_nil] at hrl;omega)
  obtain ⟨hs50,hs65⟩:=slot_small hT hTd hlt
  have hacc:acc.length<=k:=by
   have h1:=hpm.length_eq
   have h2:=entsS_length (sl:=sl.take k)
   rw [List.length_take] at h2;omega
  cases hs:sl[k] with
  | none =>
   have he:slotNm sl[k]=[]:=by rw [hs];rfl
   refine .skip (.next (.seq (.block (.sr (.move (.move ?_))))))
   refine .call (hc:=Tryz.call258) (sp:=rfAt (k:=k) (bs:=rdirB sl) (s:=sl[k]) hrR rfl (by omega) hl1 (by omega) (rdirB_at hlt) hs50 hs65) (h:=?_)
   rintro _ _ ⟨rfl,rfl⟩
   refine .move ?_
   refine .extract ?_
   refine .extract ?_
   refine .assign (.assign (.z (.seq (.sr (.move ?_)))))
   refine .eqS (slotNm sl[k]) [] ?_
   refine .cast (d:=48) (u:=.bool true) rfl (congrArg Value.bool (decide_eq_true he)) ?_
   refine .z ?_
   refine .condT rfl rfl ?_
   refine .exit (.thenExit (.blockExit (?_)))
   refine .next (.region (.move ?_))
   refine .add ?_
   refine .assign (.nil ?_)
   refine .cast (d:=8) (u:=.int .i64 ((k+1:Nat):Int)) rfl (congrArg (Value.int .i64) (by omega)) ?_
   exact .back (k+1,u,acc) ⟨by show k+1<=sl.length;omega,by show acc.Perm (entsS (sl.take (k+1)));rw [entsS_none hlt hs];exact hpm,hso⟩ (by show sl.length - (k+1) < sl.length - k;omega)
  | some x =>
   obtain ⟨nm,i⟩:=x
   have hnm:=((hT.ok d sl hTd).1.nm k nm i (by rw [List.getElem?_eq_getElem hlt,hs])).1
   have he:slotNm sl[k]≠[]:=by rw [hs];intro h;have h:nm=[]:=h;rw [h] at hnm;exact absurd hnm.1 (by decide)
   have hen:slotNm sl[k]=nm:=by rw [hs];rfl
   have hei:slotNo sl[k]=i:=by rw [hs];rfl
   refine .skip (.next (.seq (.block (.sr (.move (.move ?_))))))
   refine .call (hc:=Tryz.call258) (sp:=rfAt (k:=k) (bs:=rdirB sl) (s:=sl[k]) hrR rfl (by omega) hl1 (by omega) (rdirB_at hlt) hs50 hs65) (h:=?_)
   rintro _ _ ⟨rfl,rfl⟩
   refine .move ?_
   refine .extract ?_
   refine .extract ?_
   refine .assign (.assign (.z (.seq (.sr (.move ?_)))))
   refine .eqS (slotNm sl[k]) [] ?_
   refine .cast (d:=48) (u:=.bool false) rfl (congrArg Value.bool (decide_eq_false he)) ?_
   refine .z ?_
   refine .condF rfl rfl ?_
   refine .skip (.next (.sr (.move (.move ?_))))
   refine .cast (d:=50) (u:=sv nm) rfl (congrArg sv hen) ?_
   refine .move ?_
   refine .cast (d:=51) (u:=nI i) rfl (congrArg nI hei) ?_
   refine .build ?_ (bdE6 _ _)
   refine .buildS (fun b53=>?_) (bsE6 _ _)
   refine .append (m:=1) (news:=[sv nm,nI i]) so282 (by decide) (by repeat (first | exact .here | apply Rem.there | apply Repl.there | apply Mem.there)) Reads.pt (by repeat (first | exact .here | apply Rem.there | apply Repl.there | apply Mem.there)) rfl (by intro x hx;simp only [List.mem_cons,List.not_mem_nil,or_false] at hx;rcases hx with rfl | rfl<;>rfl) (by show acc.length+1<=maxLen;unfold maxLen;omega) (by show (acc.length+1) * _<=_;omega) ⟨_,z285,rfl⟩ (fun u2 hu2=>?_)
   refine .to (A:=rowR 285 2 u2 (acc.length+1) (acc.flatMap entL++[sv nm,nI i])) (A':=rowR 285 2 u2 (acc.length+1) ((insE acc acc.length (nm,i)).flatMap entL)) (fun h hh=>by rw [insE_end,List.flatMap_append];exact hh) ?_
   refine .fact (rowR_some (el:=285) (size:=2) (v:=u2) (k:=acc.length+1) (xs:=(insE acc acc.length (nm,i)).flatMap entL) (by omega)) (fun ⟨g2,c2,hu2',hR2,hc3,hc4⟩=>?_)
   subst hu2'
   refine .assign (.x (.move ?_))
   refine .lenS ?_ sl282
   refine .sub ?_
   refine .cast (d:=57) (u:=nI acc.length) rfl (congrArg (Value.int .i64) (by omega)) ?_
   refine .assign (.z (.block ?_))
   refine .loopA (σ:=Nat) (fun j=>[(6,.slice (some ⟨g2,0,none⟩) (acc.length+1) c2),(7,.slice A1 (rdirB sl).length c1),(8,.int .i64 ((k:Nat):Int)),(11,nI j)]) (fun j=>[rowR 285 2 (.slice (some ⟨g2,0,none⟩) (acc.length+1) c2) (acc.length+1) ((insE acc j (nm,i)).flatMap entL),pt s (sO p (.slice (some ⟨ab,0,none⟩) p.ino cc) wk mv),rowR 244 2 (.slice (some ⟨ab,0,none⟩) p.ino cc) p.ino (L.flatMap rowV),rowR 3 1 mv ms.length (ints ms),frz os]++F) (fun j=>j<=acc.length/\∀ y∈acc.drop j,nm < y.1) (fun j=>j) acc.length ⟨Nat.le_refl _,fun y hy=>by rw [List.drop_length] at hy;cases hy⟩ ?_
   rintro j hj2
   obtain ⟨hj,hhi⟩:=hj2
   refine .seq (.seq ?_)
   have hil2:=insE_length acc hj (nm,i)
   by_cases hj0:0 < j
   ·obtain ⟨q,rfl⟩:∃ q,j=q+1:=⟨j - 1,by omega⟩
    have hqa:q < acc.length:=by omega
    obtain ⟨z,hz⟩:∃ z,acc[q]?=some z:=⟨_,List.getElem?_eq_getElem hqa⟩
    have hat1:=insE_at hj (nm,i)
    have hat0:(insE acc (q+1) (nm,i))[q]?=some z:=by rw [insE_lo hj (by omega)];exact hz
    have hR2:=rowR_reads (el:=285) (size:=2) (g:=g2) (k:=acc.length+1) (c:=c2) (xs:=(insE acc (q+1) (nm,i)).flatMap entL)
    have hgx:=(entF_get hat1).1
    have hgz:=(entF_get hat0).1
    refine .dr ([rowR 285 2 (.slice (some ⟨g2,0,none⟩) (acc.length+1) c2) (acc.length+1) ((insE acc (q+1) (nm,i)).flatMap entL)]) [] 16 mixed .autoJ ?_
    refine .tk 0 rfl .move ?_
    refine .tk 1 rfl .gtr ?_
    refine .tk 2 rfl (Qt.eq .move (congrArg Value.bool (show decide (((q+1:Nat):Int) > 0)=true from decide_eq_true (by omega)))) ?_
    refine .tn 3 rfl .move ?_
    refine .tn 4 rfl .move ?_
    refine .tn 5 rfl (.idx so282) ?_
    refine .tn 6 rfl (.fa fo285_0) ?_
    refine .tn 7 rfl (Qt.ldR (i:=(((q+1:Nat):Int)).toNat * 2+0) sc9 hR2 (by rw [Int.toNat_natCast];exact hgx)) ?_
    refine .tn 8 rfl .move ?_
    refine .tn 9 rfl .move ?_
    refine .tn 10 rfl (Qt.eq .sub (congrArg (Value.int .i64) (show ((q+1:Nat):Int) - 1=((q:Nat):Int) by omega))) ?_
    refine .tn 11 rfl (.idx so282) ?_
    refine .tn 12 rfl (.fa fo285_0) ?_
    refine .tn 13 rfl (Qt.ldR (i:=(((q:Nat):Int)).toNat * 2+0) sc9 hR2 (by rw [Int.toNat_natCast];exact hgz)) ?_
    refine .tn 14 rfl (Qt.ltS nm z.1) ?_
    refine .tk 15 rfl .pickT ?_
    refine .fin ?_
    by_cases hlz:nm < z.1
    ·have hhi2:∀ y∈acc.drop q,nm < y.1:=by
      intro y hy
      rw [List.drop_eq_getElem_cons hqa] at hy
      rcases List.mem_cons.1 hy with hy | hy
      ·have:acc[q]=z:=by rw [List.getElem?_eq_getElem hqa] at hz;exact Option.some.inj hz
       rw [hy,this];exact hlz
      ·exact hhi y hy
     have hsw:=insE_swap (l:=acc) (j:=q) (by omega) (nm,i) hz
     have hsl1:q+1 < (insE acc (q+1) (nm,i)).length:=by omega
     obtain ⟨l1,hl1e⟩:∃ l1,(insE acc (q+1) (nm,i)).set (q+1) z=l1:=⟨_,rfl⟩
     have hl1l:l1.length=acc.length+1:=by rw [<- hl1e,List.length_set,hil2]
     refine .next ?_
     refine .condT rfl (congrArg Value.bool (by first | exact decide_eq_true hlz | (simp;done) | (simp;omega) | omega)) ?_
     refine .skip (.next (.seq (.block (.sr (.move (.move ?_))))))
     refine .idx ?_ so282
     refine .ldAR (i:=((q+1:Nat):Int).toNat * 2) (us:=entL (nm,i)) ?_ agg285 hR2 (by rw [Int.toNat_natCast];exact entF_part hat1) (by rw [entF_length,Int.toNat_natCast];omega)
     refine .alloc z285 fun b12=>?_
     refine .stV ?_ agg285
     refine .x (.move (.move (.move (.move ?_))))
     refine .sub ?_
     refine .cast (d:=84) (u:=nI q) rfl (congrArg (Value.int .i64) (by omega)) ?_
     refine .idx ?_ so282
     refine .ldAR (i:=((q:Nat):Int).toNat * 2) (us:=entL z) ?_ agg285 hR2 (by rw [Int.toNat_natCast];exact entF_part hat0) (by rw [entF_length,Int.toNat_natCast];omega)
     refine .idx ?_ so282
     refine .stRowA (g:=g2) (size:=2) (num:=acc.length+1) (c:=c2) (off:=0+((q+1:Nat):Int).toNat * 2) (xs:=(insE acc (q+1) (nm,i)).flatMap entL) (us:=(entL z).toArray) rfl ?_ agg285 rfl (show [_,_]≠[] from List.cons_ne_nil _ _) (by intro x hx;unfold entL at hx;simp only [List.mem_cons,List.not_mem_nil,or_false] at hx;rcases hx with rfl | rfl<;>rfl) (by rw [entF_length,Int.toNat_natCast];show 0+(q+1) * 2+2<=_;omega) (by repeat (first | exact .here | apply Rem.there | apply Repl.there | apply Mem.there))
     refine .to (A:=rowR 285 2 (.slice (some ⟨g2,0,none⟩) (acc.length+1) c2) (acc.length+1) (((insE acc (q+1) (nm,i)).flatMap entL).take (0+((q+1:Nat):Int).toNat * 2)++(entL z).toArray.toList++((insE acc (q+1) (nm,i)).flatMap entL).drop (0+((q+1:Nat):Int).toNat * 2+(entL z).toArray.toList.length))) (A':=rowR 285 2 (.slice (some ⟨g2,0,none⟩) (acc.length+1) c2) (acc.length+1) (l1.flatMap entL)) (fun h hh=>by rw [<- hl1e,<-entF_set (by omega)];rw [Int.toNat_natCast,Nat.zero_add] at hh;exact hh) ?_
     refine .y (.move (.move ?_))
     refine .sub ?_
     refine .cast (d:=90) (u:=nI q) rfl (congrArg (Value.int .i64) (by omega)) ?_
     refine .ldA ?_ agg285
     refine .idx ?_ so282
     refine .stRowA (g:=g2) (size:=2) (num:=acc.length+1) (c:=c2) (off:=0+((q:Nat):Int).toNat * 2) (xs:=l1.flatMap entL) (us:=(entL (nm,i)).toArray) rfl ?_ agg285 rfl (show [_,_]≠[] from List.cons_ne_nil _ _) (by intro x hx;unfold entL at hx;simp only [List.mem_cons,List.not_mem_nil,or_false] at hx;rcases hx with rfl | rfl<;>rfl) (by rw [entF_length,Int.toNat_natCast];show 0+(q) * 2+2<=_;omega) (by repeat (first | exact .here | apply Rem.there | apply Repl.there | apply Mem.there))
     refine .to (A:=rowR 285 2 (.slice (some ⟨g2,0,none⟩) (acc.length+1) c2) (acc.length+1) ((l1.flatMap entL).take (0+((q:Nat):Int).toNat * 2)++(entL (nm,i)).toArray.toList++(l1.flatMap entL).drop (0+((q:Nat):Int).toNat * 2+(entL (nm,i)).toArray.toList.length))) (A':=rowR 285 2 (.slice (some ⟨g2,0,none⟩) (acc.length+1) c2) (acc.length+1) ((insE acc q (nm,i)).flatMap entL)) (fun h hh=>by rw [<- hsw,hl1e,<-entF_set (by omega)];rw [Int.toNat_natCast,Nat.zero_add] at hh;exact hh) ?_
     refine .nil (.blockNormal (.next (.region (.move ?_))))
     refine .sub ?_
     refine .cast (d:=75) (u:=nI q) rfl (congrArg (Value.int .i64) (by omega)) ?_
     refine .assign (.nil ?_)
     exact .back q ⟨by show q<=acc.length;omega,hhi2⟩ (by show q < q+1;omega)
    ·refine .next ?_
     refine .condF rfl (congrArg Value.bool (by first | exact decide_eq_false hlz | (simp;done) | (simp;omega) | omega)) ?_
     refine .exit (.thenExit (.thenExit (.blockExit (?_))))
     refine .blockNormal (.next (.region (.move ?_)))
     refine .add ?_
     refine .assign (.nil ?_)
     refine .cast (d:=8) (u:=.int .i64 ((k+1:Nat):Int)) rfl (congrArg (Value.int .i64) (by omega)) ?_
     refine .to (A:=rowR 285 2 (.slice (some ⟨g2,0,none⟩) (acc.length+1) c2) (acc.length+1) ((insE acc (q+1) (nm,i)).flatMap entL)) (A':=rowR 285 2 (.slice (some ⟨g2,0,none⟩) (acc.length+1) c2) (insE acc (q+1) (nm,i)).length ((insE acc (q+1) (nm,i)).flatMap entL)) (fun h hh=>by rw [hil2];exact hh) ?_
     exact .back (k+1,.slice (some ⟨g2,0,none⟩) (acc.length+1) c2,insE acc (q+1) (nm,i)) ⟨by show k+1<=sl.length;omega,by show (insE acc (q+1) (nm,i)).Perm (entsS (sl.take (k+1)));rw [entsS_some hlt hs];exact (insE_perm acc (q+1) (nm,i)).trans (hpm.append_right _),hso.ins hj hhi (.inr ⟨z,by rw [Nat.add_sub_cancel];exact hz,hlz⟩)⟩ (by show sl.length - (k+1) < sl.length - k;omega)
   ·obtain rfl:j=0:=by omega
    refine .dr ([rowR 285 2 (.slice (some ⟨g2,0,none⟩) (acc.length+1) c2) (acc.length+1) ((insE acc 0 (nm,i)).flatMap entL)]) [] 16 mixed .autoJ ?_
    refine .tk 0 rfl .move ?_
    refine .tk 1 rfl .gtr ?_
    refine .tk 2 rfl (Qt.eq .move (congrArg Value.bool (show decide (((0:Nat):Int) > 0)=false from rfl))) ?_
    refine .tf 3 rfl ?_
    refine .tf 4 rfl ?_
    refine .tf 5 rfl ?_
    refine .tf 6 rfl ?_
    refine .tf 7 rfl ?_
    refine .tf 8 rfl ?_
    refine .tf 9 rfl ?_
    refine .tf 10 rfl ?_
    refine .tf 11 rfl ?_
    refine .tf 12 rfl ?_
    refine .tf 13 rfl ?_
    refine .tf 14 rfl ?_
    refine .tk 15 rfl .pickF ?_
    refine .fin ?_
    refine .next ?_
    refine .condF rfl rfl ?_
    refine .exit (.thenExit (.thenExit (.blockExit (?_))))
    refine .blockNormal (.next (.region (.move ?_)))
    refine .add ?_
    refine .assign (.nil ?_)
    refine .cast (d:=8) (u:=.int .i64 ((k+1:Nat):Int)) rfl (congrArg (Value.int .i64) (by omega)) ?_
    refine .to (A:=rowR 285 2 (.slice (some ⟨g2,0,none⟩) (acc.length+1) c2) (acc.length+1) ((insE acc 0 (nm,i)).flatMap entL)) (A':=rowR 285 2 (.slice (some ⟨g2,0,none⟩) (acc.length+1) c2) (insE acc 0 (nm,i)).length ((insE acc 0 (nm,i)).flatMap entL)) (fun h hh=>by rw [hil2];exact hh) ?_
    exact .back (k+1,.slice (some ⟨g2,0,none⟩) (acc.length+1) c2,insE acc 0 (nm,i)) ⟨by show k+1<=sl.length;omega,by show (insE acc 0 (nm,i)).Perm (entsS (sl.take (k+1)));rw [entsS_some hlt hs];exact (insE_perm acc 0 (nm,i)).trans (hpm.append_right _),hso.ins hj hhi (.inl rfl)⟩ (by show sl.length - (k+1) < sl.length - k;omega)
 ·have hge:k=sl.length:=by have h:¬ 64 * (k:Int) < ((rdirB sl).length:Int):=of_decide_eq_false hb;omega
  rw [hge,List.take_length] at hpm
  refine .exit (.thenExit (.thenExit (.blockExit (?_))))
  refine .next (.sr (.move (.assign (.assign (.z ?_)))))
  refine .ret (?_)
  refine .shutR (RS.opens s p T os N) ⟨.slice (some ⟨ab,0,none⟩) p.ino cc,L,wk,mv,ms⟩ hy ?_
  exact .ret2 (h1:=.tmp (t:=4) rfl) (h2:=.tmp (t:=5) rfl) ⟨_,⟨u,acc,rfl,⟨hpm,hso⟩,rfl⟩,Am.auto⟩
theorem rList {m s:Nat} {p:Pl} {T:FT} {os:List (Nat×Obj)} {N:Nat} (hi0:1<=p.ino) (hi1:p.ino<=4096) {path:Bytes} {d:Nat} {sl:List Slot} (hT:RT p T) (hpl:path.length<=100000) (hlw:leadW T path=(d,0)) (hTd:T d=some (.dir sl)):Spec Tryz.prog 124 #[.pointer (some ⟨m,0,none⟩),sv path] [RF m s,RS s p T os N,frz os] fun F v M=>∃ u l,v=.tuple #[u,.int .i64 0]/\((l:List Ent).Perm (entsS sl)/\SortE l)/\M=rowR 9 1 u (l.map (·.1)).length (svs (l.map (·.1))) :: RF m s :: RS s p T os N :: frz os :: F:=by
 refine Spec.intro Tryz.func124 rfl rfl fun B F=>?_
 simp only [Tryz.ntmps124,List.cons_append,List.nil_append,env0,Nat.reduceAdd]
 refine .sr (.assign (.assign (.x (.move (.move ?_)))))
 refine .call (hc:=Tryz.call84) (sp:=rLead (m:=m) (s:=s) (p:=p) (T:=T) (os:=os) (N:=N) hi0 hi1 (path:=path) hT hpl) (h:=?_)
 rintro _ _ ⟨rfl,rfl⟩
 rw [hlw]
 refine .move ?_
 refine .extract ?_
 refine .extract ?_
 refine .assign (.assign (.z (.seq (.sr (.move ?_)))))
 refine .nei ?_
 refine .z ?_
 refine .condF rfl (congrArg Value.bool (by first|simp;done|simp;omega|omega)) ?_
 refine .skip (.next (.sr (.move ?_)))
 refine .nilCheck ?_
 refine .fa ?_ fo159_0
 refine .ld ?_ sc157
 refine .move ?_
 refine .call (hc:=Tryz.call198) (sp:=rsList (s:=s) (p:=p) (T:=T) (os:=os) (N:=N) hi0 hi1 (d:=d) (sl:=sl) hT hTd) (h:=?_)
 rintro _ _ ⟨u,l,rfl,⟨hlp,hls⟩,rfl⟩
 have hll:=hlp.length_eq
 have hle:=entsS_length (sl:=sl)
 have hsl:=(hT.ok d sl hTd).2
 refine .fact (rowR_shape (el:=285) (size:=2) (v:=u) (k:=l.length) (xs:=l.flatMap entL)) (fun ⟨A,cc,hu,hR0,hc1,hc2,hlen⟩=>?_)
 subst hu
 refine .move ?_
 refine .extract ?_
 refine .extract ?_
 refine .assign (.assign (.z (.seq (.sr (.move ?_)))))
 refine .nei ?_
 refine .z ?_
 refine .condF rfl (congrArg Value.bool (by first|simp;done|simp;omega|omega)) ?_
 refine .skip (.next (.sr (.assign ?_)))
 refine .emp (rowR.nil (e:=9) (size:=1) _) ?_
 refine .z (.seq (.sr (.assign (.z (.block ?_)))))
 refine .loopA (σ:=Nat×Value) (fun y=>[(8,.slice A l.length cc),(9,y.2),(10,.int .i64 ((y.1:Nat):Int))]) (fun y=>[rowR 9 1 y.2 y.1 (svs ((l.map (·.1)).take y.1)),rowR 285 2 (.slice A l.length cc) l.length (l.flatMap entL),RF m s,RS s p T os N,frz os]++F) (fun y=>y.1<=l.length) (fun y=>l.length - y.1) (0,.slice none 0 0) (Nat.zero_le _) ?_
 rintro y hk
 obtain ⟨k,o⟩:=y
 simp only at hk ⊢
 refine .seq (.sr (.move (.move ?_)))
 refine .lenS ?_ sl282
 refine .lss ?_
 refine .z ?_
 refine .cond rfl (fun hb=>?_) (fun hb=>?_)
 ·have hlt:k < l.length:=by have h:(k:Int) < (l.length:Int):=of_decide_eq_true hb;omega
  rcases A with _ | ⟨ab,ao,asp⟩
  ·exact absurd (congrArg List.length (show l.flatMap entL=[] from hR0)) (by rw [entF_length,List.length_nil];omega)
  have hsp:asp=none:=hR0.1
  subst hsp
  have hlk:l[k]?=some l[k]:=List.getElem?_eq_getElem hlt
  have hgn:=(entF_get hlk).1
  have hml:(l.map (·.1)).length=l.length:=List.length_map ..
  refine .skip (.next (.seq (.block (.region (.move (.move (.move ?_)))))))
  refine .idx ?_ so282
  refine .fa ?_ fo285_0
  refine .ldR (i:=((k:Nat):Int).toNat * 2+0) ?_ sc9 hR0 (by rw [Int.toNat_natCast];exact hgn)
  refine .buildS (fun b44=>?_) (bsSn _)
  refine .append (m:=1) (news:=[sv l[k].1]) so92 (by decide) (by repeat (first | exact .here | apply Rem.there | apply Repl.there | apply Mem.there)) Reads.pt (by repeat (first | exact .here | apply Rem.there | apply Repl.there | apply Mem.there)) rfl (by intro x hx;simp only [List.mem_cons,List.not_mem_nil,or_false] at hx;subst hx;rfl) (by show k+1<=maxLen;unfold maxLen;omega) (by show (k+1) * _<=_;omega) ⟨_,z9,rfl⟩ (fun u2 hu2=>?_)
  refine .assign (.nil (.blockNormal (.next (.region (.move ?_)))))
  refine .add ?_
  refine .assign (.nil ?_)
  refine .to (A:=rowR 9 1 u2 (k+1) (svs ((l.map (·.1)).take k)++[sv l[k].1])) (A':=rowR 9 1 u2 (k+1) (svs ((l.map (·.1)).take (k+1)))) (fun h hh=>by rw [take_succ' (by omega),List.getElem_map];unfold svs at hh ⊢;rw [List.map_append];exact hh) ?_
  refine .cast (d:=10) (u:=.int .i64 ((k+1:Nat):Int)) rfl (congrArg (Value.int .i64) (by omega)) ?_
  exact .back (k+1,u2) (by show k+1<=l.length;omega) (by show l.length - (k+1) < l.length - k;omega)
 ·have hge:k=l.length:=by have h:¬ (k:Int) < (l.length:Int):=of_decide_eq_false hb;omega
  subst hge
  have hml:(l.map (·.1)).length=l.length:=List.length_map ..
  rw [List.take_of_length_le (Nat.le_of_eq hml)]
  refine .exit (.thenExit (.thenExit (.blockExit (?_))))
  refine .next (.sr (.move (.assign (.assign (.z ?_)))))
  refine .ret (?_)
  exact .ret2 (h1:=.tmp (t:=4) rfl) (h2:=.tmp (t:=5) rfl) ⟨_,⟨o,l,rfl,⟨hlp,hls⟩,by rw [hml]⟩,Am.auto⟩
theorem rsWriteFull {s:Nat} {p:Pl} {T:FT} {os:List (Nat×Obj)} {N:Nat} (hi0:1<=p.ino) (hi1:p.ino<=4096) {i at' m c:Nat} {A:Option Addr} {x:NodeT} (hdc:p.dc<=1000000) (hT:RT p T) (htot:tot (fmT T) p.ino<=p.dc) (hTi:T i=some x) (hxs:x.size<=70656) (hmc:m<=c) (hcm:c<=maxLen) (hat:at'<=x.size) (hm7:m<=70656) (hz:max x.size (at'+m)<=70656) (hfit:p.dc+has x.size < tot (fmT T) p.ino+has (max x.size (at'+m))):Spec Tryz.prog 121 #[.pointer (some ⟨s,0,none⟩),nI i,nI at',.slice A m c] [RS s p T os N] fun F v M=>v=nI 3/\M=RS s p T os N :: F:=by
 refine Spec.intro Tryz.func121 rfl rfl fun B F=>?_
 simp only [Tryz.ntmps121,List.cons_append,List.nil_append,env0,Nat.reduceAdd]
 obtain ⟨Z,hZ⟩:∃ Z,max x.size (at'+m)=Z:=⟨_,rfl⟩
 rw [hZ] at hz hfit
 obtain ⟨X,hX⟩:∃ X,x.r=X:=⟨_,rfl⟩
 have hXl:X.length=x.size:=by rw [<- hX];exact x.r_length
 have hi:i < p.ino:=in_ino hT hTi
 refine .sr (.assign (.z (.seq (.sr (.move (.move ?_))))))
 refine .call (hc:=Tryz.call161) (sp:=rsThere (s:=s) (p:=p) (T:=T) (os:=os) (N:=N) hi0 hi1 (i:=i) hT) (h:=?_)
 rintro _ _ ⟨rfl,rfl⟩
 rw [hTi]
 refine .not ?_
 refine .z ?_
 refine .condF rfl rfl ?_
 refine .skip (.next (.sr ?_))
 refine .openR (RS.opens s p T os N) fun y hy=>?_
 obtain ⟨u,L,wk,mv,ms⟩:=y
 simp only [rsLs,List.cons_append,List.nil_append]
 refine .fact (rowR_some (el:=244) (size:=2) (v:=u) (k:=p.ino) (xs:=(L).flatMap rowV) (by omega)) (fun ⟨ab,cc,hu,hR,hc1,hc2⟩=>?_)
 subst hu
 have hlen:(L).length=p.ino:=(hy).len
 have hil:i < L.length:=by omega
 have hrow:=hy.row i hil
 obtain ⟨A1,c1,hs1,hr1,hl1,hm1⟩:=hrow.sl
 obtain ⟨e1,hek⟩:∃ e,L[i]=e:=⟨_,rfl⟩
 have hkd:e1.1=refK (T i):=hek ▸ hrow.kd
 have hg0:(L.flatMap rowV)[((i:Nat):Int).toNat * 2+0]?=some (nI e1.1):=by rw [Int.toNat_natCast,<-hek];exact (rowV_get hil).1
 have hg1:(L.flatMap rowV)[((i:Nat):Int).toNat * 2+1]?=some (.slice A1 (refBy (T i)).length c1):=by rw [Int.toNat_natCast,<-hs1];exact (rowV_get hil).2
 rw [hkd] at hg0
 rw [hTi] at hg1 hr1 hl1
 rw [show refBy (some x)=X from hX] at hg1 hr1 hl1
 refine .move ?_
 refine .nilCheck ?_
 refine .fa ?_ fo247_1
 refine .ld ?_ sc245
 refine .move ?_
 refine .idx ?_ so245
 refine .fa ?_ fo244_1
 refine .ldR (R:=rowR 244 2 (.slice (some ⟨ab,0,none⟩) p.ino cc) p.ino (L.flatMap rowV)) ?_ sc33 hR hg1
 refine .assign (.z (.seq (.sr ?_)))
 refine .shutR (RS.opens s p T os N) ⟨.slice (some ⟨ab,0,none⟩) p.ino cc,L,wk,mv,ms⟩ hy ?_
 clear hy hrow hg0 hg1 hkd hek hs1 hR hlen
 refine .move ?_
 refine .lss ?_
 refine .move ?_
 refine .cast (d:=29) (u:=.bool false) rfl (congrArg Value.bool (by first|simp;done|simp;omega|omega)) ?_
 refine .gT ?_
 refine .move ?_
 refine .gT ?_
 refine .move ?_
 refine .gT ?_
 refine .lenS ?_ sl33
 refine .gT ?_
 refine .gtr ?_
 refine .pickF ?_
 refine .z ?_
 refine .condF rfl (congrArg Value.bool (by first|simp;done|simp;omega|omega)) ?_
 refine .skip (.next (.seq (.sr (.move ?_))))
 refine .lenS ?_ sl33
 refine .gtr ?_
 refine .z ?_
 refine .condF rfl (congrArg Value.bool (by first|simp;done|simp;omega|omega)) ?_
 refine .skip (.next (.sr (.move ?_)))
 refine .lenS ?_ sl33
 refine .move (.move ?_)
 refine .lenS ?_ sl33
 refine .add ?_
 refine .maxI ?_
 refine .cast (d:=44) (u:=nI Z) rfl (congrArg (Value.int .i64) (by split<;>omega)) ?_
 refine .assign (.x (.move (.move (.move ?_))))
 refine .call (hc:=Tryz.call195) (sp:=rsResizeFull (s:=s) (p:=p) (T:=T) (os:=os) (N:=N) hi0 hi1 (i:=i) (z:=Z) (x:=x) hdc hT htot hTi hxs hz hfit) (h:=?_)
 rintro _ _ ⟨rfl,rfl⟩
 refine .assign (.z (.seq (.sr (.move ?_))))
 refine .nei ?_
 refine .z ?_
 refine .condT rfl (congrArg Value.bool (by first|simp;done|simp;omega|omega)) ?_
 refine .sr (.move (.assign (.z ?_)))
 refine .ret (.thenRet (?_))
 exact .ret1 (h1:=.tmp (t:=8) rfl) ⟨_,⟨rfl,rfl⟩,Am.auto⟩
theorem has_mono {a b:Nat} (h:a<=b):has a<=has b:=by
 unfold has dat
 split<;>split<;>omega
theorem trB_le {b:Bytes} {k:Nat} (h:k<=b.length):trB b k=b.take k:=by
 unfold trB ext
 rw [List.length_take,Nat.min_eq_left h,Nat.sub_self,List.replicate_zero,List.append_nil]
theorem splice_all {k:Nat} {xs:Bytes} (h:xs.length=k):splice (List.replicate k 0) 0 xs=xs:=by
 unfold splice
 rw [List.take_zero,List.nil_append,List.drop_eq_nil_of_le (by rw [List.length_replicate];omega),List.append_nil]
theorem fsTruncC {f s a c mp:Nat} {p:Pl} {T:FT} {x3 x5:Nat} {i k:Nat} {fb:Bytes} (hTi:T i=some (.file fb)) (hk:k<=fb.length) (hbg:fb.length<=70656) (hw:Rw p 0 8) (htot:tot (fmT T) p.ino<=p.dc) (ho:PlOk p):Spec Tryz.prog 125 (#[nI i,.agg #[nI 1,nI fb.length]]++#[.pointer (some ⟨x3,0,none⟩),.pointer (some ⟨x5,0,none⟩)]) [pt f (fO c a s false false false mp),LD mp T,IN s a c p (fmT T) (fmT T) 0 true,bun [pt x3 (.cells #[.pointer (some ⟨f,0,none⟩)] 23 (0,0)),pt x5 (.cells #[nI k] 3 (0,0))]] fun F v M=>v=okV/\M=pt f (fO c a s false false false mp) :: LD mp T :: IN s a c p (fmT T) (fmT (updT T i (some (.file (fb.take k))))) 4 true :: bun [pt x3 (.cells #[.pointer (some ⟨f,0,none⟩)] 23 (0,0)),pt x5 (.cells #[nI k] 3 (0,0))] :: F:=by
 refine Spec.intro Tryz.func125 rfl rfl fun B F=>?_
 simp only [Tryz.ntmps125,List.cons_append,List.nil_append,env0,Nat.reduceAdd]
 refine .openR (bun.opens _) fun _ _=>?_
 simp only [List.cons_append,List.nil_append]
 have hml:=has_mono hk
 have h0:has k - has fb.length=0:=by omega
 refine .sr ?_
 refine .box fun b5=>?_
 refine .assign (.z (.seq ?_))
 refine .dr ([pt x3 (.cells #[.pointer (some ⟨f,0,none⟩)] 23 (0,0)),pt x5 (.cells #[nI k] 3 (0,0)),pt f (fO c a s false false false mp)]) [] 8 mixed .autoJ ?_
 refine .tk 0 rfl (.ld sc23) ?_
 refine .tk 1 rfl .nilCheck ?_
 refine .tk 2 rfl (.fa fo129_2) ?_
 refine .tk 3 rfl (.ld sc126) ?_
 refine .tk 4 rfl .move ?_
 refine .tk 5 rfl (.ld sc3) ?_
 refine .on 6 rfl fun hnp=>?_
 refine .call (hc:=Tryz.call126) (sp:=nTrunc (s:=s) (a:=a) (c:=c) (p:=p) (F0:=fmT T) (F:=fmT T) (W:=0) (i:=i) (size:=k) (f:=(1,fb)) ho (fmT_some hTi) (by show Rw p 0 (has k - has fb.length+8);rw [h0];exact hw) (by omega) (by show tot (fmT T) p.ino+has k<=p.dc+has fb.length;omega)) (h:=?_)
 rintro _ _ ⟨rfl,rfl⟩
 rw [show updM (fmT T) i (some (1,trB fb k))=fmT (updT T i (some (.file (fb.take k)))) from by rw [trB_le hk];exact fmT_updS T i (.file _),show 0+(has k - has fb.length)+4=4 from by omega]
 refine .nil (.wa hnp ?_)
 refine .tk 7 rfl .assign ?_
 refine .fin ?_
 refine .next ?_
 refine .ret (?_)
 refine .shutR (bun.opens [pt x3 (.cells #[.pointer (some ⟨f,0,none⟩)] 23 (0,0)),pt x5 (.cells #[nI k] 3 (0,0))]) () trivial ?_
 exact .ret1 (h1:=.tmp (t:=6) rfl) ⟨_,⟨rfl,rfl⟩,Am.auto⟩
theorem fsTrunc {f:Nat} {p:Pl} {T:FT} {path:Bytes} (ho:PlOk p) (hT:TOk T) (hpl:path.length<=1000000) {i k:Nat} {fb:Bytes} (hTi:T i=some (.file fb)) (hk:k<=fb.length) (hbg:fb.length<=70656) (hw:Rw p 0 8) (htot:tot (fmT T) p.ino<=p.dc) (hft:fileT T path=(i,1,fb.length,0)):Spec Tryz.prog 60 #[.pointer (some ⟨f,0,none⟩),sv path,nI k] [FSR f p T] fun F v M=>v=okV/\M=FSR f p (updT T i (some (.file (fb.take k)))) :: F:=by
 refine Spec.intro Tryz.func60 rfl rfl fun B F=>?_
 simp only [Tryz.ntmps60,List.cons_append,List.nil_append,env0,Nat.reduceAdd]
 refine .openR (FSR.opens f p T) fun y _=>?_
 obtain ⟨c,a,s,mp⟩:=y
 simp only [fsLs,List.cons_append,List.nil_append]
 refine .sr ?_
 refine .box fun b3=>?_
 refine .box fun b5=>?_
 refine .assign (.x ?_)
 refine .ld ?_ sc23
 refine .move ?_
 refine .makeFuncB ?_
 refine .shutR (bun.opens [pt b3 (.cells #[.pointer (some ⟨f,0,none⟩)] 23 (0,0)),pt b5 (.cells #[nI k] 3 (0,0))]) () trivial ?_
 refine .call (hc:=Tryz.call69) (sp:=fsEdit (s:=s) (a:=a) (c:=c) (p:=p) (f:=f) (mp:=mp) (T:=T) (T2:=(updT T i (some (.file (fb.take k))))) (W:=4) ho hT hpl hft (hc:=Tryz.call125) (sp:=fsTruncC (x3:=b3) (x5:=b5) hTi hk hbg hw htot ho)) (h:=?_)
 rintro _ _ ⟨rfl,rfl⟩
 refine .assign (.z ?_)
 refine .ret (?_)
 refine .openR (bun.opens _) fun _ _=>?_
 simp only [List.cons_append,List.nil_append]
 refine .shutR (FSR.opens f p (updT T i (some (.file (fb.take k))))) (c,a,s,mp) trivial ?_
 exact .ret1 (h1:=.tmp (t:=6) rfl) ⟨_,⟨rfl,rfl⟩,Am.auto⟩
theorem rFile {m s:Nat} {p:Pl} {T:FT} {os:List (Nat×Obj)} {N:Nat} (hi0:1<=p.ino) (hi1:p.ino<=4096) {path:Bytes} {i:Nat} {fb:Bytes} (hT:RT p T) (hpl:path.length<=100000) (hlw:leadW T path=(i,0)) (hTi:T i=some (.file fb)):Spec Tryz.prog 118 #[.pointer (some ⟨m,0,none⟩),sv path] [RF m s,RS s p T os N,frz os] fun F v M=>v=.tuple #[nI i,.int .i64 0]/\M=RF m s :: RS s p T os N :: frz os :: F:=by
 refine Spec.intro Tryz.func118 rfl rfl fun B F=>?_
 simp only [Tryz.ntmps118,List.cons_append,List.nil_append,env0,Nat.reduceAdd]
 refine .sr (.assign (.assign (.x (.move (.move ?_)))))
 refine .call (hc:=Tryz.call84) (sp:=rLead (m:=m) (s:=s) (p:=p) (T:=T) (os:=os) (N:=N) hi0 hi1 (path:=path) hT hpl) (h:=?_)
 rintro _ _ ⟨rfl,rfl⟩
 rw [hlw]
 refine .move ?_
 refine .extract ?_
 refine .extract ?_
 refine .assign (.assign (.z (.seq (.sr (.move ?_)))))
 refine .nei ?_
 refine .z ?_
 refine .condF rfl (congrArg Value.bool (by first | rfl | (simp;done) | (simp;omega) | omega)) ?_
 refine .skip (.next (.sr (.move ?_)))
 refine .nilCheck ?_
 refine .fa ?_ fo159_0
 refine .ld ?_ sc157
 refine .move ?_
 refine .call (hc:=Tryz.call85) (sp:=rsStat (s:=s) (p:=p) (T:=T) (os:=os) (N:=N) hi0 hi1 (i:=i) (x:=.file fb) hT hTi) (h:=?_)
 rintro _ _ ⟨rfl,rfl⟩
 refine .move ?_
 refine .extract ?_
 refine .extract ?_
 refine .alloc z51 fun b8=>?_
 refine .stV ?_ agg51
 refine .assign (.z (.seq (.sr ?_)))
 refine .fa ?_ fo51_0
 refine .ld ?_ sc3
 refine .nei ?_
 refine .z ?_
 refine .condF rfl (congrArg Value.bool (by first | rfl | (simp;done) | (simp;omega) | omega)) ?_
 refine .skip (.next (.sr (.move (.assign (.assign (.z ?_))))))
 refine .ret (?_)
 exact .ret2 (h1:=.tmp (t:=4) rfl) (h2:=.tmp (t:=5) rfl) ⟨_,⟨rfl,rfl⟩,Am.auto⟩
theorem rEndE {m s s2:Nat} {p:Pl} {T0 T:FT} {os:List (Nat×Obj)} {N N2 e:Nat} (hi0:1<=p.ino) (he:e≠0):Spec Tryz.prog 120 #[.pointer (some ⟨m,0,none⟩),.pointer (some ⟨s2,0,none⟩),nI e] [RF m s,RS s p T0 os N,RS s2 p T os N2] fun F v M=>v=nI e/\M=RF m s2 :: RS s2 p T os N :: F:=by
 refine Spec.intro Tryz.func120 rfl rfl fun B F=>?_
 simp only [Tryz.ntmps120,List.cons_append,List.nil_append,env0,Nat.reduceAdd]
 refine .openR (RS.opens s p T0 os N) fun y hy=>?_
 obtain ⟨u,L,wk,mv,ms⟩:=y
 simp only [rsLs,List.cons_append,List.nil_append]
 refine .fact (rowR_shape (el:=3) (size:=1) (v:=mv) (k:=ms.length) (xs:=ints ms)) (fun ⟨A2,c2,hmv,hR2,hk2,hc3,hl2⟩=>?_)
 subst hmv
 refine .openR (RS.opens s2 p T os N2) fun y2 hy2=>?_
 obtain ⟨u2,L2,wk2,mv2,ms2⟩:=y2
 simp only [rsLs,List.cons_append,List.nil_append]
 refine .sr (.assign (.z (.seq (.sr (.move ?_)))))
 refine .nei ?_
 refine .z ?_
 refine .condT rfl (congrArg Value.bool (by first|simp;done|simp;omega|omega)) ?_
 refine .sr (.move (.move ?_))
 refine .nilCheck ?_
 refine .fa ?_ fo159_0
 refine .ld ?_ sc157
 refine .nilCheck ?_
 refine .fa ?_ fo247_2
 refine .ld ?_ sc3
 refine .nilCheck ?_
 refine .fa ?_ fo247_2
 refine .st ?_ sc3
 refine .x (.move (.move ?_))
 refine .nilCheck ?_
 refine .fa ?_ fo159_0
 refine .ld ?_ sc157
 refine .nilCheck ?_
 refine .fa ?_ fo247_3
 refine .ld ?_ sc80
 refine .nilCheck ?_
 refine .fa ?_ fo247_3
 refine .st ?_ sc80
 refine .y (.move (.move ?_))
 refine .nilCheck ?_
 refine .fa ?_ fo159_0
 refine .st ?_ sc157
 refine .x (.move (.assign (.z ?_)))
 refine .ret (?_)
 refine .shutR (RS.opens s2 p T os N) ⟨u2,L2,wk,.slice A2 ms.length c2,ms⟩ ⟨hy2.len,hy2.row,hy.wk,hy.ml⟩ ?_
 exact .ret1 (h1:=.tmp (t:=6) rfl) ⟨_,⟨rfl,rfl⟩,Am.auto⟩
theorem rAppend {m s:Nat} {p:Pl} {T:FT} {os:List (Nat×Obj)} {N:Nat} (hi0:1<=p.ino) (hi1:p.ino<=4096) {path:Bytes} {i k c:Nat} {fb bs:Bytes} {R:HP} {A:Option Addr} (hdc:p.dc<=1000000) (hT:RT p T) (htot:tot (fmT T) p.ino<=p.dc) (hpl:path.length<=100000) (hlw:leadW T path=(i,0)) (hTi:T i=some (.file fb)) (hR0:bs=[] ∨ Reads R A (bvs bs)) (hm:bs.length=k) (hkc:k<=c) (hcm:c<=maxLen) (hz:fb.length+k<=70656) (hfit:tot (fmT T) p.ino+has (fb.length+k)<=p.dc+has fb.length):Spec Tryz.prog 58 #[.pointer (some ⟨m,0,none⟩),sv path,.slice A k c] [RF m s,RS s p T os N,frz os,R] fun F v M=>v=.int .i64 0/\∃ os2,(∀ e∈os,e∈os2)/\M=RF m s :: RS s p (updT T i (some (.file (wrB fb fb.length bs)))) os2 (0+(has k+2)+1) :: frz os2 :: R :: F:=by
 refine Spec.intro Tryz.func58 rfl rfl fun B F=>?_
 simp only [Tryz.ntmps58,List.cons_append,List.nil_append,env0,Nat.reduceAdd]
 have hmx:max fb.length (fb.length+k)=fb.length+k:=by omega
 refine .sr (.assign (.x (.move (.move ?_))))
 refine .call (hc:=Tryz.call118) (sp:=rFile (m:=m) (s:=s) (p:=p) (T:=T) (os:=os) (N:=N) hi0 hi1 (path:=path) (i:=i) (fb:=fb) hT hpl hlw hTi) (h:=?_)
 rintro _ _ ⟨rfl,rfl⟩
 refine .move ?_
 refine .extract ?_
 refine .extract ?_
 refine .assign (.assign (.z (.seq (.sr (.move ?_)))))
 refine .nei ?_
 refine .z ?_
 refine .condF rfl (congrArg Value.bool (by first | rfl | (simp;done) | (simp;omega) | omega)) ?_
 refine .skip (.next (.sr (.move ?_)))
 refine .nilCheck ?_
 refine .fa ?_ fo159_0
 refine .ld ?_ sc157
 refine .move ?_
 refine .call (hc:=Tryz.call85) (sp:=rsStat (s:=s) (p:=p) (T:=T) (os:=os) (N:=N) hi0 hi1 (i:=i) (x:=.file fb) hT hTi) (h:=?_)
 rintro _ _ ⟨rfl,rfl⟩
 refine .move ?_
 refine .extract ?_
 refine .extract ?_
 refine .alloc z51 fun b9=>?_
 refine .stV ?_ agg51
 refine .assign (.x (.move ?_))
 refine .call (hc:=Tryz.call119) (sp:=rOne (m:=m) (s:=s) (p:=p) (T:=T) (os:=os) (N:=N) hi0 hi1) (h:=?_)
 rintro _ _ ⟨s2,rfl,rfl⟩
 refine .assign (.z (.seq ?_))
 refine .to (A:=pt b9 (.cells #[nI (NodeT.file fb).kind,nI (NodeT.file fb).size] 51 (0,0))) (A':=pt b9 (.cells #[nI 1,nI fb.length] 51 (0,0))) (fun h hh=>hh) ?_
 refine .dr ([pt b9 (.cells #[nI 1,nI fb.length] 51 (0,0))]) [] 13 mixed .autoJ ?_
 refine .tk 0 rfl .move ?_
 refine .tk 1 rfl .move ?_
 refine .tk 2 rfl .move ?_
 refine .tk 3 rfl .nilCheck ?_
 refine .tk 4 rfl (.fa fo159_0) ?_
 refine .tk 6 rfl .move ?_
 refine .tk 7 rfl (.fa fo51_1) ?_
 refine .tk 8 rfl (.ld sc3) ?_
 refine .tk 9 rfl .move ?_
 refine .on 5 rfl fun hnp=>?_
 refine .ld ?_ sc157
 refine .nil (.wa hnp ?_)
 refine .on 10 rfl fun hnp=>?_
 refine .call (hc:=Tryz.call121) (sp:=rsWrite (s:=s) (p:=p) (T:=T) (os:=os) (N:=0) hi0 hi1 (i:=i) (at':=fb.length) (m:=k) (c:=c) (R:=R) (A:=A) (bs:=bs) (x:=.file fb) (x2:=(.file (wrB fb fb.length bs))) hdc hT htot hTi (by show fb.length<=_;omega) hR0 hm hkc hcm (Nat.le_refl _) (by omega) (by show max fb.length (fb.length+k)<=_;omega) (by decide) (by show tot (fmT T) p.ino+has (max fb.length (fb.length+k))<=p.dc+has fb.length;rw [hmx];exact hfit) rfl rfl) (h:=?_)
 rintro _ _ ⟨rfl,os2,hsub,rfl⟩
 refine .nil (.wa hnp ?_)
 refine .on 11 rfl fun hnp=>?_
 refine .call (hc:=Tryz.call120) (sp:=rEndOk) (h:=?_)
 rintro _ _ ⟨rfl,hM⟩
 obtain rfl:=hM.symm
 refine .nil (.wa hnp ?_)
 refine .tk 12 rfl .assign ?_
 refine .fin ?_
 refine .next ?_
 refine .ret (?_)
 exact .ret1 (h1:=.tmp (t:=6) rfl) ⟨_,⟨rfl,os2,hsub,rfl⟩,Am.auto⟩
theorem rAppendFull {m s:Nat} {p:Pl} {T:FT} {os:List (Nat×Obj)} {N:Nat} (hi0:1<=p.ino) (hi1:p.ino<=4096) {path:Bytes} {i k c:Nat} {fb bs:Bytes} {R:HP} {A:Option Addr} (hdc:p.dc<=1000000) (hT:RT p T) (htot:tot (fmT T) p.ino<=p.dc) (hpl:path.length<=100000) (hlw:leadW T path=(i,0)) (hTi:T i=some (.file fb)) (hR0:bs=[] ∨ Reads R A (bvs bs)) (hm:bs.length=k) (hkc:k<=c) (hcm:c<=maxLen) (hz:fb.length+k<=70656) (hfit:p.dc+has fb.length < tot (fmT T) p.ino+has (fb.length+k)):Spec Tryz.prog 58 #[.pointer (some ⟨m,0,none⟩),sv path,.slice A k c] [RF m s,RS s p T os N,frz os,R] fun F v M=>∃ s2,v=nI 3/\M=RF m s2 :: RS s2 p T os 0 :: frz os :: R :: F:=by
 refine Spec.intro Tryz.func58 rfl rfl fun B F=>?_
 simp only [Tryz.ntmps58,List.cons_append,List.nil_append,env0,Nat.reduceAdd]
 have hmx:max fb.length (fb.length+k)=fb.length+k:=by omega
 refine .sr (.assign (.x (.move (.move ?_))))
 refine .call (hc:=Tryz.call118) (sp:=rFile (m:=m) (s:=s) (p:=p) (T:=T) (os:=os) (N:=N) hi0 hi1 (path:=path) (i:=i) (fb:=fb) hT hpl hlw hTi) (h:=?_)
 rintro _ _ ⟨rfl,rfl⟩
 refine .move ?_
 refine .extract ?_
 refine .extract ?_
 refine .assign (.assign (.z (.seq (.sr (.move ?_)))))
 refine .nei ?_
 refine .z ?_
 refine .condF rfl (congrArg Value.bool (by first | rfl | (simp;done) | (simp;omega) | omega)) ?_
 refine .skip (.next (.sr (.move ?_)))
 refine .nilCheck ?_
 refine .fa ?_ fo159_0
 refine .ld ?_ sc157
 refine .move ?_
 refine .call (hc:=Tryz.call85) (sp:=rsStat (s:=s) (p:=p) (T:=T) (os:=os) (N:=N) hi0 hi1 (i:=i) (x:=.file fb) hT hTi) (h:=?_)
 rintro _ _ ⟨rfl,rfl⟩
 refine .move ?_
 refine .extract ?_
 refine .extract ?_
 refine .alloc z51 fun b9=>?_
 refine .stV ?_ agg51
 refine .assign (.x (.move ?_))
 refine .call (hc:=Tryz.call119) (sp:=rOne (m:=m) (s:=s) (p:=p) (T:=T) (os:=os) (N:=N) hi0 hi1) (h:=?_)
 rintro _ _ ⟨s2,rfl,rfl⟩
 refine .assign (.z (.seq ?_))
 refine .to (A:=pt b9 (.cells #[nI (NodeT.file fb).kind,nI (NodeT.file fb).size] 51 (0,0))) (A':=pt b9 (.cells #[nI 1,nI fb.length] 51 (0,0))) (fun h hh=>hh) ?_
 refine .dr ([pt b9 (.cells #[nI 1,nI fb.length] 51 (0,0))]) [] 13 mixed .autoJ ?_
 refine .tk 0 rfl .move ?_
 refine .tk 1 rfl .move ?_
 refine .tk 2 rfl .move ?_
 refine .tk 3 rfl .nilCheck ?_
 refine .tk 4 rfl (.fa fo159_0) ?_
 refine .tk 6 rfl .move ?_
 refine .tk 7 rfl (.fa fo51_1) ?_
 refine .tk 8 rfl (.ld sc3) ?_
 refine .tk 9 rfl .move ?_
 refine .on 5 rfl fun hnp=>?_
 refine .ld ?_ sc157
 refine .nil (.wa hnp ?_)
 refine .on 10 rfl fun hnp=>?_
 refine .call (hc:=Tryz.call121) (sp:=rsWriteFull (s:=s) (p:=p) (T:=T) (os:=os) (N:=0) hi0 hi1 (i:=i) (at':=fb.length) (m:=k) (c:=c) (A:=A) (x:=.file fb) hdc hT htot hTi (by show fb.length<=_;omega) hkc hcm (Nat.le_refl _) (by omega) (by show max fb.length (fb.length+k)<=_;omega) (by show p.dc+has fb.length < tot (fmT T) p.ino+has (max fb.length (fb.length+k));rw [hmx];exact hfit)) (h:=?_)
 rintro _ _ ⟨rfl,rfl⟩
 refine .nil (.wa hnp ?_)
 refine .on 11 rfl fun hnp=>?_
 refine .call (hc:=Tryz.call120) (sp:=rEndE (m:=m) (s:=s) (s2:=s2) (p:=p) (T0:=T) (T:=T) (os:=os) (N:=0) (N2:=0) (e:=3) hi0 (by decide)) (h:=?_)
 rintro _ _ ⟨rfl,rfl⟩
 refine .nil (.wa hnp ?_)
 refine .tk 12 rfl .assign ?_
 refine .fin ?_
 refine .next ?_
 refine .ret (?_)
 exact .ret1 (h1:=.tmp (t:=6) rfl) ⟨_,⟨s2,rfl,rfl⟩,Am.auto⟩
theorem rsTrunc {s:Nat} {p:Pl} {T:FT} {os:List (Nat×Obj)} {N:Nat} (hi0:1<=p.ino) (hi1:p.ino<=4096) {i k:Nat} {fb:Bytes} (hdc:p.dc<=1000000) (hT:RT p T) (htot:tot (fmT T) p.ino<=p.dc) (hTi:T i=some (.file fb)) (hfb:fb.length<=70656) (hk:k<=fb.length) (hN:N<=1000):Spec Tryz.prog 127 #[.pointer (some ⟨s,0,none⟩),nI i,nI k] [RS s p T os N,frz os] fun F v M=>v=.int .i64 0/\∃ os2,(∀ e∈os,e∈os2)/\M=RS s p (updT T i (some (.file (fb.take k)))) os2 (N+2+1) :: frz os2 :: F:=by
 refine Spec.intro Tryz.func127 rfl rfl fun B F=>?_
 simp only [Tryz.ntmps127,List.cons_append,List.nil_append,env0,Nat.reduceAdd]
 have hi:i < p.ino:=in_ino hT hTi
 have hml:=has_mono hk
 have hX:(NodeT.file fb).r=fb:=rfl
 have hhm:has fb.length<=200:=by unfold has dat;split<;>omega
 refine .sr (.assign (.z (.seq (.sr (.move (.move ?_))))))
 refine .call (hc:=Tryz.call161) (sp:=rsThere (s:=s) (p:=p) (T:=T) (os:=os) (N:=N) hi0 hi1 (i:=i) hT) (h:=?_)
 rintro _ _ ⟨rfl,rfl⟩
 rw [hTi]
 refine .not ?_
 refine .z ?_
 refine .condF rfl rfl ?_
 refine .skip (.next (.seq (.sr (.move ?_))))
 refine .lss ?_
 refine .z ?_
 refine .condF rfl (congrArg Value.bool (by first|simp;done|simp;omega|omega)) ?_
 refine .skip (.next (.sr (.move (.move (.move ?_)))))
 refine .call (hc:=Tryz.call195) (sp:=rsResize (s:=s) (p:=p) (T:=T) (os:=os) (N:=N) hi0 hi1 (i:=i) (z:=k) (x:=.file fb) hdc hT htot hTi (by show fb.length<=_;omega) (by omega) (by show tot (fmT T) p.ino+has k<=p.dc+has fb.length;omega)) (h:=?_)
 rintro _ _ ⟨rfl,rfl⟩
 refine .assign (.z (.seq (.sr (.move ?_))))
 refine .nei ?_
 refine .z ?_
 refine .condF rfl (congrArg Value.bool (by first|simp;done|simp;omega|omega)) ?_
 refine .skip (.next (.sr ?_))
 refine .openR (RS.opens s p T os N) fun y hy=>?_
 obtain ⟨u,L,wk,mv,ms⟩:=y
 simp only [rsLs,List.cons_append,List.nil_append]
 refine .fact (rowR_some (el:=244) (size:=2) (v:=u) (k:=p.ino) (xs:=L.flatMap rowV) (by omega)) (fun ⟨ab,cc,hu,hR,hc1,hc2⟩=>?_)
 subst hu
 have hlen:L.length=p.ino:=hy.len
 have hil:i < L.length:=by omega
 have hrow:=hy.row i hil
 obtain ⟨A1,c1,hs1,hr1,hl1,hm1⟩:=hrow.sl
 obtain ⟨e1,hek⟩:∃ e,L[i]=e:=⟨_,rfl⟩
 have hkd:e1.1=refK (T i):=hek ▸ hrow.kd
 have hg0:(L.flatMap rowV)[((i:Nat):Int).toNat * 2+0]?=some (nI e1.1):=by rw [Int.toNat_natCast,<-hek];exact (rowV_get hil).1
 have hg1:(L.flatMap rowV)[((i:Nat):Int).toNat * 2+1]?=some (.slice A1 (refBy (T i)).length c1):=by rw [Int.toNat_natCast,<-hs1];exact (rowV_get hil).2
 rw [hkd] at hg0
 rw [hTi] at hg1 hr1 hl1
 rw [show refBy (some (NodeT.file fb))=fb from rfl] at hg1 hr1 hl1
 refine .move ?_
 refine .nilCheck ?_
 refine .fa ?_ fo247_1
 refine .ld ?_ sc245
 refine .move ?_
 refine .idx ?_ so245
 refine .fa ?_ fo244_1
 refine .ldR (R:=rowR 244 2 (.slice (some ⟨ab,0,none⟩) p.ino cc) p.ino (L.flatMap rowV)) ?_ sc33 hR hg1
 refine .assign (.x ?_)
 refine .shutR (RS.opens s p T os N) ⟨.slice (some ⟨ab,0,none⟩) p.ino cc,L,wk,mv,ms⟩ hy ?_
 clear hy hrow hg0 hg1 hkd hek hs1 hR hlen
 refine .move (.move (.move ?_))
 refine .call (hc:=Tryz.call197) (sp:=rfNeed (n:=k) (by omega)) (h:=?_)
 rintro _ _ ⟨rfl,hM⟩
 obtain rfl:=hM.symm
 refine .move ?_
 refine .lenS ?_ sl33
 refine .call (hc:=Tryz.call197) (sp:=rfNeed (n:=fb.length) (by omega)) (h:=?_)
 rintro _ _ ⟨rfl,hM⟩
 obtain rfl:=hM.symm
 refine .sub ?_
 refine .maxI ?_
 refine .add ?_
 refine .cast (d:=41) (u:=nI 2) rfl (congrArg (Value.int .i64) (by split<;>omega)) ?_
 refine .call (hc:=Tryz.call196) (sp:=rsTouch (s:=s) (p:=p) (T:=T) (os:=os) (N:=N) hi0 hi1 (i:=i) (n:=2) (by omega) (by decide)) (h:=?_)
 rintro _ _ ⟨rfl,rfl⟩
 refine .x (.move ?_)
 refine .mkS (k:=(k:Int)) z5 (fun bw=>?_) so33 (by omega) (by omega) (by omega)
 refine .cast (d:=44) (u:=.slice (some ⟨bw,0,none⟩) k k) rfl (by rw [Int.toNat_natCast]) ?_
 refine .to (A:=buf bw 5 (k:Int).toNat (List.replicate (k:Int).toNat (.int .u8 0))) (A':=buf bw 5 k (bvs (splice (List.replicate k 0) 0 (fb.take 0)))) (fun h hh=>by rw [List.take_zero,rsp_nil,bvs_replicate];rw [Int.toNat_natCast] at hh;exact hh) ?_
 refine .assign (.z (.seq (.sr (.assign (.z (.block ?_))))))
 refine .loopA (σ:=Nat) (fun j=>[(0,.pointer (some ⟨s,0,none⟩)),(1,nI i),(2,nI k),(8,.slice A1 fb.length c1),(9,.slice (some ⟨bw,0,none⟩) k k),(10,.int .i64 (j:Int))]) (fun j=>[buf bw 5 k (bvs (splice (List.replicate k 0) 0 (fb.take j))),RS s p T os (N+2+1),frz os]++F) (fun j=>j<=k) (fun j=>k - j) 0 (Nat.zero_le _) ?_
 rintro j hj
 refine .seq (.sr (.move (.move ?_)))
 refine .lss ?_
 refine .move ?_
 by_cases hjk:j < k
 ·have hsl:(splice (List.replicate k 0) 0 (fb.take j)).length=k:=by rw [splice_length (by rw [List.length_replicate,List.length_take];omega),List.length_replicate]
  have hrX:=hr1.resolve_left (by intro h;rw [h] at hk;simp at hk;omega)
  rcases A1 with _ | ⟨a1,o1,sp1⟩
  ·exact absurd (congrArg List.length (show bvs fb=[] from hrX)) (by rw [bvs_length];simp only [List.length_nil];omega)
  have hsp:sp1=none:=hrX.1
  subst hsp
  have hgx:(bvs fb)[((j:Nat):Int).toNat]?=some (bv (fb.getD j 0)):=by rw [Int.toNat_natCast];exact bv_getD (by omega)
  refine .cast (d:=48) (u:=.bool true) rfl (congrArg Value.bool (by first|simp;done|simp;omega|omega)) ?_
  refine .gT ?_
  refine .move ?_
  refine .gT ?_
  refine .move ?_
  refine .gT ?_
  refine .lenS ?_ sl33
  refine .gT ?_
  refine .lss ?_
  refine .pickT ?_
  refine .z ?_
  refine .condT rfl (congrArg Value.bool (by first|simp;done|simp;omega|omega)) ?_
  refine .skip (.next (.seq (.block (.region (.move (.move (.move (.move ?_))))))))
  refine .idx1 ?_ so33
  refine .ldR (R:=frz os) (xs:=bvs fb) (i:=((j:Nat):Int).toNat) ?_ sc5 hrX hgx
  refine .idx1 ?_ so33
  refine .stB ?_ sc5 (show 0+((j:Nat):Int).toNat < (bvs (splice (List.replicate k 0) 0 (fb.take j))).length by rw [bvs_length];omega)
  refine .nil (.blockNormal (.next (.region (.move ?_))))
  refine .add ?_
  refine .assign (.nil ?_)
  refine .to (A:=buf bw 5 k ((bvs (splice (List.replicate k 0) 0 (fb.take j))).set (0+((j:Nat):Int).toNat) (bv (fb.getD j 0)))) (A':=buf bw 5 k (bvs (splice (List.replicate k 0) 0 (fb.take (j+1))))) (fun h hh=>by rw [<- rsp_step (by rw [List.length_replicate];omega) (by omega),bvs_set];rw [Int.toNat_natCast] at hh;exact hh) ?_
  refine .cast (d:=10) (u:=.int .i64 ((j+1:Nat):Int)) rfl (congrArg (Value.int .i64) (by omega)) ?_
  exact .back (j+1) (by show j+1<=k;omega) (by show k - (j+1) < k - j;omega)
 ·have hjK:j=k:=by omega
  subst hjK
  have htl:(fb.take j).length=j:=by rw [List.length_take];omega
  refine .cast (d:=48) (u:=.bool false) rfl (congrArg Value.bool (by first|simp;done|simp;omega|omega)) ?_
  refine .gF ?_
  refine .gF ?_
  refine .gF ?_
  refine .gF ?_
  refine .pickF ?_
  refine .z ?_
  refine .condF rfl rfl ?_
  refine .exit (.thenExit (.thenExit (.blockExit (?_))))
  refine .next (.sr ?_)
  refine .to (A:=buf bw 5 j (bvs (splice (List.replicate j 0) 0 (fb.take j)))) (A':=buf bw 5 j (bvs (NodeT.file (fb.take j)).r)) (fun h hh=>by rw [splice_all htl] at hh;exact hh) ?_
  refine .openR (RS.opens s p T os (N+2+1)) fun y hy=>?_
  obtain ⟨u,L,wk,mv,ms⟩:=y
  simp only [rsLs,List.cons_append,List.nil_append]
  refine .fact (rowR_some (el:=244) (size:=2) (v:=u) (k:=p.ino) (xs:=L.flatMap rowV) (by omega)) (fun ⟨ab,cc,hu,hR,hc1,hc2⟩=>?_)
  subst hu
  have hlen:L.length=p.ino:=hy.len
  have hil:i < L.length:=by omega
  have hlV:=rowV_length L
  refine .move ?_
  refine .nilCheck ?_
  refine .fa ?_ fo247_1
  refine .ld ?_ sc245
  refine .move (.move ?_)
  refine .idx ?_ so245
  refine .fa ?_ fo244_1
  refine .stRow1 (g:=ab) (size:=2) (num:=p.ino) (c:=cc) (off:=0+((i:Nat):Int).toNat * 2+1) (xs:=L.flatMap rowV) (v:=.slice (some ⟨bw,0,none⟩) j j) rfl ?_ sc33 (by rw [hlV];omega) rfl (by repeat (first | exact .here | apply Rem.there | apply Repl.there | apply Mem.there))
  refine .to (A:=rowR 244 2 (.slice (some ⟨ab,0,none⟩) p.ino cc) p.ino ((L.flatMap rowV).set (0+((i:Nat):Int).toNat * 2+1) (.slice (some ⟨bw,0,none⟩) j j))) (A':=rowR 244 2 (.slice (some ⟨ab,0,none⟩) p.ino cc) p.ino ((L.set i (L[i].1,.slice (some ⟨bw,0,none⟩) j j)).flatMap rowV)) (fun h hh=>by rw [<- rowV_set1 hil];rw [Int.toNat_natCast,Nat.zero_add] at hh;exact hh) ?_
  refine .x (.assign (.z ?_))
  refine .ret (?_)
  refine .openR (buf_opens (g:=bw) (el:=5) (k:=j) (xs:=bvs (NodeT.file (fb.take j)).r)) fun cur hcur=>?_
  simp only [List.cons_append,List.nil_append]
  refine .frzAdd (b:=bw) (os:=os) ?_
  refine .shutR (RS.opens s p (updT T i (some (NodeT.file (fb.take j)))) ((bw,.cells cur 5 (0,0)) :: os) (N+2+1)) ⟨.slice (some ⟨ab,0,none⟩) p.ino cc,L.set i (L[i].1,.slice (some ⟨bw,0,none⟩) j j),wk,mv,ms⟩ (hy.write hTi hil rfl htl hcur.1 hcur.2.1 (by unfold maxLen;omega)) ?_
  exact .ret1 (h1:=.tmp (t:=6) rfl) ⟨_,⟨rfl,_,(fun e he=>List.mem_cons_of_mem _ he),rfl⟩,Am.auto⟩
theorem rTruncate {m s:Nat} {p:Pl} {T:FT} {os:List (Nat×Obj)} {N:Nat} (hi0:1<=p.ino) (hi1:p.ino<=4096) {path:Bytes} {i k:Nat} {fb:Bytes} (hdc:p.dc<=1000000) (hT:RT p T) (htot:tot (fmT T) p.ino<=p.dc) (hTi:T i=some (.file fb)) (hfb:fb.length<=70656) (hk:k<=fb.length) (hpl:path.length<=100000) (hlw:leadW T path=(i,0)):Spec Tryz.prog 61 #[.pointer (some ⟨m,0,none⟩),sv path,nI k] [RF m s,RS s p T os N,frz os] fun F v M=>v=.int .i64 0/\∃ os2,(∀ e∈os,e∈os2)/\M=RF m s :: RS s p (updT T i (some (.file (fb.take k)))) os2 (0+2+1) :: frz os2 :: F:=by
 refine Spec.intro Tryz.func61 rfl rfl fun B F=>?_
 simp only [Tryz.ntmps61,List.cons_append,List.nil_append,env0,Nat.reduceAdd]
 refine .sr (.assign (.x (.move (.move ?_))))
 refine .call (hc:=Tryz.call118) (sp:=rFile (m:=m) (s:=s) (p:=p) (T:=T) (os:=os) (N:=N) hi0 hi1 (path:=path) (i:=i) (fb:=fb) hT hpl hlw hTi) (h:=?_)
 rintro _ _ ⟨rfl,rfl⟩
 refine .move ?_
 refine .extract ?_
 refine .extract ?_
 refine .assign (.assign (.z (.seq (.sr (.move ?_)))))
 refine .nei ?_
 refine .z ?_
 refine .condF rfl (congrArg Value.bool (by first|simp;done|simp;omega|omega)) ?_
 refine .skip (.next (.sr (.move ?_)))
 refine .call (hc:=Tryz.call119) (sp:=rOne (m:=m) (s:=s) (p:=p) (T:=T) (os:=os) (N:=N) hi0 hi1) (h:=?_)
 rintro _ _ ⟨s2,rfl,rfl⟩
 refine .assign (.x (.move (.move (.move ?_))))
 refine .nilCheck ?_
 refine .fa ?_ fo159_0
 refine .ld ?_ sc157
 refine .move (.move ?_)
 refine .call (hc:=Tryz.call127) (sp:=rsTrunc (s:=s) (p:=p) (T:=T) (os:=os) (N:=0) hi0 hi1 (i:=i) (k:=k) (fb:=fb) hdc hT htot hTi hfb hk (by decide)) (h:=?_)
 rintro _ _ ⟨rfl,os2,hsub,rfl⟩
 refine .call (hc:=Tryz.call120) (sp:=rEndOk) (h:=?_)
 rintro _ _ ⟨rfl,hM⟩
 obtain rfl:=hM.symm
 refine .assign (.z ?_)
 refine .ret (?_)
 exact .ret1 (h1:=.tmp (t:=6) rfl) ⟨_,⟨rfl,os2,hsub,rfl⟩,Am.auto⟩
def hT:FT:=fun i=>if i=0 then some (.dir [none]) else none
theorem rm_aT (b:Bytes):rmT (aT b) 0 [some ([97],1)] 0 1=hT:=by
 funext i
 unfold rmT updT aT hT
 by_cases h1:i=1
 ·subst h1;rfl
 ·rw [if_neg h1]
  by_cases h0:i=0
  ·rw [if_pos h0,if_pos h0];rfl
  ·rw [if_neg h0,if_neg h0,if_neg h0,if_neg h1]
theorem tot_hT {n:Nat} (h:1<=n):tot (fmT hT) n=1:=by
 obtain ⟨k,rfl⟩:∃ k,n=k+1:=⟨n - 1,by omega⟩
 clear h
 induction k with
 | zero=>show 0+has 64=1;rw [has_64]
 | succ k ih =>
  show tot (fmT hT) (k+1)+hasO (fmT hT (k+1))=1
  rw [ih,fmT_none (show hT (k+1)=none from if_neg (by omega))];rfl
theorem rNew {p:Pl} (h:PlIs p):Spec Tryz.prog 57 #[nI p.n,nI p.ino] [] fun F v M=>∃ m s,v=.tuple #[.pointer (some ⟨m,0,none⟩),.int .i64 0]/\M=RF m s :: RS s p rootT [] 0 :: frz [] :: F:=by
 refine Spec.intro Tryz.func57 rfl rfl fun B F=>?_
 simp only [Tryz.ntmps57,List.cons_append,List.nil_append,env0,Nat.reduceAdd]
 refine .sr (.assign (.assign (.x (.move (.move ?_)))))
 refine .call (hc:=Tryz.call116) (sp:=refMakeOk h) (h:=?_)
 rintro _ _ ⟨rfl,hM⟩
 obtain rfl:=hM.symm
 refine .move ?_
 refine .extract ?_
 refine .extract ?_
 refine .alloc z199 fun b6=>?_
 refine .stV ?_ agg199
 refine .to (A:=pt b6 (.cells p.cells 199 (0,0))) (A':=pt b6 (.cells p.cells 199 (0,0))) (fun h hh=>hh) ?_
 refine .assign (.z (.seq (.sr (.move ?_))))
 refine .nei ?_
 refine .z ?_
 refine .condF rfl (congrArg Value.bool (by first|simp;done|simp;omega|omega)) ?_
 refine .skip (.next (.sr ?_))
 refine .ldA ?_ agg199
 refine .call (hc:=Tryz.call117) (sp:=rsNew (p:=p) h.i1 h.i2) (h:=?_)
 rintro _ _ ⟨s,rfl,rfl⟩
 refine .build ?_ (bdRF _)
 refine .box fun b20=>?_
 refine .assign (.assign (.z ?_))
 refine .ret (?_)
 refine .emp frz_nil ?_
 exact .ret2 (h1:=.tmp (t:=4) rfl) (h2:=.tmp (t:=5) rfl) ⟨_,⟨b20,s,rfl,rfl⟩,Am.auto⟩
abbrev awL0:TL:=[(0,.dir [])]
abbrev awL1:TL:=[(0,.dir [some ([97],1)]),(1,.dir [])]
abbrev awL2 (b:Bytes):TL:=[(0,.dir [some ([97],1)]),(1,.dir [some ([120],2)]),(2,.file b)]
theorem awL0_ok:∀ e∈awL0,e.2.ok:=by
 intro e he
 simp only [awL0,List.mem_cons,List.not_mem_nil,or_false] at he
 subst he
 exact okNil
theorem awL1_ok:∀ e∈awL1,e.2.ok:=by
 intro e he
 simp only [awL1,List.mem_cons,List.not_mem_nil,or_false] at he
 rcases he with rfl | rfl
 ·exact ok1 (by decide) (by decide)
 ·exact okNil
theorem awL2_ok (b:Bytes):∀ e∈awL2 b,e.2.ok:=by
 intro e he
 simp only [awL2,List.mem_cons,List.not_mem_nil,or_false] at he
 rcases he with rfl | rfl | rfl
 ·exact ok1 (by decide) (by decide)
 ·exact ok1 (by decide) (by decide)
 ·exact trivial
theorem p10_is:PlIs (pD 400 16):=pD_is (by decide) (by decide) (by decide) (by decide)
theorem awMk {f:Nat}:Spec Tryz.prog 28 #[.pointer (some ⟨f,0,none⟩),sv [47,97]] [FSR f (pD 400 16) (trL awL0)] fun F v M=>v=okV/\M=FSR f (pD 400 16) (trL awL1) :: F :=
 fsMkdirL (d:=0) (i:=1) (nm:=[97]) (sl:=[]) p10_is.ok awL0_ok (by decide) (lt_of_all rfl) (by decide) (by decide) rfl rfl rfl (by decide) rfl (fun j hj=>by
  obtain rfl:j=0:=by omega
  intro h;cases h) (.inr (by decide)) (by decide) rfl
theorem awCr {f:Nat}:Spec Tryz.prog 17 #[.pointer (some ⟨f,0,none⟩),sv [47,97,47,120]] [FSR f (pD 400 16) (trL awL1)] fun F v M=>v=okV/\M=FSR f (pD 400 16) (trL (awL2 [])) :: F :=
 fsCreateL (d:=1) (i:=2) (nm:=[120]) (sl:=[]) p10_is.ok awL1_ok (by decide) (lt_of_all rfl) (by decide) (by decide) rfl rfl rfl (by decide) rfl (fun j hj=>by
  rcases j with _ | _ | j
  ·intro h;cases h
  ·intro h;cases h
  ·omega) (.inr (by decide)) (by decide) rfl
theorem awAp {f m cc:Nat} {bs:Bytes} {R:HP} {A:Option Addr} (hR:bs=[] ∨ Reads R A (bvs bs)) (hm:bs.length=600) (hcc:600<=cc) (hcb:cc<=maxLen):Spec Tryz.prog 18 #[.pointer (some ⟨f,0,none⟩),sv [47,97,47,120],.slice A 600 cc] [FSR f (pD 400 16) (trL (awL2 [])),R] fun F v M=>v=okV/\M=FSR f (pD 400 16) (trL (awL2 (wrB [] 0 bs))) :: R :: F :=
 fsAppendL (i:=2) (fb:=[]) p10_is.ok (awL2_ok []) (by show [0,1,2].Nodup;decide) (lt_of_all rfl) (by decide) rfl rfl hR hm hcc hcb (.inr (by decide)) (by decide) (by decide) rfl
theorem awTot (b:Bytes) (h:b.length=600):tot (fmT (trL (awL2 b))) (pD 400 16).ino=4:=by
 rw [tot_trL (by show [0,1,2].Nodup;decide) (lt_of_all rfl)]
 show has 64+(has 64+(has b.length+0))=4
 rw [h];rfl
theorem awTot0:tot (fmT (trL awL0)) (pD 400 16).ino=0:=by
 rw [tot_trL (by decide) (lt_of_all rfl)]
 rfl
theorem l10Awake:Spec Tryz.prog 45 #[] [] fun F v M=>v=.bool true/\M=F:=by
 refine Spec.intro Tryz.func45 rfl rfl fun B F=>?_
 simp only [Tryz.ntmps45,List.cons_append,List.nil_append,env0,Nat.reduceAdd]
 have hWl:=someB_length 600 1
 obtain ⟨Wn,hWn⟩:∃ Wn,someB 600 1=Wn:=⟨_,rfl⟩
 rw [hWn] at hWl
 have hwl:(wrB [] 0 Wn).length=600:=by rw [wrB_length,hWl];rfl
 refine .sr (.assign (.x ?_))
 refine .call (hc:=Tryz.call46) (sp:=l10Fresh p10_is) (h:=?_)
 rintro _ _ ⟨d,f,m,rfl,rfl⟩
 rw [rootT_trL]
 refine .move ?_
 refine .extract ?_
 refine .extract ?_
 refine .extract ?_
 refine .extract ?_
 refine .assign (.assign (.assign (.assign (.z (.seq (.sr (.move ?_)))))))
 refine .not ?_
 refine .z ?_
 refine .condF rfl rfl ?_
 refine .skip (.next (.sr (.move ?_)))
 refine .call (hc:=Tryz.call52) (sp:=fsFree (f:=f) (p:=pD 400 16) (T:=trL awL0) p10_is.ok) (h:=?_)
 rintro _ _ ⟨rfl,rfl⟩
 rw [awTot0]
 refine .move ?_
 refine .extract ?_
 refine .extract ?_
 refine .assign (.assign (.z (.seq (.sr (.move ?_)))))
 refine .call (hc:=Tryz.call28) (sp:=awMk (f:=f)) (h:=?_)
 rintro _ _ ⟨rfl,rfl⟩
 refine .nei ?_
 refine .move ?_
 refine .cast (d:=25) (u:=.bool false) rfl (congrArg Value.bool (by first|simp;done|simp;omega|omega)) ?_
 refine .gT ?_
 refine .move ?_
 refine .gT ?_
 refine .call (hc:=Tryz.call17) (sp:=awCr (f:=f)) (h:=?_)
 rintro _ _ ⟨rfl,rfl⟩
 refine .gT ?_
 refine .nei ?_
 refine .pickF ?_
 refine .move ?_
 refine .cast (d:=30) (u:=.bool false) rfl (congrArg Value.bool (by first|simp;done|simp;omega|omega)) ?_
 refine .gT ?_
 refine .move ?_
 refine .gT ?_
 refine .call (hc:=Tryz.call19) (sp:=alikeSome (n:=600) (c:=1) (by decide) (by decide)) (h:=?_)
 rintro _ _ ⟨bs,rfl,rfl⟩
 rw [hWn]
 refine .gT ?_
 refine .call (hc:=Tryz.call18) (sp:=awAp (f:=f) (m:=600) (cc:=600) (bs:=Wn) (R:=buf bs 5 600 (bvs Wn)) (A:=some ⟨bs,0,none⟩) (.inr Reads.buf) hWl (Nat.le_refl _) (by decide)) (h:=?_)
 rintro _ _ ⟨rfl,rfl⟩
 refine .gT ?_
 refine .nei ?_
 refine .pickF ?_
 refine .z ?_
 refine .condF rfl (congrArg Value.bool (by first|simp;done|simp;omega|omega)) ?_
 refine .skip (.next (.sr (.move ?_)))
 refine .call (hc:=Tryz.call52) (sp:=fsFree (f:=f) (p:=pD 400 16) (T:=trL (awL2 (wrB [] 0 Wn))) p10_is.ok) (h:=?_)
 rintro _ _ ⟨rfl,rfl⟩
 rw [awTot _ hwl]
 refine .move ?_
 refine .extract ?_
 refine .extract ?_
 refine .assign (.assign (.x (.move (.move ?_))))
 refine .sub ?_
 refine .eqi ?_
 refine .move ?_
 refine .cast (d:=45) (u:=.bool true) rfl (congrArg Value.bool (by first|simp;done|simp;omega|omega)) ?_
 refine .gT ?_
 refine .move ?_
 refine .gT ?_
 refine .call (hc:=Tryz.call47) (sp:=fsRenameNo (f:=f) (p:=pD 400 16) (T:=trL (awL2 (wrB [] 0 Wn))) (from_:=[47,97]) (to:=[47,97,47,98]) p10_is.ok (by decide) (by decide) rfl) (h:=?_)
 rintro _ _ ⟨rfl,rfl⟩
 refine .gT ?_
 refine .eqi ?_
 refine .pickT ?_
 refine .move ?_
 refine .cast (d:=50) (u:=.bool true) rfl (congrArg Value.bool (by first|simp;done|simp;omega|omega)) ?_
 refine .gT ?_
 refine .move ?_
 refine .gT ?_
 refine .call (hc:=Tryz.call50) (sp:=fsRemoveE (f:=f) (p:=pD 400 16) (T:=trL (awL2 (wrB [] 0 Wn))) (path:=[47,97]) (e:=7) p10_is.ok (trL_ok (awL2_ok _)) (by decide) (.inr ⟨0,[97],1,0,rfl,rfl,.inr ⟨rfl,rfl,[some ([120],2)],rfl,fun h=>by cases h⟩⟩) (by decide)) (h:=?_)
 rintro _ _ ⟨rfl,rfl⟩
 refine .gT ?_
 refine .eqi ?_
 refine .pickT ?_
 refine .assign (.z ?_)
 refine .ret (?_)
 exact .ret1 (h1:=.tmp (t:=0) rfl) ⟨_,⟨rfl,rfl⟩,Am.auto⟩
theorem fo285_1:fieldOk Tryz.prog 285 1 1=true:=by kernel_rfl
theorem z211:zeroOf Tryz.prog 211=some (#[.string ⟨#[]⟩,.int .i64 0,.slice none 0 0]):=by kernel_rfl
theorem so206:sliceOk Tryz.prog 206 211 3 48=true:=by kernel_rfl
theorem sl206:Tryz.prog.underlying 206=some (.slice 211):=by kernel_rfl
theorem fo211_0:fieldOk Tryz.prog 211 0 0=true:=by kernel_rfl
theorem fo211_1:fieldOk Tryz.prog 211 1 1=true:=by kernel_rfl
theorem fo211_2:fieldOk Tryz.prog 211 2 2=true:=by kernel_rfl
theorem bdIt (s:ByteArray) (i:Int) (A:Option Addr) (k c:Nat):BuildOk Tryz.prog 211 [(0,.string s),(1,.int .i64 i),(2,.slice A k c)] #[.string s,.int .i64 i,.slice A k c]:=fun w=>by kernel_rfl
theorem bsIt (s:ByteArray) (i:Int) (A:Option Addr) (k c:Nat):BuildSOk Tryz.prog 206 1 [(0,.agg #[.string s,.int .i64 i,.slice A k c])] 211 #[.string s,.int .i64 i,.slice A k c]:=fun w=>by kernel_rfl
theorem aRT {p:Pl} (h:2<=p.ino) (b:Bytes):RT p (aT b):=by
 refine ⟨aT_ok b,fun d sl hd q nm i hq=>?_,fun i hi=>?_⟩
 ·unfold aT at hd
  split at hd
  ·injection hd with hd;injection hd with hd;subst hd
   rcases q with _ | q
   ·injection hq with hq;injection hq with hq;injection hq with _ hq;subst hq;decide
   ·simp at hq
  ·split at hd
   ·injection hd with hd;cases hd
   ·cases hd
 ·unfold aT
  rw [if_neg (by omega),if_neg (by omega)]
theorem ents_a {l:List Ent} (h:l.Perm (entsS [some ([97],1)])):l=[([97],1)]:=List.perm_singleton.1 h
theorem l10FreshS {p:Pl} (h:PlIs p):Spec Tryz.prog 46 #[nI p.n,nI p.ino] [] fun F v M=>∃ d f m s,v=.tuple #[.pointer (some ⟨d,0,none⟩),.pointer (some ⟨f,0,none⟩),.pointer (some ⟨m,0,none⟩),.bool true]/\M=FSR f p rootT :: RF m s :: RS s p rootT [] 0 :: frz [] :: F:=by
 refine Spec.intro Tryz.func46 rfl rfl fun B F=>?_
 simp only [Tryz.ntmps46,List.cons_append,List.nil_append,env0,Nat.reduceAdd]
 have hn2:=h.n2
 have h246:246<=p.n:=by have:=h.bm;have:=h.m1;have:=h.da;have:=h.dc;have:=h.d1;omega
 refine .sr (.assign (.assign (.assign (.assign (.x (.move ?_))))))
 refine .call (hc:=Tryz.call62) (sp:=devNew (n:=p.n) (by omega) (by omega)) (h:=?_)
 rintro _ _ ⟨d,rfl,rfl⟩
 refine .move ?_
 refine .extract ?_
 refine .extract ?_
 refine .assign (.assign (.x (.move (.move ?_))))
 refine .call (hc:=Tryz.call57) (sp:=rNew h) (h:=?_)
 rintro _ _ ⟨m,s,rfl,rfl⟩
 refine .move ?_
 refine .extract ?_
 refine .extract ?_
 refine .assign (.assign (.z (.seq (.sr (.move ?_)))))
 refine .nei ?_
 refine .move ?_
 refine .cast (d:=27) (u:=.bool false) rfl (congrArg Value.bool (by first|simp;done|simp;omega|omega)) ?_
 refine .gT ?_
 refine .move ?_
 refine .gT ?_
 refine .nei ?_
 refine .pickF ?_
 refine .move ?_
 refine .cast (d:=31) (u:=.bool false) rfl (congrArg Value.bool (by first|simp;done|simp;omega|omega)) ?_
 refine .gT ?_
 refine .move ?_
 refine .gT ?_
 refine .eqNil ?_ ptr22
 refine .pickF ?_
 refine .move ?_
 refine .gT ?_
 refine .move ?_
 refine .gT ?_
 refine .move ?_
 refine .gT ?_
 refine .call (hc:=Tryz.call63) (sp:=fsMkfs h) (h:=?_)
 rintro _ _ ⟨J,rfl,hJ,rfl⟩
 refine .gT ?_
 refine .nei ?_
 refine .pickF ?_
 refine .z ?_
 refine .condF rfl (congrArg Value.bool (by first|simp;done|simp;omega|omega)) ?_
 refine .skip (.next (.sr (.move ?_)))
 refine .call (hc:=Tryz.call64) (sp:=fsMountNew h hJ) (h:=?_)
 rintro _ _ ⟨f,rfl,rfl⟩
 refine .move ?_
 refine .extract ?_
 refine .extract ?_
 refine .assign (.assign (.x (.move (.move (.move (.move ?_))))))
 refine .eqi ?_
 refine .move ?_
 refine .gT ?_
 refine .move ?_
 refine .gT ?_
 refine .neNil ?_ ptr23
 refine .pickT ?_
 refine .assign (.assign (.assign (.assign (.z ?_))))
 refine .ret (?_)
 exact .ret4 (h1:=.tmp (t:=4) rfl) (h2:=.tmp (t:=5) rfl) (h3:=.tmp (t:=6) rfl) (h4:=.tmp (t:=7) rfl) ⟨_,⟨d,f,m,s,rfl,rfl⟩,Am.auto⟩
theorem rTreeA {m s:Nat} {p:Pl} {b:Bytes} {os:List (Nat×Obj)} {N:Nat} (hi0:2<=p.ino) (hi1:p.ino<=4096):Spec Tryz.prog 122 #[.pointer (some ⟨m,0,none⟩),sv [47]] [RF m s,RS s p (aT b) os N,frz os] fun F v M=>∃ g3 c3 A1 c1,v=.slice (some ⟨g3,0,none⟩) 1 c3/\((b=[] ∨ Reads (frz os) A1 (bvs b))/\b.length<=c1/\c1<=maxLen)/\M=rowR 211 3 (.slice (some ⟨g3,0,none⟩) 1 c3) 1 [sv [47,97],nI 1,.slice A1 b.length c1] :: RF m s :: RS s p (aT b) os N :: frz os :: F:=by
 refine Spec.intro Tryz.func122 rfl rfl fun B F=>?_
 simp only [Tryz.ntmps122,List.cons_append,List.nil_append,env0,Nat.reduceAdd]
 refine .sr (.assign (.x (.move (.move ?_))))
 refine .call (hc:=Tryz.call84) (sp:=rLead (m:=m) (s:=s) (p:=p) (T:=aT b) (os:=os) (N:=N) (Nat.le_trans (by decide) hi0) hi1 (path:=[47]) (aRT hi0 b) (by decide)) (h:=?_)
 rintro _ _ ⟨rfl,rfl⟩
 rw [show leadW (aT b) [47]=(0,0) from rfl]
 refine .move ?_
 refine .extract ?_
 refine .extract ?_
 refine .assign (.assign (.z (.seq (.sr (.move ?_)))))
 refine .nei ?_
 refine .z ?_
 refine .condF rfl (congrArg Value.bool (by first|simp;done|simp;omega|omega)) ?_
 refine .skip (.next (.sr (.move ?_)))
 refine .nilCheck ?_
 refine .fa ?_ fo159_0
 refine .ld ?_ sc157
 refine .move ?_
 refine .call (hc:=Tryz.call198) (sp:=rsList (s:=s) (p:=p) (T:=aT b) (os:=os) (N:=N) (Nat.le_trans (by decide) hi0) hi1 (d:=0) (sl:=[some ([97],1)]) (aRT hi0 b) rfl) (h:=?_)
 rintro _ _ ⟨u,l,rfl,⟨hlp,hls⟩,rfl⟩
 obtain rfl:=ents_a hlp
 refine .fact (rowR_some (el:=285) (size:=2) (v:=u) (k:=1) (xs:=[sv [97],nI 1]) (by decide)) (fun ⟨g2,c2,hu2,hR2,hc3,hc4⟩=>?_)
 subst hu2
 refine .move ?_
 refine .extract ?_
 refine .extract ?_
 refine .assign (.assign (.x (.assign ?_)))
 refine .emp (rowR.nil (e:=211) (size:=3) _) ?_
 refine .z (.seq (.sr (.assign (.z (.block ?_)))))
 refine .loopN 2 (RC.succ ?_)
 refine .seq (.sr (.move (.move ?_)))
 refine .lenS ?_ sl282
 refine .lss ?_
 refine .z ?_
 refine .condT rfl (congrArg Value.bool (by first | rfl | (simp;done) | (simp;omega) | omega)) ?_
 refine .skip (.next (.seq (.block (.sr (.move ?_)))))
 refine .catS [47] [47] ?_ (by decide)
 refine .move (.move ?_)
 refine .idx ?_ so282
 refine .fa ?_ fo285_0
 refine .ldR (R:=rowR 285 2 (.slice (some ⟨g2,0,none⟩) 1 c2) 1 [sv [97],nI 1]) (xs:=[sv [97],nI 1]) (i:=0) ?_ sc9 rowR_reads rfl
 refine .catS [47,47] [97] ?_ (by decide)
 refine .assign (.z (.seq (.sr (.move ?_))))
 refine .eqS [47] [47] ?_
 refine .cast (d:=45) (u:=.bool true) rfl rfl ?_
 refine .z ?_
 refine .condT rfl rfl ?_
 refine .region (.move (.move ?_))
 refine .idx ?_ so282
 refine .fa ?_ fo285_0
 refine .ldR (R:=rowR 285 2 (.slice (some ⟨g2,0,none⟩) 1 c2) 1 [sv [97],nI 1]) (xs:=[sv [97],nI 1]) (i:=0) ?_ sc9 rowR_reads rfl
 refine .catS [47] [97] ?_ (by decide)
 refine .assign (.z (.seq ?_))
 refine .openR (RS.opens s p (aT b) os N) fun y hy=>?_
 obtain ⟨u,L,wk,mv,ms⟩:=y
 simp only [rsLs,List.cons_append,List.nil_append]
 refine .fact (rowR_some (el:=244) (size:=2) (v:=u) (k:=p.ino) (xs:=L.flatMap rowV) (by omega)) (fun ⟨ab,cc,hu,hR,hc1,hc2⟩=>?_)
 subst hu
 have hlen:L.length=p.ino:=hy.len
 have hil:1 < L.length:=by omega
 have hrow:=hy.row 1 hil
 obtain ⟨A1,c1,hs1,hr1,hl1,hm1⟩:=hrow.sl
 rw [aT_1] at hr1 hl1
 have hg0:L[1].1=1:=by have:=hrow.kd;rw [aT_1] at this;exact this
 have hs1:L[1].2=.slice A1 b.length c1:=by rw [hs1,aT_1];rfl
 have hus:((L.flatMap rowV).drop (((1:Nat):Int).toNat * 2)).take 2=[nI 1,.slice A1 b.length c1]:=by
  have h1:=rowV_get hil
  rw [hg0,hs1] at h1
  refine List.ext_getElem? fun j=>?_
  rw [List.getElem?_take]
  split
  ·rename_i hj
   rw [List.getElem?_drop]
   rcases j with _ | _ | j
   ·exact h1.1
   ·exact h1.2
   ·omega
  ·rename_i hj
   rw [List.getElem?_eq_none (by show 2<=j;omega)]
 have hlV:=rowV_length L
 refine .dr ([RF m s,pt s (sO p (.slice (some ⟨ab,0,none⟩) p.ino cc) wk mv),rowR 244 2 (.slice (some ⟨ab,0,none⟩) p.ino cc) p.ino (L.flatMap rowV),rowR 285 2 (.slice (some ⟨g2,0,none⟩) 1 c2) 1 [sv [97],nI 1]]) [15] 16 mixed .autoJ ?_
 refine .tk 0 rfl .move ?_
 refine .tk 1 rfl .nilCheck ?_
 refine .tk 2 rfl (.fa fo159_0) ?_
 refine .tk 3 rfl (.ld sc157) ?_
 refine .tk 4 rfl .nilCheck ?_
 refine .tk 5 rfl (.fa fo247_1) ?_
 refine .tk 6 rfl (.ld sc245) ?_
 refine .tk 7 rfl .move ?_
 refine .tk 8 rfl .move ?_
 refine .tk 9 rfl (.idx so282) ?_
 refine .tk 10 rfl (.fa fo285_1) ?_
 refine .tk 11 rfl (Qt.ldR (R:=rowR 285 2 (.slice (some ⟨g2,0,none⟩) 1 c2) 1 [sv [97],nI 1]) (xs:=[sv [97],nI 1]) (i:=1) sc3 rowR_reads rfl) ?_
 refine .tk 12 rfl (.idx so245) ?_
 refine .tk 13 rfl (Qt.ldAR (R:=rowR 244 2 (.slice (some ⟨ab,0,none⟩) p.ino cc) p.ino (L.flatMap rowV)) (i:=((1:Nat):Int).toNat * 2) (us:=[nI 1,.slice A1 b.length c1]) agg244 hR hus (by rw [hlV];show 1 * 2+2<=_;omega)) ?_
 refine .on 14 rfl fun hnp=>?_
 refine .alloc z244 fun b12_0=>?_
 refine .nil (.wa hnp ?_)
 refine .on 15 rfl fun hnp=>?_
 refine .stV ?_ agg244
 refine .nil (.wb hnp ?_)
 refine .fin ?_
 refine .shutR (RS.opens s p (aT b) os N) ⟨.slice (some ⟨ab,0,none⟩) p.ino cc,L,wk,mv,ms⟩ hy ?_
 refine .next (.sr ?_)
 refine .fa ?_ fo244_0
 refine .ld ?_ sc3
 refine .eqi ?_
 refine .z ?_
 refine .condF rfl (congrArg Value.bool (by first | rfl | (simp;done) | (simp;omega) | omega)) ?_
 refine .region (.move (.move ?_))
 refine .fa ?_ fo244_1
 refine .ld ?_ sc33
 refine .build ?_ (bdIt _ _ _ _ _)
 refine .buildS (fun b84=>?_) (bsIt _ _ _ _ _)
 refine .append (m:=1) (news:=[sv [47,97],nI 1,.slice A1 b.length c1]) so206 (by decide) (by repeat (first | exact .here | apply Rem.there | apply Repl.there | apply Mem.there)) Reads.pt (by repeat (first | exact .here | apply Rem.there | apply Repl.there | apply Mem.there)) rfl (by intro x hx;simp only [List.mem_cons,List.not_mem_nil,or_false] at hx;rcases hx with rfl | rfl | rfl<;>rfl) (by decide) (by decide) ⟨_,z211,rfl⟩ (fun u2 hu2=>?_)
 refine .to (A:=rowR 211 3 u2 (0+1) ([]++[sv [47,97],nI 1,.slice A1 b.length c1])) (A':=rowR 211 3 u2 1 [sv [47,97],nI 1,.slice A1 b.length c1]) (fun h hh=>hh) ?_
 refine .fact (rowR_some (el:=211) (size:=3) (v:=u2) (k:=1) (xs:=[sv [47,97],nI 1,.slice A1 b.length c1]) (by decide)) (fun ⟨g3,c3,hu3,hR3,hc5,hc6⟩=>?_)
 subst hu3
 refine .assign (.nil (.blockNormal (.next (.region (.move ?_)))))
 refine .add ?_
 refine .assign (.nil ?_)
 refine .again (RC.succ ?_)
 refine .seq (.sr (.move (.move ?_)))
 refine .lenS ?_ sl282
 refine .lss ?_
 refine .z ?_
 refine .condF rfl (congrArg Value.bool (by first | rfl | (simp;done) | (simp;omega) | omega)) ?_
 refine .exit (.thenExit (.thenExit (.blockExit (?_))))
 refine .next (.sr (.move (.assign (.z ?_))))
 refine .ret (?_)
 exact .ret1 (h1:=.tmp (t:=4) rfl) ⟨_,⟨g3,c3,A1,c1,rfl,⟨hr1,hl1,hm1⟩,rfl⟩,Am.auto⟩
theorem lawTreeA {f m s:Nat} {p:Pl} {b:Bytes} {os:List (Nat×Obj)} {N:Nat} (h:PlIs p) (hi0:2<=p.ino) (hdc:p.dc<=1000000) (hfit:1+has b.length<=p.dc) (hb:b.length<=70656):Spec Tryz.prog 59 #[.pointer (some ⟨f,0,none⟩),.pointer (some ⟨m,0,none⟩)] [FSR f p (aT b),RF m s,RS s p (aT b) os N,frz os] fun F v M=>v=.bool true/\M=FSR f p (aT b) :: RF m s :: RS s p (aT b) os N :: frz os :: F:=by
 refine Spec.intro Tryz.func59 rfl rfl fun B F=>?_
 simp only [Tryz.ntmps59,List.cons_append,List.nil_append,env0,Nat.reduceAdd]
 have hi1:=h.i2
 have htot:tot (fmT (aT b)) p.ino<=p.dc:=by rw [tot_aT b hi0];exact hfit
 refine .sr (.assign (.x (.move ?_)))
 refine .call (hc:=Tryz.call122) (sp:=rTreeA (m:=m) (s:=s) (p:=p) (b:=b) (os:=os) (N:=N) hi0 hi1) (h:=?_)
 rintro _ _ ⟨g3,c3,A1,c1,rfl,⟨hr1,hl1,hm1⟩,rfl⟩
 have hR3:=rowR_reads (el:=211) (size:=3) (g:=g3) (k:=1) (c:=c3) (xs:=[sv [47,97],nI 1,.slice A1 b.length c1])
 refine .assign (.x (.move ?_))
 refine .call (hc:=Tryz.call52) (sp:=fsFree (f:=f) (p:=p) (T:=aT b) h.ok) (h:=?_)
 rintro _ _ ⟨rfl,rfl⟩
 refine .move ?_
 refine .extract ?_
 refine .extract ?_
 refine .assign (.assign (.x (.move ?_)))
 refine .nilCheck ?_
 refine .fa ?_ fo159_0
 refine .ld ?_ sc157
 refine .call (hc:=Tryz.call123) (sp:=rsFree (s:=s) (p:=p) (T:=aT b) (os:=os) (N:=N) (Nat.le_trans (by decide) hi0) hi1 hdc (aRT hi0 b) htot) (h:=?_)
 rintro _ _ ⟨rfl,rfl⟩
 refine .move ?_
 refine .extract ?_
 refine .extract ?_
 refine .assign (.assign (.z (.seq (.sr (.move (.move ?_))))))
 refine .nei ?_
 refine .move ?_
 refine .cast (d:=41) (u:=.bool false) rfl (congrArg Value.bool (by first | rfl | (simp;done) | (simp;omega) | omega)) ?_
 refine .gT ?_
 refine .move ?_
 refine .gT ?_
 refine .move ?_
 refine .gT ?_
 refine .nei ?_
 refine .pickF ?_
 refine .z ?_
 refine .condF rfl (congrArg Value.bool (by first | rfl | (simp;done) | (simp;omega) | omega)) ?_
 refine .skip (.next (.sr (.move ?_)))
 refine .call (hc:=Tryz.call51) (sp:=fsList (f:=f) (p:=p) (T:=aT b) (path:=[47]) (i:=0) (z:=64) (sl:=[some ([97],1)]) h.ok (aT_ok b) (by decide) rfl rfl) (h:=?_)
 rintro _ _ ⟨u,l,rfl,⟨hlp,hls⟩,rfl⟩
 obtain rfl:=ents_a hlp
 refine .fact (rowR_shape (el:=9) (size:=1) (v:=u) (k:=1) (xs:=svs [[97]])) (fun ⟨A4,c4,hu4,hR4,hc7,hc8,hlen4⟩=>?_)
 subst hu4
 refine .move ?_
 refine .extract ?_
 refine .extract ?_
 refine .assign (.assign (.x (.move ?_)))
 refine .call (hc:=Tryz.call124) (sp:=rList (m:=m) (s:=s) (p:=p) (T:=aT b) (os:=os) (N:=N) (Nat.le_trans (by decide) hi0) hi1 (path:=[47]) (d:=0) (sl:=[some ([97],1)]) (aRT hi0 b) (by decide) rfl rfl) (h:=?_)
 rintro _ _ ⟨u5,l5,rfl,⟨hlp5,hls5⟩,rfl⟩
 obtain rfl:=ents_a hlp5
 refine .fact (rowR_shape (el:=9) (size:=1) (v:=u5) (k:=1) (xs:=svs [[97]])) (fun ⟨A5,c5,hu5,hR5,hc9,hc10,hlen5⟩=>?_)
 subst hu5
 refine .move ?_
 refine .extract ?_
 refine .extract ?_
 refine .assign (.assign (.z (.seq (.sr (.move ?_)))))
 refine .nei ?_
 refine .move ?_
 refine .cast (d:=58) (u:=.bool false) rfl (congrArg Value.bool (by first | rfl | (simp;done) | (simp;omega) | omega)) ?_
 refine .gT ?_
 refine .move ?_
 refine .gT ?_
 refine .move ?_
 refine .gT ?_
 refine .call (hc:=Tryz.call53) (sp:=alikeTexts (R:=rowR 9 1 (.slice A4 1 c4) 1 (svs [[97]])) (R':=rowR 9 1 (.slice A5 1 c5) 1 (svs [[97]])) (xs:=[[97]]) (n:=1) (.inr hR4) (.inr hR5) rfl (by decide)) (h:=?_)
 rintro _ _ ⟨rfl,rfl⟩
 refine .gT ?_
 refine .not ?_
 refine .pickF ?_
 refine .z ?_
 refine .condF rfl rfl ?_
 refine .skip (.next (.seq (.sr (.assign (.z (.block ?_))))))
 refine .loopN 2 (RC.succ ?_)
 refine .seq (.sr (.move (.move ?_)))
 refine .lenS ?_ sl206
 refine .lss ?_
 refine .z ?_
 refine .condT rfl (congrArg Value.bool (by first | rfl | (simp;done) | (simp;omega) | omega)) ?_
 refine .skip (.next (.seq (.block (.sr (.move (.move (.move ?_)))))))
 refine .idx ?_ so206
 refine .fa ?_ fo211_0
 refine .ldR (R:=rowR 211 3 (.slice (some ⟨g3,0,none⟩) 1 c3) 1 [sv [47,97],nI 1,.slice A1 b.length c1]) (xs:=[sv [47,97],nI 1,.slice A1 b.length c1]) (i:=0) ?_ sc9 hR3 rfl
 refine .call (hc:=Tryz.call25) (sp:=fsStat (f:=f) (p:=p) (T:=aT b) (path:=[47,97]) h.ok (aT_ok b) (by decide)) (h:=?_)
 rintro _ _ ⟨rfl,rfl⟩
 rw [aT_leads]
 simp only
 refine .move ?_
 refine .extract ?_
 refine .extract ?_
 refine .alloc z51 fun b15_0=>?_
 refine .stV ?_ agg51
 refine .assign (.z (.seq (.seq ?_)))
 refine .dr ([rowR 211 3 (.slice (some ⟨g3,0,none⟩) 1 c3) 1 [sv [47,97],nI 1,.slice A1 b.length c1],pt b15_0 (.cells #[nI 1,nI b.length] 51 (0,0))]) [] 12 mixed .autoJ ?_
 refine .tk 0 rfl .move ?_
 refine .tk 1 rfl .nei ?_
 refine .tk 2 rfl (Qt.eq .move (congrArg Value.bool (show (!decide ((0:Int)=0))=false from rfl))) ?_
 refine .tn 3 rfl (.fa fo51_0) ?_
 refine .tn 4 rfl (.ld sc3) ?_
 refine .tn 5 rfl .move ?_
 refine .tn 6 rfl .move ?_
 refine .tn 7 rfl (.idx so206) ?_
 refine .tn 8 rfl (.fa fo211_1) ?_
 refine .tn 9 rfl (Qt.ldR (xs:=[sv [47,97],nI 1,.slice A1 b.length c1]) (i:=1) sc3 hR3 rfl) ?_
 refine .tn 10 rfl .nei ?_
 refine .tk 11 rfl .pickF ?_
 refine .fin ?_
 refine .next ?_
 refine .condF rfl (congrArg Value.bool (by first | rfl | (simp;done) | (simp;omega) | omega)) ?_
 refine .skip (.next (.seq (.sr ?_)))
 refine .fa ?_ fo51_0
 refine .ld ?_ sc3
 refine .eqi ?_
 refine .z ?_
 refine .condF rfl (congrArg Value.bool (by first | rfl | (simp;done) | (simp;omega) | omega)) ?_
 refine .skip (.next (.sr (.move (.move (.move ?_)))))
 refine .idx ?_ so206
 refine .fa ?_ fo211_0
 refine .ldR (R:=rowR 211 3 (.slice (some ⟨g3,0,none⟩) 1 c3) 1 [sv [47,97],nI 1,.slice A1 b.length c1]) (xs:=[sv [47,97],nI 1,.slice A1 b.length c1]) (i:=0) ?_ sc9 hR3 rfl
 refine .call (hc:=Tryz.call48) (sp:=fsRead (f:=f) (p:=p) (T:=aT b) (path:=[47,97]) (at':=0) (n:=70656) (i:=1) (z:=b.length) (fb:=b) h.ok (aT_ok b) (by decide) (aT_file b) (aT_1 b) (by decide) (by decide)) (h:=?_)
 rintro _ _ ⟨u6,rfl,rfl⟩
 rw [List.drop_zero,List.take_of_length_le hb]
 refine .fact (rowR_shape (el:=5) (size:=1) (v:=u6) (k:=b.length) (xs:=bvs b)) (fun ⟨A6,c6,hu6,hR6,hc11,hc12,hlen6⟩=>?_)
 subst hu6
 refine .move ?_
 refine .extract ?_
 refine .extract ?_
 refine .assign (.assign (.z (.seq ?_)))
 refine .dr ([rowR 211 3 (.slice (some ⟨g3,0,none⟩) 1 c3) 1 [sv [47,97],nI 1,.slice A1 b.length c1],pt b15_0 (.cells #[nI 1,nI b.length] 51 (0,0))]) [] 23 mixed .autoJ ?_
 refine .tk 0 rfl .move ?_
 refine .tk 1 rfl .nei ?_
 refine .tk 2 rfl (Qt.eq .move (congrArg Value.bool (show (!decide ((0:Int)=0))=false from rfl))) ?_
 refine .tn 3 rfl .move ?_
 refine .tn 4 rfl .move ?_
 refine .tn 5 rfl .move ?_
 refine .tn 6 rfl (.idx so206) ?_
 refine .tn 7 rfl (.fa fo211_2) ?_
 refine .tn 8 rfl (Qt.ldR (xs:=[sv [47,97],nI 1,.slice A1 b.length c1]) (i:=2) sc33 hR3 rfl) ?_
 refine .on 9 rfl fun hnp=>?_
 refine .gT ?_
 refine .call (hc:=Tryz.call49) (sp:=alikeBytes (R:=rowR 5 1 (.slice A6 b.length c6) b.length (bvs b)) (R':=frz os) (xs:=b) (ys:=b) (.inr hR6) hr1 rfl rfl (by omega)) (h:=?_)
 rintro _ _ ⟨rfl,rfl⟩
 refine .nil (.wa hnp ?_)
 refine .tn 10 rfl .not ?_
 refine .tk 11 rfl .pickF ?_
 refine .tk 12 rfl (Qt.eq .move (congrArg Value.bool (show (!decide (b=b))=false by simp))) ?_
 refine .tn 13 rfl (.fa fo51_1) ?_
 refine .tn 14 rfl (.ld sc3) ?_
 refine .tn 15 rfl .move ?_
 refine .tn 16 rfl .move ?_
 refine .tn 17 rfl (.idx so206) ?_
 refine .tn 18 rfl (.fa fo211_2) ?_
 refine .tn 19 rfl (Qt.ldR (xs:=[sv [47,97],nI 1,.slice A1 b.length c1]) (i:=2) sc33 hR3 rfl) ?_
 refine .tn 20 rfl (.lenS sl33) ?_
 refine .tn 21 rfl .nei ?_
 refine .tk 22 rfl .pickF ?_
 refine .fin ?_
 refine .next ?_
 refine .condF rfl (congrArg Value.bool (by first | rfl | (simp;done) | (simp;omega) | omega)) ?_
 refine .skip (.blockNormal (.next (.region (.move ?_))))
 refine .add ?_
 refine .assign (.nil ?_)
 refine .again (RC.succ ?_)
 refine .seq (.sr (.move (.move ?_)))
 refine .lenS ?_ sl206
 refine .lss ?_
 refine .z ?_
 refine .condF rfl (congrArg Value.bool (by first | rfl | (simp;done) | (simp;omega) | omega)) ?_
 refine .exit (.thenExit (.thenExit (.blockExit (?_))))
 refine .next (.sr (.assign (.z ?_)))
 refine .ret (?_)
 exact .ret1 (h1:=.tmp (t:=4) rfl) ⟨_,⟨rfl,rfl⟩,Am.auto⟩
theorem fsAppendFullC {f s a c mp:Nat} {p:Pl} {T:FT} {x3 x5:Nat} {i m cc:Nat} {fb bs:Bytes} {R:HP} {A:Option Addr} (hTi:T i=some (.file fb)) (hR:bs=[] ∨ Reads R A (bvs bs)) (hm:bs.length=m) (hcc:m<=cc) (hcb:cc<=maxLen) (hw:Rw p 0 (has (max fb.length (fb.length+m)) - has fb.length+(m+511) / 512+10)) (hbg:fb.length+m<=70656) (hfit:p.dc+has fb.length < tot (fmT T) p.ino+has (max fb.length (fb.length+m))) (ho:PlOk p):Spec Tryz.prog 70 (#[nI i,.agg #[nI 1,nI fb.length]]++#[.pointer (some ⟨x3,0,none⟩),.pointer (some ⟨x5,0,none⟩)]) [pt f (fO c a s false false false mp),LD mp T,IN s a c p (fmT T) (fmT T) 0 true,bun [pt x3 (.cells #[.pointer (some ⟨f,0,none⟩)] 23 (0,0)),pt x5 (.cells #[.slice A m cc] 33 (0,0)),R]] fun F v M=>v=nI 3/\M=pt f (fO c a s false false false mp) :: LD mp T :: IN s a c p (fmT T) (fmT T) 0 true :: bun [pt x3 (.cells #[.pointer (some ⟨f,0,none⟩)] 23 (0,0)),pt x5 (.cells #[.slice A m cc] 33 (0,0)),R] :: F:=by
 refine Spec.intro Tryz.func70 rfl rfl fun B F=>?_
 simp only [Tryz.ntmps70,List.cons_append,List.nil_append,env0,Nat.reduceAdd]
 refine .openR (bun.opens _) fun _ _=>?_
 simp only [List.cons_append,List.nil_append]
 refine .sr ?_
 refine .box fun b5=>?_
 refine .assign (.z (.seq ?_))
 refine .dr ([pt x3 (.cells #[.pointer (some ⟨f,0,none⟩)] 23 (0,0)),pt x5 (.cells #[.slice A m cc] 33 (0,0)),pt f (fO c a s false false false mp),pt b5 (.cells #[nI 1,nI fb.length] 51 (0,0))]) [] 10 mixed .autoJ ?_
 refine .tk 0 rfl (.ld sc23) ?_
 refine .tk 1 rfl .nilCheck ?_
 refine .tk 2 rfl (.fa fo129_2) ?_
 refine .tk 3 rfl (.ld sc126) ?_
 refine .tk 4 rfl .move ?_
 refine .tk 5 rfl (.fa fo51_1) ?_
 refine .tk 6 rfl (.ld sc3) ?_
 refine .tk 7 rfl (.ld sc33) ?_
 refine .on 8 rfl fun hnp=>?_
 refine .call (hc:=Tryz.call71) (sp:=nWriteFull (s:=s) (a:=a) (c:=c) (p:=p) (F0:=fmT T) (F:=fmT T) (W:=0) (i:=i) (at':=fb.length) (f:=(1,fb)) (bs:=bs) ho (fmT_some hTi) hw hR hm hcc hcb (Nat.le_refl _) hbg hfit) (h:=?_)
 rintro _ _ ⟨rfl,rfl⟩
 refine .nil (.wa hnp ?_)
 refine .tk 9 rfl .assign ?_
 refine .fin ?_
 refine .next ?_
 refine .ret (?_)
 refine .shutR (bun.opens [pt x3 (.cells #[.pointer (some ⟨f,0,none⟩)] 23 (0,0)),pt x5 (.cells #[.slice A m cc] 33 (0,0)),R]) () trivial ?_
 exact .ret1 (h1:=.tmp (t:=6) rfl) ⟨_,⟨rfl,rfl⟩,Am.auto⟩
theorem fsAppendFull {f:Nat} {p:Pl} {T:FT} {path:Bytes} (ho:PlOk p) (hT:TOk T) (hpl:path.length<=1000000) {i m cc:Nat} {fb bs:Bytes} {R:HP} {A:Option Addr} (hft:fileT T path=(i,1,fb.length,0)) (hTi:T i=some (.file fb)) (hR:bs=[] ∨ Reads R A (bvs bs)) (hm:bs.length=m) (hcc:m<=cc) (hcb:cc<=maxLen) (hw:Rw p 0 (has (max fb.length (fb.length+m)) - has fb.length+(m+511) / 512+10)) (hbg:fb.length+m<=70656) (hfit:p.dc+has fb.length < tot (fmT T) p.ino+has (max fb.length (fb.length+m))):Spec Tryz.prog 18 #[.pointer (some ⟨f,0,none⟩),sv path,.slice A m cc] [FSR f p T,R] fun F v M=>v=nI 3/\M=FSR f p T :: R :: F:=by
 refine Spec.intro Tryz.func18 rfl rfl fun B F=>?_
 simp only [Tryz.ntmps18,List.cons_append,List.nil_append,env0,Nat.reduceAdd]
 refine .openR (FSR.opens f p T) fun y _=>?_
 obtain ⟨c,a,s,mp⟩:=y
 simp only [fsLs,List.cons_append,List.nil_append]
 refine .sr ?_
 refine .box fun b3=>?_
 refine .box fun b5=>?_
 refine .assign (.x ?_)
 refine .ld ?_ sc23
 refine .move ?_
 refine .makeFuncB ?_
 refine .shutR (bun.opens [pt b3 (.cells #[.pointer (some ⟨f,0,none⟩)] 23 (0,0)),pt b5 (.cells #[.slice A m cc] 33 (0,0)),R]) () trivial ?_
 refine .call (hc:=Tryz.call69) (sp:=fsEditE (s:=s) (a:=a) (c:=c) (p:=p) (f:=f) (mp:=mp) (T:=T) (F1:=fmT T) (W:=0) (e:=3) ho hT hpl hft (hc:=Tryz.call70) (sp:=fsAppendFullC (x3:=b3) (x5:=b5) hTi hR hm hcc hcb hw hbg hfit ho) (by decide)) (h:=?_)
 rintro _ _ ⟨rfl,rfl⟩
 refine .assign (.z ?_)
 refine .ret (?_)
 refine .openR (bun.opens _) fun _ _=>?_
 simp only [List.cons_append,List.nil_append]
 refine .shutR (FSR.opens f p T) (c,a,s,mp) trivial ?_
 exact .ret1 (h1:=.tmp (t:=6) rfl) ⟨_,⟨rfl,rfl⟩,Am.auto⟩
abbrev fP (n:Nat):Pl:=pD n 8
theorem fP_is {n:Nat} (h1:256<=n) (h2:n<=330):PlIs (fP n):=pD_is (by decide) (by decide) (by omega) (by omega)
theorem has_grow (a k:Nat):has (a+k)<=has a+k / 512+2:=by
 unfold has dat
 split<;>split<;>omega
theorem has_small' {a n:Nat} (h:has a<=n):a<=512 * n:=by
 unfold has dat at h
 split at h<;>omega
section
variable {f n:Nat} (h1:256<=n) (h2:n<=330)
include h1 h2
theorem uCr:Spec Tryz.prog 17 #[.pointer (some ⟨f,0,none⟩),sv [47,97]] [FSR f (fP n) rootT] fun F v M=>v=okV/\M=FSR f (fP n) (aT []) :: F:=by
 have hd:(fP n).dc=n - 249:=rfl
 have:=fsCreate (f:=f) (p:=fP n) (T:=rootT) (path:=[47,97]) (d:=0) (i:=1) (nm:=[97]) (sl:=[]) (x:=.file []) (fP_is h1 h2).ok rootT_ok (by first | decide | (show _<=8;decide) | (show _ < 8;decide) | (show 8<=_;decide) | (show 248 - 245+0+_<=60;decide)) (by first | decide | (show _<=8;decide) | (show _ < 8;decide) | (show 8<=_;decide) | (show 248 - 245+0+_<=60;decide)) rfl rfl rfl (by first | decide | (show _<=8;decide) | (show _ < 8;decide) | (show 8<=_;decide) | (show 248 - 245+0+_<=60;decide)) rfl (fun j hj=>by
  obtain rfl:j=0:=by omega
  intro h;cases h) rfl rfl (.inr (by first | decide | (show _<=8;decide) | (show _ < 8;decide) | (show 8<=_;decide) | (show 248 - 245+0+_<=60;decide))) (by
  rw [tot_rootT,hd]
  show 0+has 64<=n - 249+has 0
  have:has 64=1:=rfl
  omega)
 rwa [mkT_a] at this
theorem urCr {m s:Nat}:Spec Tryz.prog 30 #[.pointer (some ⟨m,0,none⟩),sv [47,97]] [RF m s,RS s (fP n) rootT [] 0,frz []] fun F v M=>v=.int .i64 0/\∃ os2 N,M=RF m s :: RS s (fP n) (aT []) os2 N :: frz os2 :: F:=by
 have hd:(fP n).dc=n - 249:=rfl
 have:=rCreate (m:=m) (s:=s) (p:=fP n) (T:=rootT) (os:=[]) (N:=0) (by first | decide | (show _<=8;decide) | (show _ < 8;decide) | (show 8<=_;decide) | (show 248 - 245+0+_<=60;decide)) (by first | decide | (show _<=8;decide) | (show _ < 8;decide) | (show 8<=_;decide) | (show 248 - 245+0+_<=60;decide)) (path:=[47,97]) (d:=0) (i:=1) (nm:=[97]) (sl:=[]) (x:=.file []) (by rw [hd];omega) (rootRT (p:=fP n) (by first | decide | (show _<=8;decide) | (show _ < 8;decide) | (show 8<=_;decide) | (show 248 - 245+0+_<=60;decide))) (by rw [tot_rootT];exact Nat.zero_le _) (by first | decide | (show _<=8;decide) | (show _ < 8;decide) | (show 8<=_;decide) | (show 248 - 245+0+_<=60;decide)) rfl rfl rfl (by first | decide | (show _<=8;decide) | (show _ < 8;decide) | (show 8<=_;decide) | (show 248 - 245+0+_<=60;decide)) rfl (fun j hj=>by
  obtain rfl:j=0:=by omega
  intro h;cases h) rfl rfl (by
  rw [tot_rootT,hd]
  show 0+has 64<=n - 249+has 0
  have:has 64=1:=rfl
  omega)
 rw [mkT_a] at this
 exact Spec.post this fun F v M ⟨hv,os2,_,hM⟩=>⟨_,⟨hv,os2,_,hM⟩,Wk.refl⟩
section
variable {b bs:Bytes} {k c:Nat} {R:HP} {A:Option Addr} (hb:b.length<=50000) (hR:bs=[] ∨ Reads R A (bvs bs)) (hm:bs.length=k) (hkc:k<=c) (hcm:c<=maxLen) (hk5:k<=5000)
include hb hR hm hkc hcm hk5
theorem uAp (hfit:1+has (b.length+k)<=n - 249):Spec Tryz.prog 18 #[.pointer (some ⟨f,0,none⟩),sv [47,97],.slice A k c] [FSR f (fP n) (aT b),R] fun F v M=>v=okV/\M=FSR f (fP n) (aT (wrB b b.length bs)) :: R :: F:=by
 have hg:=has_grow b.length k
 have hmx:max b.length (b.length+k)=b.length+k:=by omega
 have hd:(fP n).dc=n - 249:=rfl
 have:=fsAppend (f:=f) (p:=fP n) (T:=aT b) (path:=[47,97]) (bs:=bs) (R:=R) (A:=A) (m:=k) (cc:=c) (fP_is h1 h2).ok (aT_ok _) (by first | decide | (show _<=8;decide) | (show _ < 8;decide) | (show 8<=_;decide) | (show 248 - 245+0+_<=60;decide)) (aT_file _) (aT_1 _) hR hm hkc hcm (.inr (by show 248 - 245+0+_<=60;rw [hmx];omega)) (Nat.le_refl _) (by omega) (by
  rw [tot_aT _ (by first | decide | (show _<=8;decide) | (show _ < 8;decide) | (show 8<=_;decide) | (show 248 - 245+0+_<=60;decide)),hmx,hd]
  omega)
 rwa [aT_upd] at this
theorem uApF (hfit:n - 249 < 1+has (b.length+k)):Spec Tryz.prog 18 #[.pointer (some ⟨f,0,none⟩),sv [47,97],.slice A k c] [FSR f (fP n) (aT b),R] fun F v M=>v=nI 3/\M=FSR f (fP n) (aT b) :: R :: F:=by
 have hg:=has_grow b.length k
 have hmx:max b.length (b.length+k)=b.length+k:=by omega
 have hd:(fP n).dc=n - 249:=rfl
 exact fsAppendFull (f:=f) (p:=fP n) (T:=aT b) (path:=[47,97]) (bs:=bs) (R:=R) (A:=A) (m:=k) (cc:=c) (fP_is h1 h2).ok (aT_ok _) (by first | decide | (show _<=8;decide) | (show _ < 8;decide) | (show 8<=_;decide) | (show 248 - 245+0+_<=60;decide)) (aT_file _) (aT_1 _) hR hm hkc hcm (.inr (by show 248 - 245+0+_<=60;rw [hmx];omega)) (by omega) (by
  rw [tot_aT _ (by first | decide | (show _<=8;decide) | (show _ < 8;decide) | (show 8<=_;decide) | (show 248 - 245+0+_<=60;decide)),hmx,hd]
  omega)
theorem urAp {m s N:Nat} {os:List (Nat×Obj)} (hfit0:1+has b.length<=n - 249) (hfit:1+has (b.length+k)<=n - 249):Spec Tryz.prog 58 #[.pointer (some ⟨m,0,none⟩),sv [47,97],.slice A k c] [RF m s,RS s (fP n) (aT b) os N,frz os,R] fun F v M=>v=.int .i64 0/\∃ s2 os2 N2,M=RF m s2 :: RS s2 (fP n) (aT (wrB b b.length bs)) os2 N2 :: frz os2 :: R :: F:=by
 have hd:(fP n).dc=n - 249:=rfl
 have:=rAppend (m:=m) (s:=s) (p:=fP n) (T:=aT b) (os:=os) (N:=N) (by first | decide | (show _<=8;decide) | (show _ < 8;decide) | (show 8<=_;decide) | (show 248 - 245+0+_<=60;decide)) (by first | decide | (show _<=8;decide) | (show _ < 8;decide) | (show 8<=_;decide) | (show 248 - 245+0+_<=60;decide)) (path:=[47,97]) (i:=1) (k:=k) (c:=c) (fb:=b) (bs:=bs) (R:=R) (A:=A) (by rw [hd];omega) (aRT (by first | decide | (show _<=8;decide) | (show _ < 8;decide) | (show 8<=_;decide) | (show 248 - 245+0+_<=60;decide)) b) (by rw [tot_aT _ (by first | decide | (show _<=8;decide) | (show _ < 8;decide) | (show 8<=_;decide) | (show 248 - 245+0+_<=60;decide)),hd];omega) (by first | decide | (show _<=8;decide) | (show _ < 8;decide) | (show 8<=_;decide) | (show 248 - 245+0+_<=60;decide)) rfl (aT_1 _) hR hm hkc hcm (by omega) (by rw [tot_aT _ (by first | decide | (show _<=8;decide) | (show _ < 8;decide) | (show 8<=_;decide) | (show 248 - 245+0+_<=60;decide)),hd];omega)
 rw [aT_upd] at this
 exact Spec.post this fun F v M ⟨hv,os2,_,hM⟩=>⟨_,⟨hv,s,os2,_,hM⟩,Wk.refl⟩
theorem urApF {m s N:Nat} {os:List (Nat×Obj)} (hfit0:1+has b.length<=n - 249) (hfit:n - 249 < 1+has (b.length+k)):Spec Tryz.prog 58 #[.pointer (some ⟨m,0,none⟩),sv [47,97],.slice A k c] [RF m s,RS s (fP n) (aT b) os N,frz os,R] fun F v M=>v=nI 3/\∃ s2,M=RF m s2 :: RS s2 (fP n) (aT b) os 0 :: frz os :: R :: F:=by
 have hd:(fP n).dc=n - 249:=rfl
 have:=rAppendFull (m:=m) (s:=s) (p:=fP n) (T:=aT b) (os:=os) (N:=N) (by first | decide | (show _<=8;decide) | (show _ < 8;decide) | (show 8<=_;decide) | (show 248 - 245+0+_<=60;decide)) (by first | decide | (show _<=8;decide) | (show _ < 8;decide) | (show 8<=_;decide) | (show 248 - 245+0+_<=60;decide)) (path:=[47,97]) (i:=1) (k:=k) (c:=c) (fb:=b) (bs:=bs) (R:=R) (A:=A) (by rw [hd];omega) (aRT (by first | decide | (show _<=8;decide) | (show _ < 8;decide) | (show 8<=_;decide) | (show 248 - 245+0+_<=60;decide)) b) (by rw [tot_aT _ (by first | decide | (show _<=8;decide) | (show _ < 8;decide) | (show 8<=_;decide) | (show 248 - 245+0+_<=60;decide)),hd];omega) (by first | decide | (show _<=8;decide) | (show _ < 8;decide) | (show 8<=_;decide) | (show 248 - 245+0+_<=60;decide)) rfl (aT_1 _) hR hm hkc hcm (by omega) (by rw [tot_aT _ (by first | decide | (show _<=8;decide) | (show _ < 8;decide) | (show 8<=_;decide) | (show 248 - 245+0+_<=60;decide)),hd];omega)
 exact Spec.post this fun F v M ⟨s2,hv,hM⟩=>⟨_,⟨hv,s2,hM⟩,Wk.refl⟩
end
section
variable {b:Bytes} {k:Nat} (hb:b.length<=50000) (hk:k<=b.length) (hfit0:1+has b.length<=n - 249)
include hb hk hfit0
theorem uTr:Spec Tryz.prog 60 #[.pointer (some ⟨f,0,none⟩),sv [47,97],nI k] [FSR f (fP n) (aT b)] fun F v M=>v=okV/\M=FSR f (fP n) (aT (b.take k)) :: F:=by
 have hd:(fP n).dc=n - 249:=rfl
 have:=fsTrunc (f:=f) (p:=fP n) (T:=aT b) (path:=[47,97]) (i:=1) (k:=k) (fb:=b) (fP_is h1 h2).ok (aT_ok _) (by first | decide | (show _<=8;decide) | (show _ < 8;decide) | (show 8<=_;decide) | (show 248 - 245+0+_<=60;decide)) (aT_1 _) hk (by omega) (.inr (show 248 - 245+0+8<=60 by decide)) (by rw [tot_aT _ (by first | decide | (show _<=8;decide) | (show _ < 8;decide) | (show 8<=_;decide) | (show 248 - 245+0+_<=60;decide)),hd];omega) (aT_file _)
 rwa [aT_upd] at this
theorem urTr {m s N:Nat} {os:List (Nat×Obj)}:Spec Tryz.prog 61 #[.pointer (some ⟨m,0,none⟩),sv [47,97],nI k] [RF m s,RS s (fP n) (aT b) os N,frz os] fun F v M=>v=.int .i64 0/\∃ os2 N2,M=RF m s :: RS s (fP n) (aT (b.take k)) os2 N2 :: frz os2 :: F:=by
 have hd:(fP n).dc=n - 249:=rfl
 have:=rTruncate (m:=m) (s:=s) (p:=fP n) (T:=aT b) (os:=os) (N:=N) (by first | decide | (show _<=8;decide) | (show _ < 8;decide) | (show 8<=_;decide) | (show 248 - 245+0+_<=60;decide)) (by first | decide | (show _<=8;decide) | (show _ < 8;decide) | (show 8<=_;decide) | (show 248 - 245+0+_<=60;decide)) (path:=[47,97]) (i:=1) (k:=k) (fb:=b) (by rw [hd];omega) (aRT (by first | decide | (show _<=8;decide) | (show _ < 8;decide) | (show 8<=_;decide) | (show 248 - 245+0+_<=60;decide)) b) (by rw [tot_aT _ (by first | decide | (show _<=8;decide) | (show _ < 8;decide) | (show 8<=_;decide) | (show 248 - 245+0+_<=60;decide)),hd];omega) (aT_1 _) (by omega) hk (by first | decide | (show _<=8;decide) | (show _ < 8;decide) | (show 8<=_;decide) | (show 248 - 245+0+_<=60;decide)) rfl
 rw [aT_upd] at this
 exact Spec.post this fun F v M ⟨hv,os2,_,hM⟩=>⟨_,⟨hv,os2,_,hM⟩,Wk.refl⟩
end
theorem uRm {b:Bytes} (hfit0:1+has b.length<=n - 249):Spec Tryz.prog 50 #[.pointer (some ⟨f,0,none⟩),sv [47,97]] [FSR f (fP n) (aT b)] fun F v M=>v=okV/\M=FSR f (fP n) hT :: F:=by
 have hd:(fP n).dc=n - 249:=rfl
 have:=fsRemove (f:=f) (p:=fP n) (T:=aT b) (path:=[47,97]) (d:=0) (i:=1) (q:=0) (nm:=[97]) (sl:=[some ([97],1)]) (x:=.file b) (fP_is h1 h2).ok (aT_ok _) (by first | decide | (show _<=8;decide) | (show _ < 8;decide) | (show 8<=_;decide) | (show 248 - 245+0+_<=60;decide)) rfl rfl rfl rfl rfl trivial (by first | decide | (show _<=8;decide) | (show _ < 8;decide) | (show 8<=_;decide) | (show 248 - 245+0+_<=60;decide)) (by first | decide | (show _<=8;decide) | (show _ < 8;decide) | (show 8<=_;decide) | (show 248 - 245+0+_<=60;decide)) (.inr (by first | decide | (show _<=8;decide) | (show _ < 8;decide) | (show 8<=_;decide) | (show 248 - 245+0+_<=60;decide))) (by
  rw [tot_aT _ (by first | decide | (show _<=8;decide) | (show _ < 8;decide) | (show 8<=_;decide) | (show 248 - 245+0+_<=60;decide)),hd]
  omega)
 rwa [rm_aT] at this
end
theorem lawFsFull {n step:Int} (hn:-9223372036854775808<=n/\n<=9223372036854775807) (hst:-9223372036854775808<=step/\step<=9223372036854775807):Spec Tryz.prog 13 #[.int .i64 n,.int .i64 step] [] fun F v M=>v=.bool true/\M=F:=by
 refine Spec.intro Tryz.func13 rfl rfl fun B F=>?_
 simp only [Tryz.ntmps13,List.cons_append,List.nil_append,env0,Nat.reduceAdd]
 by_cases h1:n < 256
 ·refine .sr (.assign (.z (.seq (.sr (.move ?_)))))
  refine .lss ?_
  refine .move ?_
  refine .cast (d:=25) (u:=.bool true) rfl (congrArg Value.bool (by first|simp;done|simp;omega|omega)) ?_
  refine .gF ?_
  refine .gF ?_
  refine .pickT ?_
  refine .move ?_
  refine .gF ?_
  refine .gF ?_
  refine .pickT ?_
  refine .move ?_
  refine .gF ?_
  refine .gF ?_
  refine .pickT ?_
  refine .z ?_
  refine .condT rfl rfl ?_
  refine .sr ?_
  refine .call (hc:=Tryz.call45) (sp:=l10Awake) (h:=?_)
  rintro _ _ ⟨rfl,rfl⟩
  refine .assign (.z ?_)
  refine .ret (.thenRet (?_))
  exact .ret1 (h1:=.tmp (t:=4) rfl) ⟨_,⟨rfl,rfl⟩,Am.auto⟩
 ·by_cases h2:330 < n
  ·refine .sr (.assign (.z (.seq (.sr (.move ?_)))))
   refine .lss ?_
   refine .move ?_
   refine .cast (d:=25) (u:=.bool false) rfl (congrArg Value.bool (by first|simp;done|simp;omega|omega)) ?_
   refine .gT ?_
   refine .move ?_
   refine .gT ?_
   refine .gtr ?_
   refine .pickF ?_
   refine .move ?_
   refine .cast (d:=29) (u:=.bool true) rfl (congrArg Value.bool (by first|simp;done|simp;omega|omega)) ?_
   refine .gF ?_
   refine .gF ?_
   refine .pickT ?_
   refine .move ?_
   refine .gF ?_
   refine .gF ?_
   refine .pickT ?_
   refine .z ?_
   refine .condT rfl rfl ?_
   refine .sr ?_
   refine .call (hc:=Tryz.call45) (sp:=l10Awake) (h:=?_)
   rintro _ _ ⟨rfl,rfl⟩
   refine .assign (.z ?_)
   refine .ret (.thenRet (?_))
   exact .ret1 (h1:=.tmp (t:=4) rfl) ⟨_,⟨rfl,rfl⟩,Am.auto⟩
  ·by_cases h3:step < 1
   ·refine .sr (.assign (.z (.seq (.sr (.move ?_)))))
    refine .lss ?_
    refine .move ?_
    refine .cast (d:=25) (u:=.bool false) rfl (congrArg Value.bool (by first|simp;done|simp;omega|omega)) ?_
    refine .gT ?_
    refine .move ?_
    refine .gT ?_
    refine .gtr ?_
    refine .pickF ?_
    refine .move ?_
    refine .cast (d:=29) (u:=.bool false) rfl (congrArg Value.bool (by first|simp;done|simp;omega|omega)) ?_
    refine .gT ?_
    refine .move ?_
    refine .gT ?_
    refine .lss ?_
    refine .pickF ?_
    refine .move ?_
    refine .cast (d:=33) (u:=.bool true) rfl (congrArg Value.bool (by first|simp;done|simp;omega|omega)) ?_
    refine .gF ?_
    refine .gF ?_
    refine .pickT ?_
    refine .z ?_
    refine .condT rfl rfl ?_
    refine .sr ?_
    refine .call (hc:=Tryz.call45) (sp:=l10Awake) (h:=?_)
    rintro _ _ ⟨rfl,rfl⟩
    refine .assign (.z ?_)
    refine .ret (.thenRet (?_))
    exact .ret1 (h1:=.tmp (t:=4) rfl) ⟨_,⟨rfl,rfl⟩,Am.auto⟩
   ·by_cases h4:5000 < step
    ·refine .sr (.assign (.z (.seq (.sr (.move ?_)))))
     refine .lss ?_
     refine .move ?_
     refine .cast (d:=25) (u:=.bool false) rfl (congrArg Value.bool (by first|simp;done|simp;omega|omega)) ?_
     refine .gT ?_
     refine .move ?_
     refine .gT ?_
     refine .gtr ?_
     refine .pickF ?_
     refine .move ?_
     refine .cast (d:=29) (u:=.bool false) rfl (congrArg Value.bool (by first|simp;done|simp;omega|omega)) ?_
     refine .gT ?_
     refine .move ?_
     refine .gT ?_
     refine .lss ?_
     refine .pickF ?_
     refine .move ?_
     refine .cast (d:=33) (u:=.bool false) rfl (congrArg Value.bool (by first|simp;done|simp;omega|omega)) ?_
     refine .gT ?_
     refine .move ?_
     refine .gT ?_
     refine .gtr ?_
     refine .pickF ?_
     refine .z ?_
     refine .condT rfl (congrArg Value.bool (by first|simp;done|simp;omega|omega)) ?_
     refine .sr ?_
     refine .call (hc:=Tryz.call45) (sp:=l10Awake) (h:=?_)
     rintro _ _ ⟨rfl,rfl⟩
     refine .assign (.z ?_)
     refine .ret (.thenRet (?_))
     exact .ret1 (h1:=.tmp (t:=4) rfl) ⟨_,⟨rfl,rfl⟩,Am.auto⟩
    ·obtain ⟨N0,rfl⟩:∃ N:Nat,n=N:=⟨n.toNat,by omega⟩
     obtain ⟨S,rfl⟩:∃ N:Nat,step=N:=⟨step.toNat,by omega⟩
     have hn1:256<=N0:=by omega
     have hn2:N0<=330:=by omega
     have hS1:1<=S:=by omega
     have hS:S<=5000:=by omega
     have his:=fP_is hn1 hn2
     have hd:(fP N0).dc=N0 - 249:=rfl
     refine .sr (.assign (.z (.seq (.sr (.move ?_)))))
     refine .lss ?_
     refine .move ?_
     refine .cast (d:=25) (u:=.bool false) rfl (congrArg Value.bool (by first | (simp;done) | (simp;omega) | omega | rfl)) ?_
     refine .gT ?_
     refine .move ?_
     refine .gT ?_
     refine .gtr ?_
     refine .pickF ?_
     refine .move ?_
     refine .cast (d:=29) (u:=.bool false) rfl (congrArg Value.bool (by first | (simp;done) | (simp;omega) | omega | rfl)) ?_
     refine .gT ?_
     refine .move ?_
     refine .gT ?_
     refine .lss ?_
     refine .pickF ?_
     refine .move ?_
     refine .cast (d:=33) (u:=.bool false) rfl (congrArg Value.bool (by first | (simp;done) | (simp;omega) | omega | rfl)) ?_
     refine .gT ?_
     refine .move ?_
     refine .gT ?_
     refine .gtr ?_
     refine .pickF ?_
     refine .z ?_
     refine .condF rfl (congrArg Value.bool (by first | (simp;done) | (simp;omega) | omega | rfl)) ?_
     refine .skip (.next (.sr (.move ?_)))
     refine .call (hc:=Tryz.call57) (sp:=refFs0 his) (h:=?_)
     rintro _ _ ⟨m0,rfl,hM⟩
     obtain rfl:=hM.symm
     refine .move ?_
     refine .extract ?_
     refine .extract ?_
     refine .assign (.assign (.z (.seq (.sr (.move ?_)))))
     refine .nei ?_
     refine .z ?_
     refine .condF rfl (congrArg Value.bool (by first | (simp;done) | (simp;omega) | omega | rfl)) ?_
     refine .skip (.next (.sr (.move ?_)))
     refine .call (hc:=Tryz.call46) (sp:=l10FreshS his) (h:=?_)
     rintro _ _ ⟨d,f,m,s0,rfl,rfl⟩
     refine .move ?_
     refine .extract ?_
     refine .extract ?_
     refine .extract ?_
     refine .extract ?_
     refine .assign (.assign (.assign (.assign (.z (.seq (.sr (.move ?_)))))))
     refine .not ?_
     refine .z ?_
     refine .condF rfl rfl ?_
     refine .skip (.next (.sr (.move ?_)))
     refine .call (hc:=Tryz.call52) (sp:=fsFree (f:=f) (p:=fP N0) (T:=rootT) his.ok) (h:=?_)
     rintro _ _ ⟨rfl,rfl⟩
     rw [tot_rootT,show cntF (fmT rootT) (fP N0).ino=1 from rfl,hd,show (fP N0).ino=8 from rfl]
     refine .move ?_
     refine .extract ?_
     refine .extract ?_
     refine .assign (.assign (.x (.move ?_)))
     refine .call (hc:=Tryz.call17) (sp:=uCr (f:=f) hn1 hn2) (h:=?_)
     rintro _ _ ⟨rfl,rfl⟩
     refine .move ?_
     refine .call (hc:=Tryz.call30) (sp:=urCr (m:=m) (s:=s0) hn1 hn2) (h:=?_)
     rintro _ _ ⟨rfl,os1,N1,rfl⟩
     refine .assign (.assign (.z (.seq (.sr (.move (.move ?_))))))
     refine .nei ?_
     refine .z ?_
     refine .condF rfl (congrArg Value.bool (by first | (simp;done) | (simp;omega) | omega | rfl)) ?_
     refine .skip (.next (.seq (.sr (.assign (.z ?_)))))
     refine .join (σ:=Bytes×Nat×List (Nat×Obj)×Nat) (fun y=>[(8,.pointer (some ⟨f,0,none⟩)),(9,.pointer (some ⟨m,0,none⟩)),(11,.int .i64 (((N0 - 249:Nat):Int) - ((0:Nat):Int))),(12,.int .i64 (((8:Nat):Int) - ((1:Nat):Int))),(13,okV)]) (fun y=>[FSR f (fP N0) (aT y.1),RF m y.2.1,RS y.2.1 (fP N0) (aT y.1) y.2.2.1 y.2.2.2,frz y.2.2.1]++F) (fun y=>1+has y.1.length<=N0 - 249) ?_ ?_
     ·refine .block ?_
      refine .loopA (σ:=Nat×Bytes×Nat×List (Nat×Obj)×Nat) (fun y=>[(1,.int .i64 (S:Int)),(8,.pointer (some ⟨f,0,none⟩)),(9,.pointer (some ⟨m,0,none⟩)),(11,.int .i64 (((N0 - 249:Nat):Int) - ((0:Nat):Int))),(12,.int .i64 (((8:Nat):Int) - ((1:Nat):Int))),(13,okV),(15,.int .i64 ((y.1:Nat):Int))]) (fun y=>[FSR f (fP N0) (aT y.2.1),RF m y.2.2.1,RS y.2.2.1 (fP N0) (aT y.2.1) y.2.2.2.1 y.2.2.2.2,frz y.2.2.2.1]++F) (fun y=>y.1<=200/\1+has y.2.1.length<=N0 - 249) (fun y=>200 - y.1) (0,[],s0,os1,N1) ⟨Nat.zero_le _,by show 1+has 0<=_;have:has 0=0:=rfl;omega⟩ ?_
      rintro y hy
      obtain ⟨k,b,s,os,N⟩:=y
      obtain ⟨hk,hfb⟩:=hy
      simp only at hk hfb ⊢
      have hbl:=has_small' (show has b.length<=80 by omega)
      refine .seq (.sr (.move ?_))
      refine .lss ?_
      refine .z ?_
      by_cases hk2:k < 200
      ·have hWl:=someB_length S k
       obtain ⟨Wn,hWn⟩:∃ Wn,someB S k=Wn:=⟨_,rfl⟩
       rw [hWn] at hWl
       by_cases hfit:1+has (b.length+S)<=N0 - 249
       ·refine .condT rfl (congrArg Value.bool (by first | (simp;done) | (simp;omega) | omega | rfl)) ?_
        refine .skip (.next (.seq (.block (.sr (.move (.move (.move ?_)))))))
        refine .call (hc:=Tryz.call19) (sp:=alikeSome (n:=S) (c:=k) (by omega) (by omega)) (h:=?_)
        rintro _ _ ⟨bs1,rfl,rfl⟩
        rw [hWn]
        refine .call (hc:=Tryz.call18) (sp:=uAp (f:=f) hn1 hn2 (b:=b) (bs:=Wn) (k:=S) (c:=S) (R:=buf bs1 5 S (bvs Wn)) (A:=some ⟨bs1,0,none⟩) (by omega) (.inr Reads.buf) hWl (Nat.le_refl _) (by show S<=maxLen;unfold maxLen;omega) hS hfit) (h:=?_)
        rintro _ _ ⟨rfl,rfl⟩
        refine .assign (.x (.move (.move (.move ?_))))
        refine .call (hc:=Tryz.call19) (sp:=alikeSome (n:=S) (c:=k) (by omega) (by omega)) (h:=?_)
        rintro _ _ ⟨bs2,rfl,rfl⟩
        rw [hWn]
        refine .call (hc:=Tryz.call58) (sp:=urAp hn1 hn2 (b:=b) (bs:=Wn) (k:=S) (c:=S) (R:=buf bs2 5 S (bvs Wn)) (A:=some ⟨bs2,0,none⟩) (by omega) (.inr Reads.buf) hWl (Nat.le_refl _) (by show S<=maxLen;unfold maxLen;omega) hS (m:=m) (s:=s) (N:=N) (os:=os) hfb hfit) (h:=?_)
        rintro _ _ ⟨rfl,s2,os2,N2,rfl⟩
        refine .assign (.z (.seq (.sr (.move (.move ?_)))))
        refine .nei ?_
        refine .z ?_
        refine .condF rfl (congrArg Value.bool (by first | (simp;done) | (simp;omega) | omega | rfl)) ?_
        refine .skip (.next (.sr (.move ?_)))
        refine .nei ?_
        refine .z ?_
        refine .condF rfl (congrArg Value.bool (by first | (simp;done) | (simp;omega) | omega | rfl)) ?_
        refine .skip (.blockNormal (.next (.region (.move ?_))))
        refine .add ?_
        refine .assign (.nil ?_)
        refine .cast (d:=15) (u:=.int .i64 ((k+1:Nat):Int)) rfl (congrArg (Value.int .i64) (by omega)) ?_
        exact .back (k+1,wrB b b.length Wn,s2,os2,N2) ⟨by show k+1<=200;omega,by show 1+has (wrB b b.length Wn).length<=_;rw [wrB_length,hWl,Nat.max_eq_right (by omega)];exact hfit⟩ (by show 200 - (k+1) < 200 - k;omega)
       ·refine .condT rfl (congrArg Value.bool (by first | (simp;done) | (simp;omega) | omega | rfl)) ?_
        refine .skip (.next (.seq (.block (.sr (.move (.move (.move ?_)))))))
        refine .call (hc:=Tryz.call19) (sp:=alikeSome (n:=S) (c:=k) (by omega) (by omega)) (h:=?_)
        rintro _ _ ⟨bs1,rfl,rfl⟩
        rw [hWn]
        refine .call (hc:=Tryz.call18) (sp:=uApF (f:=f) hn1 hn2 (b:=b) (bs:=Wn) (k:=S) (c:=S) (R:=buf bs1 5 S (bvs Wn)) (A:=some ⟨bs1,0,none⟩) (by omega) (.inr Reads.buf) hWl (Nat.le_refl _) (by show S<=maxLen;unfold maxLen;omega) hS (by omega)) (h:=?_)
        rintro _ _ ⟨rfl,rfl⟩
        refine .assign (.x (.move (.move (.move ?_))))
        refine .call (hc:=Tryz.call19) (sp:=alikeSome (n:=S) (c:=k) (by omega) (by omega)) (h:=?_)
        rintro _ _ ⟨bs2,rfl,rfl⟩
        rw [hWn]
        refine .call (hc:=Tryz.call58) (sp:=urApF hn1 hn2 (b:=b) (bs:=Wn) (k:=S) (c:=S) (R:=buf bs2 5 S (bvs Wn)) (A:=some ⟨bs2,0,none⟩) (by omega) (.inr Reads.buf) hWl (Nat.le_refl _) (by show S<=maxLen;unfold maxLen;omega) hS (m:=m) (s:=s) (N:=N) (os:=os) hfb (by omega)) (h:=?_)
        rintro _ _ ⟨rfl,s2,rfl⟩
        refine .assign (.z (.seq (.sr (.move (.move ?_)))))
        refine .nei ?_
        refine .z ?_
        refine .condF rfl (congrArg Value.bool (by first | (simp;done) | (simp;omega) | omega | rfl)) ?_
        refine .skip (.next (.sr (.move ?_)))
        refine .nei ?_
        refine .z ?_
        refine .condT rfl (congrArg Value.bool (by first | (simp;done) | (simp;omega) | omega | rfl)) ?_
        refine .exit (.blockPast rfl (.thenExit (.thenExit (.blockExit (?_)))))
        exact .joined (b,s2,os,0) hfb
      ·refine .condF rfl (congrArg Value.bool (by first | (simp;done) | (simp;omega) | omega | rfl)) ?_
       refine .exit (.thenExit (.thenExit (.blockExit (?_))))
       exact .joined (b,s,os,N) hfb
     ·rintro ⟨b,s,os,N⟩ hfb
      simp only at hfb ⊢
      have hbl:=has_small' (show has b.length<=80 by omega)
      refine .next (.seq (.sr (.move (.move ?_))))
      refine .call (hc:=Tryz.call59) (sp:=lawTreeA (f:=f) (m:=m) (s:=s) (p:=fP N0) (b:=b) (os:=os) (N:=N) his (by first | decide | (show _<=8;decide) | (show _ < 8;decide) | (show 8<=_;decide) | (show 248 - 245+0+_<=60;decide)) (by rw [hd];omega) (by rw [hd];exact hfb) (by omega)) (h:=?_)
      rintro _ _ ⟨rfl,rfl⟩
      refine .not ?_
      refine .z ?_
      refine .condF rfl rfl ?_
      refine .skip (.next (.seq (.sr (.move ?_))))
      refine .nei ?_
      refine .z ?_
      refine .condF rfl (congrArg Value.bool (by first | (simp;done) | (simp;omega) | omega | rfl)) ?_
      refine .skip (.next (.seq (.sr (.assign (.z ?_)))))
      refine .join (σ:=Bytes) (fun b=>[(8,.pointer (some ⟨f,0,none⟩)),(9,.pointer (some ⟨m,0,none⟩)),(11,.int .i64 (((N0 - 249:Nat):Int) - ((0:Nat):Int))),(12,.int .i64 (((8:Nat):Int) - ((1:Nat):Int)))]) (fun b=>FSR f (fP N0) (aT b) :: F) (fun b=>1+has b.length<=N0 - 249) ?_ ?_
      ·refine .block ?_
       refine .loopA (σ:=Nat×Bytes×Nat×List (Nat×Obj)×Nat) (fun y=>[(8,.pointer (some ⟨f,0,none⟩)),(9,.pointer (some ⟨m,0,none⟩)),(11,.int .i64 (((N0 - 249:Nat):Int) - ((0:Nat):Int))),(12,.int .i64 (((8:Nat):Int) - ((1:Nat):Int))),(18,.int .i64 ((y.1:Nat):Int))]) (fun y=>[FSR f (fP N0) (aT y.2.1),RF m y.2.2.1,RS y.2.2.1 (fP N0) (aT y.2.1) y.2.2.2.1 y.2.2.2.2,frz y.2.2.2.1]++F) (fun y=>y.1<=200/\1+has y.2.1.length<=N0 - 249) (fun y=>200 - y.1) (0,b,s,os,N) ⟨Nat.zero_le _,hfb⟩ ?_
       rintro y hy
       obtain ⟨k,b,s,os,N⟩:=y
       obtain ⟨hk,hfb⟩:=hy
       simp only at hk hfb ⊢
       have hbl:=has_small' (show has b.length<=80 by omega)
       refine .seq (.sr (.move ?_))
       refine .lss ?_
       refine .z ?_
       by_cases hk2:k < 200
       ·by_cases hb0:b.length=0
        ·have hbz:((b.length:Nat):Int)=0:=by omega
         refine .condT rfl (congrArg Value.bool (by first | (simp;done) | (simp;omega) | exact decide_eq_true hbz)) ?_
         refine .skip (.next (.seq (.block (.sr (.move ?_)))))
         refine .call (hc:=Tryz.call33) (sp:=rStat (m:=m) (s:=s) (p:=fP N0) (T:=aT b) (os:=os) (N:=N) (by first | decide | (show _<=8;decide) | (show _ < 8;decide) | (show 8<=_;decide) | (show 248 - 245+0+_<=60;decide)) (by first | decide | (show _<=8;decide) | (show _ < 8;decide) | (show 8<=_;decide) | (show 248 - 245+0+_<=60;decide)) (path:=[47,97]) (aRT (by first | decide | (show _<=8;decide) | (show _ < 8;decide) | (show 8<=_;decide) | (show 248 - 245+0+_<=60;decide)) b) (by first | decide | (show _<=8;decide) | (show _ < 8;decide) | (show 8<=_;decide) | (show 248 - 245+0+_<=60;decide))) (h:=?_)
         rintro _ _ ⟨rfl,rfl⟩
         rw [aT_leads]
         simp only
         refine .move ?_
         refine .extract ?_
         refine .extract ?_
         refine .alloc z51 fun b19=>?_
         refine .stV ?_ agg51
         refine .assign (.z (.seq (.sr ?_)))
         refine .fa ?_ fo51_1
         refine .ld ?_ sc3
         refine .eqi ?_
         refine .z ?_
         refine .condT rfl (congrArg Value.bool (by first | (simp;done) | (simp;omega) | exact decide_eq_true hbz)) ?_
         refine .exit (.thenExit (.blockPast rfl (.thenExit (.thenExit (.blockExit (?_))))))
         exact .joined b hfb
        ·obtain ⟨q,hq⟩:∃ q,b.length - 5000=q:=⟨_,rfl⟩
         have hbn:¬ ((b.length:Nat):Int)=0:=by omega
         refine .condT rfl (congrArg Value.bool (by first | (simp;done) | (simp;omega) | exact decide_eq_false hbn)) ?_
         refine .skip (.next (.seq (.block (.sr (.move ?_)))))
         refine .call (hc:=Tryz.call33) (sp:=rStat (m:=m) (s:=s) (p:=fP N0) (T:=aT b) (os:=os) (N:=N) (by first | decide | (show _<=8;decide) | (show _ < 8;decide) | (show 8<=_;decide) | (show 248 - 245+0+_<=60;decide)) (by first | decide | (show _<=8;decide) | (show _ < 8;decide) | (show 8<=_;decide) | (show 248 - 245+0+_<=60;decide)) (path:=[47,97]) (aRT (by first | decide | (show _<=8;decide) | (show _ < 8;decide) | (show 8<=_;decide) | (show 248 - 245+0+_<=60;decide)) b) (by first | decide | (show _<=8;decide) | (show _ < 8;decide) | (show 8<=_;decide) | (show 248 - 245+0+_<=60;decide))) (h:=?_)
         rintro _ _ ⟨rfl,rfl⟩
         rw [aT_leads]
         simp only
         refine .move ?_
         refine .extract ?_
         refine .extract ?_
         refine .alloc z51 fun b19=>?_
         refine .stV ?_ agg51
         refine .assign (.z (.seq (.sr ?_)))
         refine .fa ?_ fo51_1
         refine .ld ?_ sc3
         refine .eqi ?_
         refine .z ?_
         refine .condF rfl (congrArg Value.bool (by first | (simp;done) | (simp;omega) | exact decide_eq_false hbn)) ?_
         refine .skip (.next (.sr (.move ?_)))
         refine .fa ?_ fo51_1
         refine .ld ?_ sc3
         refine .sub ?_
         refine .maxI ?_
         refine .cast (d:=109) (u:=nI q) rfl (congrArg (Value.int .i64) (by split<;>omega)) ?_
         refine .call (hc:=Tryz.call60) (sp:=uTr (f:=f) hn1 hn2 (b:=b) (k:=q) (by omega) (by omega) hfb) (h:=?_)
         rintro _ _ ⟨rfl,rfl⟩
         refine .nei ?_
         refine .move ?_
         refine .cast (d:=112) (u:=.bool false) rfl (congrArg Value.bool (by first | (simp;done) | (simp;omega) | exact decide_eq_false hbn)) ?_
         refine .gT ?_
         refine .move ?_
         refine .gT ?_
         refine .fa ?_ fo51_1
         refine .gT ?_
         refine .ld ?_ sc3
         refine .gT ?_
         refine .sub ?_
         refine .gT ?_
         refine .maxI ?_
         refine .cast (d:=117) (u:=nI q) rfl (congrArg (Value.int .i64) (by split<;>omega)) ?_
         refine .gT ?_
         refine .call (hc:=Tryz.call61) (sp:=urTr hn1 hn2 (b:=b) (k:=q) (by omega) (by omega) hfb (m:=m) (s:=s) (N:=N) (os:=os)) (h:=?_)
         rintro _ _ ⟨rfl,os2,N2,rfl⟩
         refine .gT ?_
         refine .nei ?_
         refine .pickF ?_
         refine .z ?_
         refine .condF rfl (congrArg Value.bool (by first | (simp;done) | (simp;omega) | exact decide_eq_false hbn)) ?_
         refine .skip (.blockNormal (.next (.region (.move ?_))))
         refine .add ?_
         refine .assign (.nil ?_)
         refine .cast (d:=18) (u:=.int .i64 ((k+1:Nat):Int)) rfl (congrArg (Value.int .i64) (by omega)) ?_
         exact .back (k+1,b.take q,s,os2,N2) ⟨by show k+1<=200;omega,by show 1+has (b.take q).length<=_;have:=has_mono (show (b.take q).length<=b.length by rw [List.length_take];omega);omega⟩ (by show 200 - (k+1) < 200 - k;omega)
       ·refine .condF rfl (congrArg Value.bool (by first | (simp;done) | (simp;omega) | omega | rfl)) ?_
        refine .exit (.thenExit (.thenExit (.blockExit (?_))))
        exact .joined b hfb
      ·rintro b hfb
       refine .next (.seq (.sr (.move ?_)))
       refine .call (hc:=Tryz.call50) (sp:=uRm (f:=f) hn1 hn2 (b:=b) hfb) (h:=?_)
       rintro _ _ ⟨rfl,rfl⟩
       refine .nei ?_
       refine .z ?_
       refine .condF rfl (congrArg Value.bool (by first | (simp;done) | (simp;omega) | omega | rfl)) ?_
       refine .skip (.next (.sr (.move ?_)))
       refine .call (hc:=Tryz.call52) (sp:=fsFree (f:=f) (p:=fP N0) (T:=hT) his.ok) (h:=?_)
       rintro _ _ ⟨rfl,rfl⟩
       rw [tot_hT (by first | decide | (show _<=8;decide) | (show _ < 8;decide) | (show 8<=_;decide) | (show 248 - 245+0+_<=60;decide)),show cntF (fmT hT) (fP N0).ino=1 from rfl,hd,show (fP N0).ino=8 from rfl]
       refine .move ?_
       refine .extract ?_
       refine .extract ?_
       refine .assign (.assign (.x (.move (.move ?_))))
       refine .sub ?_
       refine .eqi ?_
       refine .move ?_
       refine .cast (d:=133) (u:=.bool true) rfl (congrArg Value.bool (by first | (simp;done) | (simp;omega) | omega | rfl)) ?_
       refine .gT ?_
       refine .move ?_
       refine .gT ?_
       refine .move ?_
       refine .gT ?_
       refine .eqi ?_
       refine .pickT ?_
       refine .move ?_
       refine .cast (d:=138) (u:=.bool true) rfl (congrArg Value.bool (by first | (simp;done) | (simp;omega) | omega | rfl)) ?_
       refine .gT ?_
       refine .call (hc:=Tryz.call45) (sp:=l10Awake) (h:=?_)
       rintro _ _ ⟨rfl,rfl⟩
       refine .pickT ?_
       refine .assign (.z ?_)
       refine .ret (?_)
       exact .ret1 (h1:=.tmp (t:=4) rfl) ⟨_,⟨rfl,rfl⟩,Am.auto⟩
end Go.Proofs.YtdmjkjeoamiedaaGreatDoor
end
