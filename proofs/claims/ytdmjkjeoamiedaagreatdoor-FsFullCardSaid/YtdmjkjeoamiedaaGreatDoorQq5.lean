/- A part of the proof of lawFsFull: texts of this work put together. -/
import Derived.Test.YtdmjkjeoamiedaaGreatDoorQq4
import Derived.KernelRfl
set_option linter.unusedVariables false
set_option linter.unusedSimpArgs false
set_option linter.unusedSectionVars false
section
namespace Go.Proofs.YtdmjkjeoamiedaaGreatDoor
open Go
theorem sc23:scalarOk Tryz.prog 23=true:=by kernel_rfl
theorem sc131:scalarOk Tryz.prog 131=true:=by kernel_rfl
theorem findT_no {T:FT} {d:Nat} {nm:Bytes} {sl:List Slot} (h:(findT T d nm).2=4) (hd:T d=some (.dir sl)):nameOk nm=true/\lookS nm sl=none:=by
 unfold findT at h
 split at h
 ·rename_i hn
  refine ⟨hn,?_⟩
  simp only [hd] at h
  split at h
  ·cases h
  ·assumption
 ·cases h
def NodeT.empty:NodeT->Prop
 | .file b=>b=[]
 | .dir sl=>sl=[]
theorem NodeT.empty_f {x:NodeT} (h:x.empty):x.f=(x.kind,[]):=by
 cases x with
 | file b=>cases h;rfl
 | dir sl=>cases h;rfl
def mkT (T:FT) (d:Nat) (sl:List Slot) (nm:Bytes) (i:Nat) (x:NodeT):FT:=updT (updT T i (some x)) d (some (.dir (setS sl (freeS sl) (some (nm,i)))))
theorem fsMakeC {f s a c mp:Nat} {p:Pl} {T:FT} {path:Bytes} {bp bf bk kind:Nat} (ho:PlOk p) (hT:TOk T) (hpl:path.length<=1000000) {d i:Nat} {nm:Bytes} {sl:List Slot} {x:NodeT} (hp:path≠[47]) (hpar:parentT T path=(d,nm,0)) (hfi:findT T d nm=(0,4)) (hd:T d=some (.dir sl)) (hi:i < p.ino) (hTi:T i=none) (hb:∀ j < i,T j≠none) (hx:x.empty) (hk:x.kind=kind) (hw:Rw p 0 14) (hfit:tot (fmT T) p.ino+has (max (64 * sl.length) (64 * freeS sl+64))<=p.dc+has (64 * sl.length)):Spec Tryz.prog 144 #[.pointer (some ⟨bp,0,none⟩),.pointer (some ⟨bf,0,none⟩),.pointer (some ⟨bk,0,none⟩)] [pt f (fO c a s false false false mp),LD mp T,IN s a c p (fmT T) (fmT T) 0 true,bun [pt bp (.cells #[sv path] 9 (0,0)),pt bf (.cells #[.pointer (some ⟨f,0,none⟩)] 23 (0,0)),pt bk (.cells #[nI kind] 3 (0,0))]] fun F v M=>v=okV/\M=pt f (fO c a s false false false mp) :: LD mp T :: IN s a c p (fmT T) (fmT (mkT T d sl nm i x)) 9 true :: bun [pt bp (.cells #[sv path] 9 (0,0)),pt bf (.cells #[.pointer (some ⟨f,0,none⟩)] 23 (0,0)),pt bk (.cells #[nI kind] 3 (0,0))] :: F:=by
 refine Spec.intro Tryz.func144 rfl rfl fun B F=>?_
 simp only [Tryz.ntmps144,List.cons_append,List.nil_append,env0,Nat.reduceAdd]
 refine .openR (bun.opens _) fun _ _=>?_
 simp only [List.cons_append,List.nil_append]
 have hlk:=findT_no (by rw [hfi]) hd
 have hto:=hT d sl hd
 have hfl:=freeS_le sl
 have hne:d≠i:=fun h=>by rw [h,hTi] at hd;cases hd
 have hx0:x.f=(kind,[]):=by rw [NodeT.empty_f hx,hk]
 have hk12:kind=1 ∨ kind=2:=by
  rw [<- hk]
  cases x with
  | file b=>exact .inl rfl
  | dir sl=>exact .inr rfl
 have hF1:updM (fmT T) i (some (kind,[]))=fmT (updT T i (some x)):=by rw [<- hx0,fmT_updS]
 have hi32:i < 4294967296:=by have:=ho.i2;omega
 have htot:tot (fmT (updT T i (some x))) p.ino=tot (fmT T) p.ino:=by
  have h:=tot_upd' (fmT T) hi (some (kind,[]))
  rw [hF1,fmT_none hTi] at h
  have h1:hasO none=0:=rfl
  have h2:hasO (some (kind,([]:Bytes)))=0:=by show has 0=0;rfl
  omega
 have hd1:fmT (updT T i (some x)) d=some (2,dirB sl):=by
  have:updT T i (some x) d=some (.dir sl):=by rw [updT_other _ _ hne];exact hd
  exact fmT_some this
 refine .sr (.assign (.z (.seq (.sr ?_))))
 refine .ld ?_ sc9
 refine .eqS path [47] ?_
 refine .cast (d:=11) (u:=.bool false) rfl (congrArg Value.bool (decide_eq_false hp)) ?_
 refine .z ?_
 refine .condF rfl rfl ?_
 refine .skip (.next (.sr ?_))
 refine .ld ?_ sc23
 refine .ld ?_ sc9
 refine .call (hc:=Tryz.call109) (sp:=fsParent (f:=f) (s:=s) (a:=a) (c:=c) (mp:=mp) (b:=false) (ov:=false) (dead:=false) (p:=p) (T:=T) (F0:=fmT T) (W:=0) (op:=true) (path:=path) ho hT hpl) (h:=?_)
 rintro _ _ ⟨rfl,rfl⟩
 rw [hpar]
 refine .move ?_
 refine .extract ?_
 refine .extract ?_
 refine .extract ?_
 refine .assign (.assign (.assign (.z (.seq (.sr (.move ?_))))))
 refine .nei ?_
 refine .z ?_
 refine .condF rfl (congrArg Value.bool (by first|simp;done|simp;omega|omega)) ?_
 refine .skip (.next (.seq (.sr ?_)))
 refine .ld ?_ sc23
 refine .move (.move ?_)
 refine .call (hc:=Tryz.call110) (sp:=fsFind (f:=f) (s:=s) (a:=a) (c:=c) (mp:=mp) (b:=false) (ov:=false) (dead:=false) (p:=p) (T:=T) (F0:=fmT T) (W:=0) (op:=true) (d:=d) (nm:=nm) ho hT) (h:=?_)
 rintro _ _ ⟨rfl,rfl⟩
 rw [hfi]
 refine .move ?_
 refine .extract ?_
 refine .extract ?_
 refine .assign (.assign (.x (.move ?_)))
 refine .nei ?_
 refine .z ?_
 refine .condF rfl (congrArg Value.bool (by first|simp;done|simp;omega|omega)) ?_
 refine .skip (.next (.seq ?_))
 refine .dr ([pt bf (.cells #[.pointer (some ⟨f,0,none⟩)] 23 (0,0)),pt bk (.cells #[nI kind] 3 (0,0)),pt f (fO c a s false false false mp)]) [] 11 mixed .autoJ ?_
 refine .tk 0 rfl (.ld sc23) ?_
 refine .tk 1 rfl .nilCheck ?_
 refine .tk 2 rfl (.fa fo129_2) ?_
 refine .tk 3 rfl (.ld sc126) ?_
 refine .tk 4 rfl (.ld sc3) ?_
 refine .on 5 rfl fun hnp=>?_
 refine .call (hc:=Tryz.call145) (sp:=nMake (s:=s) (a:=a) (c:=c) (p:=p) (F0:=fmT T) (F:=fmT T) (W:=0) (i:=i) (k:=kind) ho hk12 (hw.less (by omega)) hi (fmT_none hTi) (fun j hj h=>by have:=hb j hj;unfold fmT at h;cases hj2:T j with | none=>exact this hj2 | some y=>rw [hj2] at h;cases h)) (h:=?_)
 rintro _ _ ⟨rfl,rfl⟩
 rw [hF1]
 refine .nil (.wa hnp ?_)
 refine .tk 6 rfl .move ?_
 refine .tk 7 rfl .extract ?_
 refine .tk 8 rfl .extract ?_
 refine .tk 9 rfl .assign ?_
 refine .tk 10 rfl .assign ?_
 refine .fin ?_
 refine .next (.seq (.sr (.move ?_)))
 refine .nei ?_
 refine .z ?_
 refine .condF rfl (congrArg Value.bool (by first|simp;done|simp;omega|omega)) ?_
 refine .skip (.next (.sr ?_))
 refine .ld ?_ sc23
 refine .nilCheck ?_
 refine .fa ?_ fo129_2
 refine .ld ?_ sc126
 refine .move (.move (.move ?_))
 refine .call (hc:=Tryz.call98) (sp:=dAdd (s:=s) (a:=a) (c:=c) (p:=p) (F0:=fmT T) (Fm:=fmT (updT T i (some x))) (W:=0+1) (d:=d) (nm:=nm) (sl:=sl) ho hlk.1 hd1 hto.1 (by omega) (lookS_none hlk.2) (i:=i) hi32 (by unfold Rw at hw ⊢;omega) (by omega) (by rw [htot];exact hfit)) (h:=?_)
 rintro _ _ ⟨rfl,rfl⟩
 rw [show updM (fmT (updT T i (some x))) d (some (2,dirB (setS sl (freeS sl) (some (nm,i)))))=(fmT (mkT T d sl nm i x)) from fmT_updS _ _ (.dir _)]
 refine .assign (.z ?_)
 refine .ret (?_)
 refine .shutR (bun.opens [pt bp (.cells #[sv path] 9 (0,0)),pt bf (.cells #[.pointer (some ⟨f,0,none⟩)] 23 (0,0)),pt bk (.cells #[nI kind] 3 (0,0))]) () trivial ?_
 exact .ret1 (h1:=.tmp (t:=3) rfl) ⟨_,⟨rfl,rfl⟩,Am.auto⟩
def fsLs (f:Nat) (p:Pl) (T:FT) (y:Nat×Nat×Nat×Nat):List HP:=[pt f (fO y.1 y.2.1 y.2.2.1 false false false y.2.2.2),LD y.2.2.2 T,IN y.2.2.1 y.2.1 y.1 p (fmT T) (fmT T) 0 false]
def FSR (f:Nat) (p:Pl) (T:FT):HP:=fun h=>∃ y,True/\star (fsLs f p T y) h
theorem FSR.opens (f:Nat) (p:Pl) (T:FT):Opens (FSR f p T) (fun _=>True) (fsLs f p T):=⟨fun h hh=>hh,fun x hp h hh=>⟨x,hp,hh⟩⟩
attribute [irreducible] FSR
theorem fsMake {f:Nat} {p:Pl} {T:FT} {kind:Nat} {path:Bytes} (ho:PlOk p) (hT:TOk T) (hpl:path.length<=1000000) {d i:Nat} {nm:Bytes} {sl:List Slot} {x:NodeT} (hp:path≠[47]) (hpar:parentT T path=(d,nm,0)) (hfi:findT T d nm=(0,4)) (hd:T d=some (.dir sl)) (hi:i < p.ino) (hTi:T i=none) (hb:∀ j < i,T j≠none) (hx:x.empty) (hk:x.kind=kind) (hw:Rw p 0 14) (hfit:tot (fmT T) p.ino+has (max (64 * sl.length) (64 * freeS sl+64))<=p.dc+has (64 * sl.length)):Spec Tryz.prog 68 #[.pointer (some ⟨f,0,none⟩),sv path,nI kind] [FSR f p T] fun F v M=>v=okV/\M=FSR f p (mkT T d sl nm i x) :: F:=by
 refine Spec.intro Tryz.func68 rfl rfl fun B F=>?_
 simp only [Tryz.ntmps68,List.cons_append,List.nil_append,env0,Nat.reduceAdd]
 refine .openR (FSR.opens f p T) fun y _=>?_
 obtain ⟨c,a,s,mp⟩:=y
 simp only [fsLs,List.cons_append,List.nil_append]
 refine .sr ?_
 refine .box fun b3=>?_
 refine .box fun b4=>?_
 refine .box fun b5=>?_
 refine .assign (.x ?_)
 refine .ld ?_ sc23
 refine .makeFuncB ?_
 refine .shutR (bun.opens [pt b4 (.cells #[sv path] 9 (0,0)),pt b3 (.cells #[.pointer (some ⟨f,0,none⟩)] 23 (0,0)),pt b5 (.cells #[nI kind] 3 (0,0))]) () trivial ?_
 refine .call (hc:=Tryz.call92) (sp:=fsChange (s:=s) (a:=a) (c:=c) (p:=p) (f:=f) (mp:=mp) (T:=mkT T d sl nm i x) (S:=T) ho (hc:=Tryz.call144) (sp:=(fsMakeC (bp:=b4) (bf:=b3) (bk:=b5) ho hT hpl hp hpar hfi hd hi hTi hb hx hk hw hfit))) (h:=?_)
 rintro _ _ ⟨rfl,rfl⟩
 refine .assign (.z ?_)
 refine .ret (?_)
 refine .shutR (FSR.opens f p (mkT T d sl nm i x)) (c,a,s,mp) trivial ?_
 exact .ret1 (h1:=.tmp (t:=6) rfl) ⟨_,⟨rfl,rfl⟩,Am.auto⟩
theorem fsCreate {f:Nat} {p:Pl} {T:FT} {path:Bytes} (ho:PlOk p) (hT:TOk T) (hpl:path.length<=1000000) {d i:Nat} {nm:Bytes} {sl:List Slot} {x:NodeT} (hp:path≠[47]) (hpar:parentT T path=(d,nm,0)) (hfi:findT T d nm=(0,4)) (hd:T d=some (.dir sl)) (hi:i < p.ino) (hTi:T i=none) (hb:∀ j < i,T j≠none) (hx:x.empty) (hk:x.kind=1) (hw:Rw p 0 14) (hfit:tot (fmT T) p.ino+has (max (64 * sl.length) (64 * freeS sl+64))<=p.dc+has (64 * sl.length)):Spec Tryz.prog 17 #[.pointer (some ⟨f,0,none⟩),sv path] [FSR f p T] fun F v M=>v=okV/\M=FSR f p (mkT T d sl nm i x) :: F:=by
 refine Spec.intro Tryz.func17 rfl rfl fun B F=>?_
 simp only [Tryz.ntmps17,List.cons_append,List.nil_append,env0,Nat.reduceAdd]
 refine .sr (.assign (.x (.move (.move ?_))))
 refine .call (hc:=Tryz.call68) (sp:=fsMake (f:=f) (p:=p) (T:=T) (kind:=1) ho hT hpl hp hpar hfi hd hi hTi hb hx hk hw hfit) (h:=?_)
 rintro _ _ ⟨rfl,rfl⟩
 refine .assign (.z ?_)
 refine .ret (?_)
 exact .ret1 (h1:=.tmp (t:=4) rfl) ⟨_,⟨rfl,rfl⟩,Am.auto⟩
theorem fsMkdir {f:Nat} {p:Pl} {T:FT} {path:Bytes} (ho:PlOk p) (hT:TOk T) (hpl:path.length<=1000000) {d i:Nat} {nm:Bytes} {sl:List Slot} {x:NodeT} (hp:path≠[47]) (hpar:parentT T path=(d,nm,0)) (hfi:findT T d nm=(0,4)) (hd:T d=some (.dir sl)) (hi:i < p.ino) (hTi:T i=none) (hb:∀ j < i,T j≠none) (hx:x.empty) (hk:x.kind=2) (hw:Rw p 0 14) (hfit:tot (fmT T) p.ino+has (max (64 * sl.length) (64 * freeS sl+64))<=p.dc+has (64 * sl.length)):Spec Tryz.prog 28 #[.pointer (some ⟨f,0,none⟩),sv path] [FSR f p T] fun F v M=>v=okV/\M=FSR f p (mkT T d sl nm i x) :: F:=by
 refine Spec.intro Tryz.func28 rfl rfl fun B F=>?_
 simp only [Tryz.ntmps28,List.cons_append,List.nil_append,env0,Nat.reduceAdd]
 refine .sr (.assign (.x (.move (.move ?_))))
 refine .call (hc:=Tryz.call68) (sp:=fsMake (f:=f) (p:=p) (T:=T) (kind:=2) ho hT hpl hp hpar hfi hd hi hTi hb hx hk hw hfit) (h:=?_)
 rintro _ _ ⟨rfl,rfl⟩
 refine .assign (.z ?_)
 refine .ret (?_)
 exact .ret1 (h1:=.tmp (t:=4) rfl) ⟨_,⟨rfl,rfl⟩,Am.auto⟩
theorem fsStat {f:Nat} {p:Pl} {T:FT} {path:Bytes} (ho:PlOk p) (hT:TOk T) (hpl:path.length<=1000000):Spec Tryz.prog 25 #[.pointer (some ⟨f,0,none⟩),sv path] [FSR f p T] fun F v M=>v=.tuple #[.agg #[nI (leadsT T path).2.1,nI (leadsT T path).2.2.1],nI (leadsT T path).2.2.2]/\M=FSR f p T :: F:=by
 refine Spec.intro Tryz.func25 rfl rfl fun B F=>?_
 simp only [Tryz.ntmps25,List.cons_append,List.nil_append,env0,Nat.reduceAdd]
 refine .openR (FSR.opens f p T) fun y _=>?_
 obtain ⟨c,a,s,mp⟩:=y
 simp only [fsLs,List.cons_append,List.nil_append]
 refine .sr ?_
 refine .alloc z51 fun b4=>?_
 refine .assign (.x (.move (.move ?_)))
 refine .call (hc:=Tryz.call77) (sp:=fsLeads (f:=f) (s:=s) (a:=a) (c:=c) (mp:=mp) (b:=false) (ov:=false) (dead:=false) (p:=p) (T:=T) (F0:=fmT T) (W:=0) (op:=false) (path:=path) ho hT hpl) (h:=?_)
 rintro _ _ ⟨rfl,rfl⟩
 refine .move ?_
 refine .extract ?_
 refine .extract ?_
 refine .extract ?_
 refine .alloc z51 fun b7=>?_
 refine .assign ?_
 refine .stV ?_ agg51
 refine .assign (.x ?_)
 refine .ldA ?_ agg51
 refine .move ?_
 refine .stV ?_ agg51
 refine .assign (.z ?_)
 refine .ret (?_)
 refine .shutR (FSR.opens f p T) (c,a,s,mp) trivial ?_
 exact .ret2 (h2:=.tmp (t:=5) rfl) ⟨_,⟨rfl,rfl⟩,Am.auto⟩
theorem fsRead {f:Nat} {p:Pl} {T:FT} {path:Bytes} (ho:PlOk p) (hT:TOk T) (hpl:path.length<=1000000) {at' n i z:Nat} {fb:Bytes} (hft:fileT T path=(i,1,z,0)) (hTi:T i=some (.file fb)) (hat:at'<=9223372036854775807) (hn:n<=9223372036854775807):Spec Tryz.prog 48 #[.pointer (some ⟨f,0,none⟩),sv path,nI at',nI n] [FSR f p T] fun F v M=>∃ u,v=.tuple #[u,.int .i64 0]/\M=rowR 5 1 u ((fb.drop at').take n).length (bvs ((fb.drop at').take n)) :: FSR f p T :: F:=by
 refine Spec.intro Tryz.func48 rfl rfl fun B F=>?_
 simp only [Tryz.ntmps48,List.cons_append,List.nil_append,env0,Nat.reduceAdd]
 refine .openR (FSR.opens f p T) fun y _=>?_
 obtain ⟨c,a,s,mp⟩:=y
 simp only [fsLs,List.cons_append,List.nil_append]
 refine .sr (.assign (.assign (.x (.move (.move ?_)))))
 refine .call (hc:=Tryz.call106) (sp:=fsFileAt (f:=f) (s:=s) (a:=a) (c:=c) (mp:=mp) (b:=false) (ov:=false) (dead:=false) (p:=p) (T:=T) (F0:=fmT T) (W:=0) (op:=false) (path:=path) ho hT hpl) (h:=?_)
 rintro _ _ ⟨rfl,rfl⟩
 rw [hft]
 refine .move ?_
 refine .extract ?_
 refine .extract ?_
 refine .extract ?_
 refine .alloc z51 fun b11=>?_
 refine .assign ?_
 refine .stV ?_ agg51
 refine .assign (.z (.seq (.sr (.move ?_))))
 refine .nei ?_
 refine .z ?_
 refine .condF rfl (congrArg Value.bool (by first|simp;done|simp;omega|omega)) ?_
 refine .skip (.next (.sr (.move ?_)))
 refine .nilCheck ?_
 refine .fa ?_ fo129_2
 refine .ld ?_ sc126
 refine .move (.move (.move ?_))
 refine .call (hc:=Tryz.call107) (sp:=nRead (s:=s) (a:=a) (c:=c) (p:=p) (F0:=fmT T) (F:=fmT T) (W:=0) (op:=false) (i:=i) (at':=at') (k:=n) (f:=(1,fb)) ho (fmT_some hTi) hat hn) (h:=?_)
 rintro _ _ ⟨u,rfl,rfl⟩
 refine .extract ?_
 refine .extract ?_
 refine .assign (.assign (.z ?_))
 refine .ret (?_)
 refine .shutR (FSR.opens f p T) (c,a,s,mp) trivial ?_
 exact .ret2 (h1:=.tmp (t:=8) rfl) (h2:=.tmp (t:=9) rfl) ⟨_,⟨u,rfl,rfl⟩,Am.auto⟩
theorem fsEditC {f s a c mp:Nat} {p:Pl} {T:FT} {k:FuncId} {cap:Array Value} {R R2:HP} {path:Bytes} {bp bf bd:Nat} (ho:PlOk p) (hT:TOk T) (hpl:path.length<=1000000) {i z e W:Nat} {F1:FM} (hft:fileT T path=(i,1,z,0)) (hc:∀ args w,(callFunc k args).run Tryz.prog w=.ok (.enter k args) w)
  (sp:Spec Tryz.prog k (#[nI i,.agg #[nI 1,nI z]]++cap) [pt f (fO c a s false false false mp),LD mp T,IN s a c p (fmT T) (fmT T) 0 true,R] fun F v M=>v=nI e/\M=pt f (fO c a s false false false mp) :: LD mp T :: IN s a c p (fmT T) F1 W true :: R2 :: F):Spec Tryz.prog 146 #[.pointer (some ⟨bf,0,none⟩),.pointer (some ⟨bp,0,none⟩),.pointer (some ⟨bd,0,none⟩)] [pt f (fO c a s false false false mp),LD mp T,IN s a c p (fmT T) (fmT T) 0 true,bun [pt bf (.cells #[.pointer (some ⟨f,0,none⟩)] 23 (0,0)),pt bp (.cells #[sv path] 9 (0,0)),pt bd (.cells #[.func (.func k) #[] cap] 131 (0,0)),R]] fun F v M=>v=nI e/\M=pt f (fO c a s false false false mp) :: LD mp T :: IN s a c p (fmT T) F1 W true :: bun [pt bf (.cells #[.pointer (some ⟨f,0,none⟩)] 23 (0,0)),pt bp (.cells #[sv path] 9 (0,0)),pt bd (.cells #[.func (.func k) #[] cap] 131 (0,0)),R2] :: F:=by
 refine Spec.intro Tryz.func146 rfl rfl fun B F=>?_
 simp only [Tryz.ntmps146,List.cons_append,List.nil_append,env0,Nat.reduceAdd]
 refine .openR (bun.opens _) fun _ _=>?_
 simp only [List.cons_append,List.nil_append]
 refine .sr (.assign (.x ?_))
 refine .ld ?_ sc23
 refine .ld ?_ sc9
 refine .call (hc:=Tryz.call106) (sp:=fsFileAt (f:=f) (s:=s) (a:=a) (c:=c) (mp:=mp) (b:=false) (ov:=false) (dead:=false) (p:=p) (T:=T) (F0:=fmT T) (W:=0) (op:=true) (path:=path) ho hT hpl) (h:=?_)
 rintro _ _ ⟨rfl,rfl⟩
 rw [hft]
 refine .move ?_
 refine .extract ?_
 refine .extract ?_
 refine .extract ?_
 refine .alloc z51 fun b5=>?_
 refine .assign ?_
 refine .stV ?_ agg51
 refine .assign (.z (.seq (.sr (.move ?_))))
 refine .nei ?_
 refine .z ?_
 refine .condF rfl (congrArg Value.bool (by first|simp;done|simp;omega|omega)) ?_
 refine .skip (.next (.sr ?_))
 refine .ld ?_ sc131
 refine .move ?_
 refine .ldA ?_ agg51
 refine .callV (vs:=[nI i,.agg #[nI 1,nI z]]) (hc:=hc) (sp:=sp) (h:=?_)
 rintro _ _ ⟨rfl,rfl⟩
 refine .assign (.z ?_)
 refine .ret (?_)
 refine .shutR (bun.opens [pt bf (.cells #[.pointer (some ⟨f,0,none⟩)] 23 (0,0)),pt bp (.cells #[sv path] 9 (0,0)),pt bd (.cells #[.func (.func k) #[] cap] 131 (0,0)),R2]) () trivial ?_
 exact .ret1 (h1:=.tmp (t:=3) rfl) ⟨_,⟨rfl,rfl⟩,Am.auto⟩
theorem fsEdit {f s a c mp:Nat} {p:Pl} {T:FT} {k:FuncId} {cap:Array Value} {R R2:HP} {path:Bytes} (ho:PlOk p) (hT:TOk T) (hpl:path.length<=1000000) {i z W:Nat} {T2:FT} (hft:fileT T path=(i,1,z,0)) (hc:∀ args w,(callFunc k args).run Tryz.prog w=.ok (.enter k args) w)
  (sp:Spec Tryz.prog k (#[nI i,.agg #[nI 1,nI z]]++cap) [pt f (fO c a s false false false mp),LD mp T,IN s a c p (fmT T) (fmT T) 0 true,R] fun F v M=>v=okV/\M=pt f (fO c a s false false false mp) :: LD mp T :: IN s a c p (fmT T) (fmT T2) W true :: R2 :: F):Spec Tryz.prog 69 #[.pointer (some ⟨f,0,none⟩),sv path,.func (.func k) #[] cap] [pt f (fO c a s false false false mp),LD mp T,IN s a c p (fmT T) (fmT T) 0 false,R] fun F v M=>v=okV/\M=pt f (fO c a s false false false mp) :: LD mp T2 :: IN s a c p (fmT T2) (fmT T2) 0 false :: R2 :: F:=by
 refine Spec.intro Tryz.func69 rfl rfl fun B F=>?_
 simp only [Tryz.ntmps69,List.cons_append,List.nil_append,env0,Nat.reduceAdd]
 refine .sr ?_
 refine .box fun b3=>?_
 refine .box fun b4=>?_
 refine .box fun b5=>?_
 refine .assign (.x ?_)
 refine .ld ?_ sc23
 refine .makeFuncB ?_
 refine .shutR (bun.opens [pt b3 (.cells #[.pointer (some ⟨f,0,none⟩)] 23 (0,0)),pt b4 (.cells #[sv path] 9 (0,0)),pt b5 (.cells #[.func (.func k) #[] cap] 131 (0,0)),R]) () trivial ?_
 refine .call (hc:=Tryz.call92) (sp:=fsChange (s:=s) (a:=a) (c:=c) (p:=p) (f:=f) (mp:=mp) (T:=T2) (S:=T) ho (hc:=Tryz.call146) (sp:=(fsEditC (bf:=b3) (bp:=b4) (bd:=b5) (k:=k) (cap:=cap) (R:=R) ho hT hpl (e:=0) hft hc sp))) (h:=?_)
 rintro _ _ ⟨rfl,rfl⟩
 refine .assign (.z ?_)
 refine .ret (?_)
 refine .openR (bun.opens _) fun _ _=>?_
 simp only [List.cons_append,List.nil_append]
 exact .ret1 (h1:=.tmp (t:=6) rfl) ⟨_,⟨rfl,rfl⟩,Am.auto⟩
theorem fsEditE {f s a c mp:Nat} {p:Pl} {T:FT} {k:FuncId} {cap:Array Value} {R R2:HP} {path:Bytes} (ho:PlOk p) (hT:TOk T) (hpl:path.length<=1000000) {i z e W:Nat} {F1:FM} (hft:fileT T path=(i,1,z,0)) (hc:∀ args w,(callFunc k args).run Tryz.prog w=.ok (.enter k args) w)
  (sp:Spec Tryz.prog k (#[nI i,.agg #[nI 1,nI z]]++cap) [pt f (fO c a s false false false mp),LD mp T,IN s a c p (fmT T) (fmT T) 0 true,R] fun F v M=>v=nI e/\M=pt f (fO c a s false false false mp) :: LD mp T :: IN s a c p (fmT T) F1 W true :: R2 :: F) (he:e≠0):Spec Tryz.prog 69 #[.pointer (some ⟨f,0,none⟩),sv path,.func (.func k) #[] cap] [pt f (fO c a s false false false mp),LD mp T,IN s a c p (fmT T) (fmT T) 0 false,R] fun F v M=>v=nI e/\M=pt f (fO c a s false false false mp) :: LD mp T :: IN s a c p (fmT T) (fmT T) 0 false :: R2 :: F:=by
 refine Spec.intro Tryz.func69 rfl rfl fun B F=>?_
 simp only [Tryz.ntmps69,List.cons_append,List.nil_append,env0,Nat.reduceAdd]
 refine .sr ?_
 refine .box fun b3=>?_
 refine .box fun b4=>?_
 refine .box fun b5=>?_
 refine .assign (.x ?_)
 refine .ld ?_ sc23
 refine .makeFuncB ?_
 refine .shutR (bun.opens [pt b3 (.cells #[.pointer (some ⟨f,0,none⟩)] 23 (0,0)),pt b4 (.cells #[sv path] 9 (0,0)),pt b5 (.cells #[.func (.func k) #[] cap] 131 (0,0)),R]) () trivial ?_
 refine .call (hc:=Tryz.call92) (sp:=fsChangeE (s:=s) (a:=a) (c:=c) (p:=p) (f:=f) (mp:=mp) (T:=T) (S:=T) he ho (hc:=Tryz.call146) (sp:=(fsEditC (bf:=b3) (bp:=b4) (bd:=b5) (k:=k) (cap:=cap) (R:=R) ho hT hpl hft hc sp))) (h:=?_)
 rintro _ _ ⟨rfl,rfl⟩
 refine .assign (.z ?_)
 refine .ret (?_)
 refine .openR (bun.opens _) fun _ _=>?_
 simp only [List.cons_append,List.nil_append]
 exact .ret1 (h1:=.tmp (t:=6) rfl) ⟨_,⟨rfl,rfl⟩,Am.auto⟩
theorem fsAppendC {f s a c mp:Nat} {p:Pl} {T:FT} {x3 x5:Nat} {i m cc:Nat} {fb bs:Bytes} {R:HP} {A:Option Addr} (hTi:T i=some (.file fb)) (hR:bs=[] ∨ Reads R A (bvs bs)) (hm:bs.length=m) (hcc:m<=cc) (hcb:cc<=maxLen) (hw:Rw p 0 (has (max fb.length (fb.length+m)) - has fb.length+(m+511) / 512+10)) (hat:fb.length<=fb.length) (hbg:fb.length+m<=70656) (hfit:tot (fmT T) p.ino+has (max fb.length (fb.length+m))<=p.dc+has fb.length) (ho:PlOk p):Spec Tryz.prog 70 (#[nI i,.agg #[nI 1,nI fb.length]]++#[.pointer (some ⟨x3,0,none⟩),.pointer (some ⟨x5,0,none⟩)]) [pt f (fO c a s false false false mp),LD mp T,IN s a c p (fmT T) (fmT T) 0 true,bun [pt x3 (.cells #[.pointer (some ⟨f,0,none⟩)] 23 (0,0)),pt x5 (.cells #[.slice A m cc] 33 (0,0)),R]] fun F v M=>v=okV/\M=pt f (fO c a s false false false mp) :: LD mp T :: IN s a c p (fmT T) (fmT (updT T i (some (.file (wrB fb fb.length bs))))) (0+(has (max fb.length (fb.length+m)) - has fb.length)+(m+511) / 512+5) true :: bun [pt x3 (.cells #[.pointer (some ⟨f,0,none⟩)] 23 (0,0)),pt x5 (.cells #[.slice A m cc] 33 (0,0)),R] :: F:=by
 refine Spec.intro Tryz.func70 rfl rfl fun B F=>?_
 simp only [Tryz.ntmps70,List.cons_append,List.nil_append,env0,Nat.reduceAdd]
 refine .openR (bun.opens _) fun _ _=>?_
 simp only [List.cons_append,List.nil_append]
 refine .sr ?_
 refine .box fun b5=>?_
 refine .assign (.z (.seq ?_))
 refine .dr ([pt x3 (.cells #[.pointer (some ⟨f,0,none⟩)] 23 (0,0)),pt x5 (.cells #[.slice A m cc] 33 (0,0)),pt f (fO c a s false false false mp),pt b5 (.cells #[nI 1,nI fb.length] 51 (0,0))]) [] 10 mixed .autoJ ?_
 refine .tk 0 rfl (.ld sc23) ?_
 refine .tk 1 rfl .nilCheck ?_
 refine .tk 2 rfl (.fa fo129_2) ?_
 refine .tk 3 rfl (.ld sc126) ?_
 refine .tk 4 rfl .move ?_
 refine .tk 5 rfl (.fa fo51_1) ?_
 refine .tk 6 rfl (.ld sc3) ?_
 refine .tk 7 rfl (.ld sc33) ?_
 refine .on 8 rfl fun hnp=>?_
 refine .call (hc:=Tryz.call71) (sp:=nWrite (s:=s) (a:=a) (c:=c) (p:=p) (F0:=fmT T) (F:=fmT T) (W:=0) (i:=i) (at':=fb.length) (f:=(1,fb)) (bs:=bs) ho (fmT_some hTi) hw hR hm hcc hcb hat hbg hfit) (h:=?_)
 rintro _ _ ⟨rfl,rfl⟩
 rw [show updM (fmT T) i (some (1,wrB fb fb.length bs))=fmT (updT T i (some (.file (wrB fb fb.length bs)))) from fmT_updS T i (.file _)]
 refine .nil (.wa hnp ?_)
 refine .tk 9 rfl .assign ?_
 refine .fin ?_
 refine .next ?_
 refine .ret (?_)
 refine .shutR (bun.opens [pt x3 (.cells #[.pointer (some ⟨f,0,none⟩)] 23 (0,0)),pt x5 (.cells #[.slice A m cc] 33 (0,0)),R]) () trivial ?_
 exact .ret1 (h1:=.tmp (t:=6) rfl) ⟨_,⟨rfl,rfl⟩,Am.auto⟩
theorem fsAppend {f:Nat} {p:Pl} {T:FT} {path:Bytes} (ho:PlOk p) (hT:TOk T) (hpl:path.length<=1000000) {i m cc:Nat} {fb bs:Bytes} {R:HP} {A:Option Addr} (hft:fileT T path=(i,1,fb.length,0)) (hTi:T i=some (.file fb)) (hR:bs=[] ∨ Reads R A (bvs bs)) (hm:bs.length=m) (hcc:m<=cc) (hcb:cc<=maxLen) (hw:Rw p 0 (has (max fb.length (fb.length+m)) - has fb.length+(m+511) / 512+10)) (hat:fb.length<=fb.length) (hbg:fb.length+m<=70656) (hfit:tot (fmT T) p.ino+has (max fb.length (fb.length+m))<=p.dc+has fb.length):Spec Tryz.prog 18 #[.pointer (some ⟨f,0,none⟩),sv path,.slice A m cc] [FSR f p T,R] fun F v M=>v=okV/\M=FSR f p (updT T i (some (.file (wrB fb fb.length bs)))) :: R :: F:=by
 refine Spec.intro Tryz.func18 rfl rfl fun B F=>?_
 simp only [Tryz.ntmps18,List.cons_append,List.nil_append,env0,Nat.reduceAdd]
 refine .openR (FSR.opens f p T) fun y _=>?_
 obtain ⟨c,a,s,mp⟩:=y
 simp only [fsLs,List.cons_append,List.nil_append]
 refine .sr ?_
 refine .box fun b3=>?_
 refine .box fun b5=>?_
 refine .assign (.x ?_)
 refine .ld ?_ sc23
 refine .move ?_
 refine .makeFuncB ?_
 refine .shutR (bun.opens [pt b3 (.cells #[.pointer (some ⟨f,0,none⟩)] 23 (0,0)),pt b5 (.cells #[.slice A m cc] 33 (0,0)),R]) () trivial ?_
 refine .call (hc:=Tryz.call69) (sp:=fsEdit (s:=s) (a:=a) (c:=c) (p:=p) (f:=f) (mp:=mp) (T:=T) (T2:=(updT T i (some (.file (wrB fb fb.length bs))))) (W:=(0+(has (max fb.length (fb.length+m)) - has fb.length)+(m+511) / 512+5)) ho hT hpl hft (hc:=Tryz.call70) (sp:=fsAppendC (x3:=b3) (x5:=b5) hTi hR hm hcc hcb hw hat hbg hfit ho)) (h:=?_)
 rintro _ _ ⟨rfl,rfl⟩
 refine .assign (.z ?_)
 refine .ret (?_)
 refine .openR (bun.opens _) fun _ _=>?_
 simp only [List.cons_append,List.nil_append]
 refine .shutR (FSR.opens f p (updT T i (some (.file (wrB fb fb.length bs))))) (c,a,s,mp) trivial ?_
 exact .ret1 (h1:=.tmp (t:=6) rfl) ⟨_,⟨rfl,rfl⟩,Am.auto⟩
theorem un303:Tryz.prog.underlying 303=some (.int .u32):=by kernel_rfl
theorem fo199_0:fieldOk Tryz.prog 199 0 0=true:=by kernel_rfl
def crcBit (c:Int):Int:=bxor .u32 (c.fdiv (2 ^ (min (1:Int).toNat IntKind.u32.bits))) (band .u32 2197175160 (IntKind.u32.wrap (0 - band .u32 c 1)))
def crc8 (c:Int):Nat->Int
 | 0=>c
 | j+1=>crcBit (crc8 c j)
def crcK (xs:Bytes) (c:Int):Nat->Int
 | 0=>c
 | k+1=>crc8 (bxor .u32 (crcK xs c k) (IntKind.u32.wrap ((xs.getD k 0).toNat:Int))) 8
def crcI (xs:Bytes):Int:=icomp .u32 (crcK xs (icomp .u32 0) xs.length)
theorem crcI_range (xs:Bytes):0<=crcI xs/\crcI xs < 4294967296:=by
 have:∀ x,0<=IntKind.u32.wrap x/\IntKind.u32.wrap x < 4294967296:=fun x=>by
  have:IntKind.u32.wrap x=x % 2 ^ 32:=by simp [IntKind.wrap,IntKind.bits,IntKind.signed]
  rw [this];omega
 exact this _
theorem crcMore {R:HP} {A:Addr} {m c:Nat} {xs:Bytes} (hR:Reads R (some A) (bvs xs)) (hm:xs.length=m) (hl:m<=1073741824):Spec Tryz.prog 263 #[.int .u32 0,.slice (some A) m c] [R] fun F v M=>v=.int .u32 (crcI xs)/\M=R :: F:=by
 refine Spec.intro Tryz.func263 rfl rfl fun B F=>?_
 simp only [Tryz.ntmps263,List.cons_append,List.nil_append,env0,Nat.reduceAdd]
 subst hm
 obtain ⟨ab,ao,asp⟩:=A
 have hsp:asp=none:=hR.1
 subst hsp
 refine .sr (.assign (.x (.move ?_)))
 refine .comp ?_
 refine .assign (.z (.seq (.sr (.move ?_))))
 refine .lenS ?_ sl33
 refine .move (.z (.block ?_))
 refine .loopA (σ:=Nat) (fun k=>[(0,.int .u32 (crcK xs (icomp .u32 0) k)),(9,.slice (some ⟨ab,ao,none⟩) xs.length c),(10,.int .i64 ((xs.length:Nat):Int)),(11,.int .i64 ((k:Nat):Int))]) (fun _=>R :: F) (fun k=>k<=xs.length) (fun k=>xs.length - k) 0 (Nat.zero_le _) ?_
 rintro k hk
 refine .sr ?_
 refine .lss ?_
 refine .z (.seq ?_)
 refine .cond rfl (fun hb=>?_) (fun hb=>?_)
 ·have hlt:k < xs.length:=by have h:(k:Int) < (xs.length:Int):=of_decide_eq_true hb;omega
  have hgk:(bvs xs)[((k:Nat):Int).toNat]?=some (.int .u8 ((xs.getD k 0).toNat:Int)):=by rw [Int.toNat_natCast];simp [bvs,hlt];rfl
  refine .skip (.next (.seq (.block (.sr ?_))))
  refine .idx1 ?_ so33
  refine .ldR (i:=((k:Nat):Int).toNat) ?_ sc5 hR hgk
  refine .assign (.x (.move (.move ?_)))
  refine .cvt ?_ un5 un303
  refine .xor ?_
  refine .assign (.x (.move (.z (.block ?_))))
  refine .loopA (σ:=Nat) (fun j=>[(0,.int .u32 (crc8 (bxor .u32 (crcK xs (icomp .u32 0) k) (IntKind.u32.wrap ((xs.getD k 0).toNat:Int))) j)),(9,.slice (some ⟨ab,ao,none⟩) xs.length c),(10,.int .i64 ((xs.length:Nat):Int)),(11,.int .i64 ((k:Nat):Int)),(19,.int .i64 ((j:Nat):Int))]) (fun _=>R :: F) (fun j=>j<=8) (fun j=>8 - j) 0 (Nat.zero_le _) ?_
  rintro j hj
  refine .sr ?_
  refine .lss ?_
  refine .z (.seq ?_)
  refine .cond rfl (fun hb2=>?_) (fun hb2=>?_)
  ·have hlt2:j < 8:=by have h:(j:Int) < 8:=of_decide_eq_true hb2;omega
   refine .skip (.next (.seq (.block (.region (.move ?_)))))
   refine .shr ?_
   refine .move ?_
   refine .and ?_
   refine .negw ?_
   refine .and ?_
   refine .xor ?_
   refine .assign (.nil (.blockNormal (.next (.region ?_))))
   refine .add ?_
   refine .move (.nil ?_)
   refine .cast (d:=19) (u:=.int .i64 ((j+1:Nat):Int)) rfl (congrArg (Value.int .i64) (by omega)) ?_
   exact .back (j+1) (by show j+1<=8;omega) (by show 8 - (j+1) < 8 - j;omega)
  ·have hge2:j=8:=by have h:¬ (j:Int) < 8:=of_decide_eq_false hb2;omega
   subst hge2
   refine .exit (.thenExit (.thenExit (.blockExit (?_))))
   refine .blockNormal (.next (.region ?_))
   refine .add ?_
   refine .move (.nil ?_)
   refine .cast (d:=11) (u:=.int .i64 ((k+1:Nat):Int)) rfl (congrArg (Value.int .i64) (by omega)) ?_
   exact .back (k+1) (by show k+1<=xs.length;omega) (by show xs.length - (k+1) < xs.length - k;omega)
 ·have hge:k=xs.length:=by have h:¬ (k:Int) < (xs.length:Int):=of_decide_eq_false hb;omega
  subst hge
  refine .exit (.thenExit (.thenExit (.blockExit (?_))))
  refine .next (.sr (.move ?_))
  refine .comp ?_
  refine .assign (.z ?_)
  refine .ret (?_)
  exact .ret1 (h1:=.tmp (t:=4) rfl) ⟨_,⟨rfl,rfl⟩,Am.auto⟩
theorem crcSum {R:HP} {A:Addr} {m c:Nat} {xs:Bytes} (hR:Reads R (some A) (bvs xs)) (hm:xs.length=m) (hl:m<=1073741824):Spec Tryz.prog 206 #[.slice (some A) m c] [R] fun F v M=>v=.int .u32 (crcI xs)/\M=R :: F:=by
 refine Spec.intro Tryz.func206 rfl rfl fun B F=>?_
 simp only [Tryz.ntmps206,List.cons_append,List.nil_append,env0,Nat.reduceAdd]
 refine .sr (.assign (.x (.move ?_)))
 refine .call (hc:=Tryz.call263) (sp:=crcMore hR hm hl) (h:=?_)
 rintro _ _ ⟨rfl,rfl⟩
 refine .assign (.z ?_)
 refine .ret (?_)
 exact .ret1 (h1:=.tmp (t:=2) rfl) ⟨_,⟨rfl,rfl⟩,Am.auto⟩
theorem u64_wrap0 {a:Nat} (h:a < 2 ^ 64):IntKind.u64.wrap ((a:Nat):Int)=(a:Int):=by
 have:IntKind.u64.wrap ((a:Nat):Int)=(a:Int) % 2 ^ 64:=by simp [IntKind.wrap,IntKind.bits,IntKind.signed]
 rw [this];omega
theorem bsI7 (a b c d e f h:Int):BuildSOk Tryz.prog 80 7 [(0,.int .i64 a),(1,.int .i64 b),(2,.int .i64 c),(3,.int .i64 d),(4,.int .i64 e),(5,.int .i64 f),(6,.int .i64 h)] 3 #[.int .i64 a,.int .i64 b,.int .i64 c,.int .i64 d,.int .i64 e,.int .i64 f,.int .i64 h]:=fun w=>by kernel_rfl
def plN (p:Pl):List Nat:=[p.n,p.ino,p.im,p.bm,p.tb,p.da,p.dc]
def magicS:Bytes:=[66,79,76,76,65,82,68,83]
def encN (nums:List Nat):Nat->Bytes
 | 0=>magicS++List.replicate 504 0
 | i+1=>put (encN nums i) (8+4 * i) 4 false (nums.getD i 0)
theorem encN_length (nums:List Nat):∀ i,(encN nums i).length=512
 | 0=>by rw [encN,List.length_append,List.length_replicate];rfl
 | i+1=>by rw [encN,put_length];exact encN_length nums i
theorem encN_seg (nums:List Nat) {k:Nat} (hk:k < 100) (hv:nums.getD k 0 < 2 ^ 32):∀ i,k < i->i<=100->beNat (seg (encN nums i) (8+4 * k) 4 false)=nums.getD k 0
 | i+1,h1,h2=>by
  rw [encN]
  have hlen:=encN_length nums i
  by_cases hki:k=i
  ·subst hki
   exact seg_put (by omega) (by rw [show (256:Nat) ^ 4=2 ^ 32 from by decide];exact hv)
  ·rw [seg_put_other (by omega)]
   exact encN_seg nums hk hv i (by omega) (by omega)
def supB (p:Pl):Bytes:=put (encN (plN p) 7) 36 4 false (crcI ((encN (plN p) 7).take 36)).toNat
theorem supB_length (p:Pl):(supB p).length=512:=by unfold supB;rw [put_length];exact encN_length _ _
theorem plN_small {p:Pl} (h:PlIs p):∀ v∈plN p,v < 2 ^ 32:=by
 have h1:=h.im;have h2:=h.bm;have h3:=h.m1;have h4:=h.da;have h5:=h.dc;have h8:=h.n2;have h10:=h.i2
 intro v hv
 unfold plN at hv
 simp only [List.mem_cons,List.not_mem_nil,or_false] at hv
 rcases hv with rfl | rfl | rfl | rfl | rfl | rfl | rfl<;>omega
theorem supB_n {p:Pl} (h:PlIs p):beNat (seg (supB p) 8 4 false)=p.n:=by
 unfold supB
 rw [seg_put_other (by omega)]
 exact encN_seg (plN p) (k:=0) (by omega) (plN_small h _ (List.getElem_mem (l:=plN p) (n:=0) (by show 0 < 7;decide))) 7 (by omega) (by omega)
theorem supB_ino {p:Pl} (h:PlIs p):beNat (seg (supB p) 12 4 false)=p.ino:=by
 unfold supB
 rw [seg_put_other (by omega)]
 exact encN_seg (plN p) (k:=1) (by omega) (plN_small h _ (List.getElem_mem (l:=plN p) (n:=1) (by show 1 < 7;decide))) 7 (by omega) (by omega)
theorem layEnc {p:Pl} (h:PlIs p):Spec Tryz.prog 136 #[.agg p.cells] [] fun F v M=>∃ g q,v=.slice (some ⟨g,0,none⟩) 512 q/\(512<=q/\q<=maxLen)/\M=buf g 5 q (bvs (supB p)) :: F:=by
 refine Spec.intro Tryz.func136 rfl rfl fun B F=>?_
 simp only [Tryz.ntmps136,List.cons_append,List.nil_append,env0,Nat.reduceAdd]
 refine .sr ?_
 refine .box fun b1=>?_
 refine .to (A:=pt b1 (.cells p.cells 199 (0,0))) (A':=pt b1 (.cells p.cells 199 (0,0))) (fun h hh=>hh) ?_
 refine .assign (.x ?_)
 refine .mkSN 512 z5 so33 (by decide) (by decide) fun b6=>?_
 refine .assign (.x (.move ?_))
 refine .copyS magicS so33 ?_ (hdl:=by rw [List.length_replicate];decide)
 refine .to (r:=.here) (A':=buf b6 5 512 (bvs (encN (plN p) 0))) (fun h hh=>by
  have e1:(List.replicate 512 (Value.int .u8 0)).take 0++(bvs magicS).take (min magicS.length 512)++(List.replicate 512 (Value.int .u8 0)).drop (0+min magicS.length 512)=bvs (encN (plN p) 0):=by
   rw [encN,bvs_append,bvs_replicate,List.take_zero,List.nil_append,List.drop_replicate]
   rfl
  rw [<- e1];exact hh) ?_
 refine .z (.seq (.sr ?_))
 refine .fa ?_ fo199_0
 refine .ld ?_ sc3
 refine .fa ?_ fo199_1
 refine .ld ?_ sc3
 refine .fa ?_ fo199_2
 refine .ld ?_ sc3
 refine .fa ?_ fo199_3
 refine .ld ?_ sc3
 refine .fa ?_ fo199_4
 refine .ld ?_ sc3
 refine .fa ?_ fo199_5
 refine .ld ?_ sc3
 refine .fa ?_ fo199_6
 refine .ld ?_ sc3
 refine .buildS (fun b23=>?_) (bsI7 _ _ _ _ _ _ _)
 refine .lenS ?_ sl80
 refine .move (.z (.block ?_))
 refine .to (A:=pt b23 (.cells #[.int .i64 (p.n:Int),.int .i64 (p.ino:Int),.int .i64 (p.im:Int),.int .i64 (p.bm:Int),.int .i64 (p.tb:Int),.int .i64 (p.da:Int),.int .i64 (p.dc:Int)] 3 (0,0))) (A':=pt b23 (.cells (natsV (plN p)).toArray 3 (0,0))) (fun h hh=>hh) ?_
 refine .loopA (σ:=Nat×Nat×Nat) (fun y=>[(3,.slice (some ⟨y.2.1,0,none⟩) 512 y.2.2),(23,.slice (some ⟨b23,0,none⟩) 7 7),(24,.int .i64 7),(25,.int .i64 ((y.1:Nat):Int))]) (fun y=>buf y.2.1 5 y.2.2 (bvs (encN (plN p) y.1)) :: pt b23 (.cells (natsV (plN p)).toArray 3 (0,0)) :: F) (fun y=>y.1<=7/\512<=y.2.2/\y.2.2<=maxLen) (fun y=>7 - y.1) (0,b6,512) ⟨Nat.zero_le _,Nat.le_refl _,by show 512<=maxLen;decide⟩ ?_
 rintro y hy
 obtain ⟨k,gb,q⟩:=y
 obtain ⟨hk,hq1,hq2⟩:=hy
 simp only at hk hq1 hq2 ⊢
 refine .sr ?_
 refine .lss ?_
 refine .z (.seq ?_)
 refine .cond rfl (fun hb=>?_) (fun hb=>?_)
 ·have hlt:k < 7:=by have h:(k:Int) < 7:=of_decide_eq_true hb;omega
  have hgk:(natsV (plN p))[((k:Nat):Int).toNat]?=some (.int .i64 (((plN p).getD k 0:Nat):Int)):=by
   have hl7:k < (plN p).length:=hlt
   rw [Int.toNat_natCast,List.getD_eq_getElem?_getD,List.getElem?_eq_getElem hl7]
   unfold natsV ints
   simp [hl7]
  have hv:(plN p).getD k 0 < 2 ^ 32:=by
   have hl7:k < (plN p).length:=hlt
   rw [List.getD_eq_getElem?_getD,List.getElem?_eq_getElem hl7]
   exact plN_small h _ (List.getElem_mem hl7)
  have hlen:=encN_length (plN p) k
  refine .skip (.next (.seq (.block (.sr (.move ?_)))))
  refine .idx1 ?_ so80
  refine .ldR (i:=((k:Nat):Int).toNat) (R:=pt b23 (.cells (natsV (plN p)).toArray 3 (0,0))) ?_ sc3 Reads.pt hgk
  refine .assign (.assign (.y (.move (.move ?_))))
  refine .mul ?_
  refine .add ?_
  refine .move ?_
  refine .cvt ?_ un3 un134
  refine .cast (d:=36) (u:=.int .u64 (((plN p).getD k 0:Nat):Int)) rfl (congrArg (Value.int .u64) (u64_wrap0 (by omega))) ?_
  refine .call (hc:=Tryz.call74) (sp:=bitsPut (xs:=encN (plN p) k) (v:=(plN p).getD k 0) Reads.buf hlen (by decide) (by omega) (by omega) (by omega) (by omega)) (h:=?_)
  rintro _ _ ⟨g',q',⟨rfl,h1,h2⟩,rfl⟩
  refine .move ?_
  refine .extract ?_
  refine .extract ?_
  refine .assign (.nil (.blockNormal (.next (.region ?_))))
  refine .add ?_
  refine .move (.nil ?_)
  refine .to (r:=.here) (A':=buf g' 5 q' (bvs (encN (plN p) (k+1)))) (fun h hh=>by
   rw [encN,show 8+4 * k=(8+4 * ((k:Nat):Int)).toNat from by omega];exact hh) ?_
  refine .cast (d:=25) (u:=.int .i64 ((k+1:Nat):Int)) rfl (congrArg (Value.int .i64) (by omega)) ?_
  exact .back (k+1,g',q') ⟨by show k+1<=7;omega,h1,h2⟩ (by show 7 - (k+1) < 7 - k;omega)
 ·have hge:k=7:=by have h:¬ (k:Int) < 7:=of_decide_eq_false hb;omega
  subst hge
  have hlen:=encN_length (plN p) 7
  have hcr:=crcI_range ((encN (plN p) 7).take 36)
  refine .exit (.thenExit (.thenExit (.blockExit (?_))))
  refine .next (.sr (.move (.move ?_)))
  refine .slcH ?_ so33
  refine .call (hc:=Tryz.call206) (sp:=crcSum (R:=buf gb 5 q (bvs (encN (plN p) 7))) (xs:=(encN (plN p) 7).take 36) (by rw [bvs_take];exact Reads.buf.take 36) (by rw [List.length_take,hlen];rfl) (by decide)) (h:=?_)
  rintro _ _ ⟨rfl,rfl⟩
  refine .cvt ?_ un303 un134
  refine .cast (d:=46) (u:=.int .u64 (((crcI ((encN (plN p) 7).take 36)).toNat:Nat):Int)) rfl (congrArg (Value.int .u64) (by rw [<- u64_wrap0 (a:=(crcI ((encN (plN p) 7).take 36)).toNat) (by omega)];first | (congr 1;omega) | congr 1)) ?_
  refine .call (hc:=Tryz.call74) (sp:=bitsPut (xs:=encN (plN p) 7) (v:=(crcI ((encN (plN p) 7).take 36)).toNat) Reads.buf hlen (by decide) (by omega) (by omega) (by omega) (by omega)) (h:=?_)
  rintro _ _ ⟨g',q',⟨rfl,h1,h2⟩,rfl⟩
  refine .move ?_
  refine .extract ?_
  refine .extract ?_
  refine .assign (.x (.move (.assign (.z ?_))))
  refine .ret (?_)
  exact .ret1 (h1:=.tmp (t:=2) rfl) ⟨_,⟨g',q',rfl,⟨h1,h2⟩,rfl⟩,Am.auto⟩
theorem bytesEq {R R2:HP} {A A2:Option Addr} {m c m2 c2:Nat} {xs ys:Bytes} (hR:Reads R A (bvs xs)) (hm:xs.length=m) (hR2:Reads R2 A2 (bvs ys)) (hm2:ys.length=m2):Spec Tryz.prog 225 #[.slice A m c,.slice A2 m2 c2] [R,R2] fun F v M=>v=.bool (decide (xs=ys))/\M=R :: R2 :: F:=by
 refine Spec.intro Tryz.func225 rfl rfl fun B F=>?_
 simp only [Tryz.ntmps225,List.cons_append,List.nil_append,env0,Nat.reduceAdd]
 refine .sr (.assign (.x (.move ?_)))
 refine .cvtBS (R:=R) (xs:=xs) ?_ by33 st9 hR hm
 refine .move ?_
 refine .cvtBS (R:=R2) (xs:=ys) ?_ by33 st9 hR2 hm2
 refine .eqS xs ys ?_
 refine .assign (.z ?_)
 refine .ret (?_)
 exact .ret1 (h1:=.tmp (t:=4) rfl) ⟨_,⟨rfl,rfl⟩,Am.auto⟩
theorem layDec {R:HP} {A:Addr} {cc:Nat} {p:Pl} (h:PlIs p) (hR:Reads R (some A) (bvs (supB p))):Spec Tryz.prog 142 #[.slice (some A) 512 cc] [R] fun F v M=>v=.tuple #[.agg p.cells,.int .i64 0]/\M=R :: F:=by
 refine Spec.intro Tryz.func142 rfl rfl fun B F=>?_
 simp only [Tryz.ntmps142,List.cons_append,List.nil_append,env0,Nat.reduceAdd]
 have hl:=supB_length p
 have h8:=h.n2
 have h10:=h.i2
 refine .sr ?_
 refine .alloc z199 fun b2=>?_
 refine .assign (.x (.move ?_))
 refine .call (hc:=Tryz.call143) (sp:=bitsGet (p:=8) (size:=4) (big:=false) hR hl (by decide) (by decide) (by decide) (by decide)) (h:=?_)
 rintro _ _ ⟨rfl,rfl⟩
 rw [show beNat (seg (supB p) (8:Int).toNat (4:Int).toNat false)=p.n from supB_n h]
 refine .move ?_
 refine .extract ?_
 refine .extract ?_
 refine .assign (.assign (.x (.move ?_)))
 refine .call (hc:=Tryz.call143) (sp:=bitsGet (p:=12) (size:=4) (big:=false) hR hl (by decide) (by decide) (by decide) (by decide)) (h:=?_)
 rintro _ _ ⟨rfl,rfl⟩
 rw [show beNat (seg (supB p) (12:Int).toNat (4:Int).toNat false)=p.ino from supB_ino h]
 refine .move ?_
 refine .extract ?_
 refine .extract ?_
 refine .assign (.assign (.x (.move ?_)))
 refine .cvt ?_ un134 un3
 refine .cast (d:=22) (u:=.int .i64 (p.n:Int)) rfl (congrArg (Value.int .i64) (IntWalk.i64_in _ (by omega))) ?_
 refine .move ?_
 refine .cvt ?_ un134 un3
 refine .cast (d:=24) (u:=.int .i64 (p.ino:Int)) rfl (congrArg (Value.int .i64) (IntWalk.i64_in _ (by omega))) ?_
 refine .call (hc:=Tryz.call129) (sp:=layMake h) (h:=?_)
 rintro _ _ ⟨rfl,rfl⟩
 refine .move ?_
 refine .extract ?_
 refine .extract ?_
 refine .alloc z199 fun b8=>?_
 refine .stV ?_ agg199
 refine .to (A:=pt b8 (.cells p.cells 199 (0,0))) (A':=pt b8 (.cells p.cells 199 (0,0))) (fun h hh=>hh) ?_
 refine .assign (.z (.seq (.sr (.move ?_))))
 refine .nei ?_
 refine .move ?_
 refine .cast (d:=30) (u:=.bool false) rfl (congrArg Value.bool (by first|simp;done|simp;omega|omega)) ?_
 refine .gT ?_
 refine .ldA ?_ agg199
 refine .gT ?_
 refine .call (hc:=Tryz.call136) (sp:=layEnc h) (h:=?_)
 rintro _ _ ⟨gb,q,rfl,⟨hq1,hq2⟩,rfl⟩
 refine .gT ?_
 refine .move ?_
 refine .gT ?_
 refine .call (hc:=Tryz.call225) (sp:=bytesEq (R:=buf gb 5 q (bvs (supB p))) (R2:=R) (xs:=supB p) (ys:=supB p) Reads.buf hl hR hl) (h:=?_)
 rintro _ _ ⟨rfl,rfl⟩
 rw [decide_eq_true rfl]
 refine .gT ?_
 refine .not ?_
 refine .pickF ?_
 refine .z ?_
 refine .condF rfl rfl ?_
 refine .skip (.next (.sr ?_))
 refine .ldA ?_ agg199
 refine .stV ?_ agg199
 refine .assign (.z ?_)
 refine .ret (?_)
 exact .ret2 (h2:=.tmp (t:=3) rfl) ⟨_,⟨rfl,rfl⟩,Am.auto⟩
structure DevOk (n:Nat) (V:Nat->Bytes) (J:JS):Prop where
 ok:HeadsOk n J
 last:J.last < 2 ^ 64
 gen:J.gen < 2 ^ 64
 n1:246<=n
 n2:n<=65536
 fit:Fit n J.ch
 home:∀ k,245<=k->k < n->J.view k=V k
theorem DevOk.settled {n:Nat} {V:Nat->Bytes} {J:JS} (h:DevOk n V J):DevOk n V J.settled:=by
 refine ⟨h.ok.settled h.fit,h.last,h.gen,h.n1,h.n2,Fit.nil n,fun k h1 h2=>?_⟩
 rw [<- h.home k h1 h2]
 show (kget [] k).getD (lay J.cur J.ch k)=_
 rw [lay_view _ _ h.fit.apart]
 rfl
theorem tCommitD {c n d:Nat} {V0 V:Nat->Bytes} {D:List Nat} (ht:tagN (V0 1)=some d) (hn1:246<=n):Spec Tryz.prog 139 #[.pointer (some ⟨c,0,none⟩)] [TR c n V0 V D true] fun F v M=>∃ J,v=okV/\DevOk n V J/\M=DevR d n J.cur 0 :: F:=by
 refine Spec.opens (TR.opens c n V0 V D true) fun y hy=>(cCommitF (c:=c) (j:=y.1) (d:=y.2.1) (n:=n) (S:=y.2.2) hy.hop).post ?_
 rintro F v M ⟨L,hL,hW,hJ,rfl,rfl⟩
 obtain ⟨hdev,hok,hlast,hgen,hn2⟩:=hy.tg _ ht
 have hLf:=hW.perm hL
 have hv:∀ k,245<=k->k < n->(y.2.2.J.commits L).view k=V k:=fun k h1 h2=>by
  rw [JS.view_commits hJ (hW.perm hL) k h1,kget_perm hL hW.apart]
  exact hy.h1 k h1 h2
 have hD:DevOk n V (y.2.2.J.commits L):=by
  unfold JS.commits at hv ⊢
  by_cases h0:L=[]
  ·rw [if_pos h0] at hv ⊢
   exact ⟨hok,by omega,hgen,hn1,hn2,hJ,hv⟩
  ·rw [if_neg h0] at hv ⊢
   have hnx:(y.2.2.J.commit L).last < 2 ^ 64:=Nat.mod_lt _ (by decide)
   exact ⟨hok.commit hgen hn2 hJ hLf hlast,hnx,hgen,hn1,hn2,hLf,hv⟩
 refine ⟨_,⟨_,rfl,hD,rfl⟩,fun B w hs=>?_⟩
 subst hdev
 obtain ⟨x,hx,h1⟩:=Sat.opens hs (CR.opens c y.1 y.2.1 n _)
 have h2:=Sat.front (.there (.there .here)) h1
 obtain ⟨z,hz,h3⟩:=Sat.opens h2 (JR.opens y.1 y.2.1 n _)
 exact Sat.front (.there (.there (.there (.there .here)))) h3 |> fun h=>Am.wk Am.auto B w h
theorem bdFS (c a s m:Nat):BuildOk Tryz.prog 129 [(0,.pointer (some ⟨c,0,none⟩)),(1,.pointer (some ⟨a,0,none⟩)),(2,.pointer (some ⟨s,0,none⟩)),(6,.map (some m))] #[.pointer (some ⟨c,0,none⟩),.pointer (some ⟨a,0,none⟩),.pointer (some ⟨s,0,none⟩),.bool false,.bool false,.bool false,.map (some m)]:=fun w=>by kernel_rfl
theorem fsStand {j d:Nat} {p:Pl} {J:JS} {T:FT} (hn1:246<=p.n) (hn2:p.n<=65536):Spec Tryz.prog 132 #[.pointer (some ⟨j,0,none⟩),.agg p.cells] [JR j d p.n J] fun F v M=>∃ f c a s mp,v=.pointer (some ⟨f,0,none⟩)/\M=[pt f (fO c a s false false false mp),LD mp T,pt s (stO c a p),pt a (alO c p),CR c j d p.n ⟨J,[],false,false⟩]++F:=by
 refine Spec.intro Tryz.func132 rfl rfl fun B F=>?_
 simp only [Tryz.ntmps132,List.cons_append,List.nil_append,env0,Nat.reduceAdd]
 refine .sr ?_
 refine .box fun b3=>?_
 refine .to (A:=pt b3 (.cells p.cells 199 (0,0))) (A':=pt b3 (.cells p.cells 199 (0,0))) (fun h hh=>hh) ?_
 refine .assign (.x (.move ?_))
 refine .call (hc:=Tryz.call201) (sp:=cNew (n:=p.n) hn1 hn2) (h:=?_)
 rintro _ _ ⟨c,rfl,rfl⟩
 refine .assign (.x (.move ?_))
 refine .ldA ?_ agg199
 refine .call (hc:=Tryz.call202) (sp:=alNew (p:=p)) (h:=?_)
 rintro _ _ ⟨a,rfl,rfl⟩
 refine .assign (.x (.move (.move (.move (.move ?_)))))
 refine .ldA ?_ agg199
 refine .call (hc:=Tryz.call203) (sp:=inNew (p:=p)) (h:=?_)
 rintro _ _ ⟨s,rfl,rfl⟩
 refine .mkMap fun m18=>?_
 refine .build ?_ (bdFS _ _ _ _)
 refine .box fun b20=>?_
 refine .assign (.z ?_)
 refine .ret (?_)
 refine .shutR (LD.opens m18 T) (#[],0,[]) (LDP.empty T 0) ?_
 exact .ret1 (h1:=.tmp (t:=4) rfl) ⟨_,⟨b20,c,a,s,m18,rfl,rfl⟩,Am.auto⟩
def mkW (p:Pl):Nat->Bytes:=svV p (fmtA p (wr zeroD 245 (supB p))) 0 ⟨2,0,List.replicate 11 0⟩
theorem fmtA_at (p:Pl) (V:Nat->Bytes) (k:Nat):fmtA p V k=if p.bm<=k/\k < p.bm+(p.dc+4095) / 4096 then fmtZ p p.bm p.dc else if p.im<=k/\k < p.im+(p.ino+4095) / 4096 then fmtZ p p.im p.ino else V k:=by
 unfold fmtA;rw [fmtV_at,fmtV_at]
theorem svV_other {p:Pl} {V:Nat->Bytes} {x:Nd} {k:Nat} (h:k≠p.tb):svV p V 0 x k=V k:=wr_other _ _ (by omega)
theorem mkW_sup {p:Pl} (h:PlIs p):mkW p 245=supB p:=by
 have h1:=h.im;have h2:=h.bm;have h3:=h.m1
 unfold mkW
 rw [svV_other (by omega),fmtA_at,if_neg (by omega),if_neg (by omega)]
 unfold wr
 rw [if_pos rfl]
theorem mkW_home {p:Pl} (h:PlIs p) {k:Nat} (hk:246<=k):mkW p k=freshW p k:=by
 have h1:=h.im;have h2:=h.bm;have h3:=h.m1
 have key:∀ v,246<=v->fmtA p (wr zeroD 245 (supB p)) v=freshV p v:=fun v hv=>by
  unfold freshV
  rw [fmtA_at,fmtA_at]
  split
  ·rfl
  ·split
   ·rfl
   ·unfold wr;rw [if_neg (by omega)]
 unfold mkW freshW svV
 generalize fmtA p (wr zeroD 245 (supB p))=X at key ⊢
 unfold wr
 by_cases ht:k=p.tb+0 / 8
 ·rw [if_pos ht,if_pos ht,key _ (by omega)]
 ·rw [if_neg ht,if_neg ht];exact key k hk
theorem mkW_len {p:Pl} (h:PlIs p):Len5 (mkW p):=by
 have h0:Len5 (wr zeroD 245 (supB p)):=fun k=>by unfold wr;split;exact supB_length p;exact zeros_length
 have h1:Len5 (fmtA p (wr zeroD 245 (supB p))):=fun k=>by
  rw [fmtA_at]
  split
  ·exact fmtZ_length _ _ _
  ·split
   ·exact fmtZ_length _ _ _
   ·exact h0 k
 exact svV_len h1 _ _
theorem mkW_rep {p:Pl} (h:PlIs p):Rep p (cm0 (mkW p)) rootM:=by
 have h1:=(fresh_rep h).mono h.ok (V':=mkW p) (mkW_len h) (fun v hv=>mkW_home h (by have:=h.im;omega))
 exact h1.cm h.ok
def tagV (d:Nat):Nat->Bytes:=fun k=>if k=1 then List.replicate (513+d) 0 else zeros
theorem tagV_tag (d:Nat):tagN (tagV d 1)=some d:=by
 have hl:(tagV d 1).length=513+d:=by
  show (List.replicate (513+d) (0:UInt8)).length=_
  rw [List.length_replicate]
 unfold tagN
 rw [hl,if_pos (Nat.le_add_right _ _),Nat.add_sub_cancel_left]
theorem tagV_home {d k:Nat} (h:245<=k):tagV d k=zeros:=if_neg (by omega)
theorem z23:zeroOf Tryz.prog 23=some (#[.pointer none]):=by kernel_rfl
theorem fo129_1:fieldOk Tryz.prog 129 1 1=true:=by kernel_rfl
theorem fmtB_room {p:Pl} (h:PlIs p):Room (fmtB p [245]):=by
 have h1:=fmtD_length (fmtD [245] p.im ((p.ino+4095) / 4096)) p.bm ((p.dc+4095) / 4096)
 have h2:=fmtD_length [245] p.im ((p.ino+4095) / 4096)
 have h3:=h.i2
 have h4:=h.n2
 have h5:=h.dc
 have h6:=h.i1
 have h7:=h.da
 have h8:=h.m1
 have h9:=h.bm
 unfold fmtB Room
 have:([245]:List Nat).length=1:=rfl
 omega
theorem bsF5 (f0 f1 f2 f3 f4:Fn) (u0 u1 u2 u3 u4 c0 c1 c2 c3 c4:Array Value):BuildSOk Tryz.prog 220 5 [(0,.func f0 u0 c0),(1,.func f1 u1 c1),(2,.func f2 u2 c2),(3,.func f3 u3 c3),(4,.func f4 u4 c4)] 183 #[.func f0 u0 c0,.func f1 u1 c1,.func f2 u2 c2,.func f3 u3 c3,.func f4 u4 c4]:=fun w=>by kernel_rfl
def J0:JS:=⟨beNat (seg (formatted zeroD 0) 8 8 false),0,[],formatted zeroD⟩
theorem J0_ok {n:Nat}:HeadsOk n J0:=⟨formatted0,rfl,fun i _=>.inl (formattedH _ i),fun _=>rfl,fun h=>absurd rfl h⟩
theorem J0_gen:J0.gen < 2 ^ 64:=le8_lt _ _ _
theorem J0_view {k:Nat} (h:245<=k):J0.view k=zeros:=formattedK (by omega)
theorem J0_tag {n d:Nat} (hn:n<=65536):Tagged n d d J0:=⟨rfl,J0_ok,Nat.lt_of_le_of_lt (Nat.le_refl 1) (by decide),J0_gen,hn⟩
theorem jOpenBad {d n t:Nat} {cur:Nat->Bytes} (hn:246<=n) (hmg:(cur 0).take 8≠magicJ):Spec Tryz.prog 140 #[.pointer (some ⟨d,0,none⟩)] [DevR d n cur t] fun F v M=>v=.tuple #[.pointer none,.int .i64 10]/\M=DevR d n cur t :: F:=by
 refine Spec.intro Tryz.func140 rfl rfl fun B F=>?_
 simp only [Tryz.ntmps140,List.cons_append,List.nil_append,env0,Nat.reduceAdd]
 refine .sr (.assign (.assign (.z (.seq (.sr (.move ?_))))))
 refine .call (hc:=Tryz.call130) (sp:=devBlocksR (n:=n) (t:=t) (cur:=cur)) (h:=?_)
 rintro _ _ ⟨rfl,rfl⟩
 refine .lss ?_
 refine .z ?_
 refine .condF rfl (congrArg Value.bool (by first|simp;done|simp;omega|omega)) ?_
 refine .skip (.next (.sr (.move ?_)))
 refine .call (hc:=Tryz.call215) (sp:=jFirst (n:=n) (t:=t) (cur:=cur) (by omega)) (h:=?_)
 rintro _ _ ⟨rfl,rfl⟩
 refine .move ?_
 refine .extract ?_
 refine .extract ?_
 refine .cast (d:=20) (u:=.bool false) rfl (congrArg Value.bool (decide_eq_false hmg)) ?_
 refine .assign (.assign (.z (.seq (.sr (.move ?_)))))
 refine .not ?_
 refine .z ?_
 refine .condT rfl rfl ?_
 refine .sr (.assign (.assign (.z ?_)))
 refine .ret (.thenRet (?_))
 exact .ret2 (h1:=.tmp (t:=2) rfl) (h2:=.tmp (t:=3) rfl) ⟨_,⟨rfl,rfl⟩,Am.auto⟩
theorem zeroD_bad:(zeroD 0).take 8≠magicJ:=by
 show zeros.take 8≠magicJ
 rw [zeros_take];decide
theorem fsOpened {d n:Nat} (hn:246<=n) (hn2:n<=65536):Spec Tryz.prog 131 #[.pointer (some ⟨d,0,none⟩)] [DevR d n zeroD 0] fun F v M=>∃ j,v=.tuple #[.pointer (some ⟨j,0,none⟩),.int .i64 0]/\M=JR j d n J0 :: F:=by
 refine Spec.intro Tryz.func131 rfl rfl fun B F=>?_
 simp only [Tryz.ntmps131,List.cons_append,List.nil_append,env0,Nat.reduceAdd]
 refine .sr (.assign (.assign (.x (.move ?_))))
 refine .call (hc:=Tryz.call140) (sp:=jOpenBad (n:=n) (t:=0) (cur:=zeroD) hn zeroD_bad) (h:=?_)
 rintro _ _ ⟨rfl,rfl⟩
 refine .move ?_
 refine .extract ?_
 refine .extract ?_
 refine .assign (.assign (.z (.seq (.sr (.move ?_)))))
 refine .nei ?_
 refine .z ?_
 refine .condF rfl (congrArg Value.bool (by first|simp;done|simp;omega|omega)) ?_
 refine .skip (.next (.seq (.sr (.move ?_))))
 refine .call (hc:=Tryz.call200) (sp:=jFormat (n:=n) (t:=0) (cur:=zeroD) hn (by decide)) (h:=?_)
 rintro _ _ ⟨rfl,rfl⟩
 refine .assign (.x (.move ?_))
 refine .nei ?_
 refine .z ?_
 refine .condF rfl (congrArg Value.bool (by first|simp;done|simp;omega|omega)) ?_
 refine .skip (.next (.sr (.move ?_)))
 refine .call (hc:=Tryz.call140) (sp:=jOpen (n:=n) (cur:=formatted zeroD) hn hn2 formatted0 (fun i _=>formattedH _ i)) (h:=?_)
 rintro _ _ ⟨j,rfl,rfl⟩
 refine .extract ?_
 refine .extract ?_
 refine .assign (.assign (.z ?_))
 refine .ret (?_)
 exact .ret2 (h1:=.tmp (t:=2) rfl) (h2:=.tmp (t:=3) rfl) ⟨_,⟨j,rfl,rfl⟩,Am.auto⟩
theorem fsMk1 {f s a c mp b8 b5:Nat} {p:Pl} {V0 V:Nat->Bytes} (h:PlIs p) (hn:246<=p.n):Spec Tryz.prog 134 #[.pointer (some ⟨b8,0,none⟩),.pointer (some ⟨b5,0,none⟩)] [pt b8 (.cells #[.pointer (some ⟨f,0,none⟩)] 23 (0,0)),pt f (fO c a s false false false mp),pt b5 (.cells p.cells 199 (0,0)),TR c p.n V0 V [] true] fun F v M=>v=okV/\M=pt b8 (.cells #[.pointer (some ⟨f,0,none⟩)] 23 (0,0)) :: pt f (fO c a s false false false mp) :: pt b5 (.cells p.cells 199 (0,0)) :: TR c p.n V0 (wr V 245 (supB p)) [245] true :: F:=by
 refine Spec.intro Tryz.func134 rfl rfl fun B F=>?_
 simp only [Tryz.ntmps134,List.cons_append,List.nil_append,env0,Nat.reduceAdd]
 refine .sr (.assign (.z (.seq ?_)))
 refine .dr ([pt b8 (.cells #[.pointer (some ⟨f,0,none⟩)] 23 (0,0)),pt f (fO c a s false false false mp),pt b5 (.cells p.cells 199 (0,0))]) [] 8 mixed .autoJ ?_
 refine .tk 0 rfl (.ld sc23) ?_
 refine .tk 1 rfl .nilCheck ?_
 refine .tk 2 rfl (.fa fo129_0) ?_
 refine .tk 3 rfl (.ld sc124) ?_
 refine .tk 4 rfl (.ldA agg199) ?_
 refine .on 5 rfl fun hnp=>?_
 refine .call (hc:=Tryz.call136) (sp:=layEnc h) (h:=?_)
 rintro _ _ ⟨gb,q,rfl,⟨hq1,hq2⟩,rfl⟩
 refine .nil (.wa hnp ?_)
 refine .on 6 rfl fun hnp=>?_
 refine .call (hc:=Tryz.call135) (sp:=tWrite (c:=c) (n:=p.n) (k:=245) (V0:=V0) (V:=V) (D:=[]) (R:=buf gb 5 q (bvs (supB p))) (xs:=supB p) (by decide) (by omega) Reads.buf (supB_length p) rfl (.inr (by decide))) (h:=?_)
 rintro _ _ ⟨rfl,rfl⟩
 refine .nil (.wa hnp ?_)
 refine .tk 7 rfl .assign ?_
 refine .fin ?_
 refine .next ?_
 refine .ret (?_)
 exact .ret1 (h1:=.tmp (t:=2) rfl) ⟨_,⟨rfl,rfl⟩,Am.auto⟩
theorem fsMkfs {d:Nat} {p:Pl} (h:PlIs p):Spec Tryz.prog 63 #[.pointer (some ⟨d,0,none⟩),.int .i64 (p.ino:Int)] [DevR d p.n zeroD 0] fun F v M=>∃ J,v=okV/\DevOk p.n (mkW p) J/\M=DevR d p.n J.cur 0 :: F:=by
 refine Spec.intro Tryz.func63 rfl rfl fun B F=>?_
 simp only [Tryz.ntmps63,List.cons_append,List.nil_append,env0,Nat.reduceAdd]
 have hn2:=h.n2
 have h246:246<=p.n:=by have:=h.bm;have:=h.m1;have:=h.da;have:=h.dc;have:=h.d1;omega
 refine .sr (.assign (.x (.move ?_)))
 refine .call (hc:=Tryz.call130) (sp:=devBlocksR (n:=p.n) (t:=0) (cur:=zeroD)) (h:=?_)
 rintro _ _ ⟨rfl,rfl⟩
 refine .move ?_
 refine .call (hc:=Tryz.call129) (sp:=layMake h) (h:=?_)
 rintro _ _ ⟨rfl,rfl⟩
 refine .move ?_
 refine .extract ?_
 refine .extract ?_
 refine .alloc z199 fun b5=>?_
 refine .stV ?_ agg199
 refine .to (A:=pt b5 (.cells p.cells 199 (0,0))) (A':=pt b5 (.cells p.cells 199 (0,0))) (fun h hh=>hh) ?_
 refine .assign (.z (.seq (.sr (.move ?_))))
 refine .nei ?_
 refine .z ?_
 refine .condF rfl (congrArg Value.bool (by first|simp;done|simp;omega|omega)) ?_
 refine .skip (.next (.sr (.move ?_)))
 refine .call (hc:=Tryz.call131) (sp:=fsOpened (n:=p.n) h246 hn2) (h:=?_)
 rintro _ _ ⟨j,rfl,rfl⟩
 refine .move ?_
 refine .extract ?_
 refine .extract ?_
 refine .assign (.assign (.z (.seq (.sr (.move ?_)))))
 refine .nei ?_
 refine .z ?_
 refine .condF rfl (congrArg Value.bool (by first|simp;done|simp;omega|omega)) ?_
 refine .skip (.next (.sr (.move ?_)))
 refine .ldA ?_ agg199
 refine .call (hc:=Tryz.call132) (sp:=fsStand (p:=p) (T:=fun _=>none) h246 hn2) (h:=?_)
 rintro _ _ ⟨f,c,a,s,mp,rfl,rfl⟩
 simp only [List.cons_append,List.nil_append]
 refine .shutR (TR.opens c p.n (tagV d) zeroD [] false) (j,d,⟨J0,[],false,false⟩) ⟨rfl,(fun k h1 h2=>(J0_view h1).trans (tagV_home h1).symm),(fun k h1 h2=>J0_view h1),rfl,fun r hr=>by rw [tagV_tag] at hr;injection hr with hr;subst hr;exact J0_tag hn2⟩ ?_
 refine .alloc z23 fun b8=>?_
 refine .st ?_ sc23
 refine .z (.seq (.seq ?_))
 refine .dr ([pt b8 (.cells #[.pointer (some ⟨f,0,none⟩)] 23 (0,0)),pt f (fO c a s false false false mp)]) [] 24 mixed .autoJ ?_
 refine .tk 0 rfl (.ld sc23) ?_
 refine .tk 1 rfl .nilCheck ?_
 refine .tk 2 rfl (.fa fo129_0) ?_
 refine .tk 3 rfl (.ld sc124) ?_
 refine .tk 4 rfl .makeFuncB ?_
 refine .tk 5 rfl .makeFuncB ?_
 refine .tk 6 rfl (.ld sc23) ?_
 refine .tk 7 rfl .nilCheck ?_
 refine .tk 8 rfl (.fa fo129_1) ?_
 refine .tk 9 rfl (.ld sc125) ?_
 refine .tk 10 rfl .makeFuncB ?_
 refine .tk 11 rfl (.ld sc23) ?_
 refine .tk 12 rfl .nilCheck ?_
 refine .tk 13 rfl (.fa fo129_2) ?_
 refine .tk 14 rfl (.ld sc126) ?_
 refine .tk 15 rfl .makeFuncB ?_
 refine .tk 16 rfl (.ld sc23) ?_
 refine .tk 17 rfl .nilCheck ?_
 refine .tk 18 rfl (.fa fo129_0) ?_
 refine .tk 19 rfl (.ld sc124) ?_
 refine .tk 20 rfl .makeFuncB ?_
 refine .tk 23 rfl .move ?_
 refine .on 21 rfl fun hnp=>?_
 refine .buildS (fun b54=>?_) (bsF5 _ _ _ _ _ _ _ _ _ _ _ _ _ _ _)
 refine .nil (.wa hnp ?_)
 refine .tk 22 rfl (.lenS sl220) ?_
 refine .fin ?_
 refine .next (.block ?_)
 refine .loopN 6 (RC.succ ?_)
 refine .sr ?_
 refine .lss ?_
 refine .z (.seq ?_)
 refine .condT rfl (congrArg Value.bool (by first|simp;done|simp;omega|omega)) ?_
 refine .skip (.next (.seq (.block (.sr ?_))))
 refine .idx1 ?_ so220
 refine .ld ?_ sc183
 refine .assign (.x (.move ?_))
 refine .callF (us:=#[.pointer (some ⟨c,0,none⟩)]) (cap:=#[]) (vs:=[]) rfl rfl Tryz.call133 (Spec.bound (tBegin (n:=p.n) (V0:=tagV d) (V:=zeroD) (D:=[]))) ?_ (by repeat (first | exact .nil | (apply Tk.cons;focus ((repeat (first | exact .here | apply Rem.there));done))))
 rintro _ _ ⟨rfl,rfl⟩
 refine .assign (.x (.move ?_))
 refine .nei ?_
 refine .z ?_
 refine .condF rfl (congrArg Value.bool (by first|simp;done|simp;omega|omega)) ?_
 refine .skip (.blockNormal (.next (.region ?_)))
 refine .add ?_
 refine .move (.nil ?_)
 refine .again (RC.succ ?_)
 refine .sr ?_
 refine .lss ?_
 refine .z (.seq ?_)
 refine .condT rfl (congrArg Value.bool (by first|simp;done|simp;omega|omega)) ?_
 refine .skip (.next (.seq (.block (.sr ?_))))
 refine .idx1 ?_ so220
 refine .ld ?_ sc183
 refine .assign (.x (.move ?_))
 refine .callF (us:=#[]) (cap:=#[.pointer (some ⟨b8,0,none⟩),.pointer (some ⟨b5,0,none⟩)]) (vs:=[]) rfl rfl Tryz.call134 (Spec.capt (fsMk1 (c:=c) (f:=f) (a:=a) (s:=s) (mp:=mp) (V0:=tagV d) (V:=zeroD) h h246)) ?_ (by repeat (first | exact .nil | (apply Tk.cons;focus ((repeat (first | exact .here | apply Rem.there));done))))
 rintro _ _ ⟨rfl,rfl⟩
 refine .assign (.x (.move ?_))
 refine .nei ?_
 refine .z ?_
 refine .condF rfl (congrArg Value.bool (by first|simp;done|simp;omega|omega)) ?_
 refine .skip (.blockNormal (.next (.region ?_)))
 refine .add ?_
 refine .move (.nil ?_)
 refine .again (RC.succ ?_)
 refine .sr ?_
 refine .lss ?_
 refine .z (.seq ?_)
 refine .condT rfl (congrArg Value.bool (by first|simp;done|simp;omega|omega)) ?_
 refine .skip (.next (.seq (.block (.sr ?_))))
 refine .idx1 ?_ so220
 refine .ld ?_ sc183
 refine .assign (.x (.move ?_))
 refine .callF (us:=#[.pointer (some ⟨a,0,none⟩)]) (cap:=#[]) (vs:=[]) rfl rfl Tryz.call137 (Spec.bound (alFormat (c:=c) (V0:=tagV d) (V:=wr zeroD 245 (supB p)) (D:=[245]) h.ok (Nat.le_refl _))) ?_ (by repeat (first | exact .nil | (apply Tk.cons;focus ((repeat (first | exact .here | apply Rem.there));done))))
 rintro _ _ ⟨rfl,rfl⟩
 simp only [List.cons_append,List.nil_append]
 refine .assign (.x (.move ?_))
 refine .nei ?_
 refine .z ?_
 refine .condF rfl (congrArg Value.bool (by first|simp;done|simp;omega|omega)) ?_
 refine .skip (.blockNormal (.next (.region ?_)))
 refine .add ?_
 refine .move (.nil ?_)
 refine .again (RC.succ ?_)
 refine .sr ?_
 refine .lss ?_
 refine .z (.seq ?_)
 refine .condT rfl (congrArg Value.bool (by first|simp;done|simp;omega|omega)) ?_
 refine .skip (.next (.seq (.block (.sr ?_))))
 refine .idx1 ?_ so220
 refine .ld ?_ sc183
 refine .assign (.x (.move ?_))
 refine .callF (us:=#[.pointer (some ⟨s,0,none⟩)]) (cap:=#[]) (vs:=[]) rfl rfl Tryz.call138 (Spec.bound (inFormat (c:=c) (a:=a) (V0:=tagV d) (V:=(fmtA p (wr zeroD 245 (supB p)))) (D:=fmtB p [245]) h.ok (fmtB_room h))) ?_ (by repeat (first | exact .nil | (apply Tk.cons;focus ((repeat (first | exact .here | apply Rem.there));done))))
 rintro _ _ ⟨rfl,rfl⟩
 simp only [List.cons_append,List.nil_append]
 refine .assign (.x (.move ?_))
 refine .nei ?_
 refine .z ?_
 refine .condF rfl (congrArg Value.bool (by first|simp;done|simp;omega|omega)) ?_
 refine .skip (.blockNormal (.next (.region ?_)))
 refine .add ?_
 refine .move (.nil ?_)
 refine .again (RC.succ ?_)
 refine .sr ?_
 refine .lss ?_
 refine .z (.seq ?_)
 refine .condT rfl (congrArg Value.bool (by first|simp;done|simp;omega|omega)) ?_
 refine .skip (.next (.seq (.block (.sr ?_))))
 refine .idx1 ?_ so220
 refine .ld ?_ sc183
 refine .assign (.x (.move ?_))
 refine .callF (us:=#[.pointer (some ⟨c,0,none⟩)]) (cap:=#[]) (vs:=[]) rfl rfl Tryz.call139 (Spec.bound (tCommitD (n:=p.n) (d:=d) (V0:=tagV d) (V:=mkW p) (D:=insD (fmtB p [245]) (p.tb+0 / 8)) (tagV_tag d) h246)) ?_ (by repeat (first | exact .nil | (apply Tk.cons;focus ((repeat (first | exact .here | apply Rem.there));done))))
 rintro _ _ ⟨J,rfl,hJ,rfl⟩
 refine .assign (.x (.move ?_))
 refine .nei ?_
 refine .z ?_
 refine .condF rfl (congrArg Value.bool (by first|simp;done|simp;omega|omega)) ?_
 refine .skip (.blockNormal (.next (.region ?_)))
 refine .add ?_
 refine .move (.nil ?_)
 refine .again (RC.succ ?_)
 refine .sr ?_
 refine .lss ?_
 refine .z (.seq ?_)
 refine .condF rfl (congrArg Value.bool (by first|simp;done|simp;omega|omega)) ?_
 refine .exit (.thenExit (.thenExit (.blockExit (?_))))
 refine .next (.sr (.assign (.z ?_)))
 refine .ret (?_)
 exact .ret1 (h1:=.tmp (t:=4) rfl) ⟨_,⟨J,rfl,hJ,rfl⟩,Am.auto⟩
theorem fsMount {d:Nat} {p:Pl} {J:JS} {V:Nat->Bytes} {T:FT} (h:PlIs p) (hJ:DevOk p.n V J) (hsup:V 245=supB p) (hr:Rep p (cm0 V) (fmT T)):Spec Tryz.prog 64 #[.pointer (some ⟨d,0,none⟩)] [DevR d p.n J.cur 0] fun F v M=>∃ f,v=.tuple #[.pointer (some ⟨f,0,none⟩),.int .i64 0]/\M=FSR f p T :: F:=by
 refine Spec.intro Tryz.func64 rfl rfl fun B F=>?_
 simp only [Tryz.ntmps64,List.cons_append,List.nil_append,env0,Nat.reduceAdd]
 have hS:=hJ.settled
 have hn1:=hJ.n1
 have hn2:=hJ.n2
 have hv:=(hS.home 245 (by decide) (by omega)).trans hsup
 refine .sr (.assign (.assign (.x (.move ?_))))
 refine .call (hc:=Tryz.call140) (sp:=jOpenG (n:=p.n) (J:=J) hn1 hn2 hJ.ok hJ.last) (h:=?_)
 rintro _ _ ⟨j,rfl,rfl⟩
 refine .move ?_
 refine .extract ?_
 refine .extract ?_
 refine .assign (.assign (.z (.seq (.sr (.move ?_)))))
 refine .nei ?_
 refine .z ?_
 refine .condF rfl (congrArg Value.bool (by first|simp;done|simp;omega|omega)) ?_
 refine .skip (.next (.sr (.move ?_)))
 refine .call (hc:=Tryz.call141) (sp:=jRead (d:=d) (n:=p.n) (J:=J.settled) (k:=245) (by decide) (by omega)) (h:=?_)
 rintro _ _ ⟨gb,q,rfl,⟨hq1,hq2,hq3⟩,rfl⟩
 rw [hv]
 refine .move ?_
 refine .extract ?_
 refine .extract ?_
 refine .assign (.assign (.z (.seq (.sr (.move ?_)))))
 refine .nei ?_
 refine .z ?_
 refine .condF rfl (congrArg Value.bool (by first|simp;done|simp;omega|omega)) ?_
 refine .skip (.next (.sr (.move ?_)))
 refine .call (hc:=Tryz.call142) (sp:=layDec (R:=buf gb 5 q (bvs (supB p))) h Reads.buf) (h:=?_)
 rintro _ _ ⟨rfl,rfl⟩
 refine .move ?_
 refine .extract ?_
 refine .extract ?_
 refine .alloc z199 fun b7=>?_
 refine .stV ?_ agg199
 refine .to (A:=pt b7 (.cells p.cells 199 (0,0))) (A':=pt b7 (.cells p.cells 199 (0,0))) (fun h hh=>hh) ?_
 refine .assign (.z (.seq (.seq ?_)))
 refine .openR (JR.opens j d p.n J.settled) fun x hx=>?_
 simp only [jL,List.cons_append,List.nil_append]
 refine .dr ([pt b7 (.cells p.cells 199 (0,0))]) [] 9 mixed .autoJ ?_
 refine .tk 0 rfl .move ?_
 refine .tk 1 rfl .nei ?_
 refine .tk 2 rfl .move ?_
 refine .tn 3 rfl (.fa fo199_0) ?_
 refine .tn 4 rfl (.ld sc3) ?_
 refine .tn 5 rfl .move ?_
 refine .on 6 rfl fun hnp=>?_
 refine .gT ?_
 refine .call (hc:=Tryz.call130) (sp:=devBlocksR (n:=p.n) (t:=0) (cur:=J.settled.cur)) (h:=?_)
 rintro _ _ ⟨rfl,rfl⟩
 refine .nil (.wa hnp ?_)
 refine .tn 7 rfl .nei ?_
 refine .tk 8 rfl .pickF ?_
 refine .fin ?_
 refine .next ?_
 refine .condF rfl (congrArg Value.bool (by first|simp;done|simp;omega|omega)) ?_
 refine .skip (.next (.sr ?_))
 refine .shutR (JR.opens j d p.n J.settled) x hx ?_
 refine .move ?_
 refine .ldA ?_ agg199
 refine .call (hc:=Tryz.call132) (sp:=fsStand (p:=p) (T:=T) hn1 hn2) (h:=?_)
 rintro _ _ ⟨f,c,a,s,mp,rfl,rfl⟩
 simp only [List.cons_append,List.nil_append]
 refine .shutR (TR.opens c p.n (cm0 V) (cm0 V) [] false) (j,d,⟨J.settled,[],false,false⟩) ⟨rfl,(fun k h1 h2=>(hS.home k h1 h2).trans (cm0_home V (by omega)).symm),(fun k h1 h2=>(hS.home k h1 h2).trans (cm0_home V (by omega)).symm),rfl,fun r hr=>by rw [cm0_tag] at hr;cases hr⟩ ?_
 refine .shutR (IN.opens s a c p (fmT T) (fmT T) 0 false) (cm0 V,cm0 V,[]) ⟨hr,hr,Dk.nil p,Nat.zero_le _⟩ ?_
 refine .shutR (FSR.opens f p T) (c,a,s,mp) trivial ?_
 refine .assign (.assign (.z ?_))
 refine .ret (?_)
 exact .ret2 (h1:=.tmp (t:=2) rfl) (h2:=.tmp (t:=3) rfl) ⟨_,⟨f,rfl,rfl⟩,Am.auto⟩
def rootT:FT:=fun i=>if i=0 then some (.dir []) else none
theorem fmT_root:fmT rootT=rootM:=by
 funext i
 unfold fmT rootT rootM
 by_cases h:i=0
 ·rw [if_pos h,if_pos h];rfl
 ·rw [if_neg h,if_neg h];rfl
theorem rootT_ok:TOk rootT:=by
 intro d sl h
 unfold rootT at h
 split at h
 ·injection h with h;injection h with h;subst h;exact ⟨DirOk.nil,Nat.zero_le _⟩
 ·cases h
theorem fsMountNew {d:Nat} {p:Pl} {J:JS} (h:PlIs p) (hJ:DevOk p.n (mkW p) J):Spec Tryz.prog 64 #[.pointer (some ⟨d,0,none⟩)] [DevR d p.n J.cur 0] fun F v M=>∃ f,v=.tuple #[.pointer (some ⟨f,0,none⟩),.int .i64 0]/\M=FSR f p rootT :: F :=
 fsMount h hJ (mkW_sup h) (by rw [fmT_root];exact mkW_rep h)
section
variable {P:Program} {B:Base} {n:Fr} {Q Q':Exit->Act->World->Prop} {e:Env} {L:List HP} {ops:Array Oper} {l:List Oper}
variable {d:Nat} {ty:TypeId} {pos:String} {af:Array Edge} {x y z:Operand} {gd:Option (Nat×Bool)}
theorem made_flat (zs:List Value) (hz:0 < zs.length) (k:Nat):(madeCells zs.toArray (k * zs.length)).toList=(List.replicate k zs).flatten:=by
 apply List.ext_getElem?
 intro i
 have hl:∀ k,((List.replicate k zs).flatten).length=k * zs.length:=fun k=>by
  induction k with
  | zero=>simp
  | succ k ih=>rw [List.replicate_succ,List.flatten_cons,List.length_append,ih,Nat.succ_mul];omega
 have key:∀ k i,i < k * zs.length->((List.replicate k zs).flatten)[i]?=zs[i % zs.length]?:=by
  intro k
  induction k with
  | zero=>intro i h;omega
  | succ k ih =>
   intro i h
   rw [List.replicate_succ,List.flatten_cons]
   by_cases hi:i < zs.length
   ·rw [List.getElem?_append_left hi,Nat.mod_eq_of_lt hi]
   ·rw [List.getElem?_append_right (by omega),ih (i - zs.length) (by rw [Nat.succ_mul] at h;omega)]
    rw [<- Nat.mod_eq_sub_mod (by omega)]
 by_cases h:i < k * zs.length
 ·rw [key k i h]
  have hm:i % zs.length < zs.length:=Nat.mod_lt _ hz
  simp [madeCells,h,hm]
 ·rw [List.getElem?_eq_none (l:=(List.replicate k zs).flatten) (by rw [hl];omega),List.getElem?_eq_none (by simp [madeCells];omega)]
theorem WL.mkSt {t el bytes size:Nat} {k:Nat} {zs:List Value} (hz:zeroOf P el=some zs.toArray) (hzl:zs.length=size) (hs0:0 < size) (h:∀ b,WL P B n ops l Q ((d,.slice (some ⟨b,0,none⟩) k k) :: e) (row b el (List.replicate k zs).flatten :: L))
  (ht:sliceOk P t el size bytes=true) (hb:bytes * k<=281474976710656) (hm:k<=9223372036854775807) (hx:evo e x=some (.int .i64 (k:Int)):=by rfl) (hy:evo e y=some (.int .i64 (k:Int)):=by rfl) (hd:Nat.ble (d+1) n.k=true:=by rfl) :
  WL P B n ops (⟨some d,.makeSlice t x y,ty,pos,af,none⟩ :: l) Q e L :=
 WL.step rfl fun a w ha hs=>by
  obtain ⟨hu,i,z,hi,hsz,hby,hzz⟩:=slice_of ht
  have hzc:z.cells=zs.toArray:=by
   unfold zeroOf at hz
   simpa [hi,hzz] using hz
  have hb2:(bytes:Int) * (k:Int)<=281474976710656:=by
   have h1:((bytes * k:Nat):Int)<=281474976710656:=by omega
   rwa [Int.natCast_mul] at h1
  have hr:=run_make (P:=P) w t el i z hu hi hzz .i64 .i64 k k (by omega) (Int.le_refl _) (by rw [hby];exact hb2) (by omega)
  rw [hsz,hzc,Int.toNat_natCast] at hr
  have hcells:=made_flat zs (by omega) k
  rw [hzl] at hcells
  have hrow:∀ b h,pt b (.cells (madeCells zs.toArray (k * size)) el (0,0)) h->row b el (List.replicate k zs).flatten h:=fun b h hh=>by
   unfold row
   rw [<- hcells,Array.toArray_toList]
   exact hh
  refine ⟨_,_,_,_,?_,ha.put hd _,(hs.new _).imp (L:=[]) (hrow _),h w.heap.size⟩
  simp only [execOp,ha.eval hx,ha.eval hy]
  rw [Sem.run_bind,hr]
  rfl
end
abbrev TL:=List (Nat×NodeT)
def trL (l:TL):FT:=fun i=>kget l i
theorem trL_put (l:TL) (i:Nat) (x:NodeT):updT (trL l) i (some x)=trL (kput l i x):=by
 funext j
 unfold updT trL
 rw [kget_put]
theorem trL_mk (l:TL) (d:Nat) (sl:List Slot) (nm:Bytes) (i:Nat) (x:NodeT):mkT (trL l) d sl nm i x=trL (kput (kput l i x) d (.dir (setS sl (freeS sl) (some (nm,i))))):=by
 unfold mkT
 rw [trL_put,trL_put]
theorem kget_of_mem {κ α:Type} [DecidableEq κ] {l:List (κ×α)} {k:κ} {v:α} (h:kget l k=some v):(k,v)∈l:=by
 induction l with
 | nil=>cases h
 | cons p r ih =>
  obtain ⟨k',v'⟩:=p
  unfold kget at h
  split at h
  ·rename_i hk
   injection h with h
   subst hk;subst h
   exact List.mem_cons_self ..
  ·exact List.mem_cons_of_mem _ (ih h)
def NodeT.ok:NodeT->Prop
 | .file _=>True
 | .dir sl=>DirOk sl/\sl.length<=1000
theorem trL_ok {l:TL} (h:∀ e∈l,e.2.ok):TOk (trL l):=fun d sl hd=>h _ (kget_of_mem hd)
theorem DirOk.consS {r:List Slot} (h:DirOk r) {nm:Bytes} {k:Nat} (hn:1<=nm.length/\nm.length<=50) (hk:k < 4294967296) (hl:lookS nm r=none):DirOk (some (nm,k) :: r):=by
 have hno:=lookS_none hl
 refine ⟨fun q n i hq=>?_,fun p q n i j hp hq=>?_⟩
 ·cases q with
  | zero=>injection hq with hq;injection hq with hq;injection hq with h1 h2;subst h1;subst h2;exact ⟨hn,hk⟩
  | succ q=>exact h.nm q n i hq
 ·cases p with
  | zero =>
   injection hp with hp;injection hp with hp;injection hp with h1 h2
   subst h1
   cases q with
   | zero=>rfl
   | succ q=>exact absurd hq (hno q j)
  | succ p =>
   cases q with
   | zero =>
    injection hq with hq;injection hq with hq;injection hq with h1 h2
    subst h1
    exact absurd hp (hno p i)
   | succ q=>rw [h.one p q n i j hp hq]
theorem DirOk.one1 {nm:Bytes} {k:Nat} (hn:1<=nm.length/\nm.length<=50) (hk:k < 4294967296):DirOk [some (nm,k)]:=DirOk.nil.consS hn hk rfl
def totL:TL->Nat
 | []=>0
 | e :: l=>has e.2.size+totL l
theorem tot_no {F:FM} (h:∀ i,F i=none):∀ n,tot F n=0
 | 0=>rfl
 | n+1=>by rw [tot,tot_no h n,h];rfl
theorem trL_cons (k:Nat) (x:NodeT) (l:TL):trL ((k,x) :: l)=updT (trL l) k (some x):=by
 funext j
 unfold updT trL
 rfl
theorem tot_trL {n:Nat}:∀ {l:TL},(l.map (·.1)).Nodup->(∀ e∈l,e.1 < n)->tot (fmT (trL l)) n=totL l
 | [],_,_=>tot_no (fun i=>rfl) n
 | (k,x) :: l,hn,hb=>by
  rw [List.map_cons,List.nodup_cons] at hn
  have ih:=tot_trL hn.2 (fun e he=>hb e (List.mem_cons_of_mem _ he))
  have h:=tot_upd' (fmT (trL l)) (hb (k,x) (List.mem_cons_self ..)) (some x.f)
  rw [fmT_updS,<-trL_cons,fmT_none (show trL l k=none from kget_none.2 hn.1),ih] at h
  have h2:hasO (some x.f)=has x.size:=by show has x.f.2.length=_;rw [x.f_size]
  rw [h2] at h
  have h3:hasO none=0:=rfl
  show tot (fmT (trL ((k,x) :: l))) n=has x.size+totL l
  have h4:tot (fmT (trL ((k,x) :: l))) n+hasO none=totL l+has x.size:=h
  omega
theorem cntB_succ (f:Nat->Bool) (n:Nat):cntB f (n+1)=cntB f n+(if f n then 1 else 0):=by
 unfold cntB
 rw [List.range_succ,List.filter_append,List.length_append]
 cases h:f n<;>simp [h]
theorem rootT_trL:rootT=trL [(0,.dir [])]:=by
 funext i
 unfold rootT trL
 by_cases h:i=0
 ·subst h;rfl
 ·rw [if_neg h]
  unfold kget
  rw [if_neg h];rfl
def rslotB:Slot->Bytes
 | none=>List.replicate 64 0
 | some (nm,i)=>UInt8.ofNat nm.length :: ((nm++List.replicate 59 0).take 59++[UInt8.ofNat i,UInt8.ofNat (i / 256),0,0])
theorem rslotB_length (s:Slot):(rslotB s).length=64:=by
 cases s with
 | none=>exact List.length_replicate
 | some x =>
  obtain ⟨nm,i⟩:=x
  show (UInt8.ofNat nm.length :: ((nm++List.replicate 59 0).take 59++[UInt8.ofNat i,UInt8.ofNat (i / 256),0,0])).length=64
  rw [List.length_cons,List.length_append,List.length_take,List.length_append,List.length_replicate,Nat.min_eq_left (by omega)]
  rfl
def rdirB (sl:List Slot):Bytes:=sl.flatMap rslotB
theorem rdirB_append (a b:List Slot):rdirB (a++b)=rdirB a++rdirB b:=List.flatMap_append
theorem rdirB_length:∀ sl:List Slot,(rdirB sl).length=64 * sl.length
 | []=>rfl
 | s :: sl=>by
  have:=rdirB_length sl
  unfold rdirB at this ⊢
  rw [List.flatMap_cons,List.length_append,rslotB_length,this,List.length_cons];omega
theorem rdirB_split {sl:List Slot} {q:Nat} (h:q < sl.length):rdirB sl=rdirB (sl.take q)++(rslotB sl[q]++rdirB (sl.drop (q+1))):=by
 have h1:rdirB [sl[q]]=rslotB sl[q]:=by unfold rdirB;rw [List.flatMap_cons,List.flatMap_nil,List.append_nil]
 rw [<- h1,<-rdirB_append,<-rdirB_append]
 congr 1
 rw [List.singleton_append,List.getElem_cons_drop,List.take_append_drop]
theorem rdirB_at {sl:List Slot} {q:Nat} (h:q < sl.length):((rdirB sl).drop (64 * q)).take 64=rslotB sl[q]:=by
 have hl:(rdirB (sl.take q)).length=64 * q:=by rw [rdirB_length,List.length_take];omega
 rw [rdirB_split h,<-hl,List.drop_left,List.take_left' (rslotB_length _)]
theorem rsetS_wr {sl:List Slot} {q:Nat} (h:q<=sl.length) (s:Slot):wrB (rdirB sl) (64 * q) (rslotB s)=rdirB (setS sl q s):=by
 have hl:=rdirB_length sl
 have ht:(rdirB (sl.take q)).length=64 * q:=by rw [rdirB_length,List.length_take];omega
 have h1:rdirB (s :: sl.drop (q+1))=rslotB s++rdirB (sl.drop (q+1)):=by unfold rdirB;rw [List.flatMap_cons]
 unfold setS
 rw [rdirB_append,h1]
 unfold wrB splice
 by_cases hq:q < sl.length
 ·have hx:ext (rdirB sl) (64 * q+(rslotB s).length)=rdirB sl:=by
   unfold ext
   rw [rslotB_length,show 64 * q+64 - (rdirB sl).length=0 from by omega,List.replicate_zero,List.append_nil]
  have e1:(rdirB sl).take (64 * q)=rdirB (sl.take q):=by
   rw [rdirB_split hq,List.take_left' ht]
  have e2:(rdirB sl).drop (64 * q+(rslotB s).length)=rdirB (sl.drop (q+1)):=by
   rw [rdirB_split hq,<-List.append_assoc,List.drop_left' (by rw [List.length_append,ht,rslotB_length,rslotB_length])]
  simp only [hx,e1,e2,List.append_assoc]
 ·have hqe:q=sl.length:=by omega
  have e0:sl.take q=sl:=by rw [hqe,List.take_length]
  have e3:sl.drop (q+1)=[]:=List.drop_eq_nil_of_le (by omega)
  rw [e0,e3,show rdirB []=[] from rfl,List.append_nil]
  have e1:(ext (rdirB sl) (64 * q+(rslotB s).length)).take (64 * q)=rdirB sl:=by
   unfold ext
   rw [List.take_left' (by omega)]
  have e2:(ext (rdirB sl) (64 * q+(rslotB s).length)).drop (64 * q+(rslotB s).length)=[]:=by
   refine List.drop_eq_nil_of_le ?_
   unfold ext
   rw [List.length_append,List.length_replicate,rslotB_length];omega
  simp only [e1,e2,List.append_nil]
def slotNm:Slot->Bytes
 | none=>[]
 | some (nm,_)=>nm
def slotNo:Slot->Nat
 | none=>0
 | some (_,i)=>i
def findSl (nm:Bytes):List Slot->Option Nat
 | []=>none
 | s :: r=>if slotNm s=nm then some 0 else (findSl nm r).map (·+1)
theorem findSl_some {nm:Bytes}:∀ {sl:List Slot} {q:Nat},findSl nm sl=some q->∃ h:q < sl.length,slotNm sl[q]=nm/\∀ j (hj:j < q),slotNm (sl[j]'(Nat.lt_trans hj h))≠nm
 | s :: r,q,h=>by
  unfold findSl at h
  split at h
  ·rename_i hs
   injection h with h;subst h
   exact ⟨Nat.zero_lt_succ _,hs,fun j hj=>absurd hj (Nat.not_lt_zero _)⟩
  ·rename_i hs
   obtain ⟨x,hx,rfl⟩:=Option.map_eq_some_iff.1 h
   obtain ⟨h1,h2,h3⟩:=findSl_some hx
   refine ⟨Nat.succ_lt_succ h1,h2,fun j hj=>?_⟩
   cases j with
   | zero=>exact hs
   | succ j=>exact h3 j (Nat.lt_of_succ_lt_succ hj)
theorem findSl_none {nm:Bytes}:∀ {sl:List Slot},findSl nm sl=none->∀ j (hj:j < sl.length),slotNm sl[j]≠nm
 | s :: r,h,j,hj=>by
  unfold findSl at h
  split at h
  ·cases h
  ·rename_i hs
   cases j with
   | zero=>exact hs
   | succ j=>exact findSl_none (Option.map_eq_none_iff.1 h) j (Nat.lt_of_succ_lt_succ hj)
theorem findSl_at {nm:Bytes} {sl:List Slot} {q:Nat} (hq:q < sl.length) (h:slotNm sl[q]=nm) (hb:∀ j (hj:j < q),slotNm (sl[j]'(Nat.lt_trans hj hq))≠nm):findSl nm sl=some q:=by
 cases hf:findSl nm sl with
 | none=>exact absurd h (findSl_none hf q hq)
 | some r =>
  obtain ⟨h1,h2,h3⟩:=findSl_some hf
  rcases Nat.lt_trichotomy r q with hlt | rfl | hgt
  ·exact absurd h2 (hb r hlt)
  ·rfl
  ·exact absurd h (h3 q hgt)
theorem findSl_look {nm:Bytes} (hne:nm≠[]):∀ sl:List Slot,findSl nm sl=(lookS nm sl).map (·.1)
 | []=>rfl
 | none :: r=>by
  unfold findSl lookS
  rw [if_neg (fun h:slotNm none=nm=>hne h.symm),findSl_look hne r]
  cases lookS nm r<;>rfl
 | some (n,i) :: r=>by
  unfold findSl lookS
  by_cases h:n=nm
  ·rw [if_pos h,if_pos (show slotNm (some (n,i))=nm from h)];rfl
  ·rw [if_neg h,if_neg (show slotNm (some (n,i))≠nm from h),findSl_look hne r]
   cases lookS nm r<;>rfl
theorem slotNm_nil {sl:List Slot} (hd:DirOk sl) {j:Nat} (hj:j < sl.length) (h:slotNm sl[j]=[]):sl[j]=none:=by
 cases hs:sl[j] with
 | none=>rfl
 | some x =>
  obtain ⟨n,i⟩:=x
  rw [hs] at h
  have:=(hd.nm j n i (by rw [List.getElem?_eq_getElem hj,hs])).1.1
  have h:n=[]:=h
  subst h
  simp at this
theorem freeS_find {sl:List Slot} (hd:DirOk sl):freeS sl=(findSl [] sl).getD sl.length:=by
 unfold freeS
 cases hf:freeF sl sl.length with
 | some r =>
  obtain ⟨h1,h2,h3⟩:=freeF_some hf
  have h4:sl[r]=none:=by rw [List.getElem?_eq_getElem h1] at h2;injection h2
  rw [findSl_at h1 (by rw [h4];rfl) (fun j hj hn=>by
   have hjl:j < sl.length:=Nat.lt_trans hj h1
   have:=h3 j hj
   rw [List.getElem?_eq_getElem hjl,slotNm_nil hd hjl hn] at this
   exact this rfl)]
  try rfl
 | none =>
  have h3:=freeF_some.freeF_none hf
  cases hg:findSl [] sl with
  | none=>rfl
  | some r =>
   obtain ⟨h1,h2,_⟩:=findSl_some hg
   exact absurd (by rw [List.getElem?_eq_getElem h1,slotNm_nil hd h1 h2]) (h3 r h1)
def NodeT.r:NodeT->Bytes
 | .file b=>b
 | .dir sl=>rdirB sl
theorem NodeT.r_length (x:NodeT):x.r.length=x.size:=by
 cases x with
 | file b=>rfl
 | dir sl=>exact rdirB_length sl
def refK:Option NodeT->Nat
 | none=>0
 | some x=>x.kind
def refBy:Option NodeT->Bytes
 | none=>[]
 | some x=>x.r
theorem refK_zero {o:Option NodeT}:refK o=0 ↔ o=none:=by
 cases o with
 | none=>exact ⟨fun _=>rfl,fun _=>rfl⟩
 | some x=>cases x<;>exact ⟨fun h=>(nomatch h),fun h=>(nomatch h)⟩
def RTOk (T:FT):Prop:=∀ d sl,T d=some (.dir sl)->∀ (q:Nat) (nm:Bytes) (i:Nat),sl[q]?=some (some (nm,i))->i < 65536
structure RRow (el:Nat) (os:List (Nat×Obj)) (o:Option NodeT) (e:Nat×Value):Prop where
 kd:e.1=refK o
 by':(e.2=.slice none 0 0/\refBy o=[]) ∨ ∃ g cap cur fr,e.2=.slice (some ⟨g,0,none⟩) (refBy o).length cap/\(g,Obj.cells cur el fr)∈os/\(refBy o).length<=cap/\cap<=maxLen/\cur.toList.take (refBy o).length=bvs (refBy o)
def rowV (e:Nat×Value):List Value:=[nI e.1,e.2]
theorem rowV_length:∀ L:List (Nat×Value),(L.flatMap rowV).length=L.length * 2
 | []=>rfl
 | r :: L=>by rw [List.flatMap_cons,List.length_append,rowV_length L,List.length_cons];show 2+_=_;omega
theorem rowV_get:∀ {L:List (Nat×Value)} {q:Nat} (h:q < L.length),(L.flatMap rowV)[q * 2]?=some (nI L[q].1)/\(L.flatMap rowV)[q * 2+1]?=some L[q].2
 | r :: L,0,h=>⟨rfl,rfl⟩
 | r :: L,q+1,h=>by
  have ih:=rowV_get (L:=L) (q:=q) (Nat.lt_of_succ_lt_succ h)
  have e:∀ j,((r :: L).flatMap rowV)[(q+1) * 2+j]?=(L.flatMap rowV)[q * 2+j]?:=fun j=>by
   rw [List.flatMap_cons,List.getElem?_append_right (by show 2<=_;omega)]
   congr 1
   show (q+1) * 2+j - 2=_
   omega
  exact ⟨(e 0).trans ih.1,(e 1).trans ih.2⟩
theorem rowV_split {L:List (Nat×Value)} {q:Nat} (h:q < L.length):L.flatMap rowV=(L.take q).flatMap rowV++(rowV L[q]++(L.drop (q+1)).flatMap rowV):=by
 conv=>lhs;rw [<- List.take_append_drop q L,List.drop_eq_getElem_cons h]
 rw [List.flatMap_append,List.flatMap_cons]
theorem rowV_set {L:List (Nat×Value)} {q:Nat} (h:q < L.length) (r:Nat×Value):(L.flatMap rowV).take (q * 2)++rowV r++(L.flatMap rowV).drop (q * 2+2)=(L.set q r).flatMap rowV:=by
 have h2:((L.take q).flatMap rowV).length=q * 2:=by rw [rowV_length,List.length_take];omega
 have h3:(L.flatMap rowV).take (q * 2)=(L.take q).flatMap rowV:=by rw [rowV_split h,List.take_left' h2]
 have h4:(L.flatMap rowV).drop (q * 2+2)=(L.drop (q+1)).flatMap rowV:=by rw [rowV_split h,<-List.append_assoc,List.drop_left' (by rw [List.length_append,h2];rfl)]
 rw [h3,h4,List.set_eq_take_append_cons_drop,if_pos h,List.flatMap_append,List.flatMap_cons,List.append_assoc]
theorem rowV_set1 {L:List (Nat×Value)} {q:Nat} (h:q < L.length) (v:Value):(L.flatMap rowV).set (q * 2+1) v=(L.set q (L[q].1,v)).flatMap rowV:=by
 rw [<- rowV_set h (L[q].1,v)]
 have h2:((L.take q).flatMap rowV).length=q * 2:=by rw [rowV_length,List.length_take];omega
 have h3:(L.flatMap rowV).take (q * 2)=(L.take q).flatMap rowV:=by rw [rowV_split h,List.take_left' h2]
 have h4:(L.flatMap rowV).drop (q * 2+2)=(L.drop (q+1)).flatMap rowV:=by rw [rowV_split h,<-List.append_assoc,List.drop_left' (by rw [List.length_append,h2];rfl)]
 rw [h3,h4]
 conv=>lhs;rw [rowV_split h]
 rw [List.set_append_right _ _ (by omega),h2,show q * 2+1 - q * 2=1 from by omega,List.append_assoc]
 rfl
def someB (n c:Nat):Bytes:=(List.range n).map fun i=>UInt8.ofNat (c+i / 7)
theorem someB_length (n c:Nat):(someB n c).length=n:=by simp [someB]
def partB (f:Nat->UInt8) (n k:Nat):Bytes:=(List.range n).map fun j=>if j < k then f j else 0
theorem partB_length (f:Nat->UInt8) (n k:Nat):(partB f n k).length=n:=by simp [partB]
theorem partB_zero (f:Nat->UInt8) (n:Nat):partB f n 0=List.replicate n 0:=by
 unfold partB
 simp only [Nat.not_lt_zero,if_false]
 rw [List.map_const',List.length_range]
theorem partB_all (f:Nat->UInt8) (n:Nat):partB f n n=(List.range n).map f:=by
 unfold partB
 apply List.map_congr_left
 intro j hj
 rw [if_pos (List.mem_range.1 hj)]
theorem partB_set (f:Nat->UInt8) {n k:Nat} (h:k < n):(partB f n k).set k (f k)=partB f n (k+1):=by
 apply List.ext_getElem
 ·simp [partB]
 ·intro j h1 h2
  simp only [partB,List.getElem_set,List.getElem_map,List.getElem_range]
  by_cases hj:k=j
  ·subst hj;rw [if_pos rfl,if_pos (by omega)]
  ·rw [if_neg hj]
   by_cases h3:j < k
   ·rw [if_pos h3,if_pos (by omega)]
   ·rw [if_neg h3,if_neg (by omega)]
theorem wrap_ofNat (v:Nat):Value.int .u8 (IntKind.u8.wrap (v:Int))=bv (UInt8.ofNat v):=by
 unfold bv
 rw [IntKind.wrap_u8,UInt8.toNat_ofNat']
 congr 1
theorem alikeSome {n c:Nat} (hn:n<=100000) (hc:c<=100000):Spec Tryz.prog 19 #[.int .i64 (n:Int),.int .i64 (c:Int)] [] fun F v M=>∃ b,v=.slice (some ⟨b,0,none⟩) n n/\M=buf b 5 n (bvs (someB n c)) :: F:=by
 refine Spec.intro Tryz.func19 rfl rfl fun B F=>?_
 simp only [Tryz.ntmps19,List.cons_append,List.nil_append,env0,Nat.reduceAdd]
 refine .sr (.assign (.x (.move ?_)))
 refine .mkS (k:=(n:Int)) z5 (fun b8=>?_) so33 (by omega) (by omega) (by omega)
 refine .cast (d:=8) (u:=.slice (some ⟨b8,0,none⟩) n n) rfl (by rw [Int.toNat_natCast]) ?_
 refine .to (A:=buf b8 5 (n:Int).toNat (List.replicate (n:Int).toNat (.int .u8 0))) (A':=buf b8 5 n (bvs (partB (fun i=>UInt8.ofNat (c+i / 7)) n 0))) (fun h hh=>by rw [partB_zero,bvs_replicate];rw [Int.toNat_natCast] at hh;exact hh) ?_
 refine .assign (.z (.seq (.sr (.assign (.z (.block ?_))))))
 refine .loopA (σ:=Nat) (fun i=>[(0,.int .i64 (n:Int)),(1,.int .i64 (c:Int)),(5,.slice (some ⟨b8,0,none⟩) n n),(6,.int .i64 (i:Int))]) (fun i=>buf b8 5 n (bvs (partB (fun i=>UInt8.ofNat (c+i / 7)) n i)) :: F) (fun i=>i<=n) (fun i=>n - i) 0 (Nat.zero_le _) ?_
 rintro i hi
 refine .seq (.sr (.move (.move ?_)))
 refine .lss ?_
 refine .z ?_
 refine .cond rfl (fun hb=>?_) (fun hb=>?_)
 ·have hlt:i < n:=by have:=of_decide_eq_true hb;omega
  refine .skip (.next (.seq (.block (.region (.move (.move (.move (.move ?_))))))))
  refine .quo ?_
  refine .add ?_
  refine .cast (d:=19) (u:=.int .i64 ((c+i / 7:Nat):Int)) rfl (congrArg (Value.int .i64) (by omega)) ?_
  refine .cvt ?_ un3 un5
  refine .cast (d:=20) (u:=bv (UInt8.ofNat (c+i / 7))) rfl (wrap_ofNat _) ?_
  refine .idx1 ?_ so33
  refine .stB ?_ sc5 (show 0+((i:Nat):Int).toNat < (bvs (partB (fun i=>UInt8.ofNat (c+i / 7)) n i)).length by rw [bvs_length,partB_length];omega)
  refine .nil (.blockNormal (.next (.region (.move ?_))))
  refine .add ?_
  refine .assign (.nil ?_)
  refine .to (A:=buf b8 5 n ((bvs (partB (fun i=>UInt8.ofNat (c+i / 7)) n i)).set (0+((i:Nat):Int).toNat) (bv (UInt8.ofNat (c+i / 7))))) (A':=buf b8 5 n (bvs (partB (fun i=>UInt8.ofNat (c+i / 7)) n (i+1)))) (fun h hh=>by rw [<- partB_set (fun i=>UInt8.ofNat (c+i / 7)) hlt,bvs_set];rw [show 0+((i:Nat):Int).toNat=i from by omega] at hh;exact hh) ?_
  refine .cast (d:=6) (u:=.int .i64 ((i+1:Nat):Int)) rfl (congrArg (Value.int .i64) (by omega)) ?_
  exact .back (i+1) (by omega) (by omega)
 ·have hge:¬ i < n:=by have:=of_decide_eq_false hb;omega
  have hin:i=n:=by omega
  subst hin
  refine .exit (.thenExit (.thenExit (.blockExit (?_))))
  refine .next (.sr (.move (.assign (.z ?_))))
  refine .ret (?_)
  refine .to (A:=buf b8 5 i (bvs (partB (fun i=>UInt8.ofNat (c+i / 7)) i i))) (A':=buf b8 5 i (bvs (someB i c))) (fun h hh=>by rw [partB_all] at hh;exact hh) ?_
  exact .ret1 (h1:=.tmp (t:=4) rfl) ⟨_,⟨b8,rfl,rfl⟩,Am.auto⟩
theorem alikeBytes {R R':HP} {A A':Option Addr} {n c n' c':Nat} {xs ys:Bytes} (hR:xs=[] ∨ Reads R A (bvs xs)) (hR':ys=[] ∨ Reads R' A' (bvs ys)) (hn:xs.length=n) (hn':ys.length=n') (hb1:n<=9223372036854775807):Spec Tryz.prog 49 #[.slice A n c,.slice A' n' c'] [R,R'] fun F v M=>v=.bool (decide (xs=ys))/\M=R :: R' :: F:=by
 refine Spec.intro Tryz.func49 rfl rfl fun B F=>?_
 simp only [Tryz.ntmps49,List.cons_append,List.nil_append,env0,Nat.reduceAdd]
 by_cases hne:n=n'
 ·refine .sr (.assign (.z (.seq (.sr (.move ?_)))))
  refine .lenS ?_ sl33
  refine .move ?_
  refine .lenS ?_ sl33
  refine .nei ?_
  refine .z ?_
  refine .condF rfl (congrArg Value.bool (by first|simp;done|simp;omega|omega)) ?_
  refine .skip (.next (.seq (.sr (.assign (.z (.block ?_))))))
  refine .loopA (σ:=Nat) (fun i=>[(0,.slice A n c),(1,.slice A' n' c'),(5,.int .i64 (i:Int))]) (fun i=>R :: R' :: F) (fun i=>i<=n/\∀ j < i,xs.getD j 0=ys.getD j 0) (fun i=>n - i) 0 ⟨Nat.zero_le _,fun j hj=>by omega⟩ ?_
  rintro i hi
  refine .seq (.sr (.move (.move ?_)))
  refine .lenS ?_ sl33
  refine .lss ?_
  refine .z ?_
  refine .cond rfl (fun hb=>?_) (fun hb=>?_)
  ·have hlt:i < n:=by have:=of_decide_eq_true hb;omega
   have hRx:=hR.resolve_left (by intro h0;rw [h0] at hn;simp at hn;omega)
   have hRy:=hR'.resolve_left (by intro h0;rw [h0] at hn';simp at hn';omega)
   rcases A with _ | ⟨ab,ao,asp⟩
   ·exact absurd hRx (fun h0=>by have h2:bvs xs=[]:=h0;have:=congrArg List.length h2;rw [bvs_length,List.length_nil] at this;omega)
   rcases A' with _ | ⟨ab',ao',asp'⟩
   ·exact absurd hRy (fun h0=>by have h2:bvs ys=[]:=h0;have:=congrArg List.length h2;rw [bvs_length,List.length_nil] at this;omega)
   have hsp:asp=none:=hRx.1
   subst hsp
   have hsp':asp'=none:=hRy.1
   subst hsp'
   refine .skip (.next (.seq (.block (.seq ?_))))
   refine .dr ([R,R']) [] 9 mixed .autoJ ?_
   refine .tk 0 rfl .move ?_
   refine .tk 1 rfl .move ?_
   refine .tk 2 rfl (.idx1 so33) ?_
   refine .tk 3 rfl (Qt.ldR (i:=((i:Nat):Int).toNat) sc5 hRx (bvs_get (by omega))) ?_
   refine .tk 4 rfl .move ?_
   refine .tk 5 rfl .move ?_
   refine .tk 6 rfl (.idx1 so33) ?_
   refine .tk 7 rfl (Qt.ldR (i:=((i:Nat):Int).toNat) sc5 hRy (bvs_get (by omega))) ?_
   refine .tk 8 rfl .nei ?_
   refine .fin ?_
   by_cases hxy:xs.getD i 0=ys.getD i 0
   ·refine .next ?_
    refine .condF rfl (congrArg Value.bool ((by rw [Int.toNat_natCast,hxy];simp))) ?_
    refine .skip (.blockNormal (.next (.region (.move ?_))))
    refine .add ?_
    refine .assign (.nil ?_)
    refine .cast (d:=5) (u:=.int .i64 ((i+1:Nat):Int)) rfl (congrArg (Value.int .i64) (by omega)) ?_
    exact .back (i+1) ⟨by show i+1<=n;omega,fun j hj=>by by_cases hji:j=i;(rw [hji];exact hxy);exact hi.2 j (by omega)⟩ (by omega)
   ·refine .next ?_
    refine .condT rfl (congrArg Value.bool ((by rw [Int.toNat_natCast];simp only [Bool.not_eq_true',decide_eq_false_iff_not];intro hh;exact hxy (UInt8.toNat_inj.1 (by omega))))) ?_
    refine .sr (.assign (.z ?_))
    refine .ret (.blockRet (.thenRet (.thenRet (.blockRet (.thenRet (?_))))))
    exact .ret1 (h1:=.tmp (t:=4) rfl) ⟨_,⟨congrArg Value.bool (by symm;exact decide_eq_false (fun hh=>hxy (by rw [hh]))),rfl⟩,Am.auto⟩
  ·have hge:¬ i < n:=by have:=of_decide_eq_false hb;omega
   have hall:xs=ys:=by
    apply List.ext_getElem (by omega)
    intro j h1 h2
    have:=hi.2 j (by omega)
    rw [List.getD_eq_getElem?_getD,List.getD_eq_getElem?_getD,List.getElem?_eq_getElem h1,List.getElem?_eq_getElem h2] at this
    exact this
   refine .exit (.thenExit (.thenExit (.blockExit (?_))))
   refine .next (.sr (.assign (.z ?_)))
   refine .ret (?_)
   exact .ret1 (h1:=.tmp (t:=4) rfl) ⟨_,⟨congrArg Value.bool (decide_eq_true hall).symm,rfl⟩,Am.auto⟩
 ·refine .sr (.assign (.z (.seq (.sr (.move ?_)))))
  refine .lenS ?_ sl33
  refine .move ?_
  refine .lenS ?_ sl33
  refine .nei ?_
  refine .z ?_
  refine .condT rfl (congrArg Value.bool (by first|simp;done|simp;omega|omega)) ?_
  refine .sr (.assign (.z ?_))
  refine .ret (.thenRet (?_))
  exact .ret1 (h1:=.tmp (t:=4) rfl) ⟨_,⟨congrArg Value.bool (by symm;exact decide_eq_false (fun hh=>hne (by rw [<- hn,<-hn',hh]))),rfl⟩,Am.auto⟩
theorem rfName {xs:Bytes} (hl:xs.length<=1000000):Spec Tryz.prog 277 #[sv xs] [] fun F v M=>v=.bool (nameOk xs)/\M=F:=by
 refine Spec.intro Tryz.func277 rfl rfl fun B F=>?_
 simp only [Tryz.ntmps277,List.cons_append,List.nil_append,env0,Nat.reduceAdd]
 by_cases h1:xs=[]
 ·have hno:nameOk xs=false:=by unfold nameOk;rw [decide_eq_true h1];rfl
  refine .sr (.assign (.z (.seq (.sr (.move ?_)))))
  refine .eqS xs [] ?_
  refine .cast (d:=5) (u:=.bool true) rfl (congrArg Value.bool (decide_eq_true h1)) ?_
  refine .move ?_
  refine .gF ?_
  refine .gF ?_
  refine .gF ?_
  refine .pickT ?_
  refine .move ?_
  refine .gF ?_
  refine .gF ?_
  refine .pickT ?_
  refine .move ?_
  refine .gF ?_
  refine .gF ?_
  refine .pickT ?_
  refine .z ?_
  refine .condT rfl rfl ?_
  refine .sr (.assign (.z ?_))
  refine .ret (.thenRet (?_))
  exact .ret1 (h1:=.tmp (t:=2) rfl) ⟨_,⟨by rw [hno],rfl⟩,Am.auto⟩
 ·by_cases h5:50 < xs.length
  ·have hno:nameOk xs=false:=by unfold nameOk;rw [decide_eq_false (show ¬ xs.length<=50 by omega)];simp
   refine .sr (.assign (.z (.seq (.sr (.move ?_)))))
   refine .eqS xs [] ?_
   refine .cast (d:=5) (u:=.bool false) rfl (congrArg Value.bool (decide_eq_false h1)) ?_
   refine .move ?_
   refine .gT ?_
   refine .move ?_
   refine .gT ?_
   refine .lenT _ ?_ st9
   refine .gT ?_
   refine .gtr ?_
   refine .pickF ?_
   refine .move ?_
   refine .cast (d:=11) (u:=.bool true) rfl (congrArg Value.bool (by first|simp;done|simp;omega|omega)) ?_
   refine .gF ?_
   refine .gF ?_
   refine .pickT ?_
   refine .move ?_
   refine .gF ?_
   refine .gF ?_
   refine .pickT ?_
   refine .z ?_
   refine .condT rfl rfl ?_
   refine .sr (.assign (.z ?_))
   refine .ret (.thenRet (?_))
   exact .ret1 (h1:=.tmp (t:=2) rfl) ⟨_,⟨by rw [hno],rfl⟩,Am.auto⟩
  ·by_cases h9:xs=[46]
   ·have hno:nameOk xs=false:=by unfold nameOk;rw [decide_eq_true h9];simp
    refine .sr (.assign (.z (.seq (.sr (.move ?_)))))
    refine .eqS xs [] ?_
    refine .cast (d:=5) (u:=.bool false) rfl (congrArg Value.bool (decide_eq_false h1)) ?_
    refine .move ?_
    refine .gT ?_
    refine .move ?_
    refine .gT ?_
    refine .lenT _ ?_ st9
    refine .gT ?_
    refine .gtr ?_
    refine .pickF ?_
    refine .move ?_
    refine .cast (d:=11) (u:=.bool false) rfl (congrArg Value.bool (by first|simp;done|simp;omega|omega)) ?_
    refine .gT ?_
    refine .move ?_
    refine .gT ?_
    refine .eqS xs [46] ?_
    refine .cast (d:=13) (u:=.bool true) rfl (congrArg Value.bool (decide_eq_true h9)) ?_
    refine .pickF ?_
    refine .move ?_
    refine .gF ?_
    refine .gF ?_
    refine .pickT ?_
    refine .z ?_
    refine .condT rfl rfl ?_
    refine .sr (.assign (.z ?_))
    refine .ret (.thenRet (?_))
    exact .ret1 (h1:=.tmp (t:=2) rfl) ⟨_,⟨by rw [hno],rfl⟩,Am.auto⟩
   ·by_cases h13:xs=[46,46]
    ·have hno:nameOk xs=false:=by unfold nameOk;rw [decide_eq_true h13];simp
     refine .sr (.assign (.z (.seq (.sr (.move ?_)))))
     refine .eqS xs [] ?_
     refine .cast (d:=5) (u:=.bool false) rfl (congrArg Value.bool (decide_eq_false h1)) ?_
     refine .move ?_
     refine .gT ?_
     refine .move ?_
     refine .gT ?_
     refine .lenT _ ?_ st9
     refine .gT ?_
     refine .gtr ?_
     refine .pickF ?_
     refine .move ?_
     refine .cast (d:=11) (u:=.bool false) rfl (congrArg Value.bool (by first|simp;done|simp;omega|omega)) ?_
     refine .gT ?_
     refine .move ?_
     refine .gT ?_
     refine .eqS xs [46] ?_
     refine .cast (d:=13) (u:=.bool false) rfl (congrArg Value.bool (decide_eq_false h9)) ?_
     refine .pickF ?_
     refine .move ?_
     refine .gT ?_
     refine .move ?_
     refine .gT ?_
     refine .eqS xs [46,46] ?_
     refine .cast (d:=17) (u:=.bool true) rfl (congrArg Value.bool (decide_eq_true h13)) ?_
     refine .pickF ?_
     refine .z ?_
     refine .condT rfl rfl ?_
     refine .sr (.assign (.z ?_))
     refine .ret (.thenRet (?_))
     exact .ret1 (h1:=.tmp (t:=2) rfl) ⟨_,⟨by rw [hno],rfl⟩,Am.auto⟩
    ·refine .sr (.assign (.z (.seq (.sr (.move ?_)))))
     refine .eqS xs [] ?_
     refine .cast (d:=5) (u:=.bool false) rfl (congrArg Value.bool (decide_eq_false h1)) ?_
     refine .move ?_
     refine .gT ?_
     refine .move ?_
     refine .gT ?_
     refine .lenT _ ?_ st9
     refine .gT ?_
     refine .gtr ?_
     refine .pickF ?_
     refine .move ?_
     refine .cast (d:=11) (u:=.bool false) rfl (congrArg Value.bool (by first|simp;done|simp;omega|omega)) ?_
     refine .gT ?_
     refine .move ?_
     refine .gT ?_
     refine .eqS xs [46] ?_
     refine .cast (d:=13) (u:=.bool false) rfl (congrArg Value.bool (decide_eq_false h9)) ?_
     refine .pickF ?_
     refine .move ?_
     refine .gT ?_
     refine .move ?_
     refine .gT ?_
     refine .eqS xs [46,46] ?_
     refine .cast (d:=17) (u:=.bool false) rfl (congrArg Value.bool (decide_eq_false h13)) ?_
     refine .pickF ?_
     refine .z ?_
     refine .condF rfl rfl ?_
     refine .skip (.next (.seq (.sr (.assign (.z (.block ?_))))))
     refine .loopA (σ:=Nat) (fun k=>[(0,sv xs),(3,.int .i64 ((k:Nat):Int))]) (fun _=>F) (fun k=>k<=xs.length/\∀ j,j < k->∀ h:j < xs.length,xs[j]≠47/\xs[j]≠0) (fun k=>xs.length - k) 0 ⟨Nat.zero_le _,fun j hj=>absurd hj (Nat.not_lt_zero _)⟩ ?_
     rintro k hk
     refine .seq (.sr (.move (.move ?_)))
     refine .lenT _ ?_ st9
     refine .lss ?_
     refine .z ?_
     refine .cond rfl (fun hb=>?_) (fun hb=>?_)
     ·have hlt:k < xs.length:=by have h:(k:Int) < (xs.length:Int):=of_decide_eq_true hb;omega
      have hx:xs[((k:Nat):Int).toNat]?=some xs[k]:=by rw [Int.toNat_natCast];exact List.getElem?_eq_getElem hlt
      by_cases hz:xs[k]=0
      ·have hz2:xs[k].toNat=0:=by rw [hz];rfl
       have hno:nameOk xs=false:=by unfold nameOk;rw [sepIn_yes hlt (.inr hz)];simp
       refine .skip (.next (.seq (.block (.sr (.move (.move ?_))))))
       refine .ixT (p:=(k:Int)) (v:=xs[k]) xs ?_ st9 hx
       refine .eqi ?_
       refine .move ?_
       refine .cast (d:=29) (u:=.bool true) rfl (congrArg Value.bool (by first|simp;done|simp;omega|omega)) ?_
       refine .gF ?_
       refine .gF ?_
       refine .gF ?_
       refine .gF ?_
       refine .pickT ?_
       refine .z ?_
       refine .condT rfl rfl ?_
       refine .sr (.assign (.z ?_))
       refine .ret (.blockRet (.thenRet (.thenRet (.blockRet (.thenRet (?_))))))
       exact .ret1 (h1:=.tmp (t:=2) rfl) ⟨_,⟨by rw [hno],rfl⟩,Am.auto⟩
      ·have hz2:¬ xs[k].toNat=0:=fun h=>hz (UInt8.toNat_inj.1 h)
       by_cases hs:xs[k]=47
       ·have hs2:xs[k].toNat=47:=by rw [hs];rfl
        have hno:nameOk xs=false:=by unfold nameOk;rw [sepIn_yes hlt (.inl hs)];simp
        refine .skip (.next (.seq (.block (.sr (.move (.move ?_))))))
        refine .ixT (p:=(k:Int)) (v:=xs[k]) xs ?_ st9 hx
        refine .eqi ?_
        refine .move ?_
        refine .cast (d:=29) (u:=.bool false) rfl (congrArg Value.bool (by first|simp;done|simp;omega|omega)) ?_
        refine .gT ?_
        refine .move ?_
        refine .gT ?_
        refine .move ?_
        refine .gT ?_
        refine .ixT (p:=(k:Int)) (v:=xs[k]) xs ?_ st9 hx
        refine .gT ?_
        refine .eqi ?_
        refine .pickF ?_
        refine .z ?_
        refine .condT rfl (congrArg Value.bool (by first|simp;done|simp;omega|omega)) ?_
        refine .sr (.assign (.z ?_))
        refine .ret (.blockRet (.thenRet (.thenRet (.blockRet (.thenRet (?_))))))
        exact .ret1 (h1:=.tmp (t:=2) rfl) ⟨_,⟨by rw [hno],rfl⟩,Am.auto⟩
       ·have hs2:¬ xs[k].toNat=47:=fun h=>hs (UInt8.toNat_inj.1 h)
        refine .skip (.next (.seq (.block (.sr (.move (.move ?_))))))
        refine .ixT (p:=(k:Int)) (v:=xs[k]) xs ?_ st9 hx
        refine .eqi ?_
        refine .move ?_
        refine .cast (d:=29) (u:=.bool false) rfl (congrArg Value.bool (by first|simp;done|simp;omega|omega)) ?_
        refine .gT ?_
        refine .move ?_
        refine .gT ?_
        refine .move ?_
        refine .gT ?_
        refine .ixT (p:=(k:Int)) (v:=xs[k]) xs ?_ st9 hx
        refine .gT ?_
        refine .eqi ?_
        refine .pickF ?_
        refine .z ?_
        refine .condF rfl (congrArg Value.bool (by first|simp;done|simp;omega|omega)) ?_
        refine .skip (.blockNormal (.next (.region (.move ?_))))
        refine .add ?_
        refine .assign (.nil ?_)
        refine .cast (d:=3) (u:=.int .i64 ((k+1:Nat):Int)) rfl (congrArg (Value.int .i64) (by omega)) ?_
        exact .back (k+1) ⟨by show k+1<=xs.length;omega,fun j hj hjl=>(Nat.lt_or_ge j k).elim (fun h=>hk.2 j h hjl) (fun h=>by have h2:j=k:=(by omega);subst h2;exact ⟨hs,hz⟩)⟩ (by show xs.length - (k+1) < xs.length - k;omega)
     ·have hge:k=xs.length:=by have h:¬ (k:Int) < (xs.length:Int):=of_decide_eq_false hb;omega
      have hyes:nameOk xs=true:=by
       unfold nameOk
       rw [sepIn_no (fun j hj=>hk.2 j (by omega) hj),decide_eq_false h1,decide_eq_false h9,decide_eq_false h13,decide_eq_true (show xs.length<=50 by omega)];rfl
      refine .exit (.thenExit (.thenExit (.blockExit (?_))))
      refine .next (.sr (.assign (.z ?_)))
      refine .ret (?_)
      exact .ret1 (h1:=.tmp (t:=2) rfl) ⟨_,⟨by rw [hyes],rfl⟩,Am.auto⟩
theorem rfNeed {n:Nat} (hn:n<=1000000000):Spec Tryz.prog 197 #[nI n] [] fun F v M=>v=nI (has n)/\M=F:=by
 refine Spec.intro Tryz.func197 rfl rfl fun B F=>?_
 simp only [Tryz.ntmps197,List.cons_append,List.nil_append,env0,Nat.reduceAdd]
 by_cases h:dat n<=10
 ·have hh:has n=dat n:=by unfold has;rw [if_pos h]
  refine .sr (.assign (.x (.move ?_)))
  refine .add ?_
  refine .sub ?_
  refine .quo ?_
  refine .cast (d:=7) (u:=nI (dat n)) rfl (congrArg (Value.int .i64) (by unfold dat;omega)) ?_
  refine .assign (.z (.seq (.sr (.move ?_))))
  refine .gtr ?_
  refine .z ?_
  refine .condF rfl (congrArg Value.bool (by first|simp;done|simp;omega|omega)) ?_
  refine .skip (.next (.sr (.move (.assign (.z ?_)))))
  refine .ret (?_)
  exact .ret1 (h1:=.tmp (t:=2) rfl) ⟨_,⟨by rw [hh],rfl⟩,Am.auto⟩
 ·have hd:dat n<=2000000:=by unfold dat;omega
  have hh:has n=dat n+1:=by unfold has;rw [if_neg h]
  refine .sr (.assign (.x (.move ?_)))
  refine .add ?_
  refine .sub ?_
  refine .quo ?_
  refine .cast (d:=7) (u:=nI (dat n)) rfl (congrArg (Value.int .i64) (by unfold dat;omega)) ?_
  refine .assign (.z (.seq (.sr (.move ?_))))
  refine .gtr ?_
  refine .z ?_
  refine .condT rfl (congrArg Value.bool (by first|simp;done|simp;omega|omega)) ?_
  refine .region (.move ?_)
  refine .add ?_
  refine .assign (.x (.move (.assign (.z ?_))))
  refine .ret (?_)
  exact .ret1 (h1:=.tmp (t:=2) rfl) ⟨_,⟨by rw [hh];rfl,rfl⟩,Am.auto⟩
def stN (nm:Bytes) (k:Nat):Bytes:=UInt8.ofNat nm.length :: (nm.take k++List.replicate (63 - k) 0)
theorem stN_length {nm:Bytes} {k:Nat} (hk:k<=nm.length) (hn:nm.length<=50):(stN nm k).length=64:=by
 unfold stN
 rw [List.length_cons,List.length_append,List.length_take,List.length_replicate];omega
theorem stN_start (nm:Bytes):(List.replicate 64 (0:UInt8)).set 0 (UInt8.ofNat nm.length)=stN nm 0:=rfl
theorem stN_step {nm:Bytes} {k:Nat} (hk:k < nm.length) (hn:nm.length<=50):(stN nm k).set (k+1) nm[k]=stN nm (k+1):=by
 have hl:(nm.take k).length=k:=by rw [List.length_take];omega
 unfold stN
 rw [List.set_cons_succ,List.set_append_right _ _ (by omega),hl,Nat.sub_self,List.take_succ_eq_append_getElem hk,List.append_assoc,show 63 - k=(63 - (k+1))+1 from by omega,List.replicate_succ,List.set_cons_zero]
 rfl
theorem stN_end {nm:Bytes} (hn:nm.length<=50) (a b:UInt8):((stN nm nm.length).set 60 a).set 61 b=UInt8.ofNat nm.length :: ((nm++List.replicate 59 0).take 59++[a,b,0,0]):=by
 have h1:nm++List.replicate (63 - nm.length) 0=(nm++List.replicate (59 - nm.length) 0)++[0,0,0,0]:=by
  rw [List.append_assoc,show 63 - nm.length=(59 - nm.length)+4 from by omega,<-List.replicate_append_replicate];rfl
 have h2:(nm++List.replicate 59 0).take 59=nm++List.replicate (59 - nm.length) (0:UInt8):=by
  rw [List.take_append,List.take_of_length_le (by omega),List.take_replicate,Nat.min_eq_left (by omega)]
 have h3:(nm++List.replicate (59 - nm.length) (0:UInt8)).length=59:=by rw [List.length_append,List.length_replicate];omega
 unfold stN
 rw [List.take_length,h1,h2,List.set_cons_succ,List.set_cons_succ,List.set_append_right _ _ (by omega),List.set_append_right _ _ (by omega),h3]
 rfl
theorem shr8 (i:Nat):((i:Int).fdiv (2 ^ (min (8:Int).toNat IntKind.i64.bits)))=((i / 256:Nat):Int):=by
 show (i:Int).fdiv 256=_
 rw [Int.fdiv_eq_ediv_of_nonneg _ (by decide)];omega
theorem rfSlot {nm:Bytes} {i:Nat} (hn:nm.length<=50) (hi:i < 65536):Spec Tryz.prog 239 #[sv nm,nI i] [] fun F v M=>∃ b,v=.slice (some ⟨b,0,none⟩) 64 64/\M=buf b 5 64 (bvs (rslotB (some (nm,i)))) :: F:=by
 refine Spec.intro Tryz.func239 rfl rfl fun B F=>?_
 simp only [Tryz.ntmps239,List.cons_append,List.nil_append,env0,Nat.reduceAdd]
 refine .sr (.assign (.x ?_))
 refine .mkSN 64 z5 so33 (by decide) (by decide) fun b7=>?_
 refine .to (A:=buf b7 5 64 (List.replicate 64 (.int .u8 0))) (A':=buf b7 5 64 (bvs (List.replicate 64 0))) (fun h hh=>by rw [bvs_replicate];exact hh) ?_
 refine .assign (.x (.move (.move ?_)))
 refine .lenT _ ?_ st9
 refine .cvt ?_ un3 un5
 refine .cast (d:=11) (u:=bv (UInt8.ofNat nm.length)) rfl (wrap_ofNat _) ?_
 refine .idx1 ?_ so33
 refine .stB (i:=0+(0:Int).toNat) (xs:=bvs (List.replicate 64 0)) (v:=bv (UInt8.ofNat nm.length)) ?_ sc5 (by rw [bvs_length,List.length_replicate];decide)
 refine .to (A:=buf b7 5 64 ((bvs (List.replicate 64 0)).set (0+(0:Int).toNat) (bv (UInt8.ofNat nm.length)))) (A':=buf b7 5 64 (bvs (stN nm 0))) (fun h hh=>by rw [<- stN_start,bvs_set];exact hh) ?_
 refine .z (.seq (.sr (.assign (.z (.block ?_)))))
 refine .loopA (σ:=Nat) (fun k=>[(0,sv nm),(1,nI i),(5,.slice (some ⟨b7,0,none⟩) 64 64),(6,.int .i64 ((k:Nat):Int))]) (fun k=>buf b7 5 64 (bvs (stN nm k)) :: F) (fun k=>k<=nm.length) (fun k=>nm.length - k) 0 (Nat.zero_le _) ?_
 rintro k hk
 refine .seq (.sr (.move (.move ?_)))
 refine .lenT _ ?_ st9
 refine .lss ?_
 refine .z ?_
 refine .cond rfl (fun hb=>?_) (fun hb=>?_)
 ·have hlt:k < nm.length:=by have h:(k:Int) < (nm.length:Int):=of_decide_eq_true hb;omega
  have hx:nm[((k:Nat):Int).toNat]?=some nm[k]:=by rw [Int.toNat_natCast];exact List.getElem?_eq_getElem hlt
  refine .skip (.next (.seq (.block (.region (.move (.move ?_))))))
  refine .add ?_
  refine .move (.move ?_)
  refine .ixT (p:=(k:Int)) (v:=nm[k]) nm ?_ st9 hx
  refine .idx1 ?_ so33
  refine .stB (i:=0+(1+((k:Nat):Int)).toNat) (xs:=bvs (stN nm k)) (v:=bv nm[k]) ?_ sc5 (by rw [bvs_length,stN_length (by omega) hn];omega)
  refine .to (A:=buf b7 5 64 ((bvs (stN nm k)).set (0+(1+((k:Nat):Int)).toNat) (bv nm[k]))) (A':=buf b7 5 64 (bvs (stN nm (k+1)))) (fun h hh=>by rw [<- stN_step hlt hn,bvs_set];rw [show 0+(1+((k:Nat):Int)).toNat=k+1 from by omega] at hh;exact hh) ?_
  refine .nil (.blockNormal (.next (.region (.move ?_))))
  refine .add ?_
  refine .assign (.nil ?_)
  refine .cast (d:=6) (u:=.int .i64 ((k+1:Nat):Int)) rfl (congrArg (Value.int .i64) (by omega)) ?_
  exact .back (k+1) (by show k+1<=nm.length;omega) (by show nm.length - (k+1) < nm.length - k;omega)
 ·have hge:k=nm.length:=by have h:¬ (k:Int) < (nm.length:Int):=of_decide_eq_false hb;omega
  subst hge
  refine .exit (.thenExit (.thenExit (.blockExit (?_))))
  refine .next (.sr (.move (.move ?_)))
  refine .cvt ?_ un3 un5
  refine .cast (d:=28) (u:=bv (UInt8.ofNat i)) rfl (wrap_ofNat _) ?_
  refine .idx1 ?_ so33
  refine .stB (i:=0+(60:Int).toNat) (xs:=bvs (stN nm nm.length)) (v:=bv (UInt8.ofNat i)) ?_ sc5 (by rw [bvs_length,stN_length (Nat.le_refl _) hn];decide)
  refine .to (A:=buf b7 5 64 ((bvs (stN nm nm.length)).set (0+(60:Int).toNat) (bv (UInt8.ofNat i)))) (A':=buf b7 5 64 (bvs ((stN nm nm.length).set 60 (UInt8.ofNat i)))) (fun h hh=>by rw [bvs_set];exact hh) ?_
  refine .x (.move (.move ?_))
  refine .shr ?_
  refine .cast (d:=32) (u:=nI (i / 256)) rfl (congrArg (Value.int .i64) (shr8 i)) ?_
  refine .cvt ?_ un3 un5
  refine .cast (d:=33) (u:=bv (UInt8.ofNat (i / 256))) rfl (wrap_ofNat _) ?_
  refine .idx1 ?_ so33
  refine .stB (i:=0+(61:Int).toNat) (xs:=bvs ((stN nm nm.length).set 60 (UInt8.ofNat i))) (v:=bv (UInt8.ofNat (i / 256))) ?_ sc5 (by rw [bvs_length,List.length_set,stN_length (Nat.le_refl _) hn];decide)
  refine .to (A:=buf b7 5 64 ((bvs ((stN nm nm.length).set 60 (UInt8.ofNat i))).set (0+(61:Int).toNat) (bv (UInt8.ofNat (i / 256))))) (A':=buf b7 5 64 (bvs (rslotB (some (nm,i))))) (fun h hh=>by rw [show rslotB (some (nm,i))=_ from (stN_end hn _ _).symm,bvs_set];exact hh) ?_
  refine .x (.move (.assign (.z ?_)))
  refine .ret (?_)
  exact .ret1 (h1:=.tmp (t:=4) rfl) ⟨_,⟨b7,rfl,rfl⟩,Am.auto⟩
theorem bor_i64 (a b:Nat) (ha:a < 256) (hb:b < 256):bor .i64 (a:Int) ((b * 256:Nat):Int)=((a+b * 256:Nat):Int):=by
 have h:bor .i64 (a:Int) ((b * 256:Nat):Int)=IntKind.i64.wrap ((a ||| (b * 256):Nat):Int):=by
  unfold bor
  congr 2
  rw [BitVec.toNat_or]
  rw [show IntKind.i64.bits=64 from rfl,ofInt_nat64 _ (by omega),ofInt_nat64 _ (by omega)]
 have hor:a ||| (b * 256)=a+b * 256:=by
  have:=Nat.two_pow_add_eq_or_of_lt (i:=8) (b:=a) (by omega) b
  rw [Nat.or_comm,show b * 256=2 ^ 8 * b from by omega,<-this];omega
 rw [h,hor,IntWalk.i64_in _ (by omega)]
theorem slot_lo {n:Nat}:(UInt8.ofNat n).toNat=n % 256:=UInt8.toNat_ofNat' ..
theorem rslotB_parts {s:Slot} (hs:(slotNm s).length<=50):(bvs (rslotB s))[0]?=some (bv (UInt8.ofNat (slotNm s).length))/\(bvs (rslotB s))[60]?=some (bv (UInt8.ofNat (slotNo s)))/\(bvs (rslotB s))[61]?=some (bv (UInt8.ofNat (slotNo s / 256)))/\((rslotB s).drop 1).take (slotNm s).length=slotNm s:=by
 cases s with
 | none=>exact ⟨rfl,rfl,rfl,rfl⟩
 | some x =>
  obtain ⟨nm,i⟩:=x
  have hs:nm.length<=50:=hs
  have hl:((nm++List.replicate 59 (0:UInt8)).take 59).length=59:=by rw [List.length_take,List.length_append,List.length_replicate];omega
  have g:∀ j,(bvs (rslotB (some (nm,i))))[60+j]?=(bvs [UInt8.ofNat i,UInt8.ofNat (i / 256),0,0])[j]?:=by
   intro j
   unfold bvs rslotB
   rw [List.getElem?_map,List.getElem?_map,show 60+j=(59+j)+1 from by omega,List.getElem?_cons_succ,List.getElem?_append_right (by omega),hl,show 59+j - 59=j from by omega]
  refine ⟨rfl,g 0,g 1,?_⟩
  show (((nm++List.replicate 59 (0:UInt8)).take 59++[UInt8.ofNat i,UInt8.ofNat (i / 256),0,0])).take nm.length=nm
  rw [List.take_append_of_le_length (by omega),List.take_take,Nat.min_eq_left (by omega),List.take_left']
  rfl
theorem rfAt {R:HP} {A:Option Addr} {m c k:Nat} {bs:Bytes} {s:Slot} (hR:Reads R A (bvs bs)) (hm:bs.length=m) (hk:64 * k+64<=m) (hmc:m<=c) (hm2:m<=1000000) (hs:(bs.drop (64 * k)).take 64=rslotB s) (hnl:(slotNm s).length<=50) (hno:slotNo s < 65536):Spec Tryz.prog 258 #[.slice A m c,nI k] [R] fun F v M=>v=.tuple #[sv (slotNm s),nI (slotNo s)]/\M=R :: F:=by
 refine Spec.intro Tryz.func258 rfl rfl fun B F=>?_
 simp only [Tryz.ntmps258,List.cons_append,List.nil_append,env0,Nat.reduceAdd]
 rcases A with _ | ⟨ab,ao,asp⟩
 ·exact absurd (congrArg List.length (show bvs bs=[] from hR)) (by rw [bvs_length];simp only [List.length_nil];omega)
 have hsp:asp=none:=hR.1
 subst hsp
 have hx:Reads R (some ⟨ab,ao+64 * k,none⟩) (bvs (rslotB s)):=by
  have:=(hR.drop (64 * k)).take 64
  rwa [<- bvs_drop,<-bvs_take,hs] at this
 obtain ⟨g0,g60,g61,gn⟩:=rslotB_parts hnl
 have hxl:=rslotB_length s
 have hxn:Reads R (some ⟨ab,ao+64 * k+1,none⟩) (bvs (slotNm s)):=by
  have:=(hx.drop 1).take (slotNm s).length
  rwa [<- bvs_drop,<-bvs_take,gn] at this
 obtain ⟨ln,hln⟩:∃ ln,(slotNm s).length=ln:=⟨_,rfl⟩
 rw [hln] at g0 hnl
 obtain ⟨no,hnn⟩:∃ no,slotNo s=no:=⟨_,rfl⟩
 rw [hnn] at g60 g61 hno ⊢
 have c0:IntKind.i64.wrap ((UInt8.ofNat ln).toNat:Int)=(ln:Int):=by rw [slot_lo,IntWalk.i64_in _ (by omega)];omega
 have c1:IntKind.i64.wrap ((UInt8.ofNat no).toNat:Int)=((no % 256:Nat):Int):=by rw [slot_lo,IntWalk.i64_in _ (by omega)]
 have c2:IntKind.i64.wrap ((UInt8.ofNat (no / 256)).toNat:Int)=((no / 256:Nat):Int):=by rw [slot_lo,IntWalk.i64_in _ (by omega)];omega
 have c3:IntKind.i64.wrap (((no / 256:Nat):Int) * 2 ^ (min (8:Int).toNat IntKind.i64.bits))=((no / 256 * 256:Nat):Int):=by
  have h8:(2:Int) ^ (min (8:Int).toNat IntKind.i64.bits)=256:=by decide
  rw [h8,IntWalk.i64_in _ (by omega)];omega
 have c4:bor .i64 ((no % 256:Nat):Int) ((no / 256 * 256:Nat):Int)=(no:Int):=by rw [bor_i64 _ _ (by omega) (by omega)];omega
 refine .sr (.assign (.assign (.x (.move (.move ?_)))))
 refine .mul ?_
 refine .move ?_
 refine .mul ?_
 refine .add ?_
 refine .slcLH ?_ so33
 refine .cast (d:=13) (u:=.slice (some ⟨ab,ao+64 * k,none⟩) 64 (c - 64 * k)) rfl (by rw [show (64 * ((k:Nat):Int)).toNat=64 * k from by omega,show (64 * ((k:Nat):Int)+64).toNat - 64 * k=64 from by omega,if_neg (by omega),Nat.mul_one]) ?_
 refine .assign (.z (.seq ?_))
 refine .dr ([R]) [] 20 mixed .autoJ ?_
 refine .tk 0 rfl .move ?_
 refine .tk 1 rfl .move ?_
 refine .tk 2 rfl (.idx1 so33) ?_
 refine .tk 3 rfl (Qt.ldR (i:=(0:Int).toNat) sc5 hx g0) ?_
 refine .tk 4 rfl ((Qt.cvt un5 un3).eq (v':=nI ln) (congrArg (Value.int .i64) c0)) ?_
 refine .tk 5 rfl .add ?_
 refine .tk 6 rfl ((Qt.slcLH (p:=1) (q:=1+(ln:Int)) so33 (hp:=by omega)).eq (v':=.slice (some ⟨ab,ao+64 * k+1,none⟩) ln (c - 64 * k - 1)) (by rw [show (1:Int).toNat=1 from rfl,if_neg (by omega),show (1+(ln:Int)).toNat - 1=ln from by omega])) ?_
 refine .tk 7 rfl (Qt.cvtBS by33 st9 hxn hln) ?_
 refine .tk 8 rfl .move ?_
 refine .tk 9 rfl (.idx1 so33) ?_
 refine .tk 10 rfl (Qt.ldR (i:=(60:Int).toNat) sc5 hx g60) ?_
 refine .tk 11 rfl ((Qt.cvt un5 un3).eq (v':=nI (no % 256)) (congrArg (Value.int .i64) c1)) ?_
 refine .tk 12 rfl .move ?_
 refine .tk 13 rfl (.idx1 so33) ?_
 refine .tk 14 rfl (Qt.ldR (i:=(61:Int).toNat) sc5 hx g61) ?_
 refine .tk 15 rfl ((Qt.cvt un5 un3).eq (v':=nI (no / 256)) (congrArg (Value.int .i64) c2)) ?_
 refine .tk 16 rfl ((Qt.shl).eq (v':=nI (no / 256 * 256)) (congrArg (Value.int .i64) c3)) ?_
 refine .tk 17 rfl ((Qt.or).eq (v':=nI no) (congrArg (Value.int .i64) c4)) ?_
 refine .tk 18 rfl .assign ?_
 refine .tk 19 rfl .assign ?_
 refine .fin ?_
 refine .next ?_
 refine .ret (?_)
 exact .ret2 (h1:=.tmp (t:=4) rfl) (h2:=.tmp (t:=5) rfl) ⟨_,⟨rfl,rfl⟩,Am.auto⟩
theorem WL.subLH {P:Program} {B:Base} {n:Fr} {Q:Exit->Act->World->Prop} {e:Env} {L:List HP} {ops:Array Oper} {l:List Oper} {d:Nat} {ty:TypeId} {pos:String} {af:Array Edge} {x y z:Operand} {t:Nat} {p q:Int} (xs:Bytes) (h:WL P B n ops l Q ((d,sv ((xs.drop p.toNat).take (q.toNat - p.toNat))) :: e) L) (ht:strOk P t=true) (hx:evo e x=some (sv xs):=by rfl) (hy:evo e y=some (.int .i64 p):=by rfl) (hz:evo e z=some (.int .i64 q):=by rfl) (hp:0<=p/\p<=q/\q<=xs.length:=by omega) (hd:Nat.ble (d+1) n.k=true:=by rfl) :
  WL P B n ops (⟨some d,.slice t x (some y) (some z) none,ty,pos,af,none⟩ :: l) Q e L:=by
 refine WL.pure h hd ?_
 intro a w ha hs
 have h1:(0<=p/\p<=q)/\q<=((bstr xs).size:Int):=by rw [bstr_size];omega
 have h2:(bstr xs).extract p.toNat q.toNat=bstr ((xs.drop p.toNat).take (q.toNat - p.toNat)):=by
  apply ByteArray.ext
  simp [bstr,ByteArray.data_extract,List.drop_take]
 have:(Instr.sliceAt t (sv xs) (some (.int .i64 p)) (some (.int .i64 q)) none).run P w=.ok (sv ((xs.drop p.toNat).take (q.toNat - p.toNat))) w:=by
  rw [sv_bstr,sv_bstr,<-h2]
  have h3:0<=q:=by omega
  have h4:max q 0=q:=by omega
  have h5:¬ q < p:=by omega
  simp [h4,h5,Instr.sliceAt,Instr.slice,run_underlying (str_of ht),Instr.sliceBounds,Instr.sliceBound,asIntOf,h1.1.1,h1.1.2,h1.2,h3]
 simp [execOp,ha.eval hx,ha.eval hy,ha.eval hz,this]
theorem bsS1 (a:ByteArray):BuildSOk Tryz.prog 92 1 [(0,.string a)] 9 #[.string a]:=fun w=>by kernel_rfl
structure NmI (path:Bytes) (i from_:Nat) (l:List Bytes):Prop where
 f1:1<=from_
 fi:from_<=i
 il:i<=path.length+1
 ns:∀ j,from_<=j->j < i->j < path.length->path[j]?≠some 47
 sp:splitSl (path.drop 1)=l++(if from_<=path.length then splitSl (path.drop from_) else [])
 ok:∀ x∈l,nameOk x=true
theorem NmI.start {path:Bytes} (h:1<=path.length):NmI path 1 1 []:=⟨Nat.le_refl _,Nat.le_refl _,by omega,fun j h1 h2=>by omega,by rw [if_pos h];rfl,fun x hx=>by cases hx⟩
theorem NmI.on {path:Bytes} {i f:Nat} {l:List Bytes} (h:NmI path i f l) (hi:i < path.length) (hn:path[i]?≠some 47):NmI path (i+1) f l:=by
 refine ⟨h.f1,by have:=h.fi;omega,by omega,fun j h1 h2 h3=>?_,h.sp,h.ok⟩
 by_cases hj:j=i
 ·subst hj;exact hn
 ·exact h.ns j h1 (by omega) h3
def nmSeg (path:Bytes) (i f:Nat):Bytes:=(path.drop f).take (i - f)
theorem NmI.part {path:Bytes} {i f:Nat} {l:List Bytes} (h:NmI path i f l) (hi:i<=path.length) (hs:i < path.length->path[i]?=some 47):splitSl (path.drop 1)=(l++[nmSeg path i f])++(if i+1<=path.length then splitSl (path.drop (i+1)) else []):=by
 have hfi:=h.fi
 rw [h.sp,if_pos (by omega),List.append_assoc]
 congr 1
 unfold nmSeg
 by_cases hl:i < path.length
 ·rw [if_pos (by omega)]
  have h1:(path.drop f)[i - f]?=some 47:=by rw [List.getElem?_drop,show f+(i - f)=i from by omega];exact hs hl
  have h2:∀ k:Nat,k < i - f->(path.drop f)[k]?≠some 47:=fun k hk=>by rw [List.getElem?_drop];exact h.ns _ (by omega) (by omega) (by omega)
  rw [splitSl_step h1 h2,List.drop_drop,show f+(i - f+1)=i+1 from by omega]
  rfl
 ·have hil:i=path.length:=by omega
  rw [if_neg (by omega),List.append_nil]
  have h2:∀ k:Nat,(path.drop f)[k]?≠some 47:=fun k hk=>by
   have hkl:k < (path.drop f).length:=(List.getElem?_eq_some_iff.1 hk).1
   rw [List.length_drop] at hkl
   rw [List.getElem?_drop] at hk
   exact h.ns _ (by omega) (by omega) (by omega) hk
  rw [splitSl_none h2,List.take_of_length_le (by rw [List.length_drop];omega)]
theorem NmI.step {path:Bytes} {i f:Nat} {l:List Bytes} (h:NmI path i f l) (hi:i<=path.length) (hs:i < path.length->path[i]?=some 47) (hn:nameOk (nmSeg path i f)=true):NmI path (i+1) (i+1) (l++[nmSeg path i f]):=by
 have hf1:=h.f1
 have hfi:=h.fi
 refine ⟨by omega,Nat.le_refl _,by omega,fun j h1 h2=>by omega,h.part hi hs,fun x hx=>?_⟩
 rcases List.mem_append.1 hx with hx | hx
 ·exact h.ok x hx
 ·simp only [List.mem_cons,List.not_mem_nil,or_false] at hx
  subst hx;exact hn
theorem partsT_long {path:Bytes} (h:path≠[47]) (h0:path[0]?=some 47):partsT path=if 8 < (splitSl (path.drop 1)).length then none else if (splitSl (path.drop 1)).all nameOk then some (splitSl (path.drop 1)) else none:=by
 cases path with
 | nil=>cases h0
 | cons x r =>
  have hx:x=47:=by simpa using h0
  subst hx
  have hr:r≠[]:=fun hr=>h (by rw [hr])
  show (if (47:UInt8)=47 then (if r=[] then some [] else if 8 < (splitSl r).length then none else if (splitSl r).all nameOk then some (splitSl r) else none) else none)=_
  rw [if_pos rfl,if_neg hr];rfl
theorem partsT_bad {path:Bytes} (h:path=[] ∨ path[0]?≠some 47):partsT path=none:=by
 cases path with
 | nil=>rfl
 | cons x r =>
  rcases h with h | h
  ·cases h
  ·have hx:x≠47:=fun hx=>h (by rw [hx];rfl)
   show (if x=47 then _ else none)=none
   rw [if_neg hx]
theorem splitSl_few (xs:Bytes):(splitSl xs).length<=xs.length+1:=by
 rw [splitSl_len]
 have:Lib.countByte xs 47<=xs.length:=List.count_le_length
 omega
theorem rNames {path:Bytes} (hl:path.length<=100000):Spec Tryz.prog 235 #[sv path] [] fun F v M=>(∃ l u,partsT path=some l/\v=.tuple #[u,.bool true]/\M=rowR 9 1 u l.length (svs l) :: F) ∨ (partsT path=none/\(∃ u,v=.tuple #[u,.bool false])/\M=F):=by
 refine Spec.intro Tryz.func235 rfl rfl fun B F=>?_
 simp only [Tryz.ntmps235,List.cons_append,List.nil_append,env0,Nat.reduceAdd]
 by_cases h1:path=[47]
 ·refine .sr (.assign (.assign (.z (.seq (.sr (.move ?_))))))
  refine .eqS path [47] ?_
  refine .cast (d:=8) (u:=.bool true) rfl (congrArg Value.bool (decide_eq_true h1)) ?_
  refine .z ?_
  refine .condT rfl rfl ?_
  refine .sr (.assign ?_)
  refine .emp (rowR.nil (e:=9) (size:=1) _) ?_
  refine .assign (.z ?_)
  refine .ret (.thenRet (?_))
  exact .ret2 (h1:=.tmp (t:=2) rfl) (h2:=.tmp (t:=3) rfl) ⟨_,.inl ⟨[],.slice none 0 0,by rw [h1];rfl,rfl,rfl⟩,Am.auto⟩
 ·by_cases h2:path=[]
  ·refine .sr (.assign (.assign (.z (.seq (.sr (.move ?_))))))
   refine .eqS path [47] ?_
   refine .cast (d:=8) (u:=.bool false) rfl (congrArg Value.bool (decide_eq_false h1)) ?_
   refine .z ?_
   refine .condF rfl rfl ?_
   refine .skip (.next (.seq (.sr (.move ?_))))
   refine .eqS path [] ?_
   refine .cast (d:=10) (u:=.bool true) rfl (congrArg Value.bool (decide_eq_true h2)) ?_
   refine .move ?_
   refine .gF ?_
   refine .gF ?_
   refine .gF ?_
   refine .pickT ?_
   refine .z ?_
   refine .condT rfl rfl ?_
   refine .sr (.assign (.assign (.z ?_)))
   refine .ret (.thenRet (?_))
   exact .ret2 (h1:=.tmp (t:=2) rfl) (h2:=.tmp (t:=3) rfl) ⟨_,.inr ⟨partsT_bad (.inl h2),⟨_,rfl⟩,rfl⟩,Am.auto⟩
  ·obtain ⟨b0,hb0⟩:∃ b,path[(0:Int).toNat]?=some b:=by
    cases path with
    | nil=>exact absurd rfl h2
    | cons x r=>exact ⟨x,rfl⟩
   have hpl:1<=path.length:=List.length_pos_iff.2 h2
   by_cases h3:b0=47
   ·have h3n:b0.toNat=47:=by rw [h3];rfl
    have hpt:=partsT_long h1 (by rw [<- h3];exact hb0)
    have hfw:=splitSl_few (path.drop 1)
    rw [List.length_drop] at hfw
    refine .sr (.assign (.assign (.z (.seq (.sr (.move ?_))))))
    refine .eqS path [47] ?_
    refine .cast (d:=8) (u:=.bool false) rfl (congrArg Value.bool (decide_eq_false h1)) ?_
    refine .z ?_
    refine .condF rfl rfl ?_
    refine .skip (.next (.seq (.sr (.move ?_))))
    refine .eqS path [] ?_
    refine .cast (d:=10) (u:=.bool false) rfl (congrArg Value.bool (decide_eq_false h2)) ?_
    refine .move ?_
    refine .gT ?_
    refine .move ?_
    refine .gT ?_
    refine .ixT (p:=0) (v:=b0) path ?_ st9 hb0
    refine .gT ?_
    refine .nei ?_
    refine .pickF ?_
    refine .z ?_
    refine .condF rfl (congrArg Value.bool (by first | rfl | (simp;done) | (simp;omega) | omega)) ?_
    refine .skip (.next (.sr (.assign ?_)))
    refine .emp (rowR.nil (e:=9) (size:=1) _) ?_
    refine .x (.assign (.z (.seq (.sr (.assign (.z (.block ?_)))))))
    refine .loopA (σ:=Nat×Nat×List Bytes×Option Addr×Nat) (fun y=>[(0,sv path),(4,.slice y.2.2.2.1 y.2.2.1.length y.2.2.2.2),(5,.int .i64 ((y.2.1:Nat):Int)),(6,.int .i64 ((y.1:Nat):Int))]) (fun y=>rowR 9 1 (.slice y.2.2.2.1 y.2.2.1.length y.2.2.2.2) y.2.2.1.length (svs y.2.2.1) :: F) (fun y=>NmI path y.1 y.2.1 y.2.2.1/\¬ (y.2.1<=path.length/\y.1=path.length+1)) (fun y=>path.length+1 - y.1) (1,1,[],none,0) ⟨NmI.start hpl,fun h=>by have h2:1=path.length+1:=h.2;omega⟩ ?_
    rintro y hy
    obtain ⟨i,f,l,U,cu⟩:=y
    obtain ⟨hn,hll⟩:=hy
    simp only at hn hll ⊢
    have hfi:=hn.fi
    have hf1:=hn.f1
    have hil:=hn.il
    refine .seq (.sr (.move (.move ?_)))
    refine .lenT _ ?_ st9
    refine .leq ?_
    refine .z ?_
    refine .cond rfl (fun hb=>?_) (fun hb=>?_)
    ·have hle:i<=path.length:=by have h:(i:Int)<=(path.length:Int):=of_decide_eq_true hb;omega
     by_cases hlt:i < path.length
     ·obtain ⟨bi,hbi⟩:∃ b,path[((i:Nat):Int).toNat]?=some b:=⟨_,List.getElem?_eq_getElem (by omega)⟩
      have hbi2:path[i]?=some bi:=by rw [Int.toNat_natCast] at hbi;exact hbi
      by_cases h47:bi=47
      ·have h47n:bi.toNat=47:=by rw [h47];rfl
       have hs:i < path.length->path[i]?=some 47:=fun _=>by rw [<- h47];exact hbi2
       refine .skip (.next (.seq (.block (.seq (.sr (.move (.move ?_)))))))
       refine .lenT _ ?_ st9
       refine .lss ?_
       refine .move ?_
       refine .cast (d:=26) (u:=.bool true) rfl (congrArg Value.bool (by first | rfl | (simp;done) | (simp;omega) | omega)) ?_
       refine .gT ?_
       refine .move ?_
       refine .gT ?_
       refine .move ?_
       refine .gT ?_
       refine .ixT (p:=(i:Int)) (v:=bi) path ?_ st9 hbi
       refine .gT ?_
       refine .nei ?_
       refine .pickT ?_
       refine .z ?_
       refine .condF rfl (congrArg Value.bool (by first | rfl | (simp;done) | (simp;omega) | omega)) ?_
       refine .skip (.next (.seq (.sr ?_)))
       have hpart:=hn.part hle hs
       obtain ⟨sg,hsg⟩:∃ sg,nmSeg path i f=sg:=⟨_,rfl⟩
       have hsgl:sg.length<=100000:=by rw [<- hsg];unfold nmSeg;rw [List.length_take,List.length_drop];omega
       have hlk:=congrArg List.length hpart
       rw [List.length_append,List.length_append] at hlk
       simp only [List.length_cons,List.length_nil] at hlk
       cases hno:nameOk sg with
       | false =>
        refine .move (.move (.move ?_))
        refine .subLH (p:=(f:Int)) (q:=(i:Int)) path ?_ st9
        refine .cast (d:=35) (u:=sv sg) rfl (by rw [<- hsg];rfl) ?_
        refine .call (hc:=Tryz.call277) (sp:=rfName (xs:=sg) (by omega)) (h:=?_)
        rintro _ _ ⟨rfl,hM⟩
        obtain rfl:=hM.symm
        rw [hno]
        refine .not ?_
        refine .z ?_
        refine .condT rfl rfl ?_
        refine .sr (.assign (.assign (.z ?_)))
        refine .ret (.thenRet (.blockRet (.thenRet (.thenRet (.blockRet (.thenRet (?_)))))))
        have hall:(splitSl (path.drop 1)).all nameOk=false:=by
         rw [List.all_eq_false]
         exact ⟨sg,by rw [hpart,hsg];simp,by rw [hno];decide⟩
        have hnone:partsT path=none:=by rw [hpt,hall];split<;>rfl
        exact .ret2 (h1:=.tmp (t:=2) rfl) (h2:=.tmp (t:=3) rfl) ⟨_,.inr ⟨hnone,⟨_,rfl⟩,rfl⟩,Am.auto⟩
       | true =>
        refine .move (.move (.move ?_))
        refine .subLH (p:=(f:Int)) (q:=(i:Int)) path ?_ st9
        refine .cast (d:=35) (u:=sv sg) rfl (by rw [<- hsg];rfl) ?_
        refine .call (hc:=Tryz.call277) (sp:=rfName (xs:=sg) (by omega)) (h:=?_)
        rintro _ _ ⟨rfl,hM⟩
        obtain rfl:=hM.symm
        rw [hno]
        refine .not ?_
        refine .z ?_
        refine .condF rfl rfl ?_
        refine .skip (.next (.sr (.move (.move (.move (.move ?_))))))
        refine .subLH (p:=(f:Int)) (q:=(i:Int)) path ?_ st9
        refine .cast (d:=42) (u:=sv sg) rfl (by rw [<- hsg];rfl) ?_
        refine .buildS (fun b43=>?_) (bsS1 _)
        refine .append (m:=1) (news:=[sv sg]) so92 (by decide) (by repeat (first | exact .here | apply Rem.there | apply Repl.there | apply Mem.there)) (Reads.pt (cs:=#[sv sg])) (by repeat (first | exact .here | apply Rem.there | apply Repl.there | apply Mem.there)) rfl (by intro x hx;simp only [List.mem_cons,List.not_mem_nil,or_false] at hx;rcases hx with rfl;rfl) (by show l.length+1<=maxLen;unfold maxLen;omega) (by show (l.length+1) * _<=140737488355328;omega) ⟨_,z9,rfl⟩ (fun vB hvB=>?_)
        refine .to (A:=rowR 9 1 vB (l.length+1) (svs l++[sv sg])) (A':=rowR 9 1 vB (l++[sg]).length (svs (l++[sg]))) (fun h hh=>by unfold svs at hh ⊢;rw [List.map_append,List.length_append];exact hh) ?_
        refine .fact (rowR_shape (el:=9) (size:=1) (v:=vB) (k:=(l++[sg]).length) (xs:=svs (l++[sg]))) (fun ⟨A4,c4,hv4,hR4,hk4,hc4,hl4⟩=>?_)
        subst hv4
        refine .assign (.y (.move ?_))
        refine .add ?_
        refine .assign (.nil (.blockNormal (.next (.region (.move ?_)))))
        refine .add ?_
        refine .assign (.nil ?_)
        refine .cast (d:=5) (u:=.int .i64 ((i+1:Nat):Int)) rfl (congrArg (Value.int .i64) (by omega)) ?_
        refine .cast (d:=6) (u:=.int .i64 ((i+1:Nat):Int)) rfl (congrArg (Value.int .i64) (by omega)) ?_
        exact .back (i+1,i+1,l++[sg],A4,c4) ⟨by rw [<- hsg];exact hn.step hle hs (by rw [hsg];exact hno),fun h=>by have h2:i+1<=path.length:=h.1;have h3:i+1=path.length+1:=h.2;omega⟩ (by show path.length+1 - (i+1) < path.length+1 - i;omega)
      ·have h47n:¬ bi.toNat=47:=fun h=>h47 (UInt8.toNat_inj.1 h)
       refine .skip (.next (.seq (.block (.seq (.sr (.move (.move ?_)))))))
       refine .lenT _ ?_ st9
       refine .lss ?_
       refine .move ?_
       refine .cast (d:=26) (u:=.bool true) rfl (congrArg Value.bool (by first | rfl | (simp;done) | (simp;omega) | omega)) ?_
       refine .gT ?_
       refine .move ?_
       refine .gT ?_
       refine .move ?_
       refine .gT ?_
       refine .ixT (p:=(i:Int)) (v:=bi) path ?_ st9 hbi
       refine .gT ?_
       refine .nei ?_
       refine .pickT ?_
       refine .z ?_
       refine .condT rfl (congrArg Value.bool (by first | rfl | (simp;done) | (simp;omega) | omega)) ?_
       refine .exit (.thenExit (.blockExit (?_)))
       refine .next (.region (.move ?_))
       refine .add ?_
       refine .assign (.nil ?_)
       refine .cast (d:=6) (u:=.int .i64 ((i+1:Nat):Int)) rfl (congrArg (Value.int .i64) (by omega)) ?_
       exact .back (i+1,f,l,U,cu) ⟨hn.on hlt (by rw [hbi2];intro h;injection h with h;exact h47 h),fun h=>by have h3:i+1=path.length+1:=h.2;omega⟩ (by show path.length+1 - (i+1) < path.length+1 - i;omega)
     ·have hs:i < path.length->path[i]?=some 47:=fun h=>absurd h hlt
      refine .skip (.next (.seq (.block (.seq (.sr (.move (.move ?_)))))))
      refine .lenT _ ?_ st9
      refine .lss ?_
      refine .move ?_
      refine .cast (d:=26) (u:=.bool false) rfl (congrArg Value.bool (by first | rfl | (simp;done) | (simp;omega) | omega)) ?_
      refine .gF ?_
      refine .gF ?_
      refine .gF ?_
      refine .gF ?_
      refine .pickF ?_
      refine .z ?_
      refine .condF rfl rfl ?_
      refine .skip (.next (.seq (.sr ?_)))
      have hpart:=hn.part hle hs
      obtain ⟨sg,hsg⟩:∃ sg,nmSeg path i f=sg:=⟨_,rfl⟩
      have hsgl:sg.length<=100000:=by rw [<- hsg];unfold nmSeg;rw [List.length_take,List.length_drop];omega
      have hlk:=congrArg List.length hpart
      rw [List.length_append,List.length_append] at hlk
      simp only [List.length_cons,List.length_nil] at hlk
      cases hno:nameOk sg with
      | false =>
       refine .move (.move (.move ?_))
       refine .subLH (p:=(f:Int)) (q:=(i:Int)) path ?_ st9
       refine .cast (d:=35) (u:=sv sg) rfl (by rw [<- hsg];rfl) ?_
       refine .call (hc:=Tryz.call277) (sp:=rfName (xs:=sg) (by omega)) (h:=?_)
       rintro _ _ ⟨rfl,hM⟩
       obtain rfl:=hM.symm
       rw [hno]
       refine .not ?_
       refine .z ?_
       refine .condT rfl rfl ?_
       refine .sr (.assign (.assign (.z ?_)))
       refine .ret (.thenRet (.blockRet (.thenRet (.thenRet (.blockRet (.thenRet (?_)))))))
       have hall:(splitSl (path.drop 1)).all nameOk=false:=by
        rw [List.all_eq_false]
        exact ⟨sg,by rw [hpart,hsg];simp,by rw [hno];decide⟩
       have hnone:partsT path=none:=by rw [hpt,hall];split<;>rfl
       exact .ret2 (h1:=.tmp (t:=2) rfl) (h2:=.tmp (t:=3) rfl) ⟨_,.inr ⟨hnone,⟨_,rfl⟩,rfl⟩,Am.auto⟩
      | true =>
       refine .move (.move (.move ?_))
       refine .subLH (p:=(f:Int)) (q:=(i:Int)) path ?_ st9
       refine .cast (d:=35) (u:=sv sg) rfl (by rw [<- hsg];rfl) ?_
       refine .call (hc:=Tryz.call277) (sp:=rfName (xs:=sg) (by omega)) (h:=?_)
       rintro _ _ ⟨rfl,hM⟩
       obtain rfl:=hM.symm
       rw [hno]
       refine .not ?_
       refine .z ?_
       refine .condF rfl rfl ?_
       refine .skip (.next (.sr (.move (.move (.move (.move ?_))))))
       refine .subLH (p:=(f:Int)) (q:=(i:Int)) path ?_ st9
       refine .cast (d:=42) (u:=sv sg) rfl (by rw [<- hsg];rfl) ?_
       refine .buildS (fun b43=>?_) (bsS1 _)
       refine .append (m:=1) (news:=[sv sg]) so92 (by decide) (by repeat (first | exact .here | apply Rem.there | apply Repl.there | apply Mem.there)) (Reads.pt (cs:=#[sv sg])) (by repeat (first | exact .here | apply Rem.there | apply Repl.there | apply Mem.there)) rfl (by intro x hx;simp only [List.mem_cons,List.not_mem_nil,or_false] at hx;rcases hx with rfl;rfl) (by show l.length+1<=maxLen;unfold maxLen;omega) (by show (l.length+1) * _<=140737488355328;omega) ⟨_,z9,rfl⟩ (fun vB hvB=>?_)
       refine .to (A:=rowR 9 1 vB (l.length+1) (svs l++[sv sg])) (A':=rowR 9 1 vB (l++[sg]).length (svs (l++[sg]))) (fun h hh=>by unfold svs at hh ⊢;rw [List.map_append,List.length_append];exact hh) ?_
       refine .fact (rowR_shape (el:=9) (size:=1) (v:=vB) (k:=(l++[sg]).length) (xs:=svs (l++[sg]))) (fun ⟨A4,c4,hv4,hR4,hk4,hc4,hl4⟩=>?_)
       subst hv4
       refine .assign (.y (.move ?_))
       refine .add ?_
       refine .assign (.nil (.blockNormal (.next (.region (.move ?_)))))
       refine .add ?_
       refine .assign (.nil ?_)
       refine .cast (d:=5) (u:=.int .i64 ((i+1:Nat):Int)) rfl (congrArg (Value.int .i64) (by omega)) ?_
       refine .cast (d:=6) (u:=.int .i64 ((i+1:Nat):Int)) rfl (congrArg (Value.int .i64) (by omega)) ?_
       exact .back (i+1,i+1,l++[sg],A4,c4) ⟨by rw [<- hsg];exact hn.step hle hs (by rw [hsg];exact hno),fun h=>by have h2:i+1<=path.length:=h.1;have h3:i+1=path.length+1:=h.2;omega⟩ (by show path.length+1 - (i+1) < path.length+1 - i;omega)
    ·have hge:i=path.length+1:=by have h:¬ (i:Int)<=(path.length:Int):=of_decide_eq_false hb;omega
     have hff:¬ f<=path.length:=fun hf=>hll ⟨hf,hge⟩
     have hsp:=hn.sp
     rw [if_neg hff,List.append_nil] at hsp
     rw [hsp] at hpt
     have hall:l.all nameOk=true:=by rw [List.all_eq_true];exact hn.ok
     rw [hall] at hpt
     by_cases h8:l.length<=8
     ·refine .exit (.thenExit (.thenExit (.blockExit (?_))))
      refine .next (.sr (.move (.move ?_)))
      refine .lenS ?_ sl92
      refine .leq ?_
      refine .cast (d:=50) (u:=.bool true) rfl (congrArg Value.bool (decide_eq_true (by omega))) ?_
      refine .assign (.assign (.z ?_))
      refine .ret (?_)
      exact .ret2 (h1:=.tmp (t:=2) rfl) (h2:=.tmp (t:=3) rfl) ⟨_,.inl ⟨l,_,by rw [hpt,if_neg (by omega),if_pos rfl],rfl,rfl⟩,Am.auto⟩
     ·refine .exit (.thenExit (.thenExit (.blockExit (?_))))
      refine .next (.sr (.move (.move ?_)))
      refine .lenS ?_ sl92
      refine .leq ?_
      refine .cast (d:=50) (u:=.bool false) rfl (congrArg Value.bool (decide_eq_false (by omega))) ?_
      refine .assign (.assign (.z ?_))
      refine .ret (?_)
      exact .ret2 (h1:=.tmp (t:=2) rfl) (h2:=.tmp (t:=3) rfl) ⟨_,.inr ⟨by rw [hpt,if_pos (by omega)],⟨_,rfl⟩,rfl⟩,Am.auto⟩
   ·have h3n:¬ b0.toNat=47:=fun h=>h3 (UInt8.toNat_inj.1 h)
    refine .sr (.assign (.assign (.z (.seq (.sr (.move ?_))))))
    refine .eqS path [47] ?_
    refine .cast (d:=8) (u:=.bool false) rfl (congrArg Value.bool (decide_eq_false h1)) ?_
    refine .z ?_
    refine .condF rfl rfl ?_
    refine .skip (.next (.seq (.sr (.move ?_))))
    refine .eqS path [] ?_
    refine .cast (d:=10) (u:=.bool false) rfl (congrArg Value.bool (decide_eq_false h2)) ?_
    refine .move ?_
    refine .gT ?_
    refine .move ?_
    refine .gT ?_
    refine .ixT (p:=0) (v:=b0) path ?_ st9 hb0
    refine .gT ?_
    refine .nei ?_
    refine .pickF ?_
    refine .z ?_
    refine .condT rfl (congrArg Value.bool (by first|simp;done|simp;omega|omega)) ?_
    refine .sr (.assign (.assign (.z ?_)))
    refine .ret (.thenRet (?_))
    exact .ret2 (h1:=.tmp (t:=2) rfl) (h2:=.tmp (t:=3) rfl) ⟨_,.inr ⟨partsT_bad (.inr (by rw [show path[0]?=some b0 from hb0];intro h;injection h with h;exact h3 h)),⟨_,rfl⟩,rfl⟩,Am.auto⟩
theorem fo247_1:fieldOk Tryz.prog 247 1 7=true:=by kernel_rfl
theorem sc245:scalarOk Tryz.prog 245=true:=by kernel_rfl
theorem sl245:Tryz.prog.underlying 245=some (.slice 244):=by kernel_rfl
theorem so245:sliceOk Tryz.prog 245 244 2 32=true:=by kernel_rfl
theorem fo244_0:fieldOk Tryz.prog 244 0 0=true:=by kernel_rfl
theorem fo244_1:fieldOk Tryz.prog 244 1 1=true:=by kernel_rfl
theorem rowR_some {el size k:Nat} {v:Value} {xs:List Value} (hk:0 < k):∀ h,rowR el size v k xs h->∃ g cap,v=.slice (some ⟨g,0,none⟩) k cap/\Reads (rowR el size v k xs) (some ⟨g,0,none⟩) xs/\k<=cap/\cap<=maxLen:=by
 intro h hh
 obtain ⟨A,c,hv,hR,h1,h2,_⟩:=rowR_shape h hh
 unfold rowR at hh
 obtain ⟨_,⟨_,h0⟩ | ⟨g,cap,cur,hv2,_⟩⟩:=hh
 ·omega
 ·rw [hv] at hv2
  injection hv2 with e1 _ _
  subst e1
  exact ⟨g,c,hv,hR,h1,h2⟩
structure RT (p:Pl) (T:FT):Prop where
 ok:TOk T
 small:RTOk T
 out:∀ i,p.ino<=i->T i=none
structure RsY where
 u:Value
 L:List (Nat×Value)
 wk:Nat
 mv:Value
 ms:List Int
structure RSP (p:Pl) (T:FT) (os:List (Nat×Obj)) (N:Nat) (y:RsY):Prop where
 len:y.L.length=p.ino
 row:∀ i (h:i < y.L.length),RRow 5 os (T i) y.L[i]
 wk:y.wk<=N
 ml:y.ms.length<=N
def sO (p:Pl) (u:Value) (wk:Nat) (mv:Value):Obj:=.cells #[nI p.n,nI p.ino,nI p.im,nI p.bm,nI p.tb,nI p.da,nI p.dc,u,nI wk,mv] 247 (0,0)
def rsLs (s:Nat) (p:Pl) (y:RsY):List HP:=[pt s (sO p y.u y.wk y.mv),rowR 244 2 y.u p.ino (y.L.flatMap rowV),rowR 3 1 y.mv y.ms.length (ints y.ms)]
def RS (s:Nat) (p:Pl) (T:FT) (os:List (Nat×Obj)) (N:Nat):HP:=fun h=>∃ y,RSP p T os N y/\star (rsLs s p y) h
theorem RS.opens (s:Nat) (p:Pl) (T:FT) (os:List (Nat×Obj)) (N:Nat):Opens (RS s p T os N) (RSP p T os N) (rsLs s p):=⟨fun h hh=>hh,fun x hp h hh=>⟨x,hp,hh⟩⟩
attribute [irreducible] RS
theorem RRow.mono {el:Nat} {os os2:List (Nat×Obj)} {o:Option NodeT} {e:Nat×Value} (h:RRow el os o e) (hs:∀ x∈os,x∈os2):RRow el os2 o e:=by
 refine ⟨h.kd,?_⟩
 rcases h.by' with h | ⟨g,cap,cur,fr,h1,h2,h3⟩
 ·exact .inl h
 ·exact .inr ⟨g,cap,cur,fr,h1,hs _ h2,h3⟩
theorem RRow.sl {el:Nat} {os:List (Nat×Obj)} {o:Option NodeT} {e:Nat×Value} (h:RRow el os o e):∃ A cap,e.2=.slice A (refBy o).length cap/\(refBy o=[] ∨ Reads (frz os) A (bvs (refBy o)))/\(refBy o).length<=cap/\cap<=maxLen:=by
 rcases h.by' with ⟨h1,h2⟩ | ⟨g,cap,cur,fr,h1,h2,h3,h4,h5⟩
 ·exact ⟨none,0,by rw [h1,h2];rfl,.inl h2,by rw [h2];exact Nat.le_refl _,Nat.zero_le _⟩
 ·refine ⟨some ⟨g,0,none⟩,cap,h1,.inr ?_,h3,h4⟩
  have:=(Reads.frz h2).take (refBy o).length
  rwa [h5] at this
def beginT (T:FT) (d:Nat) (nm:Bytes):Nat:=if nameOk nm then (match T d with
 | none=>4
 | some (.file _)=>6
 | some (.dir _)=>0) else 1
theorem refBy_dir {T:FT} {d:Nat} {sl:List Slot} (h:T d=some (.dir sl)):refBy (T d)=rdirB sl:=by rw [h];rfl
theorem findT_dir {T:FT} {d:Nat} {nm:Bytes} {sl:List Slot} (hn:nameOk nm=true) (h:T d=some (.dir sl)):findT T d nm=match findSl nm sl with
  | some q=>(slotNo (sl.getD q none),0)
  | none=>(0,4):=by
 have hne:nm≠[]:=fun h0=>by subst h0;exact absurd hn (by decide)
 unfold findT
 rw [if_pos hn]
 simp only [h]
 rw [findSl_look hne]
 cases hl:lookS nm sl with
 | none=>rfl
 | some x =>
  obtain ⟨q,i⟩:=x
  have:=lookS_some hl
  show (i,0)=(slotNo (sl.getD q none),0)
  rw [List.getD_eq_getElem?_getD,this];rfl
theorem findT_bad {T:FT} {d:Nat} {nm:Bytes} (h:beginT T d nm≠0):findT T d nm=(0,beginT T d nm):=by
 unfold beginT at h
 unfold findT beginT
 by_cases hn:nameOk nm=true
 ·rw [if_pos hn] at h
  rw [if_pos hn,if_pos hn]
  cases hT:T d with
  | none=>rfl
  | some x =>
   cases x with
   | file b=>rfl
   | dir sl=>simp only [hT] at h;exact absurd rfl h
 ·rw [if_neg hn,if_neg hn]
theorem begin_dir {T:FT} {d:Nat} {nm:Bytes} (h:beginT T d nm=0):nameOk nm=true/\∃ sl,T d=some (.dir sl):=by
 unfold beginT at h
 split at h
 ·rename_i hn
  refine ⟨hn,?_⟩
  split at h
  ·cases h
  ·cases h
  ·rename_i sl hT;exact ⟨sl,hT⟩
 ·cases h
theorem bdStA (a b:Int):BuildOk Tryz.prog 51 [(0,.int .i64 a),(1,.int .i64 b)] #[.int .i64 a,.int .i64 b]:=fun w=>by kernel_rfl
theorem rsThere {s:Nat} {p:Pl} {T:FT} {os:List (Nat×Obj)} {N:Nat} (hi0:1<=p.ino) (hi1:p.ino<=4096) {i:Nat} (hT:RT p T):Spec Tryz.prog 161 #[.pointer (some ⟨s,0,none⟩),nI i] [RS s p T os N] fun F v M=>v=.bool (T i).isSome/\M=RS s p T os N :: F:=by
 refine Spec.intro Tryz.func161 rfl rfl fun B F=>?_
 simp only [Tryz.ntmps161,List.cons_append,List.nil_append,env0,Nat.reduceAdd]
 refine .openR (RS.opens s p T os N) fun y hy=>?_
 obtain ⟨u,L,wk,mv,ms⟩:=y
 simp only [rsLs,List.cons_append,List.nil_append]
 refine .fact (rowR_some (el:=244) (size:=2) (v:=u) (k:=p.ino) (xs:=L.flatMap rowV) (by omega)) (fun ⟨ab,cc,hu,hR,hc1,hc2⟩=>?_)
 subst hu
 have hlen:L.length=p.ino:=hy.len
 by_cases hi:i < p.ino
 ·have hil:i < L.length:=by omega
  have hrow:=hy.row i hil
  obtain ⟨A1,c1,hs1,hr1,hl1,hm1⟩:=hrow.sl
  obtain ⟨e1,hek⟩:∃ e,L[i]=e:=⟨_,rfl⟩
  have hkd:e1.1=refK (T i):=hek ▸ hrow.kd
  have hg0:(L.flatMap rowV)[((i:Nat):Int).toNat * 2+0]?=some (nI e1.1):=by rw [Int.toNat_natCast,<-hek];exact (rowV_get hil).1
  have hg1:(L.flatMap rowV)[((i:Nat):Int).toNat * 2+1]?=some (.slice A1 (refBy (T i)).length c1):=by rw [Int.toNat_natCast,<-hs1];exact (rowV_get hil).2
  rw [hkd] at hg0
  cases hTi:T i with
  | none =>
   rw [hTi] at hg0
   refine .sr (.assign (.x (.move ?_)))
   refine .geq ?_
   refine .move ?_
   refine .cast (d:=7) (u:=.bool true) rfl (congrArg Value.bool (by first|simp;done|simp;omega|omega)) ?_
   refine .gT ?_
   refine .move ?_
   refine .gT ?_
   refine .move ?_
   refine .gT ?_
   refine .nilCheck ?_
   refine .gT ?_
   refine .fa ?_ fo247_1
   refine .gT ?_
   refine .ld ?_ sc245
   refine .gT ?_
   refine .lenS ?_ sl245
   refine .gT ?_
   refine .lss ?_
   refine .pickT ?_
   refine .move ?_
   refine .cast (d:=16) (u:=.bool true) rfl (congrArg Value.bool (by first|simp;done|simp;omega|omega)) ?_
   refine .gT ?_
   refine .move ?_
   refine .gT ?_
   refine .nilCheck ?_
   refine .gT ?_
   refine .fa ?_ fo247_1
   refine .gT ?_
   refine .ld ?_ sc245
   refine .gT ?_
   refine .move ?_
   refine .gT ?_
   refine .idx ?_ so245
   refine .gT ?_
   refine .fa ?_ fo244_0
   refine .gT ?_
   refine .ldR (R:=rowR 244 2 (.slice (some ⟨ab,0,none⟩) p.ino cc) p.ino (L.flatMap rowV)) ?_ sc3 hR hg0
   refine .gT ?_
   refine .nei ?_
   refine .cast (d:=25) (u:=.bool false) rfl rfl ?_
   refine .pickT ?_
   refine .assign (.z ?_)
   refine .ret (?_)
   refine .shutR (RS.opens s p T os N) ⟨.slice (some ⟨ab,0,none⟩) p.ino cc,L,wk,mv,ms⟩ hy ?_
   exact .ret1 (h1:=.tmp (t:=4) rfl) ⟨_,⟨rfl,rfl⟩,Am.auto⟩
  | some x =>
   rw [hTi] at hg0
   have hkz:refK (some x)≠0:=fun h=>by cases (refK_zero.1 h)
   refine .sr (.assign (.x (.move ?_)))
   refine .geq ?_
   refine .move ?_
   refine .cast (d:=7) (u:=.bool true) rfl (congrArg Value.bool (by first|simp;done|simp;omega|omega)) ?_
   refine .gT ?_
   refine .move ?_
   refine .gT ?_
   refine .move ?_
   refine .gT ?_
   refine .nilCheck ?_
   refine .gT ?_
   refine .fa ?_ fo247_1
   refine .gT ?_
   refine .ld ?_ sc245
   refine .gT ?_
   refine .lenS ?_ sl245
   refine .gT ?_
   refine .lss ?_
   refine .pickT ?_
   refine .move ?_
   refine .cast (d:=16) (u:=.bool true) rfl (congrArg Value.bool (by first|simp;done|simp;omega|omega)) ?_
   refine .gT ?_
   refine .move ?_
   refine .gT ?_
   refine .nilCheck ?_
   refine .gT ?_
   refine .fa ?_ fo247_1
   refine .gT ?_
   refine .ld ?_ sc245
   refine .gT ?_
   refine .move ?_
   refine .gT ?_
   refine .idx ?_ so245
   refine .gT ?_
   refine .fa ?_ fo244_0
   refine .gT ?_
   refine .ldR (R:=rowR 244 2 (.slice (some ⟨ab,0,none⟩) p.ino cc) p.ino (L.flatMap rowV)) ?_ sc3 hR hg0
   refine .gT ?_
   refine .nei ?_
   refine .cast (d:=25) (u:=.bool true) rfl (congrArg Value.bool (by rw [decide_eq_false (by omega)];rfl)) ?_
   refine .pickT ?_
   refine .assign (.z ?_)
   refine .ret (?_)
   refine .shutR (RS.opens s p T os N) ⟨.slice (some ⟨ab,0,none⟩) p.ino cc,L,wk,mv,ms⟩ hy ?_
   exact .ret1 (h1:=.tmp (t:=4) rfl) ⟨_,⟨rfl,rfl⟩,Am.auto⟩
 ·have hTi:T i=none:=hT.out i (by omega)
  rw [hTi]
  refine .sr (.assign (.x (.move ?_)))
  refine .geq ?_
  refine .move ?_
  refine .cast (d:=7) (u:=.bool true) rfl (congrArg Value.bool (by first|simp;done|simp;omega|omega)) ?_
  refine .gT ?_
  refine .move ?_
  refine .gT ?_
  refine .move ?_
  refine .gT ?_
  refine .nilCheck ?_
  refine .gT ?_
  refine .fa ?_ fo247_1
  refine .gT ?_
  refine .ld ?_ sc245
  refine .gT ?_
  refine .lenS ?_ sl245
  refine .gT ?_
  refine .lss ?_
  refine .pickT ?_
  refine .move ?_
  refine .cast (d:=16) (u:=.bool false) rfl (congrArg Value.bool (by first|simp;done|simp;omega|omega)) ?_
  refine .gF ?_
  refine .gF ?_
  refine .gF ?_
  refine .gF ?_
  refine .gF ?_
  refine .gF ?_
  refine .gF ?_
  refine .gF ?_
  refine .gF ?_
  refine .pickF ?_
  refine .assign (.z ?_)
  refine .ret (?_)
  refine .shutR (RS.opens s p T os N) ⟨.slice (some ⟨ab,0,none⟩) p.ino cc,L,wk,mv,ms⟩ hy ?_
  exact .ret1 (h1:=.tmp (t:=4) rfl) ⟨_,⟨rfl,rfl⟩,Am.auto⟩
theorem rsStat {s:Nat} {p:Pl} {T:FT} {os:List (Nat×Obj)} {N:Nat} (hi0:1<=p.ino) (hi1:p.ino<=4096) {i:Nat} {x:NodeT} (hT:RT p T) (hTi:T i=some x):Spec Tryz.prog 85 #[.pointer (some ⟨s,0,none⟩),nI i] [RS s p T os N] fun F v M=>v=.tuple #[.agg #[nI x.kind,nI x.size],.int .i64 0]/\M=RS s p T os N :: F:=by
 refine Spec.intro Tryz.func85 rfl rfl fun B F=>?_
 simp only [Tryz.ntmps85,List.cons_append,List.nil_append,env0,Nat.reduceAdd]
 refine .sr ?_
 refine .alloc z51 fun b4=>?_
 refine .assign (.z (.seq (.sr (.move (.move ?_)))))
 refine .call (hc:=Tryz.call161) (sp:=rsThere (s:=s) (p:=p) (T:=T) (os:=os) (N:=N) hi0 hi1 (i:=i) hT) (h:=?_)
 rintro _ _ ⟨rfl,rfl⟩
 rw [hTi]
 refine .not ?_
 refine .z ?_
 refine .condF rfl rfl ?_
 refine .skip (.next (.seq ?_))
 have hi:i < p.ino:=Nat.lt_of_not_le fun h=>by rw [hT.out i h] at hTi;cases hTi
 refine .openR (RS.opens s p T os N) fun y hy=>?_
 obtain ⟨u,L,wk,mv,ms⟩:=y
 simp only [rsLs,List.cons_append,List.nil_append]
 refine .fact (rowR_some (el:=244) (size:=2) (v:=u) (k:=p.ino) (xs:=L.flatMap rowV) (by omega)) (fun ⟨ab,cc,hu,hR,hc1,hc2⟩=>?_)
 subst hu
 have hlen:L.length=p.ino:=hy.len
 have hil:i < L.length:=by omega
 have hrow:=hy.row i hil
 obtain ⟨A1,c1,hs1,hr1,hl1,hm1⟩:=hrow.sl
 obtain ⟨e1,hek⟩:∃ e,L[i]=e:=⟨_,rfl⟩
 have hkd:e1.1=refK (T i):=hek ▸ hrow.kd
 have hg0:(L.flatMap rowV)[((i:Nat):Int).toNat * 2+0]?=some (nI e1.1):=by rw [Int.toNat_natCast,<-hek];exact (rowV_get hil).1
 have hg1:(L.flatMap rowV)[((i:Nat):Int).toNat * 2+1]?=some (.slice A1 (refBy (T i)).length c1):=by rw [Int.toNat_natCast,<-hs1];exact (rowV_get hil).2
 rw [hkd] at hg0
 rw [hTi] at hg0 hg1 hr1 hl1
 have hsz:(refBy (some x)).length=x.size:=x.r_length
 rw [hsz] at hg1
 refine .dr ([pt s (sO p (.slice (some ⟨ab,0,none⟩) p.ino cc) wk mv),rowR 244 2 (.slice (some ⟨ab,0,none⟩) p.ino cc) p.ino (L.flatMap rowV)]) [18] 20 mixed .autoJ ?_
 refine .tk 0 rfl .move ?_
 refine .tk 1 rfl .nilCheck ?_
 refine .tk 2 rfl (.fa fo247_1) ?_
 refine .tk 3 rfl (.ld sc245) ?_
 refine .tk 4 rfl .move ?_
 refine .tk 5 rfl (.idx so245) ?_
 refine .tk 6 rfl (.fa fo244_0) ?_
 refine .tk 7 rfl (Qt.ldR sc3 hR hg0) ?_
 refine .tk 8 rfl .move ?_
 refine .tk 9 rfl .nilCheck ?_
 refine .tk 10 rfl (.fa fo247_1) ?_
 refine .tk 11 rfl (.ld sc245) ?_
 refine .tk 12 rfl .move ?_
 refine .tk 13 rfl (.idx so245) ?_
 refine .tk 14 rfl (.fa fo244_1) ?_
 refine .tk 15 rfl (Qt.ldR sc33 hR hg1) ?_
 refine .tk 16 rfl (.lenS sl33) ?_
 refine .tk 17 rfl (.build (bdStA _ _)) ?_
 refine .on 18 rfl fun hnp=>?_
 refine .stV ?_ agg51
 refine .nil (.wb hnp ?_)
 refine .on 19 rfl fun hnp=>?_
 refine .assign ?_
 refine .nil (.wa hnp ?_)
 refine .fin ?_
 refine .next ?_
 refine .ret (?_)
 refine .shutR (RS.opens s p T os N) ⟨.slice (some ⟨ab,0,none⟩) p.ino cc,L,wk,mv,ms⟩ hy ?_
 exact .ret2 (h2:=.tmp (t:=5) rfl) ⟨_,⟨rfl,rfl⟩,Am.auto⟩
theorem rsStatNo {s:Nat} {p:Pl} {T:FT} {os:List (Nat×Obj)} {N:Nat} (hi0:1<=p.ino) (hi1:p.ino<=4096) {i:Nat} (hT:RT p T) (hTi:T i=none):Spec Tryz.prog 85 #[.pointer (some ⟨s,0,none⟩),nI i] [RS s p T os N] fun F v M=>v=.tuple #[.agg #[nI 0,nI 0],.int .i64 4]/\M=RS s p T os N :: F:=by
 refine Spec.intro Tryz.func85 rfl rfl fun B F=>?_
 simp only [Tryz.ntmps85,List.cons_append,List.nil_append,env0,Nat.reduceAdd]
 refine .sr ?_
 refine .alloc z51 fun b4=>?_
 refine .assign (.z (.seq (.sr (.move (.move ?_)))))
 refine .call (hc:=Tryz.call161) (sp:=rsThere (s:=s) (p:=p) (T:=T) (os:=os) (N:=N) hi0 hi1 (i:=i) hT) (h:=?_)
 rintro _ _ ⟨rfl,rfl⟩
 rw [hTi]
 refine .not ?_
 refine .z ?_
 refine .condT rfl rfl ?_
 refine .sr ?_
 refine .build (cs:=#[nI 0,nI 0]) ?_ (fun w=>by kernel_rfl)
 refine .stV ?_ agg51
 refine .assign (.z ?_)
 refine .ret (.thenRet (?_))
 exact .ret2 (h2:=.tmp (t:=5) rfl) ⟨_,⟨rfl,rfl⟩,Am.auto⟩
theorem rsBeginN {s:Nat} {p:Pl} {T:FT} {os:List (Nat×Obj)} {N:Nat} (hi0:1<=p.ino) (hi1:p.ino<=4096) {d:Nat} {nm:Bytes} (hT:RT p T) (hnl:nm.length<=1000000):Spec Tryz.prog 237 #[.pointer (some ⟨s,0,none⟩),nI d,sv nm] [RS s p T os N] fun F v M=>v=nI (beginT T d nm)/\M=RS s p T os N :: F:=by
 refine Spec.intro Tryz.func237 rfl rfl fun B F=>?_
 simp only [Tryz.ntmps237,List.cons_append,List.nil_append,env0,Nat.reduceAdd]
 cases hn:nameOk nm with
 | false =>
  have hb:beginT T d nm=1:=by unfold beginT;rw [if_neg (by rw [hn];decide)]
  refine .sr (.assign (.z (.seq (.sr (.move ?_)))))
  refine .call (hc:=Tryz.call277) (sp:=rfName (xs:=nm) hnl) (h:=?_)
  rintro _ _ ⟨rfl,hM⟩
  obtain rfl:=hM.symm
  rw [hn]
  refine .not ?_
  refine .z ?_
  refine .condT rfl rfl ?_
  refine .sr (.assign (.z ?_))
  refine .ret (.thenRet (?_))
  exact .ret1 (h1:=.tmp (t:=6) rfl) ⟨_,⟨by rw [hb];rfl,rfl⟩,Am.auto⟩
 | true =>
  cases hTd:T d with
  | none =>
   have hb:beginT T d nm=4:=by unfold beginT;rw [if_pos hn,hTd]
   refine .sr (.assign (.z (.seq (.sr (.move ?_)))))
   refine .call (hc:=Tryz.call277) (sp:=rfName (xs:=nm) hnl) (h:=?_)
   rintro _ _ ⟨rfl,hM⟩
   obtain rfl:=hM.symm
   rw [hn]
   refine .not ?_
   refine .z ?_
   refine .condF rfl rfl ?_
   refine .skip (.next (.seq (.sr (.move (.move ?_)))))
   refine .call (hc:=Tryz.call161) (sp:=rsThere (s:=s) (p:=p) (T:=T) (os:=os) (N:=N) hi0 hi1 (i:=d) hT) (h:=?_)
   rintro _ _ ⟨rfl,rfl⟩
   rw [hTd]
   refine .not ?_
   refine .z ?_
   refine .condT rfl rfl ?_
   refine .sr (.assign (.z ?_))
   refine .ret (.thenRet (?_))
   exact .ret1 (h1:=.tmp (t:=6) rfl) ⟨_,⟨by rw [hb];rfl,rfl⟩,Am.auto⟩
  | some x =>
   cases x with
   | file fb =>
    have hb:beginT T d nm=6:=by unfold beginT;rw [if_pos hn,hTd]
    refine .sr (.assign (.z (.seq (.sr (.move ?_)))))
    refine .call (hc:=Tryz.call277) (sp:=rfName (xs:=nm) hnl) (h:=?_)
    rintro _ _ ⟨rfl,hM⟩
    obtain rfl:=hM.symm
    rw [hn]
    refine .not ?_
    refine .z ?_
    refine .condF rfl rfl ?_
    refine .skip (.next (.seq (.sr (.move (.move ?_)))))
    refine .call (hc:=Tryz.call161) (sp:=rsThere (s:=s) (p:=p) (T:=T) (os:=os) (N:=N) hi0 hi1 (i:=d) hT) (h:=?_)
    rintro _ _ ⟨rfl,rfl⟩
    rw [hTd]
    refine .not ?_
    refine .z ?_
    refine .condF rfl rfl ?_
    refine .skip (.next (.seq (.sr ?_)))
    have hi:d < p.ino:=Nat.lt_of_not_le fun h=>by rw [hT.out d h] at hTd;cases hTd
    refine .openR (RS.opens s p T os N) fun y hy=>?_
    obtain ⟨u,L,wk,mv,ms⟩:=y
    simp only [rsLs,List.cons_append,List.nil_append]
    refine .fact (rowR_some (el:=244) (size:=2) (v:=u) (k:=p.ino) (xs:=L.flatMap rowV) (by omega)) (fun ⟨ab,cc,hu,hR,hc1,hc2⟩=>?_)
    subst hu
    have hlen:L.length=p.ino:=hy.len
    have hil:d < L.length:=by omega
    have hrow:=hy.row d hil
    obtain ⟨A1,c1,hs1,hr1,hl1,hm1⟩:=hrow.sl
    obtain ⟨e1,hek⟩:∃ e,L[d]=e:=⟨_,rfl⟩
    have hkd:e1.1=refK (T d):=hek ▸ hrow.kd
    have hg0:(L.flatMap rowV)[((d:Nat):Int).toNat * 2+0]?=some (nI e1.1):=by rw [Int.toNat_natCast,<-hek];exact (rowV_get hil).1
    have hg1:(L.flatMap rowV)[((d:Nat):Int).toNat * 2+1]?=some (.slice A1 (refBy (T d)).length c1):=by rw [Int.toNat_natCast,<-hs1];exact (rowV_get hil).2
    rw [hkd] at hg0
    rw [hTd] at hg0
    refine .move ?_
    refine .nilCheck ?_
    refine .fa ?_ fo247_1
    refine .ld ?_ sc245
    refine .move ?_
    refine .idx ?_ so245
    refine .fa ?_ fo244_0
    refine .ldR (R:=rowR 244 2 (.slice (some ⟨ab,0,none⟩) p.ino cc) p.ino (L.flatMap rowV)) ?_ sc3 hR hg0
    refine .cast (d:=21) (u:=nI 1) rfl rfl ?_
    refine .nei ?_
    refine .z ?_
    refine .condT rfl (congrArg Value.bool (by first|simp;done|simp;omega|omega)) ?_
    refine .sr (.assign (.z ?_))
    refine .ret (.thenRet (?_))
    refine .shutR (RS.opens s p T os N) ⟨.slice (some ⟨ab,0,none⟩) p.ino cc,L,wk,mv,ms⟩ hy ?_
    exact .ret1 (h1:=.tmp (t:=6) rfl) ⟨_,⟨by rw [hb];rfl,rfl⟩,Am.auto⟩
   | dir sl =>
    have hb:beginT T d nm=0:=by unfold beginT;rw [if_pos hn,hTd]
    refine .sr (.assign (.z (.seq (.sr (.move ?_)))))
    refine .call (hc:=Tryz.call277) (sp:=rfName (xs:=nm) hnl) (h:=?_)
    rintro _ _ ⟨rfl,hM⟩
    obtain rfl:=hM.symm
    rw [hn]
    refine .not ?_
    refine .z ?_
    refine .condF rfl rfl ?_
    refine .skip (.next (.seq (.sr (.move (.move ?_)))))
    refine .call (hc:=Tryz.call161) (sp:=rsThere (s:=s) (p:=p) (T:=T) (os:=os) (N:=N) hi0 hi1 (i:=d) hT) (h:=?_)
    rintro _ _ ⟨rfl,rfl⟩
    rw [hTd]
    refine .not ?_
    refine .z ?_
    refine .condF rfl rfl ?_
    refine .skip (.next (.seq (.sr ?_)))
    have hi:d < p.ino:=Nat.lt_of_not_le fun h=>by rw [hT.out d h] at hTd;cases hTd
    refine .openR (RS.opens s p T os N) fun y hy=>?_
    obtain ⟨u,L,wk,mv,ms⟩:=y
    simp only [rsLs,List.cons_append,List.nil_append]
    refine .fact (rowR_some (el:=244) (size:=2) (v:=u) (k:=p.ino) (xs:=L.flatMap rowV) (by omega)) (fun ⟨ab,cc,hu,hR,hc1,hc2⟩=>?_)
    subst hu
    have hlen:L.length=p.ino:=hy.len
    have hil:d < L.length:=by omega
    have hrow:=hy.row d hil
    obtain ⟨A1,c1,hs1,hr1,hl1,hm1⟩:=hrow.sl
    obtain ⟨e1,hek⟩:∃ e,L[d]=e:=⟨_,rfl⟩
    have hkd:e1.1=refK (T d):=hek ▸ hrow.kd
    have hg0:(L.flatMap rowV)[((d:Nat):Int).toNat * 2+0]?=some (nI e1.1):=by rw [Int.toNat_natCast,<-hek];exact (rowV_get hil).1
    have hg1:(L.flatMap rowV)[((d:Nat):Int).toNat * 2+1]?=some (.slice A1 (refBy (T d)).length c1):=by rw [Int.toNat_natCast,<-hs1];exact (rowV_get hil).2
    rw [hkd] at hg0
    rw [hTd] at hg0
    refine .move ?_
    refine .nilCheck ?_
    refine .fa ?_ fo247_1
    refine .ld ?_ sc245
    refine .move ?_
    refine .idx ?_ so245
    refine .fa ?_ fo244_0
    refine .ldR (R:=rowR 244 2 (.slice (some ⟨ab,0,none⟩) p.ino cc) p.ino (L.flatMap rowV)) ?_ sc3 hR hg0
    refine .cast (d:=21) (u:=nI 2) rfl rfl ?_
    refine .nei ?_
    refine .z ?_
    refine .condF rfl (congrArg Value.bool (by first|simp;done|simp;omega|omega)) ?_
    refine .skip (.next (.sr (.assign (.z ?_))))
    refine .ret (?_)
    refine .shutR (RS.opens s p T os N) ⟨.slice (some ⟨ab,0,none⟩) p.ino cc,L,wk,mv,ms⟩ hy ?_
    exact .ret1 (h1:=.tmp (t:=6) rfl) ⟨_,⟨by rw [hb];rfl,rfl⟩,Am.auto⟩
def findSlV (nm:Bytes) (sl:List Slot):Int:=match findSl nm sl with | some q=>(q:Int) | none=>-1
theorem slot_small {p:Pl} {T:FT} {d:Nat} {sl:List Slot} (hT:RT p T) (hd:T d=some (.dir sl)) {k:Nat} (hk:k < sl.length):(slotNm sl[k]).length<=50/\slotNo sl[k] < 65536:=by
 cases hs:sl[k] with
 | none=>exact ⟨Nat.zero_le _,by decide⟩
 | some x =>
  obtain ⟨n,i⟩:=x
  have h1:sl[k]?=some (some (n,i)):=by rw [List.getElem?_eq_getElem hk,hs]
  exact ⟨((hT.ok d sl hd).1.nm k n i h1).1.2,hT.small d sl hd k n i h1⟩
theorem in_ino {p:Pl} {T:FT} {d:Nat} {x:NodeT} (hT:RT p T) (hd:T d=some x):d < p.ino:=Nat.lt_of_not_le fun h=>by rw [hT.out d h] at hd;cases hd
theorem rsFindSl {s:Nat} {p:Pl} {T:FT} {os:List (Nat×Obj)} {N:Nat} (hi0:1<=p.ino) (hi1:p.ino<=4096) {d:Nat} {nm:Bytes} {sl:List Slot} (hT:RT p T) (hTd:T d=some (.dir sl)):Spec Tryz.prog 238 #[.pointer (some ⟨s,0,none⟩),nI d,sv nm] [RS s p T os N,frz os] fun F v M=>v=.int .i64 (findSlV nm sl)/\M=RS s p T os N :: frz os :: F:=by
 refine Spec.intro Tryz.func238 rfl rfl fun B F=>?_
 simp only [Tryz.ntmps238,List.cons_append,List.nil_append,env0,Nat.reduceAdd]
 have hi:d < p.ino:=in_ino hT hTd
 have hsl:=(hT.ok d sl hTd).2
 refine .openR (RS.opens s p T os N) fun y hy=>?_
 obtain ⟨u,L,wk,mv,ms⟩:=y
 simp only [rsLs,List.cons_append,List.nil_append]
 refine .fact (rowR_some (el:=244) (size:=2) (v:=u) (k:=p.ino) (xs:=L.flatMap rowV) (by omega)) (fun ⟨ab,cc,hu,hR,hc1,hc2⟩=>?_)
 subst hu
 have hlen:L.length=p.ino:=hy.len
 have hil:d < L.length:=by omega
 have hrow:=hy.row d hil
 obtain ⟨A1,c1,hs1,hr1,hl1,hm1⟩:=hrow.sl
 obtain ⟨e1,hek⟩:∃ e,L[d]=e:=⟨_,rfl⟩
 have hkd:e1.1=refK (T d):=hek ▸ hrow.kd
 have hg0:(L.flatMap rowV)[((d:Nat):Int).toNat * 2+0]?=some (nI e1.1):=by rw [Int.toNat_natCast,<-hek];exact (rowV_get hil).1
 have hg1:(L.flatMap rowV)[((d:Nat):Int).toNat * 2+1]?=some (.slice A1 (refBy (T d)).length c1):=by rw [Int.toNat_natCast,<-hs1];exact (rowV_get hil).2
 rw [hkd] at hg0
 rw [refBy_dir hTd] at hg1 hr1 hl1
 have hrl:=rdirB_length sl
 refine .sr (.assign (.x (.move ?_)))
 refine .nilCheck ?_
 refine .fa ?_ fo247_1
 refine .ld ?_ sc245
 refine .move ?_
 refine .idx ?_ so245
 refine .fa ?_ fo244_1
 refine .ldR (R:=rowR 244 2 (.slice (some ⟨ab,0,none⟩) p.ino cc) p.ino (L.flatMap rowV)) ?_ sc33 hR hg1
 refine .assign (.z (.seq (.sr (.assign (.z (.block ?_))))))
 refine .loopA (σ:=Nat) (fun k=>[(2,sv nm),(7,.slice A1 (rdirB sl).length c1),(8,.int .i64 ((k:Nat):Int))]) (fun _=>[pt s (sO p (.slice (some ⟨ab,0,none⟩) p.ino cc) wk mv),rowR 244 2 (.slice (some ⟨ab,0,none⟩) p.ino cc) p.ino (L.flatMap rowV),rowR 3 1 mv ms.length (ints ms),frz os]++F) (fun k=>k<=sl.length/\∀ j,j < k->∀ h:j < sl.length,slotNm sl[j]≠nm) (fun k=>sl.length - k) 0 ⟨Nat.zero_le _,fun j hj=>absurd hj (Nat.not_lt_zero _)⟩ ?_
 rintro k hk
 refine .seq (.sr (.move ?_))
 refine .mul ?_
 refine .move ?_
 refine .lenS ?_ sl33
 refine .lss ?_
 refine .z ?_
 refine .cond rfl (fun hb=>?_) (fun hb=>?_)
 ·have hlt:k < sl.length:=by have h:64 * (k:Int) < ((rdirB sl).length:Int):=of_decide_eq_true hb;omega
  have hrR:=hr1.resolve_left (fun h=>by rw [h] at hrl;simp only [List.length_nil] at hrl;omega)
  obtain ⟨hs50,hs65⟩:=slot_small hT hTd hlt
  by_cases he:slotNm sl[k]=nm
  ·have hf:findSlV nm sl=(k:Int):=by unfold findSlV;rw [findSl_at hlt he (fun j hj=>hk.2 j hj (Nat.lt_trans hj hlt))]
   refine .skip (.next (.seq (.block (.sr (.move (.move ?_))))))
   refine .call (hc:=Tryz.call258) (sp:=rfAt (k:=k) (bs:=rdirB sl) (s:=sl[k]) hrR rfl (by omega) hl1 (by omega) (rdirB_at hlt) hs50 hs65) (h:=?_)
   rintro _ _ ⟨rfl,rfl⟩
   refine .move ?_
   refine .extract ?_
   refine .extract ?_
   refine .assign (.assign (.x (.move (.move ?_))))
   refine .eqS (slotNm sl[k]) nm ?_
   refine .cast (d:=34) (u:=.bool true) rfl (congrArg Value.bool (decide_eq_true he)) ?_
   refine .z ?_
   refine .condT rfl rfl ?_
   refine .sr (.move (.assign (.z ?_)))
   refine .ret (.blockRet (.thenRet (.thenRet (.blockRet (.thenRet (?_))))))
   refine .shutR (RS.opens s p T os N) ⟨.slice (some ⟨ab,0,none⟩) p.ino cc,L,wk,mv,ms⟩ hy ?_
   exact .ret1 (h1:=.tmp (t:=6) rfl) ⟨_,⟨by rw [hf],rfl⟩,Am.auto⟩
  ·refine .skip (.next (.seq (.block (.sr (.move (.move ?_))))))
   refine .call (hc:=Tryz.call258) (sp:=rfAt (k:=k) (bs:=rdirB sl) (s:=sl[k]) hrR rfl (by omega) hl1 (by omega) (rdirB_at hlt) hs50 hs65) (h:=?_)
   rintro _ _ ⟨rfl,rfl⟩
   refine .move ?_
   refine .extract ?_
   refine .extract ?_
   refine .assign (.assign (.x (.move (.move ?_))))
   refine .eqS (slotNm sl[k]) nm ?_
   refine .cast (d:=34) (u:=.bool false) rfl (congrArg Value.bool (decide_eq_false he)) ?_
   refine .z ?_
   refine .condF rfl rfl ?_
   refine .skip (.blockNormal (.next (.region (.move ?_))))
   refine .add ?_
   refine .assign (.nil ?_)
   refine .cast (d:=8) (u:=.int .i64 ((k+1:Nat):Int)) rfl (congrArg (Value.int .i64) (by omega)) ?_
   exact .back (k+1) ⟨by show k+1<=sl.length;omega,fun j hj hjl=>(Nat.lt_or_ge j k).elim (fun h=>hk.2 j h hjl) (fun h=>by have h2:j=k:=(by omega);subst h2;exact he)⟩ (by show sl.length - (k+1) < sl.length - k;omega)
 ·have hge:k=sl.length:=by have h:¬ 64 * (k:Int) < ((rdirB sl).length:Int):=of_decide_eq_false hb;omega
  have hf:findSlV nm sl=-1:=by
   unfold findSlV
   cases hl:findSl nm sl with
   | none=>rfl
   | some q =>
    obtain ⟨h1,h2,_⟩:=findSl_some hl
    exact absurd h2 (hk.2 q (by omega) h1)
  refine .exit (.thenExit (.thenExit (.blockExit (?_))))
  refine .next (.sr (.assign (.z ?_)))
  refine .ret (?_)
  refine .shutR (RS.opens s p T os N) ⟨.slice (some ⟨ab,0,none⟩) p.ino cc,L,wk,mv,ms⟩ hy ?_
  exact .ret1 (h1:=.tmp (t:=6) rfl) ⟨_,⟨by rw [hf],rfl⟩,Am.auto⟩
theorem rsFind {s:Nat} {p:Pl} {T:FT} {os:List (Nat×Obj)} {N:Nat} (hi0:1<=p.ino) (hi1:p.ino<=4096) {d:Nat} {nm:Bytes} (hT:RT p T) (hnl:nm.length<=1000000):Spec Tryz.prog 236 #[.pointer (some ⟨s,0,none⟩),nI d,sv nm] [RS s p T os N,frz os] fun F v M=>v=.tuple #[nI (findT T d nm).1,nI (findT T d nm).2]/\M=RS s p T os N :: frz os :: F:=by
 refine Spec.intro Tryz.func236 rfl rfl fun B F=>?_
 simp only [Tryz.ntmps236,List.cons_append,List.nil_append,env0,Nat.reduceAdd]
 obtain ⟨e,he⟩:∃ e,beginT T d nm=e:=⟨_,rfl⟩
 by_cases he0:e=0
 ·subst he0
  obtain ⟨hn,sl,hTd⟩:=begin_dir he
  have hfd:=findT_dir hn hTd
  have hi:d < p.ino:=in_ino hT hTd
  have hsl:=(hT.ok d sl hTd).2
  have hrl:=rdirB_length sl
  cases hf:findSl nm sl with
  | none =>
   have hfv:findSlV nm sl=-1:=by unfold findSlV;rw [hf]
   rw [hf] at hfd
   simp only at hfd
   rw [hfd]
   refine .sr (.assign (.assign (.x (.move (.move (.move ?_))))))
   refine .call (hc:=Tryz.call237) (sp:=rsBeginN (s:=s) (p:=p) (T:=T) (os:=os) (N:=N) hi0 hi1 (d:=d) (nm:=nm) hT hnl) (h:=?_)
   rintro _ _ ⟨rfl,rfl⟩
   rw [he]
   refine .assign (.z (.seq (.sr (.move ?_))))
   refine .nei ?_
   refine .z ?_
   refine .condF rfl (congrArg Value.bool (by first|simp;done|simp;omega|omega)) ?_
   refine .skip (.next (.sr (.move (.move (.move ?_)))))
   refine .call (hc:=Tryz.call238) (sp:=rsFindSl (s:=s) (p:=p) (T:=T) (os:=os) (N:=N) hi0 hi1 (d:=d) (nm:=nm) (sl:=sl) hT hTd) (h:=?_)
   rintro _ _ ⟨rfl,rfl⟩
   rw [hfv]
   refine .assign (.z (.seq (.sr (.move ?_))))
   refine .lss ?_
   refine .z ?_
   refine .condT rfl (congrArg Value.bool (by first|simp;done|simp;omega|omega)) ?_
   refine .sr (.assign (.assign (.z ?_)))
   refine .ret (.thenRet (?_))
   exact .ret2 (h1:=.tmp (t:=6) rfl) (h2:=.tmp (t:=7) rfl) ⟨_,⟨rfl,rfl⟩,Am.auto⟩
  | some q =>
   have hfv:findSlV nm sl=(q:Int):=by unfold findSlV;rw [hf]
   obtain ⟨hql,hqn,_⟩:=findSl_some hf
   rw [hf] at hfd
   simp only at hfd
   rw [show sl.getD q none=sl[q] from by rw [List.getD_eq_getElem?_getD,List.getElem?_eq_getElem hql];rfl] at hfd
   rw [hfd]
   obtain ⟨hs50,hs65⟩:=slot_small hT hTd hql
   refine .sr (.assign (.assign (.x (.move (.move (.move ?_))))))
   refine .call (hc:=Tryz.call237) (sp:=rsBeginN (s:=s) (p:=p) (T:=T) (os:=os) (N:=N) hi0 hi1 (d:=d) (nm:=nm) hT hnl) (h:=?_)
   rintro _ _ ⟨rfl,rfl⟩
   rw [he]
   refine .assign (.z (.seq (.sr (.move ?_))))
   refine .nei ?_
   refine .z ?_
   refine .condF rfl (congrArg Value.bool (by first|simp;done|simp;omega|omega)) ?_
   refine .skip (.next (.sr (.move (.move (.move ?_)))))
   refine .call (hc:=Tryz.call238) (sp:=rsFindSl (s:=s) (p:=p) (T:=T) (os:=os) (N:=N) hi0 hi1 (d:=d) (nm:=nm) (sl:=sl) hT hTd) (h:=?_)
   rintro _ _ ⟨rfl,rfl⟩
   rw [hfv]
   refine .assign (.z (.seq (.sr (.move ?_))))
   refine .lss ?_
   refine .z ?_
   refine .condF rfl (congrArg Value.bool (by first|simp;done|simp;omega|omega)) ?_
   refine .skip (.next (.sr ?_))
   refine .openR (RS.opens s p T os N) fun y hy=>?_
   obtain ⟨u,L,wk,mv,ms⟩:=y
   simp only [rsLs,List.cons_append,List.nil_append]
   refine .fact (rowR_some (el:=244) (size:=2) (v:=u) (k:=p.ino) (xs:=L.flatMap rowV) (by omega)) (fun ⟨ab,cc,hu,hR,hc1,hc2⟩=>?_)
   subst hu
   have hlen:L.length=p.ino:=hy.len
   have hil:d < L.length:=by omega
   have hrow:=hy.row d hil
   obtain ⟨A1,c1,hs1,hr1,hl1,hm1⟩:=hrow.sl
   obtain ⟨e1,hek⟩:∃ e,L[d]=e:=⟨_,rfl⟩
   have hkd:e1.1=refK (T d):=hek ▸ hrow.kd
   have hg0:(L.flatMap rowV)[((d:Nat):Int).toNat * 2+0]?=some (nI e1.1):=by rw [Int.toNat_natCast,<-hek];exact (rowV_get hil).1
   have hg1:(L.flatMap rowV)[((d:Nat):Int).toNat * 2+1]?=some (.slice A1 (refBy (T d)).length c1):=by rw [Int.toNat_natCast,<-hs1];exact (rowV_get hil).2
   rw [hkd] at hg0
   rw [refBy_dir hTd] at hg1 hr1 hl1
   have hrR:=hr1.resolve_left (fun h=>by rw [h] at hrl;simp only [List.length_nil] at hrl;omega)
   refine .move ?_
   refine .nilCheck ?_
   refine .fa ?_ fo247_1
   refine .ld ?_ sc245
   refine .move ?_
   refine .idx ?_ so245
   refine .fa ?_ fo244_1
   refine .ldR (R:=rowR 244 2 (.slice (some ⟨ab,0,none⟩) p.ino cc) p.ino (L.flatMap rowV)) ?_ sc33 hR hg1
   refine .move ?_
   refine .call (hc:=Tryz.call258) (sp:=rfAt (k:=q) (bs:=rdirB sl) (s:=sl[q]) hrR rfl (by omega) hl1 (by omega) (rdirB_at hql) hs50 hs65) (h:=?_)
   rintro _ _ ⟨rfl,rfl⟩
   refine .move ?_
   refine .extract ?_
   refine .extract ?_
   refine .assign (.assign (.x (.move (.assign (.assign (.z ?_))))))
   refine .ret (?_)
   refine .shutR (RS.opens s p T os N) ⟨.slice (some ⟨ab,0,none⟩) p.ino cc,L,wk,mv,ms⟩ hy ?_
   exact .ret2 (h1:=.tmp (t:=6) rfl) (h2:=.tmp (t:=7) rfl) ⟨_,⟨rfl,rfl⟩,Am.auto⟩
 ·have hfb:=findT_bad (T:=T) (d:=d) (nm:=nm) (by rw [he];exact he0)
  rw [he] at hfb
  rw [hfb]
  refine .sr (.assign (.assign (.x (.move (.move (.move ?_))))))
  refine .call (hc:=Tryz.call237) (sp:=rsBeginN (s:=s) (p:=p) (T:=T) (os:=os) (N:=N) hi0 hi1 (d:=d) (nm:=nm) hT hnl) (h:=?_)
  rintro _ _ ⟨rfl,rfl⟩
  rw [he]
  refine .assign (.z (.seq (.sr (.move ?_))))
  refine .nei ?_
  refine .z ?_
  refine .condT rfl (congrArg Value.bool (by first|simp;done|simp;omega|omega)) ?_
  refine .sr (.move (.assign (.assign (.z ?_))))
  refine .ret (.thenRet (?_))
  exact .ret2 (h1:=.tmp (t:=6) rfl) (h2:=.tmp (t:=7) rfl) ⟨_,⟨rfl,rfl⟩,Am.auto⟩
theorem fo247_2:fieldOk Tryz.prog 247 2 8=true:=by kernel_rfl
theorem fo247_3:fieldOk Tryz.prog 247 3 9=true:=by kernel_rfl
theorem fo247_0:fieldOk Tryz.prog 247 0 0=true:=by kernel_rfl
theorem bdFl (a:Int):BuildOk Tryz.prog 244 [(0,.int .i64 a)] #[.int .i64 a,.slice none 0 0]:=fun w=>by kernel_rfl
theorem bsI1' (a:Int):BuildSOk Tryz.prog 80 1 [(0,.int .i64 a)] 3 #[.int .i64 a]:=fun w=>by kernel_rfl
theorem ints_last (ms:List Int) (i:Nat):ints ms++[nI i]=ints (ms++[(i:Int)]):=by unfold ints;rw [List.map_append];rfl
theorem rowR_opens {el size n c g:Nat} {xs:List Value}:Opens (rowR el size (.slice (some ⟨g,0,none⟩) n c) n xs) (fun cur:Array Value=>xs.length=n * size/\n<=c/\c<=maxLen/\cur.size=c * size/\cur.toList.take (n * size)=xs) (fun cur=>[pt g (.cells cur el (0,0))]):=by
 refine ⟨fun k hk=>?_,fun cur hp k hk=>?_⟩
 ·unfold rowR at hk
  obtain ⟨h1,⟨h,_⟩ | ⟨g',cap,cur,hv,hh,h2,h3,h4,h5⟩⟩:=hk
  ·cases h
  ·injection hv with e1 e2 e3
   injection e1 with e1
   injection e1 with e1 _ _
   subst e1;subst e3
   refine ⟨cur,⟨h1,h2,h3,h4,h5⟩,?_⟩
   unfold star
   exact ⟨[k],by unfold pt;exact hh,Sub.refl _,by simp,trivial⟩
 ·unfold star at hk
  obtain ⟨ks,hk⟩:=hk
  obtain ⟨h1,h2,h3,h4,h5⟩:=hp
  unfold rowR
  match ks,hk with
  | k1 :: _,hk=>exact ⟨h1,.inr ⟨g,c,cur,rfl,hk.2.1 _ _ (by have h0:=hk.1;unfold pt at h0;exact h0),h2,h3,h4,h5⟩⟩
theorem buf_opens {el k g:Nat} {xs:List Value}:Opens (buf g el k xs) (fun cur:Array Value=>cur.size=k/\cur.toList.take xs.length=xs/\xs.length<=k) (fun cur=>[pt g (.cells cur el (0,0))]):=by
 refine ⟨fun h hk=>?_,fun cur hp h hk=>?_⟩
 ·unfold buf at hk
  obtain ⟨cur,hh,h1,h2,h3⟩:=hk
  refine ⟨cur,⟨h1,h2,h3⟩,?_⟩
  unfold star
  exact ⟨[h],by unfold pt;exact hh,Sub.refl _,by simp,trivial⟩
 ·unfold star at hk
  obtain ⟨ks,hk⟩:=hk
  unfold buf
  match ks,hk with
  | k1 :: _,hk=>exact ⟨cur,hk.2.1 _ _ (by have h0:=hk.1;unfold pt at h0;exact h0),hp.1,hp.2.1,hp.2.2⟩
theorem take_midr {α:Type} {A us:List α} {off m:Nat} (h1:off+us.length<=m) (h2:m<=A.length):(A.take off++us++A.drop (off+us.length)).take m=(A.take m).take off++us++(A.take m).drop (off+us.length):=by
 have h3:(A.take off).length=off:=by rw [List.length_take];omega
 rw [List.take_append,List.take_of_length_le (by rw [List.length_append,h3];omega),List.length_append,h3,List.take_take,Nat.min_eq_left (by omega),List.drop_take]
section
variable {P:Program} {B:Base} {n:Fr} {Q:Exit->Act->World->Prop} {e:Env} {L M:List HP} {ops:Array Oper} {l:List Oper} {ty:TypeId} {pos:String} {af:Array Edge} {x y:Operand}
theorem WL.stRowA {t k g el size num c off:Nat} {xs:List Value} {us:Array Value} {s:Value} (hsv:s=.slice (some ⟨g,0,none⟩) num c)
  (h:WL P B n ops l Q e (rowR el size s num (xs.take off++us.toList++xs.drop (off+us.toList.length)) :: M)) (hag:aggOk P t k=true) (hk:us.size=k) (hk0:us.toList≠[]) (hsing:∀ v∈us.toList,Value.single v=true) (hle:off+k<=xs.length)
  (r:Rem L (rowR el size s num xs) M) (hx:evo e x=some (.pointer (some ⟨g,off,none⟩)):=by rfl) (hy:evo e y=some (.agg us):=by rfl):WL P B n ops (⟨none,.store t x y,ty,pos,af,none⟩ :: l) Q e L:=by
 subst hsv
 refine WL.openR rowR_opens (fun cur hc=>?_) r
 obtain ⟨h1,h2,h3,h4,h5⟩:=hc
 have hul:us.toList.length=k:=by simpa using hk
 have hnc:=Nat.mul_le_mul_right size h2
 have hcl:cur.toList.length=cur.size:=by simp
 refine WL.stA (cs:=cur) (off:=off) ?_ hag hk hk0 hsing (by omega) rfl hx hy .here
 refine WL.shutR rowR_opens _ ⟨?_,h2,h3,?_,?_⟩ h
 ·rw [<- h5,List.length_append,List.length_append,List.length_take,List.length_drop,List.length_take];omega
 ·rw [List.size_toArray,List.length_append,List.length_append,List.length_take,List.length_drop];omega
 ·show (cur.toList.take off++us.toList++cur.toList.drop (off+us.toList.length)).take (num * size)=_
  rw [take_midr (by omega) (by omega),h5]
theorem WL.stRow1 {t g el size num c off:Nat} {xs:List Value} {v s:Value} (hsv:s=.slice (some ⟨g,0,none⟩) num c)
  (h:WL P B n ops l Q e (rowR el size s num (xs.set off v) :: M)) (hsc:scalarOk P t=true) (hle:off < xs.length) (hv:Value.single v=true)
  (r:Rem L (rowR el size s num xs) M) (hx:evo e x=some (.pointer (some ⟨g,off,none⟩)):=by rfl) (hy:evo e y=some v:=by rfl):WL P B n ops (⟨none,.store t x y,ty,pos,af,none⟩ :: l) Q e L:=by
 subst hsv
 refine WL.openR rowR_opens (fun cur hc=>?_) r
 obtain ⟨h1,h2,h3,h4,h5⟩:=hc
 have hnc:=Nat.mul_le_mul_right size h2
 refine WL.st (cs:=cur) (off:=off) ?_ hsc hx hy .here (by rw [Nat.ble_eq];omega) hv
 refine WL.shutR rowR_opens _ ⟨?_,h2,h3,?_,?_⟩ h
 ·rw [List.length_set];exact h1
 ·rw [Array.size_setIfInBounds];exact h4
 ·rw [Array.toList_setIfInBounds,List.take_set,h5]
end
theorem tot_mono (F:FM) {m n:Nat} (h:m<=n):tot F m<=tot F n:=by
 induction h with
 | refl=>exact Nat.le_refl _
 | step _ ih=>exact Nat.le_trans ih (Nat.le_add_right _ _)
theorem cntB_le (f:Nat->Bool):∀ n,cntB f n<=n
 | 0=>Nat.le_refl _
 | n+1=>by
  rw [cntB_succ]
  have:=cntB_le f n
  split<;>omega
theorem rsTouch {s:Nat} {p:Pl} {T:FT} {os:List (Nat×Obj)} {N:Nat} (hi0:1<=p.ino) (hi1:p.ino<=4096) {i n:Nat} (hN:N<=1000000) (hn:n<=1000000):Spec Tryz.prog 196 #[.pointer (some ⟨s,0,none⟩),nI i,nI n] [RS s p T os N] fun F v M=>v=.tuple #[]/\M=RS s p T os (N+n+1) :: F:=by
 refine Spec.intro Tryz.func196 rfl rfl fun B F=>?_
 simp only [Tryz.ntmps196,List.cons_append,List.nil_append,env0,Nat.reduceAdd]
 refine .openR (RS.opens s p T os N) fun y hy=>?_
 obtain ⟨u,L,wk,mv,ms⟩:=y
 simp only [rsLs,List.cons_append,List.nil_append]
 refine .fact (rowR_some (el:=244) (size:=2) (v:=u) (k:=p.ino) (xs:=(L).flatMap rowV) (by omega)) (fun ⟨ab,cc,hu,hR,hc1,hc2⟩=>?_)
 subst hu
 have hlen:(L).length=p.ino:=(hy).len
 refine .fact (rowR_shape (el:=3) (size:=1) (v:=mv) (k:=ms.length) (xs:=ints ms)) (fun ⟨A2,c2,hmv,hR2,hk2,hc3,hl2⟩=>?_)
 subst hmv
 have hwk:wk<=N:=hy.wk
 have hml:ms.length<=N:=hy.ml
 refine .sr (.move (.move ?_))
 refine .nilCheck ?_
 refine .fa ?_ fo247_2
 refine .ld ?_ sc3
 refine .move ?_
 refine .add ?_
 refine .cast (d:=13) (u:=nI (wk+n)) rfl (congrArg (Value.int .i64) (by omega)) ?_
 refine .nilCheck ?_
 refine .fa ?_ fo247_2
 refine .st ?_ sc3
 refine .z (.seq (.sr (.assign (.z (.block ?_)))))
 refine .loopA (σ:=Nat) (fun k=>[(0,.pointer (some ⟨s,0,none⟩)),(1,nI i),(6,.int .i64 ((k:Nat):Int))]) (fun _=>[pt s (sO p (.slice (some ⟨ab,0,none⟩) p.ino cc) (wk+n) (.slice A2 ms.length c2)),rowR 244 2 (.slice (some ⟨ab,0,none⟩) p.ino cc) p.ino (L.flatMap rowV),rowR 3 1 (.slice A2 ms.length c2) ms.length (ints ms)]++F) (fun k=>k<=ms.length) (fun k=>ms.length - k) 0 (Nat.zero_le _) ?_
 rintro k hk
 refine .seq (.sr (.move (.move ?_)))
 refine .nilCheck ?_
 refine .fa ?_ fo247_3
 refine .ld ?_ sc80
 refine .lenS ?_ sl80
 refine .lss ?_
 refine .z ?_
 refine .cond rfl (fun hb=>?_) (fun hb=>?_)
 ·have hlt:k < ms.length:=by have h:(k:Int) < (ms.length:Int):=of_decide_eq_true hb;omega
  rcases A2 with _ | ⟨a2,o2,sp2⟩
  ·exact absurd (congrArg List.length (show ints ms=[] from hR2)) (by unfold ints;rw [List.length_map];simp only [List.length_nil];omega)
  have hsp:sp2=none:=hR2.1
  subst hsp
  have hgm:(ints ms)[((k:Nat):Int).toNat]?=some (.int .i64 ms[k]):=by rw [Int.toNat_natCast];unfold ints;rw [List.getElem?_map,List.getElem?_eq_getElem hlt];rfl
  by_cases he:ms[k]=(i:Int)
  ·refine .skip (.next (.seq (.block (.sr (.move ?_)))))
   refine .nilCheck ?_
   refine .fa ?_ fo247_3
   refine .ld ?_ sc80
   refine .move ?_
   refine .idx1 ?_ so80
   refine .ldR (R:=rowR 3 1 (.slice (some ⟨a2,o2,none⟩) ms.length c2) ms.length (ints ms)) ?_ sc3 hR2 hgm
   refine .move ?_
   refine .eqi ?_
   refine .z ?_
   refine .condT rfl (congrArg Value.bool (by first|simp;done|simp;omega|omega)) ?_
   refine .ret (.blockRet (.thenRet (.thenRet (.blockRet (.thenRet (?_))))))
   refine .shutR (RS.opens s p T os (N+n+1)) ⟨.slice (some ⟨ab,0,none⟩) p.ino cc,L,wk+n,.slice (some ⟨a2,o2,none⟩) ms.length c2,ms⟩ ⟨hy.len,hy.row,by show wk+n<=_;omega,by show ms.length<=_;omega⟩ ?_
   exact .ret0 ⟨_,⟨rfl,rfl⟩,Am.auto⟩
  ·refine .skip (.next (.seq (.block (.sr (.move ?_)))))
   refine .nilCheck ?_
   refine .fa ?_ fo247_3
   refine .ld ?_ sc80
   refine .move ?_
   refine .idx1 ?_ so80
   refine .ldR (R:=rowR 3 1 (.slice (some ⟨a2,o2,none⟩) ms.length c2) ms.length (ints ms)) ?_ sc3 hR2 hgm
   refine .move ?_
   refine .eqi ?_
   refine .z ?_
   refine .condF rfl (congrArg Value.bool (by first|simp;done|simp;omega|omega)) ?_
   refine .skip (.blockNormal (.next (.region (.move ?_))))
   refine .add ?_
   refine .assign (.nil ?_)
   refine .cast (d:=6) (u:=.int .i64 ((k+1:Nat):Int)) rfl (congrArg (Value.int .i64) (by omega)) ?_
   exact .back (k+1) (by show k+1<=ms.length;omega) (by show ms.length - (k+1) < ms.length - k;omega)
 ·have hge:k=ms.length:=by have h:¬ (k:Int) < (ms.length:Int):=of_decide_eq_false hb;omega
  refine .exit (.thenExit (.thenExit (.blockExit (?_))))
  refine .next (.region (.move (.move ?_)))
  refine .nilCheck ?_
  refine .fa ?_ fo247_3
  refine .ld ?_ sc80
  refine .move ?_
  refine .buildS (fun b40=>?_) (bsI1' _)
  refine .append (m:=1) (news:=[nI i]) so80 (by decide) (by repeat (first | exact .here | apply Rem.there | apply Repl.there | apply Mem.there)) (Reads.pt (cs:=#[nI i])) (by repeat (first | exact .here | apply Rem.there | apply Repl.there | apply Mem.there)) rfl (by intro x hx;simp only [List.mem_cons,List.not_mem_nil,or_false] at hx;rcases hx with rfl;rfl) (by show ms.length+1<=maxLen;unfold maxLen;omega) (by show (ms.length+1) * _<=140737488355328;omega) ⟨_,z3,rfl⟩ (fun vB hvB=>?_)
  refine .to (A:=rowR 3 1 vB (ms.length+1) (ints ms++[nI i])) (A':=rowR 3 1 vB (ms++[(i:Int)]).length (ints (ms++[(i:Int)]))) (fun h hh=>by rw [<- ints_last,List.length_append];exact hh) ?_
  refine .fact (rowR_shape (el:=3) (size:=1) (v:=vB) (k:=(ms++[(i:Int)]).length) (xs:=ints (ms++[(i:Int)]))) (fun ⟨A4,c4,hv4,hR4,hk4,hc4,hl4⟩=>?_)
  subst hv4
  refine .nilCheck ?_
  refine .fa ?_ fo247_3
  refine .st ?_ sc80
  refine .nil ?_
  refine .shutR (RS.opens s p T os (N+n+1)) ⟨.slice (some ⟨ab,0,none⟩) p.ino cc,L,wk+n,.slice A4 (ms++[(i:Int)]).length c4,ms++[(i:Int)]⟩ ⟨hy.len,hy.row,by show wk+n<=_;omega,by show (ms++[(i:Int)]).length<=_;rw [List.length_append];simp only [List.length_cons,List.length_nil];omega⟩ ?_
  exact .ret0 ⟨_,⟨rfl,rfl⟩,Am.auto⟩
theorem rsFree {s:Nat} {p:Pl} {T:FT} {os:List (Nat×Obj)} {N:Nat} (hi0:1<=p.ino) (hi1:p.ino<=4096) (hdc:p.dc<=1000000) (hT:RT p T) (htot:tot (fmT T) p.ino<=p.dc):Spec Tryz.prog 123 #[.pointer (some ⟨s,0,none⟩)] [RS s p T os N] fun F v M=>v=.tuple #[.int .i64 ((p.dc:Int) - tot (fmT T) p.ino),.int .i64 ((p.ino:Int) - cntF (fmT T) p.ino)]/\M=RS s p T os N :: F:=by
 refine Spec.intro Tryz.func123 rfl rfl fun B F=>?_
 simp only [Tryz.ntmps123,List.cons_append,List.nil_append,env0,Nat.reduceAdd]
 refine .openR (RS.opens s p T os N) fun y hy=>?_
 obtain ⟨u,L,wk,mv,ms⟩:=y
 simp only [rsLs,List.cons_append,List.nil_append]
 refine .fact (rowR_some (el:=244) (size:=2) (v:=u) (k:=p.ino) (xs:=(L).flatMap rowV) (by omega)) (fun ⟨ab,cc,hu,hR,hc1,hc2⟩=>?_)
 subst hu
 have hlen:(L).length=p.ino:=(hy).len
 have htm:∀ k,k<=p.ino->tot (fmT T) k<=p.dc:=fun k hk=>Nat.le_trans (tot_mono (fmT T) hk) htot
 have hcm:∀ k,cntF (fmT T) k<=k:=fun k=>cntB_le _ k
 refine .sr (.assign (.assign (.x (.move ?_))))
 refine .nilCheck ?_
 refine .fa ?_ fo247_0
 refine .fa ?_ fo199_6
 refine .ld ?_ sc3
 refine .assign (.x (.assign (.z (.seq (.sr (.assign (.z (.block ?_))))))))
 refine .loopA (σ:=Nat) (fun k=>[(0,.pointer (some ⟨s,0,none⟩)),(4,.int .i64 ((p.dc:Int) - tot (fmT T) k)),(5,.int .i64 (((k:Nat):Int) - cntF (fmT T) k)),(6,.int .i64 ((k:Nat):Int))]) (fun _=>[pt s (sO p (.slice (some ⟨ab,0,none⟩) p.ino cc) wk mv),rowR 244 2 (.slice (some ⟨ab,0,none⟩) p.ino cc) p.ino (L.flatMap rowV),rowR 3 1 mv ms.length (ints ms)]++F) (fun k=>k<=p.ino) (fun k=>p.ino - k) 0 (Nat.zero_le _) ?_
 rintro k hk
 refine .seq (.sr (.move (.move ?_)))
 refine .nilCheck ?_
 refine .fa ?_ fo247_1
 refine .ld ?_ sc245
 refine .lenS ?_ sl245
 refine .lss ?_
 refine .z ?_
 refine .cond rfl (fun hb=>?_) (fun hb=>?_)
 ·have hlt:k < p.ino:=by have h:(k:Int) < (p.ino:Int):=of_decide_eq_true hb;omega
  have ht1:=htm (k+1) (by omega)
  have ht2:tot (fmT T) (k+1)=tot (fmT T) k+hasO (fmT T k):=rfl
  have hc1':cntF (fmT T) (k+1)=cntF (fmT T) k+(if (fmT T k).isSome then 1 else 0):=cntB_succ _ k
  have hck:=hcm k
  have hil:k < L.length:=by omega
  have hrow:=hy.row k hil
  obtain ⟨A1,c1,hs1,hr1,hl1,hm1⟩:=hrow.sl
  obtain ⟨e1,hek⟩:∃ e,L[k]=e:=⟨_,rfl⟩
  have hkd:e1.1=refK (T k):=hek ▸ hrow.kd
  have hg0:(L.flatMap rowV)[((k:Nat):Int).toNat * 2+0]?=some (nI e1.1):=by rw [Int.toNat_natCast,<-hek];exact (rowV_get hil).1
  have hg1:(L.flatMap rowV)[((k:Nat):Int).toNat * 2+1]?=some (.slice A1 (refBy (T k)).length c1):=by rw [Int.toNat_natCast,<-hs1];exact (rowV_get hil).2
  rw [hkd] at hg0
  cases hTk:T k with
  | none =>
   rw [fmT_none hTk] at ht2 hc1'
   rw [hTk] at hg0
   have h0:hasO none=0:=rfl
   have h1:(none:Option (Nat×Bytes)).isSome=false:=rfl
   rw [h1] at hc1'
   simp only [Bool.false_eq_true,if_false] at hc1'
   refine .skip (.next (.seq (.block (.sr (.move ?_)))))
   refine .nilCheck ?_
   refine .fa ?_ fo247_1
   refine .ld ?_ sc245
   refine .move ?_
   refine .idx ?_ so245
   refine .fa ?_ fo244_0
   refine .ldR (R:=rowR 244 2 (.slice (some ⟨ab,0,none⟩) p.ino cc) p.ino (L.flatMap rowV)) ?_ sc3 hR hg0
   refine .eqi ?_
   refine .z ?_
   refine .condT rfl (congrArg Value.bool (by first | rfl | (simp;done) | (simp;omega) | omega)) ?_
   refine .region (.move ?_)
   refine .add ?_
   refine .assign (.nil (.blockNormal (.next (.region (.move ?_)))))
   refine .add ?_
   refine .assign (.nil ?_)
   refine .cast (d:=6) (u:=.int .i64 ((k+1:Nat):Int)) rfl (congrArg (Value.int .i64) (by omega)) ?_
   refine .cast (d:=4) (u:=.int .i64 ((p.dc:Int) - tot (fmT T) (k+1))) rfl (congrArg (Value.int .i64) (by omega)) ?_
   refine .cast (d:=5) (u:=.int .i64 (((k+1:Nat):Int) - cntF (fmT T) (k+1))) rfl (congrArg (Value.int .i64) (by omega)) ?_
   exact .back (k+1) (by show k+1<=p.ino;omega) (by show p.ino - (k+1) < p.ino - k;omega)
  | some x =>
   rw [fmT_some hTk] at ht2 hc1'
   rw [hTk] at hg0 hg1
   have h0:hasO (some x.f)=has x.size:=by show has x.f.2.length=_;rw [x.f_size]
   have h1:(some x.f).isSome=true:=rfl
   rw [h1] at hc1'
   simp only [if_true] at hc1'
   have hkz:refK (some x)≠0:=fun h=>by cases (refK_zero.1 h)
   have hsz:(refBy (some x)).length=x.size:=x.r_length
   rw [hsz] at hg1
   have hxl:x.size<=1000000000:=by
    have h2:has x.size<=1000000:=by omega
    unfold has dat at h2
    split at h2<;>omega
   refine .skip (.next (.seq (.block (.sr (.move ?_)))))
   refine .nilCheck ?_
   refine .fa ?_ fo247_1
   refine .ld ?_ sc245
   refine .move ?_
   refine .idx ?_ so245
   refine .fa ?_ fo244_0
   refine .ldR (R:=rowR 244 2 (.slice (some ⟨ab,0,none⟩) p.ino cc) p.ino (L.flatMap rowV)) ?_ sc3 hR hg0
   refine .eqi ?_
   refine .z ?_
   refine .condF rfl (congrArg Value.bool (by first | (exact decide_eq_false (by omega)) | (simp;done) | (simp;omega) | omega)) ?_
   refine .region (.move (.move ?_))
   refine .nilCheck ?_
   refine .fa ?_ fo247_1
   refine .ld ?_ sc245
   refine .move ?_
   refine .idx ?_ so245
   refine .fa ?_ fo244_1
   refine .ldR (R:=rowR 244 2 (.slice (some ⟨ab,0,none⟩) p.ino cc) p.ino (L.flatMap rowV)) ?_ sc33 hR hg1
   refine .lenS ?_ sl33
   refine .call (hc:=Tryz.call197) (sp:=rfNeed (n:=x.size) hxl) (h:=?_)
   rintro _ _ ⟨rfl,hM⟩
   obtain rfl:=hM.symm
   refine .sub ?_
   refine .assign (.nil (.blockNormal (.next (.region (.move ?_)))))
   refine .add ?_
   refine .assign (.nil ?_)
   refine .cast (d:=6) (u:=.int .i64 ((k+1:Nat):Int)) rfl (congrArg (Value.int .i64) (by omega)) ?_
   refine .cast (d:=4) (u:=.int .i64 ((p.dc:Int) - tot (fmT T) (k+1))) rfl (congrArg (Value.int .i64) (by omega)) ?_
   refine .cast (d:=5) (u:=.int .i64 (((k+1:Nat):Int) - cntF (fmT T) (k+1))) rfl (congrArg (Value.int .i64) (by omega)) ?_
   exact .back (k+1) (by show k+1<=p.ino;omega) (by show p.ino - (k+1) < p.ino - k;omega)
 ·have hge:k=p.ino:=by have h:¬ (k:Int) < (p.ino:Int):=of_decide_eq_false hb;omega
  subst hge
  refine .exit (.thenExit (.thenExit (.blockExit (?_))))
  refine .next (.sr (.move (.move (.assign (.assign (.z ?_))))))
  refine .ret (?_)
  refine .shutR (RS.opens s p T os N) ⟨.slice (some ⟨ab,0,none⟩) p.ino cc,L,wk,mv,ms⟩ hy ?_
  exact .ret2 (h1:=.tmp (t:=2) rfl) (h2:=.tmp (t:=3) rfl) ⟨_,⟨rfl,rfl⟩,Am.auto⟩
theorem rsResize {s:Nat} {p:Pl} {T:FT} {os:List (Nat×Obj)} {N:Nat} (hi0:1<=p.ino) (hi1:p.ino<=4096) {i z:Nat} {x:NodeT} (hdc:p.dc<=1000000) (hT:RT p T) (htot:tot (fmT T) p.ino<=p.dc) (hTi:T i=some x) (hxs:x.size<=70656) (hz:z<=70656) (hfit:tot (fmT T) p.ino+has z<=p.dc+has x.size):Spec Tryz.prog 195 #[.pointer (some ⟨s,0,none⟩),nI i,nI z] [RS s p T os N] fun F v M=>v=.int .i64 0/\M=RS s p T os N :: F:=by
 refine Spec.intro Tryz.func195 rfl rfl fun B F=>?_
 simp only [Tryz.ntmps195,List.cons_append,List.nil_append,env0,Nat.reduceAdd]
 have hh:∀ n,n<=70656->has n<=200:=fun n hn=>by unfold has dat;split<;>omega
 have hz1:=hh z hz
 have hx1:=hh x.size hxs
 refine .sr (.assign (.z (.seq (.sr (.move ?_)))))
 refine .gtr ?_
 refine .z ?_
 refine .condF rfl (congrArg Value.bool (by first|simp;done|simp;omega|omega)) ?_
 refine .skip (.next (.sr (.move ?_)))
 refine .call (hc:=Tryz.call123) (sp:=rsFree (s:=s) (p:=p) (T:=T) (os:=os) (N:=N) hi0 hi1 hdc hT htot) (h:=?_)
 rintro _ _ ⟨rfl,rfl⟩
 refine .move ?_
 refine .extract ?_
 refine .extract ?_
 refine .assign (.assign (.z (.seq (.seq ?_))))
 have hi:i < p.ino:=in_ino hT hTi
 refine .openR (RS.opens s p T os N) fun y hy=>?_
 obtain ⟨u,L,wk,mv,ms⟩:=y
 simp only [rsLs,List.cons_append,List.nil_append]
 refine .fact (rowR_some (el:=244) (size:=2) (v:=u) (k:=p.ino) (xs:=(L).flatMap rowV) (by omega)) (fun ⟨ab,cc,hu,hR,hc1,hc2⟩=>?_)
 subst hu
 have hlen:(L).length=p.ino:=(hy).len
 have hil:i < L.length:=by omega
 have hrow:=hy.row i hil
 obtain ⟨A1,c1,hs1,hr1,hl1,hm1⟩:=hrow.sl
 obtain ⟨e1,hek⟩:∃ e,L[i]=e:=⟨_,rfl⟩
 have hkd:e1.1=refK (T i):=hek ▸ hrow.kd
 have hg0:(L.flatMap rowV)[((i:Nat):Int).toNat * 2+0]?=some (nI e1.1):=by rw [Int.toNat_natCast,<-hek];exact (rowV_get hil).1
 have hg1:(L.flatMap rowV)[((i:Nat):Int).toNat * 2+1]?=some (.slice A1 (refBy (T i)).length c1):=by rw [Int.toNat_natCast,<-hs1];exact (rowV_get hil).2
 rw [hkd] at hg0
 rw [hTi] at hg1
 have hsz:(refBy (some x)).length=x.size:=x.r_length
 rw [hsz] at hg1
 refine .dr ([pt s (sO p (.slice (some ⟨ab,0,none⟩) p.ino cc) wk mv),rowR 244 2 (.slice (some ⟨ab,0,none⟩) p.ino cc) p.ino (L.flatMap rowV)]) [] 15 mixed .autoJ ?_
 refine .tk 0 rfl .move ?_
 refine .tk 2 rfl .move ?_
 refine .tk 3 rfl .nilCheck ?_
 refine .tk 4 rfl (.fa fo247_1) ?_
 refine .tk 5 rfl (.ld sc245) ?_
 refine .tk 6 rfl .move ?_
 refine .tk 7 rfl (.idx so245) ?_
 refine .tk 8 rfl (.fa fo244_1) ?_
 refine .tk 9 rfl (Qt.ldR sc33 hR hg1) ?_
 refine .tk 10 rfl (.lenS sl33) ?_
 refine .tk 13 rfl .move ?_
 refine .on 1 rfl fun hnp=>?_
 refine .call (hc:=Tryz.call197) (sp:=rfNeed (n:=z) (by omega)) (h:=?_)
 rintro _ _ ⟨rfl,hM⟩
 obtain rfl:=hM.symm
 refine .nil (.wa hnp ?_)
 refine .on 11 rfl fun hnp=>?_
 refine .call (hc:=Tryz.call197) (sp:=rfNeed (n:=x.size) (by omega)) (h:=?_)
 rintro _ _ ⟨rfl,hM⟩
 obtain rfl:=hM.symm
 refine .nil (.wa hnp ?_)
 refine .tk 12 rfl .sub ?_
 refine .tk 14 rfl .gtr ?_
 refine .fin ?_
 refine .next ?_
 refine .condF rfl (congrArg Value.bool (by first|simp;done|simp;omega|omega)) ?_
 refine .skip (.next (.sr (.assign (.z ?_))))
 refine .ret (?_)
 refine .shutR (RS.opens s p T os N) ⟨.slice (some ⟨ab,0,none⟩) p.ino cc,L,wk,mv,ms⟩ hy ?_
 exact .ret1 (h1:=.tmp (t:=6) rfl) ⟨_,⟨rfl,rfl⟩,Am.auto⟩
theorem rsResizeFull {s:Nat} {p:Pl} {T:FT} {os:List (Nat×Obj)} {N:Nat} (hi0:1<=p.ino) (hi1:p.ino<=4096) {i z:Nat} {x:NodeT} (hdc:p.dc<=1000000) (hT:RT p T) (htot:tot (fmT T) p.ino<=p.dc) (hTi:T i=some x) (hxs:x.size<=70656) (hz:z<=70656) (hfit:p.dc+has x.size < tot (fmT T) p.ino+has z):Spec Tryz.prog 195 #[.pointer (some ⟨s,0,none⟩),nI i,nI z] [RS s p T os N] fun F v M=>v=.int .i64 3/\M=RS s p T os N :: F:=by
 refine Spec.intro Tryz.func195 rfl rfl fun B F=>?_
 simp only [Tryz.ntmps195,List.cons_append,List.nil_append,env0,Nat.reduceAdd]
 have hh:∀ n,n<=70656->has n<=200:=fun n hn=>by unfold has dat;split<;>omega
 have hz1:=hh z hz
 have hx1:=hh x.size hxs
 refine .sr (.assign (.z (.seq (.sr (.move ?_)))))
 refine .gtr ?_
 refine .z ?_
 refine .condF rfl (congrArg Value.bool (by first|simp;done|simp;omega|omega)) ?_
 refine .skip (.next (.sr (.move ?_)))
 refine .call (hc:=Tryz.call123) (sp:=rsFree (s:=s) (p:=p) (T:=T) (os:=os) (N:=N) hi0 hi1 hdc hT htot) (h:=?_)
 rintro _ _ ⟨rfl,rfl⟩
 refine .move ?_
 refine .extract ?_
 refine .extract ?_
 refine .assign (.assign (.z (.seq (.seq ?_))))
 have hi:i < p.ino:=in_ino hT hTi
 refine .openR (RS.opens s p T os N) fun y hy=>?_
 obtain ⟨u,L,wk,mv,ms⟩:=y
 simp only [rsLs,List.cons_append,List.nil_append]
 refine .fact (rowR_some (el:=244) (size:=2) (v:=u) (k:=p.ino) (xs:=(L).flatMap rowV) (by omega)) (fun ⟨ab,cc,hu,hR,hc1,hc2⟩=>?_)
 subst hu
 have hlen:(L).length=p.ino:=(hy).len
 have hil:i < L.length:=by omega
 have hrow:=hy.row i hil
 obtain ⟨A1,c1,hs1,hr1,hl1,hm1⟩:=hrow.sl
 obtain ⟨e1,hek⟩:∃ e,L[i]=e:=⟨_,rfl⟩
 have hkd:e1.1=refK (T i):=hek ▸ hrow.kd
 have hg0:(L.flatMap rowV)[((i:Nat):Int).toNat * 2+0]?=some (nI e1.1):=by rw [Int.toNat_natCast,<-hek];exact (rowV_get hil).1
 have hg1:(L.flatMap rowV)[((i:Nat):Int).toNat * 2+1]?=some (.slice A1 (refBy (T i)).length c1):=by rw [Int.toNat_natCast,<-hs1];exact (rowV_get hil).2
 rw [hkd] at hg0
 rw [hTi] at hg1
 have hsz:(refBy (some x)).length=x.size:=x.r_length
 rw [hsz] at hg1
 refine .dr ([pt s (sO p (.slice (some ⟨ab,0,none⟩) p.ino cc) wk mv),rowR 244 2 (.slice (some ⟨ab,0,none⟩) p.ino cc) p.ino (L.flatMap rowV)]) [] 15 mixed .autoJ ?_
 refine .tk 0 rfl .move ?_
 refine .tk 2 rfl .move ?_
 refine .tk 3 rfl .nilCheck ?_
 refine .tk 4 rfl (.fa fo247_1) ?_
 refine .tk 5 rfl (.ld sc245) ?_
 refine .tk 6 rfl .move ?_
 refine .tk 7 rfl (.idx so245) ?_
 refine .tk 8 rfl (.fa fo244_1) ?_
 refine .tk 9 rfl (Qt.ldR sc33 hR hg1) ?_
 refine .tk 10 rfl (.lenS sl33) ?_
 refine .tk 13 rfl .move ?_
 refine .on 1 rfl fun hnp=>?_
 refine .call (hc:=Tryz.call197) (sp:=rfNeed (n:=z) (by omega)) (h:=?_)
 rintro _ _ ⟨rfl,hM⟩
 obtain rfl:=hM.symm
 refine .nil (.wa hnp ?_)
 refine .on 11 rfl fun hnp=>?_
 refine .call (hc:=Tryz.call197) (sp:=rfNeed (n:=x.size) (by omega)) (h:=?_)
 rintro _ _ ⟨rfl,hM⟩
 obtain rfl:=hM.symm
 refine .nil (.wa hnp ?_)
 refine .tk 12 rfl .sub ?_
 refine .tk 14 rfl .gtr ?_
 refine .fin ?_
 refine .next ?_
 refine .condT rfl (congrArg Value.bool (by first|simp;done|simp;omega|omega)) ?_
 refine .sr (.assign (.z ?_))
 refine .ret (.thenRet (?_))
 refine .shutR (RS.opens s p T os N) ⟨.slice (some ⟨ab,0,none⟩) p.ino cc,L,wk,mv,ms⟩ hy ?_
 exact .ret1 (h1:=.tmp (t:=6) rfl) ⟨_,⟨rfl,rfl⟩,Am.auto⟩
theorem rsp_step {base src:Bytes} {off k:Nat} (h1:off+(k+1)<=base.length) (h2:k < src.length):(splice base off (src.take k)).set (off+k) (src.getD k 0)=splice base off (src.take (k+1)):=by
 have hl1:(src.take k).length=k:=by rw [List.length_take];omega
 have hl2:(src.take (k+1)).length=k+1:=by rw [List.length_take];omega
 have e1:=splice_length (xs:=base) (ys:=src.take k) (off:=off) (by omega)
 have e2:=splice_length (xs:=base) (ys:=src.take (k+1)) (off:=off) (by omega)
 apply List.ext_getElem (by rw [List.length_set];omega)
 intro j h3 h4
 have g1:∀ (l:Bytes) (h:j < l.length),l[j]=l.getD j 0:=fun l h=>by rw [List.getD_eq_getElem?_getD,List.getElem?_eq_getElem h];rfl
 rw [g1 _ h3,g1 _ h4,splice_getD (by omega),hl2]
 rw [List.getD_eq_getElem?_getD,List.getElem?_set]
 by_cases hj:off+k=j
 ·subst hj
  rw [if_pos rfl,if_pos (by omega),if_pos ⟨by omega,by omega⟩,show off+k - off=k from by omega]
  simp only [Option.getD_some]
  rw [List.getD_eq_getElem?_getD,List.getD_eq_getElem?_getD,List.getElem?_take,if_pos (by omega)]
 ·rw [if_neg hj,<-List.getD_eq_getElem?_getD,splice_getD (by omega),hl1]
  by_cases hk:off<=j/\j < off+k
  ·rw [if_pos hk,if_pos ⟨by omega,by omega⟩]
   rw [List.getD_eq_getElem?_getD,List.getD_eq_getElem?_getD,List.getElem?_take,List.getElem?_take,if_pos (by omega),if_pos (by omega)]
  ·rw [if_neg hk,if_neg (by omega)]
theorem rsp_nil (base:Bytes) (off:Nat):splice base off []=base:=by
 unfold splice
 simp
theorem rsp_all {base src:Bytes} {off k:Nat} (h:src.length=k):splice base off (src.take k)=splice base off src:=by rw [List.take_of_length_le (by omega)]
theorem rsp_made (a b:Bytes) (at':Nat):splice (splice (List.replicate (max a.length (at'+b.length)) 0) 0 a) at' b=wrB a at' b:=by
 unfold wrB
 congr 1
 unfold splice ext
 rw [List.take_zero,List.nil_append,List.drop_replicate]
 congr 2
 omega
theorem bv_getD {xs:Bytes} {k:Nat} (h:k < xs.length):(bvs xs)[k]?=some (bv (xs.getD k 0)):=by
 unfold bvs
 rw [List.getElem?_map,List.getElem?_eq_getElem h,List.getD_eq_getElem?_getD,List.getElem?_eq_getElem h];rfl
theorem RSP.write {p:Pl} {T:FT} {os:List (Nat×Obj)} {N i Z bw:Nat} {u mv:Value} {L:List (Nat×Value)} {wk:Nat} {ms:List Int} {x x':NodeT} {cur:Array Value} (hy:RSP p T os N ⟨u,L,wk,mv,ms⟩) (hTi:T i=some x) (hi:i < L.length) (hk:x'.kind=x.kind) (hl:x'.r.length=Z) (hc1:cur.size=Z) (hc2:cur.toList.take (bvs x'.r).length=bvs x'.r) (hZ:Z<=maxLen) :
  RSP p (updT T i (some x')) ((bw,.cells cur 5 (0,0)) :: os) N ⟨u,L.set i (L[i].1,.slice (some ⟨bw,0,none⟩) Z Z),wk,mv,ms⟩:=by
 refine ⟨by show (L.set i _).length=_;rw [List.length_set];exact hy.len,fun j hj=>?_,hy.wk,hy.ml⟩
 have hj2:j < L.length:=by have:j < (L.set i (L[i].1,.slice (some ⟨bw,0,none⟩) Z Z)).length:=hj;rwa [List.length_set] at this
 show RRow _ _ (updT T i (some x') j) (L.set i (L[i].1,.slice (some ⟨bw,0,none⟩) Z Z))[j]
 by_cases hji:i=j
 ·subst hji
  rw [updT_same,List.getElem_set_self]
  refine ⟨?_,.inr ⟨bw,Z,cur,(0,0),?_,List.mem_cons_self ..,?_,hZ,?_⟩⟩
  ·show L[i].1=x'.kind
   have:=(hy.row i hi).kd
   rw [hTi] at this
   rw [hk];exact this
  ·show Value.slice (some ⟨bw,0,none⟩) Z Z=.slice (some ⟨bw,0,none⟩) x'.r.length Z
   rw [hl]
  ·show x'.r.length<=Z;omega
  ·show cur.toList.take x'.r.length=bvs x'.r
   rwa [bvs_length] at hc2
 ·rw [updT_other _ _ (fun h=>hji h.symm),List.getElem_set_ne hji]
  exact (hy.row j hj2).mono fun e he=>List.mem_cons_of_mem _ he
theorem rsWrite {s:Nat} {p:Pl} {T:FT} {os:List (Nat×Obj)} {N:Nat} (hi0:1<=p.ino) (hi1:p.ino<=4096) {i at' m c:Nat} {R:HP} {A:Option Addr} {bs:Bytes} {x x2:NodeT} (hdc:p.dc<=1000000) (hT:RT p T) (htot:tot (fmT T) p.ino<=p.dc) (hTi:T i=some x) (hxs:x.size<=70656) (hR0:bs=[] ∨ Reads R A (bvs bs)) (hm:bs.length=m) (hmc:m<=c) (hcm:c<=maxLen) (hat:at'<=x.size) (hm7:m<=70656) (hz:max x.size (at'+m)<=70656) (hN:N<=1000) (hfit:tot (fmT T) p.ino+has (max x.size (at'+m))<=p.dc+has x.size) (hx2:x2.r=wrB x.r at' bs) (hk2:x2.kind=x.kind):Spec Tryz.prog 121 #[.pointer (some ⟨s,0,none⟩),nI i,nI at',.slice A m c] [RS s p T os N,frz os,R] fun F v M=>v=.int .i64 0/\∃ os2,(∀ e∈os,e∈os2)/\M=RS s p (updT T i (some x2)) os2 (N+(has m+2)+1) :: frz os2 :: R :: F:=by
 refine Spec.intro Tryz.func121 rfl rfl fun B F=>?_
 simp only [Tryz.ntmps121,List.cons_append,List.nil_append,env0,Nat.reduceAdd]
 obtain ⟨Z,hZ⟩:∃ Z,max x.size (at'+m)=Z:=⟨_,rfl⟩
 rw [hZ] at hz hfit
 obtain ⟨X,hX⟩:∃ X,x.r=X:=⟨_,rfl⟩
 have hXl:X.length=x.size:=by rw [<- hX];exact x.r_length
 rw [hX] at hx2
 have hi:i < p.ino:=in_ino hT hTi
 have hhm:has m<=200:=by unfold has dat;split<;>omega
 refine .sr (.assign (.z (.seq (.sr (.move (.move ?_))))))
 refine .call (hc:=Tryz.call161) (sp:=rsThere (s:=s) (p:=p) (T:=T) (os:=os) (N:=N) hi0 hi1 (i:=i) hT) (h:=?_)
 rintro _ _ ⟨rfl,rfl⟩
 rw [hTi]
 refine .not ?_
 refine .z ?_
 refine .condF rfl rfl ?_
 refine .skip (.next (.sr ?_))
 refine .openR (RS.opens s p T os N) fun y hy=>?_
 obtain ⟨u,L,wk,mv,ms⟩:=y
 simp only [rsLs,List.cons_append,List.nil_append]
 refine .fact (rowR_some (el:=244) (size:=2) (v:=u) (k:=p.ino) (xs:=(L).flatMap rowV) (by omega)) (fun ⟨ab,cc,hu,hR,hc1,hc2⟩=>?_)
 subst hu
 have hlen:(L).length=p.ino:=(hy).len
 have hil:i < L.length:=by omega
 have hrow:=hy.row i hil
 obtain ⟨A1,c1,hs1,hr1,hl1,hm1⟩:=hrow.sl
 obtain ⟨e1,hek⟩:∃ e,L[i]=e:=⟨_,rfl⟩
 have hkd:e1.1=refK (T i):=hek ▸ hrow.kd
 have hg0:(L.flatMap rowV)[((i:Nat):Int).toNat * 2+0]?=some (nI e1.1):=by rw [Int.toNat_natCast,<-hek];exact (rowV_get hil).1
 have hg1:(L.flatMap rowV)[((i:Nat):Int).toNat * 2+1]?=some (.slice A1 (refBy (T i)).length c1):=by rw [Int.toNat_natCast,<-hs1];exact (rowV_get hil).2
 rw [hkd] at hg0
 rw [hTi] at hg1 hr1 hl1
 rw [show refBy (some x)=X from hX] at hg1 hr1 hl1
 refine .move ?_
 refine .nilCheck ?_
 refine .fa ?_ fo247_1
 refine .ld ?_ sc245
 refine .move ?_
 refine .idx ?_ so245
 refine .fa ?_ fo244_1
 refine .ldR (R:=rowR 244 2 (.slice (some ⟨ab,0,none⟩) p.ino cc) p.ino (L.flatMap rowV)) ?_ sc33 hR hg1
 refine .assign (.z (.seq (.sr ?_)))
 refine .shutR (RS.opens s p T os N) ⟨.slice (some ⟨ab,0,none⟩) p.ino cc,L,wk,mv,ms⟩ hy ?_
 clear hy hrow hg0 hg1 hkd hek hs1 hR hlen
 refine .move ?_
 refine .lss ?_
 refine .move ?_
 refine .cast (d:=29) (u:=.bool false) rfl (congrArg Value.bool (by first|simp;done|simp;omega|omega)) ?_
 refine .gT ?_
 refine .move ?_
 refine .gT ?_
 refine .move ?_
 refine .gT ?_
 refine .lenS ?_ sl33
 refine .gT ?_
 refine .gtr ?_
 refine .pickF ?_
 refine .z ?_
 refine .condF rfl (congrArg Value.bool (by first|simp;done|simp;omega|omega)) ?_
 refine .skip (.next (.seq (.sr (.move ?_))))
 refine .lenS ?_ sl33
 refine .gtr ?_
 refine .z ?_
 refine .condF rfl (congrArg Value.bool (by first|simp;done|simp;omega|omega)) ?_
 refine .skip (.next (.sr (.move ?_)))
 refine .lenS ?_ sl33
 refine .move (.move ?_)
 refine .lenS ?_ sl33
 refine .add ?_
 refine .maxI ?_
 refine .cast (d:=44) (u:=nI Z) rfl (congrArg (Value.int .i64) (by split<;>omega)) ?_
 refine .assign (.x (.move (.move (.move ?_))))
 refine .call (hc:=Tryz.call195) (sp:=rsResize (s:=s) (p:=p) (T:=T) (os:=os) (N:=N) hi0 hi1 (i:=i) (z:=Z) (x:=x) hdc hT htot hTi hxs hz hfit) (h:=?_)
 rintro _ _ ⟨rfl,rfl⟩
 refine .assign (.z (.seq (.sr (.move ?_))))
 refine .nei ?_
 refine .z ?_
 refine .condF rfl (congrArg Value.bool (by first|simp;done|simp;omega|omega)) ?_
 refine .skip (.next (.sr (.move (.move (.move ?_)))))
 refine .lenS ?_ sl33
 refine .call (hc:=Tryz.call197) (sp:=rfNeed (n:=m) (by omega)) (h:=?_)
 rintro _ _ ⟨rfl,hM⟩
 obtain rfl:=hM.symm
 refine .add ?_
 refine .cast (d:=57) (u:=nI (has m+2)) rfl (congrArg (Value.int .i64) (by omega)) ?_
 refine .call (hc:=Tryz.call196) (sp:=rsTouch (s:=s) (p:=p) (T:=T) (os:=os) (N:=N) hi0 hi1 (i:=i) (n:=has m+2) (by omega) (by omega)) (h:=?_)
 rintro _ _ ⟨rfl,rfl⟩
 refine .x (.move ?_)
 refine .mkS (k:=(Z:Int)) z5 (fun bw=>?_) so33 (by omega) (by omega) (by omega)
 refine .cast (d:=60) (u:=.slice (some ⟨bw,0,none⟩) Z Z) rfl (by rw [Int.toNat_natCast]) ?_
 refine .to (A:=buf bw 5 (Z:Int).toNat (List.replicate (Z:Int).toNat (.int .u8 0))) (A':=buf bw 5 Z (bvs (splice (List.replicate Z 0) 0 (X.take 0)))) (fun h hh=>by rw [List.take_zero,rsp_nil,bvs_replicate];rw [Int.toNat_natCast] at hh;exact hh) ?_
 refine .assign (.z (.seq (.sr (.assign (.z (.block ?_))))))
 refine .loopA (σ:=Nat) (fun k=>[(0,.pointer (some ⟨s,0,none⟩)),(1,nI i),(2,nI at'),(3,.slice A m c),(9,.slice A1 X.length c1),(12,.slice (some ⟨bw,0,none⟩) Z Z),(13,.int .i64 (k:Int))]) (fun k=>[buf bw 5 Z (bvs (splice (List.replicate Z 0) 0 (X.take k))),RS s p T os (N+(has m+2)+1),frz os,R]++F) (fun k=>k<=X.length) (fun k=>X.length - k) 0 (Nat.zero_le _) ?_
 rintro k hk
 refine .seq (.sr (.move (.move ?_)))
 refine .lenS ?_ sl33
 refine .lss ?_
 refine .z ?_
 refine .cond rfl (fun hb=>?_) (fun hb=>?_)
 ·have hlt:k < X.length:=by have h:(k:Int) < (X.length:Int):=of_decide_eq_true hb;omega
  have hsl:(splice (List.replicate Z 0) 0 (X.take k)).length=Z:=by rw [splice_length (by rw [List.length_replicate,List.length_take];omega),List.length_replicate]
  have hrX:=hr1.resolve_left (by intro h;rw [h] at hlt;simp at hlt)
  rcases A1 with _ | ⟨a1,o1,sp1⟩
  ·exact absurd (congrArg List.length (show bvs X=[] from hrX)) (by rw [bvs_length];simp only [List.length_nil];omega)
  have hsp:sp1=none:=hrX.1
  subst hsp
  have hgx:(bvs X)[((k:Nat):Int).toNat]?=some (bv (X.getD k 0)):=by rw [Int.toNat_natCast];exact bv_getD hlt
  refine .skip (.next (.seq (.block (.region (.move (.move (.move (.move ?_))))))))
  refine .idx1 ?_ so33
  refine .ldR (R:=frz os) (xs:=bvs X) (i:=((k:Nat):Int).toNat) ?_ sc5 hrX hgx
  refine .idx1 ?_ so33
  refine .stB ?_ sc5 (show 0+((k:Nat):Int).toNat < (bvs (splice (List.replicate Z 0) 0 (X.take k))).length by rw [bvs_length];omega)
  refine .nil (.blockNormal (.next (.region (.move ?_))))
  refine .add ?_
  refine .assign (.nil ?_)
  refine .to (A:=buf bw 5 Z ((bvs (splice (List.replicate Z 0) 0 (X.take k))).set (0+((k:Nat):Int).toNat) (bv (X.getD k 0)))) (A':=buf bw 5 Z (bvs (splice (List.replicate Z 0) 0 (X.take (k+1))))) (fun h hh=>by rw [<- rsp_step (by rw [List.length_replicate];omega) (by omega),bvs_set];rw [Int.toNat_natCast] at hh;exact hh) ?_
  refine .cast (d:=13) (u:=.int .i64 ((k+1:Nat):Int)) rfl (congrArg (Value.int .i64) (by omega)) ?_
  exact .back (k+1) (by show k+1<=X.length;omega) (by show X.length - (k+1) < X.length - k;omega)
 ·have hge:¬ k < X.length:=by have h:¬ (k:Int) < (X.length:Int):=of_decide_eq_false hb;omega
  have hkS:k=X.length:=by omega
  subst hkS
  obtain ⟨Z0,hZ0⟩:∃ Z0,Z0=splice (List.replicate Z 0) 0 X:=⟨_,rfl⟩
  have hZl:Z0.length=Z:=by rw [hZ0,splice_length (by rw [List.length_replicate];omega),List.length_replicate]
  refine .to (A:=buf bw 5 Z (bvs (splice (List.replicate Z 0) 0 (X.take X.length)))) (A':=buf bw 5 Z (bvs (splice Z0 at' (bs.take 0)))) (fun h hh=>by rw [List.take_zero,rsp_nil,hZ0];rw [rsp_all rfl] at hh;exact hh) ?_
  refine .exit (.thenExit (.thenExit (.blockExit (?_))))
  refine .next (.seq (.sr (.assign (.z (.block ?_)))))
  refine .loopA (σ:=Nat) (fun j=>[(0,.pointer (some ⟨s,0,none⟩)),(1,nI i),(2,nI at'),(3,.slice A m c),(9,.slice A1 X.length c1),(12,.slice (some ⟨bw,0,none⟩) Z Z),(14,.int .i64 (j:Int))]) (fun j=>[buf bw 5 Z (bvs (splice Z0 at' (bs.take j))),RS s p T os (N+(has m+2)+1),frz os,R]++F) (fun j=>j<=m) (fun j=>m - j) 0 (Nat.zero_le _) ?_
  rintro j hj
  refine .seq (.sr (.move (.move ?_)))
  refine .lenS ?_ sl33
  refine .lss ?_
  refine .z ?_
  refine .cond rfl (fun hb2=>?_) (fun hb2=>?_)
  ·have hlt:j < m:=by have h:(j:Int) < (m:Int):=of_decide_eq_true hb2;omega
   have hsl:(splice Z0 at' (bs.take j)).length=Z:=by rw [splice_length (by rw [hZl,List.length_take];omega),hZl]
   have hrB:=hR0.resolve_left (by intro h;rw [h] at hm;simp at hm;omega)
   rcases A with _ | ⟨ax,ox,spx⟩
   ·exact absurd (congrArg List.length (show bvs bs=[] from hrB)) (by rw [bvs_length];simp only [List.length_nil];omega)
   have hsp:spx=none:=hrB.1
   subst hsp
   have hgx:(bvs bs)[((j:Nat):Int).toNat]?=some (bv (bs.getD j 0)):=by rw [Int.toNat_natCast];exact bv_getD (by omega)
   refine .skip (.next (.seq (.block (.region (.move (.move (.move ?_)))))))
   refine .add ?_
   refine .cast (d:=83) (u:=nI (at'+j)) rfl (congrArg (Value.int .i64) (by omega)) ?_
   refine .move (.move ?_)
   refine .idx1 ?_ so33
   refine .ldR (R:=R) (xs:=bvs bs) (i:=((j:Nat):Int).toNat) ?_ sc5 hrB hgx
   refine .idx1 ?_ so33
   refine .stB ?_ sc5 (show 0+((at'+j:Nat):Int).toNat < (bvs (splice Z0 at' (bs.take j))).length by rw [bvs_length];omega)
   refine .nil (.blockNormal (.next (.region (.move ?_))))
   refine .add ?_
   refine .assign (.nil ?_)
   refine .to (A:=buf bw 5 Z ((bvs (splice Z0 at' (bs.take j))).set (0+((at'+j:Nat):Int).toNat) (bv (bs.getD j 0)))) (A':=buf bw 5 Z (bvs (splice Z0 at' (bs.take (j+1))))) (fun h hh=>by rw [<- rsp_step (by omega) (by omega),bvs_set];rw [Int.toNat_natCast,Nat.zero_add] at hh;exact hh) ?_
   refine .cast (d:=14) (u:=.int .i64 ((j+1:Nat):Int)) rfl (congrArg (Value.int .i64) (by omega)) ?_
   exact .back (j+1) (by omega) (by omega)
  ·have hge2:¬ j < m:=by have h:¬ (j:Int) < (m:Int):=of_decide_eq_false hb2;omega
   have hjN:j=m:=by omega
   subst hjN
   have hfin:splice Z0 at' (bs.take j)=x2.r:=by rw [rsp_all hm,hZ0,hx2,<-hZ,<-hXl,<-hm];exact rsp_made X bs at'
   have hxl2:x2.r.length=Z:=by rw [hx2,wrB_length,hXl,hm,hZ]
   refine .to (A:=buf bw 5 Z (bvs (splice Z0 at' (bs.take j)))) (A':=buf bw 5 Z (bvs x2.r)) (fun h hh=>by rw [hfin] at hh;exact hh) ?_
   refine .openR (RS.opens s p T os (N+(has j+2)+1)) fun y hy=>?_
   obtain ⟨u,L,wk,mv,ms⟩:=y
   simp only [rsLs,List.cons_append,List.nil_append]
   refine .fact (rowR_some (el:=244) (size:=2) (v:=u) (k:=p.ino) (xs:=(L).flatMap rowV) (by omega)) (fun ⟨ab,cc,hu,hR,hc1,hc2⟩=>?_)
   subst hu
   have hlen:(L).length=p.ino:=(hy).len
   have hil:i < L.length:=by omega
   have hlV:=rowV_length L
   refine .exit (.thenExit (.thenExit (.blockExit (?_))))
   refine .next (.sr (.move ?_))
   refine .nilCheck ?_
   refine .fa ?_ fo247_1
   refine .ld ?_ sc245
   refine .move (.move ?_)
   refine .idx ?_ so245
   refine .fa ?_ fo244_1
   refine .stRow1 (g:=ab) (size:=2) (num:=p.ino) (c:=cc) (off:=0+((i:Nat):Int).toNat * 2+1) (xs:=L.flatMap rowV) (v:=.slice (some ⟨bw,0,none⟩) Z Z) rfl ?_ sc33 (by rw [hlV];omega) rfl (by repeat (first | exact .here | apply Rem.there | apply Repl.there | apply Mem.there))
   refine .to (A:=rowR 244 2 (.slice (some ⟨ab,0,none⟩) p.ino cc) p.ino ((L.flatMap rowV).set (0+((i:Nat):Int).toNat * 2+1) (.slice (some ⟨bw,0,none⟩) Z Z))) (A':=rowR 244 2 (.slice (some ⟨ab,0,none⟩) p.ino cc) p.ino ((L.set i (L[i].1,.slice (some ⟨bw,0,none⟩) Z Z)).flatMap rowV)) (fun h hh=>by rw [<- rowV_set1 hil];rw [Int.toNat_natCast,Nat.zero_add] at hh;exact hh) ?_
   refine .x (.assign (.z ?_))
   refine .ret (?_)
   refine .openR (buf_opens (g:=bw) (el:=5) (k:=Z) (xs:=bvs x2.r)) fun cur hcur=>?_
   simp only [List.cons_append,List.nil_append]
   refine .frzAdd (b:=bw) (os:=os) ?_
   refine .shutR (RS.opens s p (updT T i (some x2)) ((bw,.cells cur 5 (0,0)) :: os) (N+(has j+2)+1)) ⟨.slice (some ⟨ab,0,none⟩) p.ino cc,L.set i (L[i].1,.slice (some ⟨bw,0,none⟩) Z Z),wk,mv,ms⟩ (hy.write hTi hil hk2 hxl2 hcur.1 hcur.2.1 (by unfold maxLen;omega)) ?_
   exact .ret1 (h1:=.tmp (t:=8) rfl) ⟨_,⟨rfl,_,(fun e he=>List.mem_cons_of_mem _ he),rfl⟩,Am.auto⟩
theorem agg244:aggOk Tryz.prog 244 2=true:=by kernel_rfl
theorem RSP.set {p:Pl} {T:FT} {os:List (Nat×Obj)} {N i:Nat} {u mv:Value} {L:List (Nat×Value)} {wk:Nat} {ms:List Int} {x:NodeT} (hy:RSP p T os N ⟨u,L,wk,mv,ms⟩) (hi:i < L.length) (hx:x.r=[]):RSP p (updT T i (some x)) os N ⟨u,L.set i (x.kind,.slice none 0 0),wk,mv,ms⟩:=by
 refine ⟨by show (L.set i _).length=_;rw [List.length_set];exact hy.len,fun j hj=>?_,hy.wk,hy.ml⟩
 have hj2:j < L.length:=by have:j < (L.set i (x.kind,Value.slice none 0 0)).length:=hj;rwa [List.length_set] at this
 show RRow _ _ (updT T i (some x) j) (L.set i (x.kind,Value.slice none 0 0))[j]
 by_cases hji:i=j
 ·subst hji
  rw [updT_same,List.getElem_set_self]
  exact ⟨rfl,.inl ⟨rfl,hx⟩⟩
 ·rw [updT_other _ _ (fun h=>hji h.symm),List.getElem_set_ne hji]
  exact hy.row j hj2
def NodeT.rok:NodeT->Prop
 | .file _=>True
 | .dir sl=>(DirOk sl/\sl.length<=1000)/\∀ (q:Nat) (nm:Bytes) (i:Nat),sl[q]?=some (some (nm,i))->i < 65536
theorem RT.upd {p:Pl} {T:FT} (h:RT p T) {i:Nat} (hi:i < p.ino) {x:NodeT} (hx:x.rok):RT p (updT T i (some x)):=by
 refine ⟨h.ok.upd i fun sl he=>?_,fun d sl hd=>?_,fun j hj=>?_⟩
 ·injection he with he;subst he;exact hx.1
 ·by_cases hdi:d=i
  ·subst hdi;rw [updT_same] at hd;injection hd with hd;subst hd;exact hx.2
  ·rw [updT_other _ _ hdi] at hd;exact h.small d sl hd
 ·rw [updT_other _ _ (by omega)];exact h.out j hj
theorem rsMake {s:Nat} {p:Pl} {T:FT} {os:List (Nat×Obj)} {N:Nat} (hi0:1<=p.ino) (hi1:p.ino<=4096) {i kind:Nat} {x:NodeT} (hk:kind=1 ∨ kind=2) (hi:i < p.ino) (hTi:T i=none) (hb:∀ j < i,T j≠none) (hx:x.kind=kind) (hxr:x.r=[]) (hN:N<=1000):Spec Tryz.prog 159 #[.pointer (some ⟨s,0,none⟩),nI kind] [RS s p T os N] fun F v M=>v=.tuple #[nI i,.int .i64 0]/\M=RS s p (updT T i (some x)) os (N+0+1) :: F:=by
 refine Spec.intro Tryz.func159 rfl rfl fun B F=>?_
 simp only [Tryz.ntmps159,List.cons_append,List.nil_append,env0,Nat.reduceAdd]
 refine .openR (RS.opens s p T os N) fun y hy=>?_
 obtain ⟨u,L,wk,mv,ms⟩:=y
 simp only [rsLs,List.cons_append,List.nil_append]
 refine .fact (rowR_some (el:=244) (size:=2) (v:=u) (k:=p.ino) (xs:=(L).flatMap rowV) (by omega)) (fun ⟨ab,cc,hu,hR,hc1,hc2⟩=>?_)
 subst hu
 have hlen:(L).length=p.ino:=(hy).len
 have hk3:kind<=2:=by omega
 by_cases hk1:kind=1
 ·refine .sr (.assign (.assign (.z (.seq (.sr (.move ?_))))))
  refine .nei ?_
  refine .move ?_
  refine .cast (d:=9) (u:=.bool false) rfl (congrArg Value.bool (by first|simp;done|simp;omega|omega)) ?_
  refine .gF ?_
  refine .gF ?_
  refine .pickF ?_
  refine .z ?_
  refine .condF rfl rfl ?_
  refine .skip (.next (.seq (.sr (.assign (.z (.block ?_))))))
  refine .loopA (σ:=Nat) (fun k=>[(0,.pointer (some ⟨s,0,none⟩)),(1,nI kind),(6,.int .i64 ((k:Nat):Int))]) (fun _=>[pt s (sO p (.slice (some ⟨ab,0,none⟩) p.ino cc) wk mv),rowR 244 2 (.slice (some ⟨ab,0,none⟩) p.ino cc) p.ino (L.flatMap rowV),rowR 3 1 mv ms.length (ints ms)]++F) (fun k=>k<=i) (fun k=>i - k) 0 (Nat.zero_le _) ?_
  rintro k hkk
  refine .seq (.sr (.move (.move ?_)))
  refine .nilCheck ?_
  refine .fa ?_ fo247_1
  refine .ld ?_ sc245
  refine .lenS ?_ sl245
  refine .lss ?_
  refine .z ?_
  refine .cond rfl (fun hb2=>?_) (fun hb2=>?_)
  ·have hlt:k < p.ino:=by have h:(k:Int) < (p.ino:Int):=of_decide_eq_true hb2;omega
   have hil:k < L.length:=by omega
   have hrow:=hy.row k hil
   obtain ⟨A1,c1,hs1,hr1,hl1,hm1⟩:=hrow.sl
   obtain ⟨e1,hek⟩:∃ e,L[k]=e:=⟨_,rfl⟩
   have hkd:e1.1=refK (T k):=hek ▸ hrow.kd
   have hg0:(L.flatMap rowV)[((k:Nat):Int).toNat * 2+0]?=some (nI e1.1):=by rw [Int.toNat_natCast,<-hek];exact (rowV_get hil).1
   have hg1:(L.flatMap rowV)[((k:Nat):Int).toNat * 2+1]?=some (.slice A1 (refBy (T k)).length c1):=by rw [Int.toNat_natCast,<-hs1];exact (rowV_get hil).2
   rw [hkd] at hg0
   by_cases hki:k=i
   ·subst hki
    rw [hTi] at hg0
    refine .skip (.next (.seq (.block (.sr (.move ?_)))))
    refine .nilCheck ?_
    refine .fa ?_ fo247_1
    refine .ld ?_ sc245
    refine .move ?_
    refine .idx ?_ so245
    refine .fa ?_ fo244_0
    refine .ldR (R:=rowR 244 2 (.slice (some ⟨ab,0,none⟩) p.ino cc) p.ino (L.flatMap rowV)) ?_ sc3 hR hg0
    refine .eqi ?_
    refine .z ?_
    refine .condT rfl (congrArg Value.bool (by first | rfl | (simp;done) | (simp;omega) | omega)) ?_
    refine .sr (.move ?_)
    refine .nilCheck ?_
    refine .fa ?_ fo247_1
    refine .ld ?_ sc245
    refine .move (.move ?_)
    refine .build ?_ (bdFl _)
    refine .idx ?_ so245
    refine .stRowA (g:=ab) (size:=2) (num:=p.ino) (c:=cc) (off:=0+((k:Nat):Int).toNat * 2) (xs:=L.flatMap rowV) (us:=#[nI kind,.slice none 0 0]) rfl ?_ agg244 rfl (by simp) (by intro x hx;simp only [List.mem_cons,List.not_mem_nil,or_false] at hx;rcases hx with rfl | rfl<;>rfl) (by rw [rowV_length];omega) (by repeat (first | exact .here | apply Rem.there | apply Repl.there | apply Mem.there))
    refine .to (A:=rowR 244 2 (.slice (some ⟨ab,0,none⟩) p.ino cc) p.ino ((L.flatMap rowV).take (0+((k:Nat):Int).toNat * 2)++(#[nI kind,Value.slice none 0 0]:Array Value).toList++(L.flatMap rowV).drop (0+((k:Nat):Int).toNat * 2+(#[nI kind,Value.slice none 0 0]:Array Value).toList.length))) (A':=rowR 244 2 (.slice (some ⟨ab,0,none⟩) p.ino cc) p.ino ((L.set k (x.kind,.slice none 0 0)).flatMap rowV)) (fun h hh=>by rw [<- rowV_set hil,hx];rw [Int.toNat_natCast,Nat.zero_add] at hh;exact hh) ?_
    refine .x ?_
    refine .shutR (RS.opens s p (updT T k (some x)) os N) ⟨.slice (some ⟨ab,0,none⟩) p.ino cc,L.set k (x.kind,.slice none 0 0),wk,mv,ms⟩ (hy.set hil hxr) ?_
    refine .move (.move ?_)
    refine .call (hc:=Tryz.call196) (sp:=rsTouch (s:=s) (p:=p) (T:=updT T k (some x)) (os:=os) (N:=N) hi0 hi1 (i:=k) (n:=0) (by omega) (by omega)) (h:=?_)
    rintro _ _ ⟨rfl,rfl⟩
    refine .x (.move (.assign (.assign (.z ?_))))
    refine .ret (.blockRet (.thenRet (.thenRet (.blockRet (.thenRet (?_))))))
    exact .ret2 (h1:=.tmp (t:=4) rfl) (h2:=.tmp (t:=5) rfl) ⟨_,⟨rfl,rfl⟩,Am.auto⟩
   ·obtain ⟨z,hz⟩:∃ z,T k=some z:=by
     cases hTk:T k with
     | none=>exact absurd hTk (hb k (by omega))
     | some z=>exact ⟨z,rfl⟩
    rw [hz] at hg0
    have hkz:refK (some z)≠0:=fun h=>by cases (refK_zero.1 h)
    refine .skip (.next (.seq (.block (.sr (.move ?_)))))
    refine .nilCheck ?_
    refine .fa ?_ fo247_1
    refine .ld ?_ sc245
    refine .move ?_
    refine .idx ?_ so245
    refine .fa ?_ fo244_0
    refine .ldR (R:=rowR 244 2 (.slice (some ⟨ab,0,none⟩) p.ino cc) p.ino (L.flatMap rowV)) ?_ sc3 hR hg0
    refine .eqi ?_
    refine .z ?_
    refine .condF rfl (congrArg Value.bool (by first | (exact decide_eq_false (by omega)) | (simp;done) | (simp;omega) | omega)) ?_
    refine .skip (.blockNormal (.next (.region (.move ?_))))
    refine .add ?_
    refine .assign (.nil ?_)
    refine .cast (d:=6) (u:=.int .i64 ((k+1:Nat):Int)) rfl (congrArg (Value.int .i64) (by omega)) ?_
    exact .back (k+1) (by show k+1<=i;omega) (by show i - (k+1) < i - k;omega)
  ·have hge:¬ k < p.ino:=by have h:¬ (k:Int) < (p.ino:Int):=of_decide_eq_false hb2;omega
   exact absurd (Nat.lt_of_le_of_lt hkk hi) hge
 ·have hk2:kind=2:=by omega
  refine .sr (.assign (.assign (.z (.seq (.sr (.move ?_))))))
  refine .nei ?_
  refine .move ?_
  refine .cast (d:=9) (u:=.bool true) rfl (congrArg Value.bool (by first|simp;done|simp;omega|omega)) ?_
  refine .gT ?_
  refine .move ?_
  refine .gT ?_
  refine .nei ?_
  refine .pickT ?_
  refine .z ?_
  refine .condF rfl (congrArg Value.bool (by first|simp;done|simp;omega|omega)) ?_
  refine .skip (.next (.seq (.sr (.assign (.z (.block ?_))))))
  refine .loopA (σ:=Nat) (fun k=>[(0,.pointer (some ⟨s,0,none⟩)),(1,nI kind),(6,.int .i64 ((k:Nat):Int))]) (fun _=>[pt s (sO p (.slice (some ⟨ab,0,none⟩) p.ino cc) wk mv),rowR 244 2 (.slice (some ⟨ab,0,none⟩) p.ino cc) p.ino (L.flatMap rowV),rowR 3 1 mv ms.length (ints ms)]++F) (fun k=>k<=i) (fun k=>i - k) 0 (Nat.zero_le _) ?_
  rintro k hkk
  refine .seq (.sr (.move (.move ?_)))
  refine .nilCheck ?_
  refine .fa ?_ fo247_1
  refine .ld ?_ sc245
  refine .lenS ?_ sl245
  refine .lss ?_
  refine .z ?_
  refine .cond rfl (fun hb2=>?_) (fun hb2=>?_)
  ·have hlt:k < p.ino:=by have h:(k:Int) < (p.ino:Int):=of_decide_eq_true hb2;omega
   have hil:k < L.length:=by omega
   have hrow:=hy.row k hil
   obtain ⟨A1,c1,hs1,hr1,hl1,hm1⟩:=hrow.sl
   obtain ⟨e1,hek⟩:∃ e,L[k]=e:=⟨_,rfl⟩
   have hkd:e1.1=refK (T k):=hek ▸ hrow.kd
   have hg0:(L.flatMap rowV)[((k:Nat):Int).toNat * 2+0]?=some (nI e1.1):=by rw [Int.toNat_natCast,<-hek];exact (rowV_get hil).1
   have hg1:(L.flatMap rowV)[((k:Nat):Int).toNat * 2+1]?=some (.slice A1 (refBy (T k)).length c1):=by rw [Int.toNat_natCast,<-hs1];exact (rowV_get hil).2
   rw [hkd] at hg0
   by_cases hki:k=i
   ·subst hki
    rw [hTi] at hg0
    refine .skip (.next (.seq (.block (.sr (.move ?_)))))
    refine .nilCheck ?_
    refine .fa ?_ fo247_1
    refine .ld ?_ sc245
    refine .move ?_
    refine .idx ?_ so245
    refine .fa ?_ fo244_0
    refine .ldR (R:=rowR 244 2 (.slice (some ⟨ab,0,none⟩) p.ino cc) p.ino (L.flatMap rowV)) ?_ sc3 hR hg0
    refine .eqi ?_
    refine .z ?_
    refine .condT rfl (congrArg Value.bool (by first | rfl | (simp;done) | (simp;omega) | omega)) ?_
    refine .sr (.move ?_)
    refine .nilCheck ?_
    refine .fa ?_ fo247_1
    refine .ld ?_ sc245
    refine .move (.move ?_)
    refine .build ?_ (bdFl _)
    refine .idx ?_ so245
    refine .stRowA (g:=ab) (size:=2) (num:=p.ino) (c:=cc) (off:=0+((k:Nat):Int).toNat * 2) (xs:=L.flatMap rowV) (us:=#[nI kind,.slice none 0 0]) rfl ?_ agg244 rfl (by simp) (by intro x hx;simp only [List.mem_cons,List.not_mem_nil,or_false] at hx;rcases hx with rfl | rfl<;>rfl) (by rw [rowV_length];omega) (by repeat (first | exact .here | apply Rem.there | apply Repl.there | apply Mem.there))
    refine .to (A:=rowR 244 2 (.slice (some ⟨ab,0,none⟩) p.ino cc) p.ino ((L.flatMap rowV).take (0+((k:Nat):Int).toNat * 2)++(#[nI kind,Value.slice none 0 0]:Array Value).toList++(L.flatMap rowV).drop (0+((k:Nat):Int).toNat * 2+(#[nI kind,Value.slice none 0 0]:Array Value).toList.length))) (A':=rowR 244 2 (.slice (some ⟨ab,0,none⟩) p.ino cc) p.ino ((L.set k (x.kind,.slice none 0 0)).flatMap rowV)) (fun h hh=>by rw [<- rowV_set hil,hx];rw [Int.toNat_natCast,Nat.zero_add] at hh;exact hh) ?_
    refine .x ?_
    refine .shutR (RS.opens s p (updT T k (some x)) os N) ⟨.slice (some ⟨ab,0,none⟩) p.ino cc,L.set k (x.kind,.slice none 0 0),wk,mv,ms⟩ (hy.set hil hxr) ?_
    refine .move (.move ?_)
    refine .call (hc:=Tryz.call196) (sp:=rsTouch (s:=s) (p:=p) (T:=updT T k (some x)) (os:=os) (N:=N) hi0 hi1 (i:=k) (n:=0) (by omega) (by omega)) (h:=?_)
    rintro _ _ ⟨rfl,rfl⟩
    refine .x (.move (.assign (.assign (.z ?_))))
    refine .ret (.blockRet (.thenRet (.thenRet (.blockRet (.thenRet (?_))))))
    exact .ret2 (h1:=.tmp (t:=4) rfl) (h2:=.tmp (t:=5) rfl) ⟨_,⟨rfl,rfl⟩,Am.auto⟩
   ·obtain ⟨z,hz⟩:∃ z,T k=some z:=by
     cases hTk:T k with
     | none=>exact absurd hTk (hb k (by omega))
     | some z=>exact ⟨z,rfl⟩
    rw [hz] at hg0
    have hkz:refK (some z)≠0:=fun h=>by cases (refK_zero.1 h)
    refine .skip (.next (.seq (.block (.sr (.move ?_)))))
    refine .nilCheck ?_
    refine .fa ?_ fo247_1
    refine .ld ?_ sc245
    refine .move ?_
    refine .idx ?_ so245
    refine .fa ?_ fo244_0
    refine .ldR (R:=rowR 244 2 (.slice (some ⟨ab,0,none⟩) p.ino cc) p.ino (L.flatMap rowV)) ?_ sc3 hR hg0
    refine .eqi ?_
    refine .z ?_
    refine .condF rfl (congrArg Value.bool (by first | (exact decide_eq_false (by omega)) | (simp;done) | (simp;omega) | omega)) ?_
    refine .skip (.blockNormal (.next (.region (.move ?_))))
    refine .add ?_
    refine .assign (.nil ?_)
    refine .cast (d:=6) (u:=.int .i64 ((k+1:Nat):Int)) rfl (congrArg (Value.int .i64) (by omega)) ?_
    exact .back (k+1) (by show k+1<=i;omega) (by show i - (k+1) < i - k;omega)
  ·have hge:¬ k < p.ino:=by have h:¬ (k:Int) < (p.ino:Int):=of_decide_eq_false hb2;omega
   exact absurd (Nat.lt_of_le_of_lt hkk hi) hge
theorem rsAdd {s:Nat} {p:Pl} {T:FT} {os:List (Nat×Obj)} {N:Nat} (hi0:1<=p.ino) (hi1:p.ino<=4096) {d i:Nat} {nm:Bytes} {sl:List Slot} (hdc:p.dc<=1000000) (hT:RT p T) (htot:tot (fmT T) p.ino<=p.dc) (hn:nameOk nm=true) (hTd:T d=some (.dir sl)) (hl:lookS nm sl=none) (hi:i < 65536) (hN:N<=1000) (hfit:tot (fmT T) p.ino+has (max (64 * sl.length) (64 * freeS sl+64))<=p.dc+has (64 * sl.length)):Spec Tryz.prog 160 #[.pointer (some ⟨s,0,none⟩),nI d,sv nm,nI i] [RS s p T os N,frz os] fun F v M=>v=.int .i64 0/\∃ os2,(∀ e∈os,e∈os2)/\M=RS s p (updT T d (some (.dir (setS sl (freeS sl) (some (nm,i)))))) os2 (N+(has 64+2)+1) :: frz os2 :: F:=by
 refine Spec.intro Tryz.func160 rfl rfl fun B F=>?_
 simp only [Tryz.ntmps160,List.cons_append,List.nil_append,env0,Nat.reduceAdd]
 have hnl:=(nameOk_len hn).2
 have hne:nm≠[]:=fun h0=>by subst h0;exact absurd hn (by decide)
 have hb0:beginT T d nm=0:=by unfold beginT;rw [if_pos hn];simp only [hTd]
 have hf1:findSlV nm sl=-1:=by unfold findSlV;rw [findSl_look hne,hl];rfl
 have hdo:=hT.ok d sl hTd
 have hfr:=freeS_find hdo.1
 have hfl:=freeS_le sl
 have hrl:=rdirB_length sl
 have hid:d < p.ino:=in_ino hT hTd
 have hln:=hdo.2
 obtain ⟨q,hq⟩:∃ q,freeS sl=q:=⟨_,rfl⟩
 rw [hq] at hfr hfl hfit ⊢
 cases hfs:findSl [] sl with
 | none =>
  have hfv:findSlV [] sl=-1:=by unfold findSlV;rw [hfs]
  have hqr:q=sl.length:=by rw [hfr,hfs];rfl
  refine .sr (.assign (.x (.move (.move (.move ?_)))))
  refine .call (hc:=Tryz.call237) (sp:=rsBeginN (s:=s) (p:=p) (T:=T) (os:=os) (N:=N) hi0 hi1 (d:=d) (nm:=nm) hT (by omega)) (h:=?_)
  rintro _ _ ⟨rfl,rfl⟩
  rw [hb0]
  refine .assign (.z (.seq (.sr (.move ?_))))
  refine .nei ?_
  refine .z ?_
  refine .condF rfl (congrArg Value.bool (by first|simp;done|simp;omega|omega)) ?_
  refine .skip (.next (.seq (.sr (.move (.move (.move ?_))))))
  refine .call (hc:=Tryz.call238) (sp:=rsFindSl (s:=s) (p:=p) (T:=T) (os:=os) (N:=N) hi0 hi1 (d:=d) (nm:=nm) (sl:=sl) hT hTd) (h:=?_)
  rintro _ _ ⟨rfl,rfl⟩
  rw [hf1]
  refine .geq ?_
  refine .z ?_
  refine .condF rfl (congrArg Value.bool (by first|simp;done|simp;omega|omega)) ?_
  refine .skip (.next (.sr (.move (.move ?_))))
  refine .call (hc:=Tryz.call238) (sp:=rsFindSl (s:=s) (p:=p) (T:=T) (os:=os) (N:=N) hi0 hi1 (d:=d) (nm:=[]) (sl:=sl) hT hTd) (h:=?_)
  rintro _ _ ⟨rfl,rfl⟩
  rw [hfv]
  refine .assign (.z (.seq (.sr (.move ?_))))
  refine .lss ?_
  refine .z ?_
  refine .condT rfl (congrArg Value.bool (by first|simp;done|simp;omega|omega)) ?_
  refine .region ?_
  refine .openR (RS.opens s p T os N) fun y hy=>?_
  obtain ⟨u,L,wk,mv,ms⟩:=y
  simp only [rsLs,List.cons_append,List.nil_append]
  refine .fact (rowR_some (el:=244) (size:=2) (v:=u) (k:=p.ino) (xs:=(L).flatMap rowV) (by omega)) (fun ⟨ab,cc,hu,hR,hc1,hc2⟩=>?_)
  subst hu
  have hlen:(L).length=p.ino:=(hy).len
  have hil:d < L.length:=by omega
  have hrow:=hy.row d hil
  obtain ⟨A1,c1,hs1,hr1,hl1,hm1⟩:=hrow.sl
  obtain ⟨e1,hek⟩:∃ e,L[d]=e:=⟨_,rfl⟩
  have hkd:e1.1=refK (T d):=hek ▸ hrow.kd
  have hg0:(L.flatMap rowV)[((d:Nat):Int).toNat * 2+0]?=some (nI e1.1):=by rw [Int.toNat_natCast,<-hek];exact (rowV_get hil).1
  have hg1:(L.flatMap rowV)[((d:Nat):Int).toNat * 2+1]?=some (.slice A1 (refBy (T d)).length c1):=by rw [Int.toNat_natCast,<-hs1];exact (rowV_get hil).2
  rw [hkd] at hg0
  rw [refBy_dir hTd] at hg1 hr1 hl1
  refine .move ?_
  refine .nilCheck ?_
  refine .fa ?_ fo247_1
  refine .ld ?_ sc245
  refine .move ?_
  refine .idx ?_ so245
  refine .fa ?_ fo244_1
  refine .ldR (R:=rowR 244 2 (.slice (some ⟨ab,0,none⟩) p.ino cc) p.ino (L.flatMap rowV)) ?_ sc33 hR hg1
  refine .lenS ?_ sl33
  refine .quo ?_
  refine .cast (d:=37) (u:=nI q) rfl (congrArg (Value.int .i64) (by omega)) ?_
  refine .assign (.x ?_)
  refine .shutR (RS.opens s p T os N) ⟨.slice (some ⟨ab,0,none⟩) p.ino cc,L,wk,mv,ms⟩ hy ?_
  refine .move (.move (.move ?_))
  refine .mul ?_
  refine .cast (d:=41) (u:=nI (64 * q)) rfl (congrArg (Value.int .i64) (by omega)) ?_
  refine .move (.move ?_)
  refine .call (hc:=Tryz.call239) (sp:=rfSlot (nm:=nm) (i:=i) hnl hi) (h:=?_)
  rintro _ _ ⟨bb,rfl,rfl⟩
  refine .call (hc:=Tryz.call121) (sp:=rsWrite (s:=s) (p:=p) (T:=T) (os:=os) (N:=N) hi0 hi1 (i:=d) (at':=64 * q) (m:=64) (c:=64) (R:=buf bb 5 64 (bvs (rslotB (some (nm,i))))) (A:=some ⟨bb,0,none⟩) (bs:=rslotB (some (nm,i))) (x:=.dir sl) (x2:=.dir (setS sl q (some (nm,i)))) hdc hT htot hTd (by show 64 * sl.length<=_;omega) (.inr Reads.buf) (rslotB_length _) (Nat.le_refl _) (by decide) (by show 64 * q<=64 * sl.length;omega) (by decide) (by show max (64 * sl.length) (64 * q+64)<=_;omega) hN hfit (rsetS_wr hfl _).symm rfl) (h:=?_)
  rintro _ _ ⟨rfl,os2,hsub,rfl⟩
  refine .assign (.z ?_)
  refine .ret (?_)
  exact .ret1 (h1:=.tmp (t:=8) rfl) ⟨_,⟨rfl,os2,hsub,rfl⟩,Am.auto⟩
 | some r =>
  have hfv:findSlV [] sl=(r:Int):=by unfold findSlV;rw [hfs]
  have hqr:q=r:=by rw [hfr,hfs];rfl
  subst hqr
  refine .sr (.assign (.x (.move (.move (.move ?_)))))
  refine .call (hc:=Tryz.call237) (sp:=rsBeginN (s:=s) (p:=p) (T:=T) (os:=os) (N:=N) hi0 hi1 (d:=d) (nm:=nm) hT (by omega)) (h:=?_)
  rintro _ _ ⟨rfl,rfl⟩
  rw [hb0]
  refine .assign (.z (.seq (.sr (.move ?_))))
  refine .nei ?_
  refine .z ?_
  refine .condF rfl (congrArg Value.bool (by first|simp;done|simp;omega|omega)) ?_
  refine .skip (.next (.seq (.sr (.move (.move (.move ?_))))))
  refine .call (hc:=Tryz.call238) (sp:=rsFindSl (s:=s) (p:=p) (T:=T) (os:=os) (N:=N) hi0 hi1 (d:=d) (nm:=nm) (sl:=sl) hT hTd) (h:=?_)
  rintro _ _ ⟨rfl,rfl⟩
  rw [hf1]
  refine .geq ?_
  refine .z ?_
  refine .condF rfl (congrArg Value.bool (by first|simp;done|simp;omega|omega)) ?_
  refine .skip (.next (.sr (.move (.move ?_))))
  refine .call (hc:=Tryz.call238) (sp:=rsFindSl (s:=s) (p:=p) (T:=T) (os:=os) (N:=N) hi0 hi1 (d:=d) (nm:=[]) (sl:=sl) hT hTd) (h:=?_)
  rintro _ _ ⟨rfl,rfl⟩
  rw [hfv]
  refine .assign (.z (.seq (.sr (.move ?_))))
  refine .lss ?_
  refine .z ?_
  refine .condF rfl (congrArg Value.bool (by first|simp;done|simp;omega|omega)) ?_
  refine .skip (.next (.sr (.move (.move (.move ?_)))))
  refine .mul ?_
  refine .cast (d:=41) (u:=nI (64 * q)) rfl (congrArg (Value.int .i64) (by omega)) ?_
  refine .move (.move ?_)
  refine .call (hc:=Tryz.call239) (sp:=rfSlot (nm:=nm) (i:=i) hnl hi) (h:=?_)
  rintro _ _ ⟨bb,rfl,rfl⟩
  refine .call (hc:=Tryz.call121) (sp:=rsWrite (s:=s) (p:=p) (T:=T) (os:=os) (N:=N) hi0 hi1 (i:=d) (at':=64 * q) (m:=64) (c:=64) (R:=buf bb 5 64 (bvs (rslotB (some (nm,i))))) (A:=some ⟨bb,0,none⟩) (bs:=rslotB (some (nm,i))) (x:=.dir sl) (x2:=.dir (setS sl q (some (nm,i)))) hdc hT htot hTd (by show 64 * sl.length<=_;omega) (.inr Reads.buf) (rslotB_length _) (Nat.le_refl _) (by decide) (by show 64 * q<=64 * sl.length;omega) (by decide) (by show max (64 * sl.length) (64 * q+64)<=_;omega) hN hfit (rsetS_wr hfl _).symm rfl) (h:=?_)
  rintro _ _ ⟨rfl,os2,hsub,rfl⟩
  refine .assign (.z ?_)
  refine .ret (?_)
  exact .ret1 (h1:=.tmp (t:=8) rfl) ⟨_,⟨rfl,os2,hsub,rfl⟩,Am.auto⟩
theorem rsBegin0 {s:Nat} {p:Pl} {T:FT} {os:List (Nat×Obj)} {N:Nat} (hi0:1<=p.ino) (hi1:p.ino<=4096):Spec Tryz.prog 193 #[.pointer (some ⟨s,0,none⟩)] [RS s p T os N] fun F v M=>v=.tuple #[]/\M=RS s p T os 0 :: F:=by
 refine Spec.intro Tryz.func193 rfl rfl fun B F=>?_
 simp only [Tryz.ntmps193,List.cons_append,List.nil_append,env0,Nat.reduceAdd]
 refine .openR (RS.opens s p T os N) fun y hy=>?_
 obtain ⟨u,L,wk,mv,ms⟩:=y
 simp only [rsLs,List.cons_append,List.nil_append]
 refine .fact (rowR_some (el:=244) (size:=2) (v:=u) (k:=p.ino) (xs:=(L).flatMap rowV) (by omega)) (fun ⟨ab,cc,hu,hR,hc1,hc2⟩=>?_)
 subst hu
 have hlen:(L).length=p.ino:=(hy).len
 refine .emp (rowR.nil (e:=3) (size:=1) _) ?_
 refine .sr (.move ?_)
 refine .nilCheck ?_
 refine .fa ?_ fo247_2
 refine .st ?_ sc3
 refine .y (.move ?_)
 refine .nilCheck ?_
 refine .fa ?_ fo247_3
 refine .st ?_ sc80
 refine .nil ?_
 refine .shutR (RS.opens s p T os 0) ⟨.slice (some ⟨ab,0,none⟩) p.ino cc,L,0,.slice none 0 0,[]⟩ ⟨hy.len,hy.row,Nat.le_refl _,Nat.le_refl _⟩ ?_
 exact .ret0 ⟨_,⟨rfl,rfl⟩,Am.auto⟩
theorem z244:zeroOf Tryz.prog 244=some (#[.int .i64 0,.slice none 0 0]):=by kernel_rfl
theorem bsFl0:BuildSOk Tryz.prog 245 0 [] 244 #[]:=fun w=>by kernel_rfl
theorem bsI0:BuildSOk Tryz.prog 80 0 [] 3 #[]:=fun w=>by kernel_rfl
theorem bdSto3 (a b c d e f h:Int) (A A2:Option Addr) (k cc k2 c2:Nat) (wk:Int):BuildOk Tryz.prog 247 [(0,.agg #[.int .i64 a,.int .i64 b,.int .i64 c,.int .i64 d,.int .i64 e,.int .i64 f,.int .i64 h]),(1,.slice A k cc),(2,.int .i64 wk),(3,.slice A2 k2 c2)] #[.int .i64 a,.int .i64 b,.int .i64 c,.int .i64 d,.int .i64 e,.int .i64 f,.int .i64 h,.slice A k cc,.int .i64 wk,.slice A2 k2 c2]:=fun w=>by kernel_rfl
theorem bdSto2 (a b c d e f h:Int) (A:Option Addr) (k cc:Nat):BuildOk Tryz.prog 247 [(0,.agg #[.int .i64 a,.int .i64 b,.int .i64 c,.int .i64 d,.int .i64 e,.int .i64 f,.int .i64 h]),(1,.slice A k cc)] #[.int .i64 a,.int .i64 b,.int .i64 c,.int .i64 d,.int .i64 e,.int .i64 f,.int .i64 h,.slice A k cc,.int .i64 0,.slice none 0 0]:=fun w=>by kernel_rfl
theorem rowR_empty {g el size:Nat}:∀ h,pt g (.cells #[] el (0,0)) h->rowR el size (.slice (some ⟨g,0,none⟩) 0 0) 0 [] h:=by
 intro h hh
 unfold pt at hh
 unfold rowR
 exact ⟨by simp,.inr ⟨g,0,#[],rfl,hh,Nat.le_refl _,Nat.zero_le _,by simp,by simp⟩⟩
theorem rowR_row {g el size k:Nat} {xs:List Value} (hl:xs.length=k * size) (hk:k<=maxLen):∀ h,row g el xs h->rowR el size (.slice (some ⟨g,0,none⟩) k k) k xs h:=by
 intro h hh
 unfold row pt at hh
 unfold rowR
 exact ⟨hl,.inr ⟨g,k,xs.toArray,rfl,hh,Nat.le_refl _,hk,by simp [hl],by rw [<- hl];simp⟩⟩
theorem rowV_single {p:Pl} {T:FT} {os:List (Nat×Obj)} {N:Nat} {y:RsY} (hy:RSP p T os N y):∀ u∈y.L.flatMap rowV,Value.single u=true:=by
 intro u hu
 obtain ⟨e,he,hu⟩:=List.mem_flatMap.1 hu
 obtain ⟨i,hi,rfl⟩:=List.mem_iff_getElem.1 he
 simp only [rowV,List.mem_cons,List.not_mem_nil,or_false] at hu
 rcases hu with rfl | rfl
 ·rfl
 ·rcases (hy.row i hi).by' with ⟨h,_⟩ | ⟨_,_,_,_,h,_⟩<;>rw [h]<;>rfl
theorem ints_single (ms:List Int):∀ u∈ints ms,Value.single u=true:=by
 intro u hu
 unfold ints at hu
 obtain ⟨x,_,rfl⟩:=List.mem_map.1 hu
 rfl
def rootL (n:Nat):List (Nat×Value):=(2,.slice none 0 0) :: List.replicate (n - 1) (0,.slice none 0 0)
theorem getEl_of {α:Type} {l:List α} {i:Nat} {x:α} (h:i < l.length) (h2:l[i]?=some x):l[i]=x:=by rw [List.getElem?_eq_getElem h] at h2;injection h2
theorem zeroL_rows:∀ k:Nat,(List.replicate k [Value.int .i64 0,Value.slice none 0 0]).flatten=(List.replicate k ((0:Nat),Value.slice none 0 0)).flatMap rowV
 | 0=>rfl
 | k+1=>by rw [List.replicate_succ,List.flatten_cons,List.replicate_succ,List.flatMap_cons,zeroL_rows k];rfl
theorem rootL_rows {n:Nat} (h:1<=n):((List.replicate n [Value.int .i64 0,Value.slice none 0 0]).flatten).set 0 (.int .i64 2)=(rootL n).flatMap rowV:=by
 obtain ⟨k,rfl⟩:∃ k,n=k+1:=⟨n - 1,by omega⟩
 unfold rootL
 rw [List.replicate_succ,List.flatten_cons,List.flatMap_cons,Nat.add_sub_cancel,zeroL_rows]
 rfl
theorem rootL_ok (p:Pl) (h:1<=p.ino) (u:Value):RSP p rootT [] 0 ⟨u,rootL p.ino,0,.slice none 0 0,[]⟩:=by
 have hl:(rootL p.ino).length=p.ino:=by unfold rootL;rw [List.length_cons,List.length_replicate];omega
 refine ⟨hl,fun i hi=>?_,Nat.le_refl _,Nat.le_refl _⟩
 have hi2:i < (rootL p.ino).length:=hi
 show RRow _ _ (rootT i) (rootL p.ino)[i]
 cases i with
 | zero=>exact ⟨rfl,.inl ⟨rfl,rfl⟩⟩
 | succ i =>
  have:(rootL p.ino)[i+1]=(0,.slice none 0 0):=getEl_of hi2 (by
   unfold rootL
   rw [List.getElem?_cons_succ,List.getElem?_replicate,if_pos (by omega)])
  rw [this,show rootT (i+1)=none from if_neg (by omega)]
  exact ⟨rfl,.inl ⟨rfl,rfl⟩⟩
theorem rootRT {p:Pl} (h:1<=p.ino):RT p rootT:=by
 refine ⟨rootT_ok,fun d sl hd q nm i hq=>?_,fun i hi=>if_neg (by omega)⟩
 unfold rootT at hd
 split at hd
 ·injection hd with hd;injection hd with hd;subst hd;cases hq
 ·cases hd
theorem flat_pos' {k:Nat} (h:1<=k):0 < ((List.replicate k [Value.int .i64 0,.slice none 0 0]).flatten).length:=by
 obtain ⟨j,rfl⟩:∃ j,k=j+1:=⟨k - 1,by omega⟩
 rw [List.replicate_succ,List.flatten_cons,List.length_append]
 exact Nat.lt_of_lt_of_le (by decide:0 < [Value.int .i64 0,Value.slice none 0 0].length) (Nat.le_add_right _ _)
theorem rsCopy {s:Nat} {p:Pl} {T:FT} {os:List (Nat×Obj)} {N:Nat} (hi0:1<=p.ino) (hi1:p.ino<=4096) (hNN:N<=1000000):Spec Tryz.prog 194 #[.pointer (some ⟨s,0,none⟩)] [RS s p T os N] fun F v M=>∃ s2,v=.pointer (some ⟨s2,0,none⟩)/\M=RS s p T os N :: RS s2 p T os N :: F:=by
 refine Spec.intro Tryz.func194 rfl rfl fun B F=>?_
 simp only [Tryz.ntmps194,List.cons_append,List.nil_append,env0,Nat.reduceAdd]
 refine .openR (RS.opens s p T os N) fun y hy=>?_
 obtain ⟨u,L,wk,mv,ms⟩:=y
 simp only [rsLs,List.cons_append,List.nil_append]
 refine .fact (rowR_some (el:=244) (size:=2) (v:=u) (k:=p.ino) (xs:=(L).flatMap rowV) (by omega)) (fun ⟨ab,cc,hu,hR,hc1,hc2⟩=>?_)
 subst hu
 have hlen:(L).length=p.ino:=(hy).len
 refine .fact (rowR_shape (el:=3) (size:=1) (v:=mv) (k:=ms.length) (xs:=ints ms)) (fun ⟨A2,c2,hmv,hR2,hk2,hc3,hl2⟩=>?_)
 subst hmv
 have hsg:=rowV_single hy
 have hlV:=rowV_length L
 refine .sr (.assign (.z (.seq ?_)))
 have hNb:N<=1000000:=hNN
 have hmsl:ms.length<=N:=hy.ml
 refine .dr ([pt s (sO p (.slice (some ⟨ab,0,none⟩) p.ino cc) wk (.slice A2 ms.length c2))]) [] 23 mixed .autoJ ?_
 refine .tk 0 rfl .move ?_
 refine .tk 1 rfl .nilCheck ?_
 refine .tk 2 rfl (.fa fo247_0) ?_
 refine .tk 3 rfl (Qt.ldP (us:=#[nI p.n,nI p.ino,nI p.im,nI p.bm,nI p.tb,nI p.da,nI p.dc]) agg199 rfl rfl) ?_
 refine .tk 5 rfl .move ?_
 refine .tk 6 rfl .nilCheck ?_
 refine .tk 7 rfl (.fa fo247_1) ?_
 refine .tk 8 rfl (.ld sc245) ?_
 refine .tk 10 rfl .move ?_
 refine .tk 11 rfl .nilCheck ?_
 refine .tk 12 rfl (.fa fo247_2) ?_
 refine .tk 13 rfl (.ld sc3) ?_
 refine .tk 15 rfl .move ?_
 refine .tk 16 rfl .nilCheck ?_
 refine .tk 17 rfl (.fa fo247_3) ?_
 refine .tk 18 rfl (.ld sc80) ?_
 refine .tw 4 14 rfl rfl (fun hnp=>?_) (fun hnp=>?_)
 ·refine .buildS (fun b7=>?_) bsFl0
  refine .nil (.wa hnp ?_)
  refine .tw 9 14 rfl rfl (fun hnp=>?_) (fun hnp=>?_)
  ·refine .to (A:=pt b7 (.cells #[] 244 (0,0))) (A':=rowR 244 2 (.slice (some ⟨b7,0,none⟩) 0 0) 0 []) rowR_empty ?_
   refine .append (m:=p.ino) (news:=L.flatMap rowV) so245 (by decide) (by repeat (first | exact .here | apply Rem.there | apply Repl.there | apply Mem.there)) hR (by repeat (first | exact .here | apply Rem.there | apply Repl.there | apply Mem.there)) (by rw [hlV,hlen]) hsg (by show 0+p.ino<=maxLen;unfold maxLen;omega) (by show (0+p.ino) * _<=140737488355328;omega) ⟨_,z244,rfl⟩ (fun vB hvB=>?_)
   refine .to (A:=rowR 244 2 vB (0+p.ino) ([]++L.flatMap rowV)) (A':=rowR 244 2 vB p.ino (L.flatMap rowV)) (fun h hh=>by rw [Nat.zero_add,List.nil_append] at hh;exact hh) ?_
   refine .fact (rowR_shape (el:=244) (size:=2) (v:=vB) (k:=p.ino) (xs:=L.flatMap rowV)) (fun ⟨A6,c6,hv6,hR6,hk6,hc6,hl6⟩=>?_)
   subst hv6
   refine .nil (.wa hnp ?_)
   refine .on 14 rfl fun hnp=>?_
   refine .buildS (fun b17=>?_) bsI0
   refine .nil (.wa hnp ?_)
   refine .on 19 rfl fun hnp=>?_
   refine .to (A:=pt b17 (.cells #[] 3 (0,0))) (A':=rowR 3 1 (.slice (some ⟨b17,0,none⟩) 0 0) 0 []) rowR_empty ?_
   refine .appendAny (m:=ms.length) (A:=A2) (news:=ints ms) so80 (by decide) (by repeat (first | exact .here | apply Rem.there | apply Repl.there | apply Mem.there)) hR2 (by repeat (first | exact .here | apply Rem.there | apply Repl.there | apply Mem.there)) (by rw [Nat.mul_one];unfold ints;rw [List.length_map]) (ints_single ms) (by show 0+ms.length<=maxLen;omega) (by show (0+ms.length) * _<=140737488355328;omega) ⟨_,z3,rfl⟩ (fun vC hvC=>?_)
   refine .to (A:=rowR 3 1 vC (0+ms.length) ([]++ints ms)) (A':=rowR 3 1 vC ms.length (ints ms)) (fun h hh=>by rw [Nat.zero_add,List.nil_append] at hh;exact hh) ?_
   refine .fact (rowR_shape (el:=3) (size:=1) (v:=vC) (k:=ms.length) (xs:=ints ms)) (fun ⟨A7,c7,hv7,hR7,hk7,hc7,hl7⟩=>?_)
   subst hv7
   refine .nil (.wa hnp ?_)
   refine .tk 20 rfl (.build (bdSto3 _ _ _ _ _ _ _ _ _ _ _ _ _ _)) ?_
   refine .on 21 rfl fun hnp=>?_
   refine .box fun b24=>?_
   refine .nil (.wa hnp ?_)
   refine .tk 22 rfl .assign ?_
   refine .fin ?_
   refine .next ?_
   refine .ret (?_)
   refine .shutR (RS.opens s p T os N) ⟨.slice (some ⟨ab,0,none⟩) p.ino cc,L,wk,.slice A2 ms.length c2,ms⟩ hy ?_
   refine .shutR (RS.opens b24 p T os N) ⟨.slice A6 p.ino c6,L,wk,.slice A7 ms.length c7,ms⟩ ⟨hy.len,hy.row,hy.wk,hy.ml⟩ ?_
   exact .ret1 (h1:=.tmp (t:=2) rfl) ⟨_,⟨b24,rfl,rfl⟩,Am.auto⟩
  ·refine .buildS (fun b17=>?_) bsI0
   refine .nil (.wa hnp ?_)
   refine .on 9 rfl fun hnp=>?_
   refine .to (A:=pt b7 (.cells #[] 244 (0,0))) (A':=rowR 244 2 (.slice (some ⟨b7,0,none⟩) 0 0) 0 []) rowR_empty ?_
   refine .append (m:=p.ino) (news:=L.flatMap rowV) so245 (by decide) (by repeat (first | exact .here | apply Rem.there | apply Repl.there | apply Mem.there)) hR (by repeat (first | exact .here | apply Rem.there | apply Repl.there | apply Mem.there)) (by rw [hlV,hlen]) hsg (by show 0+p.ino<=maxLen;unfold maxLen;omega) (by show (0+p.ino) * _<=140737488355328;omega) ⟨_,z244,rfl⟩ (fun vB hvB=>?_)
   refine .to (A:=rowR 244 2 vB (0+p.ino) ([]++L.flatMap rowV)) (A':=rowR 244 2 vB p.ino (L.flatMap rowV)) (fun h hh=>by rw [Nat.zero_add,List.nil_append] at hh;exact hh) ?_
   refine .fact (rowR_shape (el:=244) (size:=2) (v:=vB) (k:=p.ino) (xs:=L.flatMap rowV)) (fun ⟨A6,c6,hv6,hR6,hk6,hc6,hl6⟩=>?_)
   subst hv6
   refine .nil (.wa hnp ?_)
   refine .on 19 rfl fun hnp=>?_
   refine .to (A:=pt b17 (.cells #[] 3 (0,0))) (A':=rowR 3 1 (.slice (some ⟨b17,0,none⟩) 0 0) 0 []) rowR_empty ?_
   refine .appendAny (m:=ms.length) (A:=A2) (news:=ints ms) so80 (by decide) (by repeat (first | exact .here | apply Rem.there | apply Repl.there | apply Mem.there)) hR2 (by repeat (first | exact .here | apply Rem.there | apply Repl.there | apply Mem.there)) (by rw [Nat.mul_one];unfold ints;rw [List.length_map]) (ints_single ms) (by show 0+ms.length<=maxLen;omega) (by show (0+ms.length) * _<=140737488355328;omega) ⟨_,z3,rfl⟩ (fun vC hvC=>?_)
   refine .to (A:=rowR 3 1 vC (0+ms.length) ([]++ints ms)) (A':=rowR 3 1 vC ms.length (ints ms)) (fun h hh=>by rw [Nat.zero_add,List.nil_append] at hh;exact hh) ?_
   refine .fact (rowR_shape (el:=3) (size:=1) (v:=vC) (k:=ms.length) (xs:=ints ms)) (fun ⟨A7,c7,hv7,hR7,hk7,hc7,hl7⟩=>?_)
   subst hv7
   refine .nil (.wa hnp ?_)
   refine .tk 20 rfl (.build (bdSto3 _ _ _ _ _ _ _ _ _ _ _ _ _ _)) ?_
   refine .on 21 rfl fun hnp=>?_
   refine .box fun b24=>?_
   refine .nil (.wa hnp ?_)
   refine .tk 22 rfl .assign ?_
   refine .fin ?_
   refine .next ?_
   refine .ret (?_)
   refine .shutR (RS.opens s p T os N) ⟨.slice (some ⟨ab,0,none⟩) p.ino cc,L,wk,.slice A2 ms.length c2,ms⟩ hy ?_
   refine .shutR (RS.opens b24 p T os N) ⟨.slice A6 p.ino c6,L,wk,.slice A7 ms.length c7,ms⟩ ⟨hy.len,hy.row,hy.wk,hy.ml⟩ ?_
   exact .ret1 (h1:=.tmp (t:=2) rfl) ⟨_,⟨b24,rfl,rfl⟩,Am.auto⟩
 ·refine .buildS (fun b17=>?_) bsI0
  refine .nil (.wa hnp ?_)
  refine .on 4 rfl fun hnp=>?_
  refine .buildS (fun b7=>?_) bsFl0
  refine .nil (.wa hnp ?_)
  refine .on 9 rfl fun hnp=>?_
  refine .to (A:=pt b7 (.cells #[] 244 (0,0))) (A':=rowR 244 2 (.slice (some ⟨b7,0,none⟩) 0 0) 0 []) rowR_empty ?_
  refine .append (m:=p.ino) (news:=L.flatMap rowV) so245 (by decide) (by repeat (first | exact .here | apply Rem.there | apply Repl.there | apply Mem.there)) hR (by repeat (first | exact .here | apply Rem.there | apply Repl.there | apply Mem.there)) (by rw [hlV,hlen]) hsg (by show 0+p.ino<=maxLen;unfold maxLen;omega) (by show (0+p.ino) * _<=140737488355328;omega) ⟨_,z244,rfl⟩ (fun vB hvB=>?_)
  refine .to (A:=rowR 244 2 vB (0+p.ino) ([]++L.flatMap rowV)) (A':=rowR 244 2 vB p.ino (L.flatMap rowV)) (fun h hh=>by rw [Nat.zero_add,List.nil_append] at hh;exact hh) ?_
  refine .fact (rowR_shape (el:=244) (size:=2) (v:=vB) (k:=p.ino) (xs:=L.flatMap rowV)) (fun ⟨A6,c6,hv6,hR6,hk6,hc6,hl6⟩=>?_)
  subst hv6
  refine .nil (.wa hnp ?_)
  refine .on 19 rfl fun hnp=>?_
  refine .to (A:=pt b17 (.cells #[] 3 (0,0))) (A':=rowR 3 1 (.slice (some ⟨b17,0,none⟩) 0 0) 0 []) rowR_empty ?_
  refine .appendAny (m:=ms.length) (A:=A2) (news:=ints ms) so80 (by decide) (by repeat (first | exact .here | apply Rem.there | apply Repl.there | apply Mem.there)) hR2 (by repeat (first | exact .here | apply Rem.there | apply Repl.there | apply Mem.there)) (by rw [Nat.mul_one];unfold ints;rw [List.length_map]) (ints_single ms) (by show 0+ms.length<=maxLen;omega) (by show (0+ms.length) * _<=140737488355328;omega) ⟨_,z3,rfl⟩ (fun vC hvC=>?_)
  refine .to (A:=rowR 3 1 vC (0+ms.length) ([]++ints ms)) (A':=rowR 3 1 vC ms.length (ints ms)) (fun h hh=>by rw [Nat.zero_add,List.nil_append] at hh;exact hh) ?_
  refine .fact (rowR_shape (el:=3) (size:=1) (v:=vC) (k:=ms.length) (xs:=ints ms)) (fun ⟨A7,c7,hv7,hR7,hk7,hc7,hl7⟩=>?_)
  subst hv7
  refine .nil (.wa hnp ?_)
  refine .tk 20 rfl (.build (bdSto3 _ _ _ _ _ _ _ _ _ _ _ _ _ _)) ?_
  refine .on 21 rfl fun hnp=>?_
  refine .box fun b24=>?_
  refine .nil (.wa hnp ?_)
  refine .tk 22 rfl .assign ?_
  refine .fin ?_
  refine .next ?_
  refine .ret (?_)
  refine .shutR (RS.opens s p T os N) ⟨.slice (some ⟨ab,0,none⟩) p.ino cc,L,wk,.slice A2 ms.length c2,ms⟩ hy ?_
  refine .shutR (RS.opens b24 p T os N) ⟨.slice A6 p.ino c6,L,wk,.slice A7 ms.length c7,ms⟩ ⟨hy.len,hy.row,hy.wk,hy.ml⟩ ?_
  exact .ret1 (h1:=.tmp (t:=2) rfl) ⟨_,⟨b24,rfl,rfl⟩,Am.auto⟩
theorem rsNew {p:Pl} (h1:1<=p.ino) (h2:p.ino<=4096):Spec Tryz.prog 117 #[.agg p.cells] [] fun F v M=>∃ s,v=.pointer (some ⟨s,0,none⟩)/\M=RS s p rootT [] 0 :: F:=by
 refine Spec.intro Tryz.func117 rfl rfl fun B F=>?_
 simp only [Tryz.ntmps117,List.cons_append,List.nil_append,env0,Nat.reduceAdd]
 refine .sr ?_
 refine .box fun b1=>?_
 refine .to (A:=pt b1 (.cells p.cells 199 (0,0))) (A':=pt b1 (.cells p.cells 199 (0,0))) (fun h hh=>hh) ?_
 refine .assign (.z (.seq ?_))
 refine .dr ([pt b1 (.cells p.cells 199 (0,0))]) [] 7 mixed .autoJ ?_
 refine .tk 0 rfl (.ldA agg199) ?_
 refine .tk 1 rfl (.fa fo199_1) ?_
 refine .tk 2 rfl (.ld sc3) ?_
 refine .on 3 rfl fun hnp=>?_
 refine .mkSt (k:=p.ino) (zs:=[.int .i64 0,.slice none 0 0]) z244 rfl (by decide) (fun b7=>?_) so245 (by omega) (by omega)
 refine .nil (.wa hnp ?_)
 refine .tk 4 rfl (.build (bdSto2 _ _ _ _ _ _ _ _ _ _)) ?_
 refine .on 5 rfl fun hnp=>?_
 refine .box fun b9=>?_
 refine .nil (.wa hnp ?_)
 refine .tk 6 rfl .assign ?_
 refine .fin ?_
 refine .next (.sr (.move ?_))
 refine .nilCheck ?_
 refine .fa ?_ fo247_1
 refine .ld ?_ sc245
 refine .idx ?_ so245
 refine .fa ?_ fo244_0
 refine .stL (xs:=(List.replicate p.ino [Value.int .i64 0,.slice none 0 0]).flatten) (i:=0) ?_ sc3 (flat_pos' h1)
 refine .to (A:=row b7 244 ((List.replicate p.ino [Value.int .i64 0,.slice none 0 0]).flatten.set 0 (.int .i64 2))) (A':=rowR 244 2 (.slice (some ⟨b7,0,none⟩) p.ino p.ino) p.ino ((rootL p.ino).flatMap rowV)) (fun h hh=>by rw [<- rootL_rows h1];exact rowR_row (by rw [rootL_rows h1,rowV_length];unfold rootL;rw [List.length_cons,List.length_replicate];omega) (by unfold maxLen;omega) h hh) ?_
 refine .x (.move (.assign (.z ?_)))
 refine .ret (?_)
 refine .emp (rowR.nil (e:=3) (size:=1) _) ?_
 refine .shutR (RS.opens b9 p rootT [] 0) ⟨.slice (some ⟨b7,0,none⟩) p.ino p.ino,rootL p.ino,0,.slice none 0 0,[]⟩ (rootL_ok p h1 _) ?_
 exact .ret1 (h1:=.tmp (t:=2) rfl) ⟨_,⟨b9,rfl,rfl⟩,Am.auto⟩
end Go.Proofs.YtdmjkjeoamiedaaGreatDoor
end
