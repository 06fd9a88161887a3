/- A part of the proof of lj: texts of this work put together. -/
import Derived.Test.YtmihjfcbofejoaaGreatDoorQd4
import Derived.KernelRfl
import Derived.Shelf.SlMaps.Clone
import Derived.Laws.Concat
import Derived.Laws.IdiomStrings
import Derived.Laws.AppendOwn
set_option linter.unusedVariables false
set_option linter.unusedSimpArgs false
set_option linter.unusedSectionVars false
section
namespace Go.Proofs.YtmihjfcbofejoaaGreatDoor
open Go
theorem Az :ad Tryz.prog 133 4 4=true:=by kernel_rfl
open Go.Shelf Go.RowKit Go.Maps
def D9 :Go.Shelf.Ren:=⟨fun | 5=>164 | 7=>226 | n=>n,fun | 4=>4 | 20=>20 | 23=>140 | 25=>3 | 3=>200 | n=>n,fun n=>n⟩
theorem Rv :SlLaysW.n5 Tryz.prog D9 where
 mixed:=by kernel_rfl
 f5 := ⟨ "maps.Clone[map[int][512]byte,int,[512]byte]", by decide, Tryz.func164.trans (congrArg some (by kernel_rfl))⟩
 f7:=Tryz.func226.trans (congrArg some (by kernel_rfl))
 t4:=Tryz.underlying4
 a4:=Tryz.isAgg4
 z4:=Tryz.sizeOf4
 v4:=Tryz.zeroValue4
 t20:=Tryz.underlying20
 a20:=Tryz.isAgg20
 z20:=Tryz.sizeOf20
 v20:=Tryz.zeroValue20
 t23:=Tryz.underlying140
 a23:=Tryz.isAgg140
 z23:=Tryz.sizeOf140
 v23:=Tryz.zeroValue140
theorem Lc {m cc:Nat} {es:Array MapEntry}:Spec Tryz.prog 164 #[.map (some m)] [pt m (.map es cc)] fun F v M=>∃ m',v=.map (some m')/\M=pt m (.map es cc) :: F:=by
 intro B F w hs
 have hm:=hs.get (b:=m) Mem.here
 refine (AnyW.maps_Clone Rv m es cc w hm).mono ?_
 rintro e w' ⟨rfl,rfl⟩
 exact ⟨_,_,rfl,⟨_,rfl,rfl⟩,(hs.new (.map es cc)).tail⟩
theorem cMark {c j d n:Nat} {S:CS}:Spec Tryz.prog 90 #[.pointer (some ⟨c,0,none⟩)] [CR c j d n S] fun F v M=>∃ m,v=.map (some m)/\M=CR c j d n S :: F:=by
 refine Spec.intro Tryz.func90 rfl rfl fun B F=>?_
 simp only [Tryz.ntmps90,List.cons_append,List.nil_append,env0,Nat.reduceAdd]
 refine .openR (CR.opens c j d n S) fun x hp=>?_
 simp only [cL,List.cons_append,List.nil_append]
 refine .sr (.assign (.x (.move (.nilCheck ?_))))
 refine .fa ?_ jq
 refine .ld ?_ wi
 refine .call (hc:=Tryz.call164) (sp:=Lc) (h:=?_)
 rintro _ _ ⟨m2,rfl,rfl⟩
 refine .assign (.z (.ret (?_)))
 refine .shutR (CR.opens c j d n S) x hp ?_
 exact .ret1 (h1:=.tmp (t:=2) rfl) ⟨_,⟨m2,rfl,rfl⟩,Am.auto⟩
theorem cOver {c j d n:Nat} {S:CS}:Spec Tryz.prog 180 #[.pointer (some ⟨c,0,none⟩)] [CR c j d n S] fun F v M=>v=.bool S.ov/\M=CR c j d n S :: F:=by
 refine Spec.intro Tryz.func180 rfl rfl fun B F=>?_
 simp only [Tryz.ntmps180,List.cons_append,List.nil_append,env0,Nat.reduceAdd]
 refine .openR (CR.opens c j d n S) fun x hp=>?_
 simp only [cL,List.cons_append,List.nil_append]
 refine .sr (.assign (.x (.move ?_)))
 refine .neNil ?_ kg
 refine .move (.gT (.move (.gT (.nilCheck (.gT ?_)))))
 refine .fa ?_ E9
 refine .gT ?_
 refine .ld ?_ sc4
 refine .pickT (.assign (.z (.ret (?_))))
 refine .shutR (CR.opens c j d n S) x hp ?_
 exact .ret1 (h1:=.tmp (t:=2) rfl) ⟨_,⟨rfl,rfl⟩,Am.auto⟩
theorem tMark {c n:Nat} {V0 V:Nat->aa} {D:List Nat} {op:Bool}:Spec Tryz.prog 90 #[.pointer (some ⟨c,0,none⟩)] [TR c n V0 V D op] fun F v M=>∃ m,v=.map (some m)/\M=TR c n V0 V D op :: F:=by
 refine Spec.opens (TR.opens c n V0 V D op) fun y hy=>(cMark (c:=c) (j:=y.1) (d:=y.2.1) (n:=n) (S:=y.2.2)).post ?_
 rintro F v M ⟨m,rfl,rfl⟩
 exact ⟨_,⟨m,rfl,rfl⟩,Wk.shutR (TR.opens c n V0 V D op) y hy⟩
theorem tOver {c n:Nat} {V0 V:Nat->aa} {D:List Nat}:Spec Tryz.prog 180 #[.pointer (some ⟨c,0,none⟩)] [TR c n V0 V D true] fun F v M=>v=.bool false/\M=TR c n V0 V D true :: F:=by
 refine Spec.opens (TR.opens c n V0 V D true) fun y hy=>(cOver (c:=c) (j:=y.1) (d:=y.2.1) (n:=n) (S:=y.2.2)).post ?_
 rintro F v M ⟨rfl,rfl⟩
 exact ⟨_,⟨cB9 (hy.ov rfl),rfl⟩,Wk.shutR (TR.opens c n V0 V D true) y hy⟩
theorem nMark {s a c:Nat} {p:Pl} {F0 F:FM} {W:Nat} {op:Bool}:Spec Tryz.prog 90 #[.pointer (some ⟨c,0,none⟩)] [IN s a c p F0 F W op] fun G v M=>∃ m,v=.map (some m)/\M=IN s a c p F0 F W op :: G:=by
 refine Spec.opens (IN.opens s a c p F0 F W op) fun y hy=>((tMark (c:=c) (n:=p.n) (V0:=y.1) (V:=y.2.1) (D:=y.2.2)).last).post ?_
 rintro G v M ⟨m,rfl,rfl⟩
 exact ⟨_,⟨m,rfl,rfl⟩,Wk.trans (Am.wk Am.auto) (Wk.shutR (M:=G) (IN.opens s a c p F0 F W op) y hy)⟩
theorem nOver {s a c:Nat} {p:Pl} {F0 F:FM} {W:Nat}:Spec Tryz.prog 180 #[.pointer (some ⟨c,0,none⟩)] [IN s a c p F0 F W true] fun G v M=>v=.bool false/\M=IN s a c p F0 F W true :: G:=by
 refine Spec.opens (IN.opens s a c p F0 F W true) fun y hy=>((tOver (c:=c) (n:=p.n) (V0:=y.1) (V:=y.2.1) (D:=y.2.2)).last).post ?_
 rintro G v M ⟨rfl,rfl⟩
 exact ⟨_,⟨rfl,rfl⟩,Wk.trans (Am.wk Am.auto) (Wk.shutR (M:=G) (IN.opens s a c p F0 F W true) y hy)⟩
theorem za {f s a c mp:Nat} {p:Pl} {T S:FT} {F0 F1:FM} {W0 W:Nat} {R R':HP} {k:FuncId} {cap:Array Value} (hc:∀ args w,(callFunc k args).run Tryz.prog w=.ok (.enter k args) w)
  (sp:Spec Tryz.prog k cap [pt f (fO c a s true false false mp),LD mp S,IN s a c p F0 (fmT S) W0 true,R] fun F v M=>v=okV/\M=pt f (fO c a s true false false mp) :: LD mp S :: IN s a c p F0 F1 W true :: R' :: F):Spec Tryz.prog 110 #[.pointer (some ⟨f,0,none⟩),.func (.func k) #[] cap] [pt f (fO c a s true false false mp),LD mp S,IN s a c p F0 (fmT S) W0 true,R] fun F v M=>v=okV/\M=pt f (fO c a s true false false mp) :: LD mp T :: IN s a c p F0 F1 W true :: R' :: F:=by
 refine Spec.introD Tryz.func110 rfl rfl fun B F=>?_
 simp only [Tryz.ntmps110,List.cons_append,List.nil_append,env0,Nat.reduceAdd]
 have sp':=sp
 rw [show cap=(([]:List Value)).toArray++cap from by simp] at sp'
 refine .sr (.assign (.z (.seq (.sr (.move ?_)))))
 refine .call (hc:=Tryz.call89) (sp:=Cq (f:=f) (s:=s) (a:=a) (c:=c) (mp:=mp) (b:=true) (ov:=false) (dead:=false)) (h:=?_)
 rintro _ _ ⟨rfl,rfl⟩
 refine .z ?_
 refine .condF rfl rfl ?_
 refine .skip (.next (.sr (.move ?_)))
 refine .call (hc:=Tryz.call92) (sp:=xi (f:=f) (s:=s) (a:=a) (c:=c) (mp:=mp) (b:=true) (ov:=false) (dead:=false) (S:=S) (T:=S)) (h:=?_)
 rintro _ _ ⟨rfl,rfl⟩
 refine .x (.move ?_)
 refine .defer ?_
 refine .z (.seq (.sr (.move (.nilCheck ?_))))
 refine .fa ?_ nh
 refine .ld ?_ sc4
 refine .not ?_
 refine .z ?_
 refine .condF rfl rfl ?_
 refine .skip (.next (.seq (.sr (.move (.nilCheck ?_)))))
 refine .fa ?_ Az
 refine .ld ?_ sc4
 refine .z ?_
 refine .condF rfl rfl ?_
 refine .skip (.next (.sr (.move (.nilCheck ?_))))
 refine .fa ?_ ep
 refine .ld ?_ cx
 refine .call (hc:=Tryz.call90) (sp:=nMark (s:=s) (a:=a) (c:=c) (p:=p) (F0:=F0) (F:=fmT S) (W:=W0) (op:=true)) (h:=?_)
 rintro _ _ ⟨m2,rfl,rfl⟩
 refine .assign (.x (.move ?_))
 refine .callV (hc:=hc) (sp:=sp') (h:=?_)
 rintro _ _ ⟨rfl,rfl⟩
 refine .assign (.z (.seq (.sr (.move ?_))))
 refine .nei ?_
 refine .z ?_
 refine .condF rfl rfl ?_
 refine .skip (.next (.seq (.sr (.move (.nilCheck ?_)))))
 refine .fa ?_ ep
 refine .ld ?_ cx
 refine .call (hc:=Tryz.call180) (sp:=nOver (s:=s) (a:=a) (c:=c) (p:=p) (F0:=F0) (F:=F1) (W:=W)) (h:=?_)
 rintro _ _ ⟨rfl,rfl⟩
 refine .z ?_
 refine .condF rfl rfl ?_
 refine .skip (.next (.sr (.move (.assign (.z ?_)))))
 refine .ret (?_)
 refine .retD1 (t:=4) (hc:=Tryz.call92) (sp:=y9 (f:=f) (s:=s) (a:=a) (c:=c) (mp:=mp) (b:=true) (ov:=false) (dead:=false) (S:=S) (T:=T)) (fun v' M' h=>?_)
 obtain ⟨_,rfl⟩:=h
 exact ⟨_,⟨rfl,rfl⟩,Am.auto⟩
theorem Ld {f s a c mp:Nat} {p:Pl} {T:FT} {F0:FM} {W0:Nat} {path:aa} {bp bf bk kind:Nat} (ho:PlOk p) (hT:TOk T) (hpl:path.length<=1000000) {d i:Nat} {nm:aa} {sl:List Slot} {x:NodeT} (hp:path≠[47]) (hpar:ce T path=(d,nm,0)) (hfi:dx T d nm=(0,4)) (hd:T d=some (.dir sl)) (hi:i < p.ino) (hTi:T i=none) (hb:∀ j < i,T j≠none) (hx:x.empty) (hk:x.kind=kind) (hw:Rw p W0 14) (hfit:tot (fmT T) p.ino+has (max (64 * sl.length) (64 * d8 sl+64))<=p.dc+has (64 * sl.length)):Spec Tryz.prog 119 #[.pointer (some ⟨bp,0,none⟩),.pointer (some ⟨bf,0,none⟩),.pointer (some ⟨bk,0,none⟩)] [pt f (fO c a s true false false mp),LD mp T,IN s a c p F0 (fmT T) W0 true,bun [pt bp (.cells #[sv path] 9 (0,0)),pt bf (.cells #[.pointer (some ⟨f,0,none⟩)] 29 (0,0)),pt bk (.cells #[nI kind] 3 (0,0))]] fun F v M=>v=okV/\M=pt f (fO c a s true false false mp) :: LD mp T :: IN s a c p F0 (fmT (mkT T d sl nm i x)) (W0+1+8) true :: bun [pt bp (.cells #[sv path] 9 (0,0)),pt bf (.cells #[.pointer (some ⟨f,0,none⟩)] 29 (0,0)),pt bk (.cells #[nI kind] 3 (0,0))] :: F:=by
 refine Spec.intro Tryz.func119 rfl rfl fun B F=>?_
 simp only [Tryz.ntmps119,List.cons_append,List.nil_append,env0,Nat.reduceAdd]
 refine .openR (bun.opens _) fun _ _=>?_
 simp only [List.cons_append,List.nil_append]
 have hlk:=Lb (by rw [hfi]) hd
 have hto:=hT d sl hd
 have hfl:=qu sl
 have hne:d≠i:=fun h=>by rw [h,hTi] at hd;cases hd
 have hx0:x.f=(kind,[]):=by rw [NodeT.empty_f hx,hk]
 have hk12:kind=1 ∨ kind=2:=by
  rw [<- hk]
  cases x with
  | file b=>exact .inl rfl
  | dir sl=>exact .inr rfl
 have hF1:updM (fmT T) i (some (kind,[]))=fmT (updT T i (some x)):=by rw [<- hx0,fm]
 have hi32:i < 4294967296:=by have:=ho.i2;omega
 have htot:tot (fmT (updT T i (some x))) p.ino=tot (fmT T) p.ino:=by
  have h:=eo (fmT T) hi (some (kind,[]))
  rw [hF1,lr hTi] at h
  have h1:hasO none=0:=rfl
  have h2:hasO (some (kind,([]:aa)))=0:=by show has 0=0;rfl
  omega
 have hd1:fmT (updT T i (some x)) d=some (2,dirB sl):=by
  have:updT T i (some x) d=some (.dir sl):=by rw [d7 _ _ hne];exact hd
  exact bx this
 refine .sr (.assign (.z (.seq (.sr ?_))))
 refine .ld ?_ sc9
 refine .eqS path [47] ?_
 refine .cast (d:=11) (u:=.bool false) rfl (cB9 (decide_eq_false hp)) ?_
 refine .z ?_
 refine .condF rfl rfl ?_
 refine .skip (.next (.sr ?_))
 refine .ld ?_ sc29
 refine .ld ?_ sc9
 refine .call (hc:=Tryz.call112) (sp:=lu (f:=f) (s:=s) (a:=a) (c:=c) (mp:=mp) (b:=true) (ov:=false) (dead:=false) (p:=p) (T:=T) (F0:=F0) (W:=W0) (op:=true) (path:=path) ho hT hpl) (h:=?_)
 rintro _ _ ⟨rfl,rfl⟩
 rw [hpar]
 refine .move ?_
 refine .extract (.extract (.extract ?_))
 refine .assign (.assign (.assign (.z (.seq (.sr (.move ?_))))))
 refine .nei ?_
 refine .z ?_
 refine .condF rfl (cB9 (by first|simp;done|simp;omega|omega)) ?_
 refine .skip (.next (.seq (.sr ?_)))
 refine .ld ?_ sc29
 refine .move (.move ?_)
 refine .call (hc:=Tryz.call113) (sp:=s9 (f:=f) (s:=s) (a:=a) (c:=c) (mp:=mp) (b:=true) (ov:=false) (dead:=false) (p:=p) (T:=T) (F0:=F0) (W:=W0) (op:=true) (d:=d) (nm:=nm) ho hT) (h:=?_)
 rintro _ _ ⟨rfl,rfl⟩
 rw [hfi]
 refine .move ?_
 refine .extract (.extract (.assign (.assign (.x (.move ?_)))))
 refine .nei ?_
 refine .z ?_
 refine .condF rfl (cB9 (by first|simp;done|simp;omega|omega)) ?_
 refine .skip (.next (.seq ?_))
 refine .dr ([pt bf (.cells #[.pointer (some ⟨f,0,none⟩)] 29 (0,0)),pt bk (.cells #[nI kind] 3 (0,0)),pt f (fO c a s true false false mp)]) [] 11 mixed .autoJ ?_
 refine .tk 0 rfl (.ld sc29) ?_
 refine .tk 1 rfl .nilCheck ?_
 refine .tk 2 rfl (.fa df) ?_
 refine .tk 3 rfl (.ld jf) ?_
 refine .tk 4 rfl (.ld sc3) ?_
 refine .on 5 rfl fun hnp=>?_
 refine .call (hc:=Tryz.call120) (sp:=nMake (s:=s) (a:=a) (c:=c) (p:=p) (F0:=F0) (F:=fmT T) (W:=W0) (i:=i) (k:=kind) ho hk12 (hw.less (by omega)) hi (lr hTi) (fun j hj h=>by have:=hb j hj;unfold fmT at h;cases hj2:T j with | none=>exact this hj2 | some y=>rw [hj2] at h;cases h)) (h:=?_)
 rintro _ _ ⟨rfl,rfl⟩
 rw [hF1]
 refine .nil (.wa hnp ?_)
 refine .tk 6 rfl .move ?_
 refine .tk 7 rfl .extract ?_
 refine .tk 8 rfl .extract ?_
 refine .tk 9 rfl .assign ?_
 refine .tk 10 rfl .assign ?_
 refine .fin ?_
 refine .next (.seq (.sr (.move ?_)))
 refine .nei ?_
 refine .z ?_
 refine .condF rfl (cB9 (by first|simp;done|simp;omega|omega)) ?_
 refine .skip (.next (.sr ?_))
 refine .ld ?_ sc29
 refine .nilCheck ?_
 refine .fa ?_ df
 refine .ld ?_ jf
 refine .move (.move (.move ?_))
 refine .call (hc:=Tryz.call121) (sp:=dAdd (s:=s) (a:=a) (c:=c) (p:=p) (F0:=F0) (Fm:=fmT (updT T i (some x))) (W:=W0+1) (d:=d) (nm:=nm) (sl:=sl) ho hlk.1 hd1 hto.1 (by omega) (je hlk.2) (i:=i) hi32 (by unfold Rw at hw ⊢;omega) (by omega) (by rw [htot];exact hfit)) (h:=?_)
 rintro _ _ ⟨rfl,rfl⟩
 rw [show updM (fmT (updT T i (some x))) d (some (2,dirB (setS sl (d8 sl) (some (nm,i)))))=(fmT (mkT T d sl nm i x)) from fm _ _ (.dir _)]
 refine .assign (.z (.ret (?_)))
 refine .shutR (bun.opens [pt bp (.cells #[sv path] 9 (0,0)),pt bf (.cells #[.pointer (some ⟨f,0,none⟩)] 29 (0,0)),pt bk (.cells #[nI kind] 3 (0,0))]) () trivial ?_
 exact .ret1 (h1:=.tmp (t:=3) rfl) ⟨_,⟨rfl,rfl⟩,Am.auto⟩
def Hq (f:Nat) (p:Pl) (F0:FM) (T:FT) (W:Nat) (y:Nat×Nat×Nat×Nat):List HP:=[pt f (fO y.1 y.2.1 y.2.2.1 true false false y.2.2.2),LD y.2.2.2 T,IN y.2.2.1 y.2.1 y.1 p F0 (fmT T) W true]
def FSB (f:Nat) (p:Pl) (F0:FM) (T:FT) (W:Nat):HP:=fun h=>∃ y,True/\star (Hq f p F0 T W y) h
theorem FSB.opens (f:Nat) (p:Pl) (F0:FM) (T:FT) (W:Nat):Opens (FSB f p F0 T W) (fun _=>True) (Hq f p F0 T W):=⟨fun h hh=>hh,fun x hp h hh=>⟨x,hp,hh⟩⟩
attribute [irreducible] FSB
theorem Hr {f:Nat} {p:Pl} {T:FT} {F0:FM} {W0:Nat} {kind:Nat} {path:aa} (ho:PlOk p) (hT:TOk T) (hpl:path.length<=1000000) {d i:Nat} {nm:aa} {sl:List Slot} {x:NodeT} (hp:path≠[47]) (hpar:ce T path=(d,nm,0)) (hfi:dx T d nm=(0,4)) (hd:T d=some (.dir sl)) (hi:i < p.ino) (hTi:T i=none) (hb:∀ j < i,T j≠none) (hx:x.empty) (hk:x.kind=kind) (hw:Rw p W0 14) (hfit:tot (fmT T) p.ino+has (max (64 * sl.length) (64 * d8 sl+64))<=p.dc+has (64 * sl.length)):Spec Tryz.prog 64 #[.pointer (some ⟨f,0,none⟩),sv path,nI kind] [FSB f p F0 T W0] fun F v M=>v=okV/\M=FSB f p F0 (mkT T d sl nm i x) (W0+1+8) :: F:=by
 refine Spec.intro Tryz.func64 rfl rfl fun B F=>?_
 simp only [Tryz.ntmps64,List.cons_append,List.nil_append,env0,Nat.reduceAdd]
 refine .openR (FSB.opens f p F0 T W0) fun y _=>?_
 obtain ⟨c,a,s,mp⟩:=y
 simp only [Hq,List.cons_append,List.nil_append]
 refine .sr ?_
 refine .box fun b3=>?_
 refine .box fun b4=>?_
 refine .box fun b5=>?_
 refine .assign (.x ?_)
 refine .ld ?_ sc29
 refine .makeFuncB ?_
 refine .shutR (bun.opens [pt b4 (.cells #[sv path] 9 (0,0)),pt b3 (.cells #[.pointer (some ⟨f,0,none⟩)] 29 (0,0)),pt b5 (.cells #[nI kind] 3 (0,0))]) () trivial ?_
 refine .call (hc:=Tryz.call110) (sp:=za (s:=s) (a:=a) (c:=c) (p:=p) (f:=f) (mp:=mp) (T:=mkT T d sl nm i x) (S:=T) (F0:=F0) (W0:=W0) (hc:=Tryz.call119) (sp:=(Ld (bp:=b4) (bf:=b3) (bk:=b5) ho hT hpl hp hpar hfi hd hi hTi hb hx hk hw hfit))) (h:=?_)
 rintro _ _ ⟨rfl,rfl⟩
 refine .assign (.z (.ret (?_)))
 refine .shutR (FSB.opens f p F0 (mkT T d sl nm i x) (W0+1+8)) (c,a,s,mp) trivial ?_
 exact .ret1 (h1:=.tmp (t:=6) rfl) ⟨_,⟨rfl,rfl⟩,Am.auto⟩
theorem Hs {f:Nat} {p:Pl} {T:FT} {F0:FM} {W0:Nat} {path:aa} (ho:PlOk p) (hT:TOk T) (hpl:path.length<=1000000) {d i:Nat} {nm:aa} {sl:List Slot} {x:NodeT} (hp:path≠[47]) (hpar:ce T path=(d,nm,0)) (hfi:dx T d nm=(0,4)) (hd:T d=some (.dir sl)) (hi:i < p.ino) (hTi:T i=none) (hb:∀ j < i,T j≠none) (hx:x.empty) (hk:x.kind=1) (hw:Rw p W0 14) (hfit:tot (fmT T) p.ino+has (max (64 * sl.length) (64 * d8 sl+64))<=p.dc+has (64 * sl.length)):Spec Tryz.prog 100 #[.pointer (some ⟨f,0,none⟩),sv path] [FSB f p F0 T W0] fun F v M=>v=okV/\M=FSB f p F0 (mkT T d sl nm i x) (W0+1+8) :: F:=by
 refine Spec.intro Tryz.func100 rfl rfl fun B F=>?_
 simp only [Tryz.ntmps100,List.cons_append,List.nil_append,env0,Nat.reduceAdd]
 refine .sr (.assign (.x (.move (.move ?_))))
 refine .call (hc:=Tryz.call64) (sp:=Hr (f:=f) (p:=p) (T:=T) (kind:=1) ho hT hpl hp hpar hfi hd hi hTi hb hx hk hw hfit) (h:=?_)
 rintro _ _ ⟨rfl,rfl⟩
 refine .assign (.z (.ret (?_)))
 exact .ret1 (h1:=.tmp (t:=4) rfl) ⟨_,⟨rfl,rfl⟩,Am.auto⟩
theorem Lf {f:Nat} {p:Pl} {T:FT} {F0:FM} {W0:Nat} {path:aa} (ho:PlOk p) (hT:TOk T) (hpl:path.length<=1000000) {d i:Nat} {nm:aa} {sl:List Slot} {x:NodeT} (hp:path≠[47]) (hpar:ce T path=(d,nm,0)) (hfi:dx T d nm=(0,4)) (hd:T d=some (.dir sl)) (hi:i < p.ino) (hTi:T i=none) (hb:∀ j < i,T j≠none) (hx:x.empty) (hk:x.kind=2) (hw:Rw p W0 14) (hfit:tot (fmT T) p.ino+has (max (64 * sl.length) (64 * d8 sl+64))<=p.dc+has (64 * sl.length)):Spec Tryz.prog 31 #[.pointer (some ⟨f,0,none⟩),sv path] [FSB f p F0 T W0] fun F v M=>v=okV/\M=FSB f p F0 (mkT T d sl nm i x) (W0+1+8) :: F:=by
 refine Spec.intro Tryz.func31 rfl rfl fun B F=>?_
 simp only [Tryz.ntmps31,List.cons_append,List.nil_append,env0,Nat.reduceAdd]
 refine .sr (.assign (.x (.move (.move ?_))))
 refine .call (hc:=Tryz.call64) (sp:=Hr (f:=f) (p:=p) (T:=T) (kind:=2) ho hT hpl hp hpar hfi hd hi hTi hb hx hk hw hfit) (h:=?_)
 rintro _ _ ⟨rfl,rfl⟩
 refine .assign (.z (.ret (?_)))
 exact .ret1 (h1:=.tmp (t:=4) rfl) ⟨_,⟨rfl,rfl⟩,Am.auto⟩
theorem Lg {f s a c mp:Nat} {p:Pl} {T:FT} {F0:FM} {W0:Nat} {k:FuncId} {cap:Array Value} {R R2:HP} {path:aa} {bp bf bd:Nat} (ho:PlOk p) (hT:TOk T) (hpl:path.length<=1000000) {i z e W:Nat} {F1:FM} (hft:qi T path=(i,1,z,0)) (hc:∀ args w,(callFunc k args).run Tryz.prog w=.ok (.enter k args) w)
  (sp:Spec Tryz.prog k (#[nI i,.agg #[nI 1,nI z]]++cap) [pt f (fO c a s true false false mp),LD mp T,IN s a c p F0 (fmT T) W0 true,R] fun F v M=>v=nI e/\M=pt f (fO c a s true false false mp) :: LD mp T :: IN s a c p F0 F1 W true :: R2 :: F):Spec Tryz.prog 227 #[.pointer (some ⟨bf,0,none⟩),.pointer (some ⟨bp,0,none⟩),.pointer (some ⟨bd,0,none⟩)] [pt f (fO c a s true false false mp),LD mp T,IN s a c p F0 (fmT T) W0 true,bun [pt bf (.cells #[.pointer (some ⟨f,0,none⟩)] 29 (0,0)),pt bp (.cells #[sv path] 9 (0,0)),pt bd (.cells #[.func (.func k) #[] cap] 250 (0,0)),R]] fun F v M=>v=nI e/\M=pt f (fO c a s true false false mp) :: LD mp T :: IN s a c p F0 F1 W true :: bun [pt bf (.cells #[.pointer (some ⟨f,0,none⟩)] 29 (0,0)),pt bp (.cells #[sv path] 9 (0,0)),pt bd (.cells #[.func (.func k) #[] cap] 250 (0,0)),R2] :: F:=by
 refine Spec.intro Tryz.func227 rfl rfl fun B F=>?_
 simp only [Tryz.ntmps227,List.cons_append,List.nil_append,env0,Nat.reduceAdd]
 refine .openR (bun.opens _) fun _ _=>?_
 simp only [List.cons_append,List.nil_append]
 refine .sr (.assign (.x ?_))
 refine .ld ?_ sc29
 refine .ld ?_ sc9
 refine .call (hc:=Tryz.call187) (sp:=Cp (f:=f) (s:=s) (a:=a) (c:=c) (mp:=mp) (b:=true) (ov:=false) (dead:=false) (p:=p) (T:=T) (F0:=F0) (W:=W0) (op:=true) (path:=path) ho hT hpl) (h:=?_)
 rintro _ _ ⟨rfl,rfl⟩
 rw [hft]
 refine .move ?_
 refine .extract (.extract (.extract ?_))
 refine .alloc z159 fun b5=>?_
 refine .assign ?_
 refine .stV ?_ cq
 refine .assign (.z (.seq (.sr (.move ?_))))
 refine .nei ?_
 refine .z ?_
 refine .condF rfl (cB9 (by first|simp;done|simp;omega|omega)) ?_
 refine .skip (.next (.sr ?_))
 refine .ld ?_ sc250
 refine .move ?_
 refine .ldA ?_ cq
 refine .callV (vs:=[nI i,.agg #[nI 1,nI z]]) (hc:=hc) (sp:=sp) (h:=?_)
 rintro _ _ ⟨rfl,rfl⟩
 refine .assign (.z (.ret (?_)))
 refine .shutR (bun.opens [pt bf (.cells #[.pointer (some ⟨f,0,none⟩)] 29 (0,0)),pt bp (.cells #[sv path] 9 (0,0)),pt bd (.cells #[.func (.func k) #[] cap] 250 (0,0)),R2]) () trivial ?_
 exact .ret1 (h1:=.tmp (t:=3) rfl) ⟨_,⟨rfl,rfl⟩,Am.auto⟩
theorem O4 {f s a c mp:Nat} {p:Pl} {T:FT} {F0:FM} {W0:Nat} {k:FuncId} {cap:Array Value} {R R2:HP} {path:aa} (ho:PlOk p) (hT:TOk T) (hpl:path.length<=1000000) {i z W:Nat} {T2:FT} (hft:qi T path=(i,1,z,0)) (hc:∀ args w,(callFunc k args).run Tryz.prog w=.ok (.enter k args) w)
  (sp:Spec Tryz.prog k (#[nI i,.agg #[nI 1,nI z]]++cap) [pt f (fO c a s true false false mp),LD mp T,IN s a c p F0 (fmT T) W0 true,R] fun F v M=>v=okV/\M=pt f (fO c a s true false false mp) :: LD mp T :: IN s a c p F0 (fmT T2) W true :: R2 :: F):Spec Tryz.prog 167 #[.pointer (some ⟨f,0,none⟩),sv path,.func (.func k) #[] cap] [pt f (fO c a s true false false mp),LD mp T,IN s a c p F0 (fmT T) W0 true,R] fun F v M=>v=okV/\M=pt f (fO c a s true false false mp) :: LD mp T2 :: IN s a c p F0 (fmT T2) W true :: R2 :: F:=by
 refine Spec.intro Tryz.func167 rfl rfl fun B F=>?_
 simp only [Tryz.ntmps167,List.cons_append,List.nil_append,env0,Nat.reduceAdd]
 refine .sr ?_
 refine .box fun b3=>?_
 refine .box fun b4=>?_
 refine .box fun b5=>?_
 refine .assign (.x ?_)
 refine .ld ?_ sc29
 refine .makeFuncB ?_
 refine .shutR (bun.opens [pt b3 (.cells #[.pointer (some ⟨f,0,none⟩)] 29 (0,0)),pt b4 (.cells #[sv path] 9 (0,0)),pt b5 (.cells #[.func (.func k) #[] cap] 250 (0,0)),R]) () trivial ?_
 refine .call (hc:=Tryz.call110) (sp:=za (s:=s) (a:=a) (c:=c) (p:=p) (f:=f) (mp:=mp) (T:=T2) (S:=T) (F0:=F0) (W0:=W0) (hc:=Tryz.call227) (sp:=(Lg (bf:=b3) (bp:=b4) (bd:=b5) (k:=k) (cap:=cap) (R:=R) ho hT hpl (e:=0) hft hc sp))) (h:=?_)
 rintro _ _ ⟨rfl,rfl⟩
 refine .assign (.z (.ret (?_)))
 refine .openR (bun.opens _) fun _ _=>?_
 simp only [List.cons_append,List.nil_append]
 exact .ret1 (h1:=.tmp (t:=6) rfl) ⟨_,⟨rfl,rfl⟩,Am.auto⟩
theorem Ea {f s a c mp:Nat} {p:Pl} {T:FT} {F0:FM} {W0:Nat} {x3 x5:Nat} {i m cc:Nat} {fb bs:aa} {R:HP} {A:Option Addr} (hTi:T i=some (.file fb)) (hR:bs=[] ∨ Reads R A (bvs bs)) (hm:bs.length=m) (hcc:m<=cc) (hcb:cc<=maxLen) (hw:Rw p W0 (has (max fb.length (fb.length+m)) - has fb.length+(m+511) / 512+10)) (hat:fb.length<=fb.length) (hbg:fb.length+m<=70656) (hfit:tot (fmT T) p.ino+has (max fb.length (fb.length+m))<=p.dc+has fb.length) (ho:PlOk p):Spec Tryz.prog 168 (#[nI i,.agg #[nI 1,nI fb.length]]++#[.pointer (some ⟨x3,0,none⟩),.pointer (some ⟨x5,0,none⟩)]) [pt f (fO c a s true false false mp),LD mp T,IN s a c p F0 (fmT T) W0 true,bun [pt x3 (.cells #[.pointer (some ⟨f,0,none⟩)] 29 (0,0)),pt x5 (.cells #[.slice A m cc] 79 (0,0)),R]] fun F v M=>v=okV/\M=pt f (fO c a s true false false mp) :: LD mp T :: IN s a c p F0 (fmT (updT T i (some (.file (wrB fb fb.length bs))))) (W0+(has (max fb.length (fb.length+m)) - has fb.length)+(m+511) / 512+5) true :: bun [pt x3 (.cells #[.pointer (some ⟨f,0,none⟩)] 29 (0,0)),pt x5 (.cells #[.slice A m cc] 79 (0,0)),R] :: F:=by
 refine Spec.intro Tryz.func168 rfl rfl fun B F=>?_
 simp only [Tryz.ntmps168,List.cons_append,List.nil_append,env0,Nat.reduceAdd]
 refine .openR (bun.opens _) fun _ _=>?_
 simp only [List.cons_append,List.nil_append]
 refine .sr ?_
 refine .box fun b5=>?_
 refine .assign (.z (.seq ?_))
 refine .dr ([pt x3 (.cells #[.pointer (some ⟨f,0,none⟩)] 29 (0,0)),pt x5 (.cells #[.slice A m cc] 79 (0,0)),pt f (fO c a s true false false mp),pt b5 (.cells #[nI 1,nI fb.length] 159 (0,0))]) [] 10 mixed .autoJ ?_
 refine .tk 0 rfl (.ld sc29) ?_
 refine .tk 1 rfl .nilCheck ?_
 refine .tk 2 rfl (.fa df) ?_
 refine .tk 3 rfl (.ld jf) ?_
 refine .tk 4 rfl .move ?_
 refine .tk 5 rfl (.fa Hg) ?_
 refine .tk 6 rfl (.ld sc3) ?_
 refine .tk 7 rfl (.ld sc79) ?_
 refine .on 8 rfl fun hnp=>?_
 refine .call (hc:=Tryz.call169) (sp:=G2 (s:=s) (a:=a) (c:=c) (p:=p) (F0:=F0) (F:=fmT T) (W:=W0) (i:=i) (at':=fb.length) (f:=(1,fb)) (bs:=bs) ho (bx hTi) hw hR hm hcc hcb hat hbg hfit) (h:=?_)
 rintro _ _ ⟨rfl,rfl⟩
 rw [show updM (fmT T) i (some (1,wrB fb fb.length bs))=fmT (updT T i (some (.file (wrB fb fb.length bs)))) from fm T i (.file _)]
 refine .nil (.wa hnp ?_)
 refine .tk 9 rfl .assign ?_
 refine .fin ?_
 refine .next (.ret (?_))
 refine .shutR (bun.opens [pt x3 (.cells #[.pointer (some ⟨f,0,none⟩)] 29 (0,0)),pt x5 (.cells #[.slice A m cc] 79 (0,0)),R]) () trivial ?_
 exact .ret1 (h1:=.tmp (t:=6) rfl) ⟨_,⟨rfl,rfl⟩,Am.auto⟩
theorem Ht {f:Nat} {p:Pl} {T:FT} {F0:FM} {W0:Nat} {path:aa} (ho:PlOk p) (hT:TOk T) (hpl:path.length<=1000000) {i m cc:Nat} {fb bs:aa} {R:HP} {A:Option Addr} (hft:qi T path=(i,1,fb.length,0)) (hTi:T i=some (.file fb)) (hR:bs=[] ∨ Reads R A (bvs bs)) (hm:bs.length=m) (hcc:m<=cc) (hcb:cc<=maxLen) (hw:Rw p W0 (has (max fb.length (fb.length+m)) - has fb.length+(m+511) / 512+10)) (hat:fb.length<=fb.length) (hbg:fb.length+m<=70656) (hfit:tot (fmT T) p.ino+has (max fb.length (fb.length+m))<=p.dc+has fb.length):Spec Tryz.prog 96 #[.pointer (some ⟨f,0,none⟩),sv path,.slice A m cc] [FSB f p F0 T W0,R] fun F v M=>v=okV/\M=FSB f p F0 (updT T i (some (.file (wrB fb fb.length bs)))) (W0+(has (max fb.length (fb.length+m)) - has fb.length)+(m+511) / 512+5) :: R :: F:=by
 refine Spec.intro Tryz.func96 rfl rfl fun B F=>?_
 simp only [Tryz.ntmps96,List.cons_append,List.nil_append,env0,Nat.reduceAdd]
 refine .openR (FSB.opens f p F0 T W0) fun y _=>?_
 obtain ⟨c,a,s,mp⟩:=y
 simp only [Hq,List.cons_append,List.nil_append]
 refine .sr ?_
 refine .box fun b3=>?_
 refine .box fun b5=>?_
 refine .assign (.x ?_)
 refine .ld ?_ sc29
 refine .move ?_
 refine .makeFuncB ?_
 refine .shutR (bun.opens [pt b3 (.cells #[.pointer (some ⟨f,0,none⟩)] 29 (0,0)),pt b5 (.cells #[.slice A m cc] 79 (0,0)),R]) () trivial ?_
 refine .call (hc:=Tryz.call167) (sp:=O4 (s:=s) (a:=a) (c:=c) (p:=p) (f:=f) (mp:=mp) (T:=T) (T2:=(updT T i (some (.file (wrB fb fb.length bs))))) (F0:=F0) (W0:=W0) (W:=(W0+(has (max fb.length (fb.length+m)) - has fb.length)+(m+511) / 512+5)) ho hT hpl hft (hc:=Tryz.call168) (sp:=Ea (x3:=b3) (x5:=b5) hTi hR hm hcc hcb hw hat hbg hfit ho)) (h:=?_)
 rintro _ _ ⟨rfl,rfl⟩
 refine .assign (.z (.ret (?_)))
 refine .openR (bun.opens _) fun _ _=>?_
 simp only [List.cons_append,List.nil_append]
 refine .shutR (FSB.opens f p F0 (updT T i (some (.file (wrB fb fb.length bs)))) (W0+(has (max fb.length (fb.length+m)) - has fb.length)+(m+511) / 512+5)) (c,a,s,mp) trivial ?_
 exact .ret1 (h1:=.tmp (t:=6) rfl) ⟨_,⟨rfl,rfl⟩,Am.auto⟩
end Go.Proofs.YtmihjfcbofejoaaGreatDoor
end
section
namespace Go.Proofs.YtmihjfcbofejoaaGreatDoor
open Go
def d3 (dn nm:aa):aa:=47 :: (dn++47 :: nm)
theorem lh (dn nm:aa):(d3 dn nm).length=dn.length+nm.length+2:=by unfold d3;simp;omega
theorem li {nm:aa} (h:ap nm=true):ak nm=[nm]:=by
 unfold ap at h
 simp only [Bool.and_eq_true,Bool.not_eq_true'] at h
 refine lf fun k hk=>?_
 have h1:=h.2.2.1
 unfold pn at h1
 rw [List.any_eq_false] at h1
 have:=h1 47 (List.mem_of_getElem? hk)
 exact this (by decide)
theorem td {nm:aa} (h:ak nm=[nm]):∀ dn:aa,(∀ c∈dn,c≠47)->ak (dn++47 :: nm)=[dn,nm]
 | [],_=>by
  show ak (47 :: nm)=_
  rw [ak,if_pos rfl,h]
 | x :: l,hx=>by
  show ak (x :: (l++47 :: nm))=_
  rw [ak,if_neg (hx x (List.mem_cons_self ..)),td h l fun c hc=>hx c (List.mem_cons_of_mem _ hc)]
theorem Eb {nm:aa} (h:ap nm=true):∀ c∈nm,c≠47:=by
 unfold ap at h
 simp only [Bool.and_eq_true,Bool.not_eq_true'] at h
 have h1:=h.2.2.1
 unfold pn at h1
 rw [List.any_eq_false] at h1
 intro c hc he
 subst he
 exact h1 47 hc (by decide)
theorem M5 {dn nm:aa} (hd:ap dn=true) (h:ap nm=true):ey (d3 dn nm)=some [dn,nm]:=by
 have hl:=an hd
 have h1:ak (dn++47 :: nm)=[dn,nm]:=td (li h) dn (Eb hd)
 unfold ey d3
 simp only [if_true]
 rw [if_neg (by simp),h1,if_neg (by simp)]
 rw [show [dn,nm].all ap=true from by rw [List.all_cons,List.all_cons,List.all_nil,h,hd];rfl]
 rfl
structure PF where
 i:Nat
 q:Nat
 nm:aa
 c:aa
def hasF (fl:List PF):Nat:=(fl.map fun x=>has x.c.length).sum
structure DirF (p:Pl) (dn:aa) (N:Nat) (T:FT) (sl:List Slot) (fl:List PF):Prop where
 dnm:ap dn=true
 root:T 0=some (.dir [some (dn,1)])
 dir:T 1=some (.dir sl)
 ok:DirOk sl
 len:sl.length<=N
 slot:∀ q nm i,sl[q]?=some (some (nm,i)) ↔ ∃ x∈fl,x.q=q/\x.nm=nm/\x.i=i
 file:∀ x∈fl,T x.i=some (.file x.c)/\2<=x.i/\ap x.nm=true
 none':∀ j,2<=j->(∀ x∈fl,x.i≠j)->T j=none
 top:∀ x∈fl,x.i < N+2
 inj:fl.Pairwise fun x y=>x.i≠y.i/\x.nm≠y.nm
 tot':tot (fmT T) p.ino=1+has (64 * sl.length)+hasF fl
section
variable {p:Pl} {dn:aa} {N:Nat} {T:FT} {sl:List Slot} {fl:List PF}
theorem DirF.tok (h:DirF p dn N T sl fl) (hN:N<=1000):TOk T:=by
 intro d s hd
 by_cases h0:d=0
 ·subst h0
  rw [h.root] at hd
  injection hd with hd;injection hd with hd
  subst hd
  refine ⟨⟨fun q n i hq=>?_,fun q r n i j h1 h2=>?_⟩,by show 1<=_;decide⟩
  ·rcases q with _ | q
   ·injection hq with hq;injection hq with hq;injection hq with h1 h2;subst h1;subst h2;exact ⟨an h.dnm,by decide⟩
   ·simp at hq
  ·rcases q with _ | q
   ·rcases r with _ | r
    ·rfl
    ·simp at h2
   ·simp at h1
 ·by_cases h1:d=1
  ·subst h1
   rw [h.dir] at hd
   injection hd with hd;injection hd with hd
   subst hd
   exact ⟨h.ok,by have:=h.len;omega⟩
  ·by_cases hx:∀ x∈fl,x.i≠d
   ·rw [h.none' d (by omega) hx] at hd;cases hd
   ·obtain ⟨x,hx⟩:=Classical.not_forall.1 hx
    obtain ⟨hxm,hxi⟩:=Classical.not_imp.1 hx
    have hxi:x.i=d:=Classical.byContradiction hxi
    have:=(h.file x hxm).1
    rw [hxi,hd] at this
    cases this
theorem DirF.findD (h:DirF p dn N T sl fl):dx T 0 dn=(1,0):=by
 unfold dx
 rw [if_pos h.dnm,h.root]
 show (match i0 dn [some (dn,1)] with | some (_,i)=>(i,0) | none=>(0,4))=_
 have ho:DirOk [some (dn,1)]:=⟨fun q n i hq=>by
  rcases q with _ | q
  ·injection hq with hq;injection hq with hq;injection hq with h1 h2;subst h1;subst h2;exact ⟨an h.dnm,by decide⟩
  ·simp at hq,fun q r n i j h1 h2=>by
  rcases q with _ | q
  ·rcases r with _ | r
   ·rfl
   ·simp at h2
  ·simp at h1⟩
 rw [Ck ho (q:=0) (i:=1) rfl]
theorem DirF.parent (h:DirF p dn N T sl fl) {nm:aa} (hn:ap nm=true):ce T (d3 dn nm)=(1,nm,0):=by
 unfold ce
 rw [M5 h.dnm hn]
 have hw:db T 0 [dn]=(1,0):=by
  unfold db
  rw [h.findD]
  rfl
 show (if [dn,nm]=[] then _ else if (db T 0 [dn]).2=0 then (match T (db T 0 [dn]).1 with | some (.dir _)=>((db T 0 [dn]).1,nm,0) | _=>(0,[],6)) else _)=_
 rw [if_neg (by simp),hw,if_pos rfl,h.dir]
theorem DirF.findNo (h:DirF p dn N T sl fl) {nm:aa} (hn:ap nm=true) (hx:∀ x∈fl,x.nm≠nm):dx T 1 nm=(0,4):=by
 unfold dx
 rw [if_pos hn,h.dir]
 show (match i0 nm sl with | some (_,i)=>(i,0) | none=>(0,4))=_
 cases hl:i0 nm sl with
 | none=>rfl
 | some y =>
  obtain ⟨q,i⟩:=y
  obtain ⟨x,hxm,_,h2,_⟩:=(h.slot q nm i).1 (ff hl)
  exact absurd h2 (hx x hxm)
theorem DirF.look (h:DirF p dn N T sl fl) {x:PF} (hx:x∈fl):i0 x.nm sl=some (x.q,x.i):=Ck h.ok ((h.slot x.q x.nm x.i).2 ⟨x,hx,rfl,rfl,rfl⟩)
theorem DirF.fileAt (h:DirF p dn N T sl fl) {x:PF} (hx:x∈fl):qi T (d3 dn x.nm)=(x.i,1,x.c.length,0):=by
 have hf:=h.file x hx
 have h1:dx T 1 x.nm=(x.i,0):=by
  unfold dx
  rw [if_pos hf.2.2,h.dir]
  show (match i0 x.nm sl with | some (_,i)=>(i,0) | none=>(0,4))=_
  rw [h.look hx]
 have hw:db T 0 [dn,x.nm]=(x.i,0):=by
  unfold db
  rw [h.findD]
  show db T 1 [x.nm]=_
  unfold db
  rw [h1]
  rfl
 have hl:fu T (d3 dn x.nm)=(x.i,1,x.c.length,0):=by
  unfold fu
  rw [M5 h.dnm hf.2.2]
  show (if (db T 0 [dn,x.nm]).2=0 then _ else _)=_
  rw [hw,if_pos rfl]
  show (match T x.i with | some y=>(x.i,y.kind,y.size,0) | none=>(x.i,0,0,4))=_
  rw [hf.1]
  rfl
 unfold qi
 rw [hl,if_neg (by rintro ⟨_,h⟩;exact h rfl)]
theorem Ec {T:FT}:∀ n:Nat,T n=none->∃ i,i<=n/\T i=none/\∀ j < i,T j≠none:=by
 intro n
 induction n using Nat.strongRecOn with
 | _ n ih =>
  intro hn
  by_cases h:∀ j < n,T j≠none
  ·exact ⟨n,Nat.le_refl _,hn,h⟩
  ·obtain ⟨j,hj⟩:=Classical.not_forall.1 h
   obtain ⟨hjn,hj2⟩:=Classical.not_imp.1 hj
   obtain ⟨i,h1,h2,h3⟩:=ih j hjn (Classical.byContradiction hj2)
   exact ⟨i,by omega,h2,h3⟩
theorem DirF.free (h:DirF p dn N T sl fl):∃ i,2<=i/\i<=N+2/\T i=none/\∀ j < i,T j≠none:=by
 obtain ⟨i,h1,h2,h3⟩:=Ec (N+2) (h.none' (N+2) (by omega) (fun x hx=>by have:=h.top x hx;omega))
 refine ⟨i,?_,h1,h2,h3⟩
 rcases Nat.lt_or_ge i 2 with hl | hl
 ·have:i=0 ∨ i=1:=by omega
  rcases this with rfl | rfl
  ·rw [h.root] at h2;cases h2
  ·rw [h.dir] at h2;cases h2
 ·exact hl
theorem vb {T:FT} {d:Nat} {sl:List Slot} {nm:aa} {i:Nat} {x:NodeT} {j:Nat}:mkT T d sl nm i x j=if j=d then some (.dir (setS sl (d8 sl) (some (nm,i)))) else if j=i then some x else T j:=by
 unfold mkT updT
 rfl
theorem O5 {T:FT} {d n:Nat} {sl:List Slot} {nm:aa} {i:Nat} (hd:T d=some (.dir sl)) (hi:T i=none) (hdn:d < n) (hin:i < n) (hne:d≠i) :
  tot (fmT (mkT T d sl nm i (.file []))) n+has (64 * sl.length)=tot (fmT T) n+has (64 * (setS sl (d8 sl) (some (nm,i))).length):=by
 have h1:=eo (fmT T) hin (some (NodeT.file []).f)
 rw [fm,lr hi] at h1
 have h2:=eo (fmT (updT T i (some (.file [])))) hdn (some (NodeT.dir (setS sl (d8 sl) (some (nm,i)))).f)
 rw [fm,bx (x:=.dir sl) (by rw [d7 _ _ hne];exact hd)] at h2
 have e0:hasO none=0:=rfl
 have e1:hasO (some (NodeT.file []).f)=0:=by show has 0=0;rfl
 have e2:hasO (some (NodeT.dir sl).f)=has (64 * sl.length):=by show has (dirB sl).length=_;rw [a8]
 have e3:hasO (some (NodeT.dir (setS sl (d8 sl) (some (nm,i)))).f)=has (64 * (setS sl (d8 sl) (some (nm,i))).length):=by show has (dirB _).length=_;rw [a8]
 unfold mkT
 omega
theorem DirF.made (h:DirF p dn N T sl fl) {nm:aa} {i:Nat} (hn:ap nm=true) (hx:∀ x∈fl,x.nm≠nm) (h2:2<=i) (hi:i<=N+2) (hT:T i=none) (hino:N+2 < p.ino) (hN:N<=900) :
  DirF p dn (N+1) (mkT T 1 sl nm i (.file [])) (setS sl (d8 sl) (some (nm,i))) (fl++[⟨i,d8 sl,nm,[]⟩]):=by
 have hfl:=qu sl
 have hfi:∀ x∈fl,x.i≠i:=fun x hxm he=>by
  have:=(h.file x hxm).1
  rw [he,hT] at this
  cases this
 have hfree:∀ n j,sl[d8 sl]?≠some (some (n,j)):=by
  intro n j hh
  unfold d8 at hh
  cases hf:iz sl sl.length with
  | some r =>
   rw [hf] at hh
   rw [Option.getD_some,(pq hf).2.1] at hh
   cases hh
  | none =>
   rw [hf] at hh
   simp at hh
 have hnm:=an hn
 have hslot:=h.slot
 refine ⟨h.dnm,by rw [vb,if_neg (by decide),if_neg (by omega)];exact h.root,by rw [vb,if_pos rfl],?_,?_,?_,?_,?_,?_,?_,?_⟩
 ·refine h.ok.set hfl hnm (by omega) fun r j hr hh=>?_
  obtain ⟨x,hxm,_,h3,_⟩:=(hslot _ _ _).1 hh
  exact hx x hxm h3
 ·rw [s7 hfl];have:=h.len;omega
 ·intro q n j
  by_cases hq:q=d8 sl
  ·subst hq
   rw [oh hfl]
   constructor
   ·intro hh
    injection hh with hh;injection hh with hh;injection hh with h3 h4
    exact ⟨_,List.mem_append_right _ (List.mem_singleton.2 rfl),rfl,h3,h4⟩
   ·rintro ⟨x,hxm,h3,h4,h5⟩
    rcases List.mem_append.1 hxm with hxm | hxm
    ·exact absurd ((hslot _ _ _).2 ⟨x,hxm,h3,rfl,rfl⟩) (hfree _ _)
    ·rw [List.mem_singleton.1 hxm] at h4 h5
     rw [<- h4,<-h5]
  ·rw [lq hfl hq,hslot]
   constructor
   ·rintro ⟨x,hxm,h3⟩;exact ⟨x,List.mem_append_left _ hxm,h3⟩
   ·rintro ⟨x,hxm,h3,h4⟩
    rcases List.mem_append.1 hxm with hxm | hxm
    ·exact ⟨x,hxm,h3,h4⟩
    ·rw [List.mem_singleton.1 hxm] at h3
     exact absurd h3.symm hq
 ·intro x hxm
  rcases List.mem_append.1 hxm with hxm | hxm
  ·have hf:=h.file x hxm
   refine ⟨?_,hf.2⟩
   rw [vb,if_neg (by omega),if_neg (hfi x hxm)]
   exact hf.1
  ·rw [List.mem_singleton.1 hxm]
   refine ⟨?_,h2,hn⟩
   show mkT T 1 sl nm i (.file []) i=_
   rw [vb,if_neg (by omega),if_pos rfl]
 ·intro j hj hjx
  have h1:=hjx _ (List.mem_append_right _ (List.mem_singleton.2 rfl))
  rw [vb,if_neg (by omega),if_neg (fun e=>h1 e.symm)]
  exact h.none' j hj fun x hxm=>hjx x (List.mem_append_left _ hxm)
 ·intro x hxm
  rcases List.mem_append.1 hxm with hxm | hxm
  ·have:=h.top x hxm;omega
  ·rw [List.mem_singleton.1 hxm];show i < N+1+2;omega
 ·refine List.pairwise_append.2 ⟨h.inj,List.pairwise_singleton _ _,fun x hxm y hym=>?_⟩
  rw [List.mem_singleton.1 hym]
  exact ⟨hfi x hxm,hx x hxm⟩
 ·have ht:=O5 (nm:=nm) h.dir hT (n:=p.ino) (by omega) (by omega) (by omega)
  have hh:hasF (fl++[⟨i,d8 sl,nm,[]⟩])=hasF fl:=by
   unfold hasF
   rw [List.map_append,List.sum_append]
   show _+(has 0+0)=_
   rfl
  rw [hh]
  have:=h.tot'
  omega
end
section
variable {p:Pl} {dn:aa} {N:Nat} {T:FT} {sl:List Slot} {fl:List PF}
theorem Cr (pre post:List PF) (x:PF):hasF (pre++x :: post)=hasF pre+(has x.c.length+hasF post):=by
 unfold hasF
 rw [List.map_append,List.sum_append,List.map_cons,List.sum_cons]
theorem DirF.wrote {pre post:List PF} {x:PF} (h:DirF p dn N T sl (pre++x :: post)) (c':aa) (hino:N+2<=p.ino):DirF p dn N (updT T x.i (some (.file c'))) sl (pre++⟨x.i,x.q,x.nm,c'⟩ :: post):=by
 have hxm:x∈pre++x :: post:=List.mem_append_right _ (List.mem_cons_self ..)
 have hfx:=h.file x hxm
 have hinj:=h.inj
 rw [List.pairwise_append,List.pairwise_cons] at hinj
 obtain ⟨hp1,⟨hp2,hp3⟩,hp4⟩:=hinj
 have hpre:∀ y∈pre,y.i≠x.i/\y.nm≠x.nm:=fun y hy=>hp4 y hy x (List.mem_cons_self ..)
 have hpost:∀ y∈post,x.i≠y.i/\x.nm≠y.nm:=hp2
 have back:∀ y∈pre++(⟨x.i,x.q,x.nm,c'⟩:PF) :: post,∃ z∈pre++x :: post,z.i=y.i/\z.q=y.q/\z.nm=y.nm:=fun y hy=>by
  rcases List.mem_append.1 hy with hy | hy
  ·exact ⟨y,List.mem_append_left _ hy,rfl,rfl,rfl⟩
  ·rcases List.mem_cons.1 hy with rfl | hy
   ·exact ⟨x,hxm,rfl,rfl,rfl⟩
   ·exact ⟨y,List.mem_append_right _ (List.mem_cons_of_mem _ hy),rfl,rfl,rfl⟩
 have forth:∀ z∈pre++x :: post,∃ y∈pre++(⟨x.i,x.q,x.nm,c'⟩:PF) :: post,z.i=y.i/\z.q=y.q/\z.nm=y.nm:=fun z hz=>by
  rcases List.mem_append.1 hz with hz | hz
  ·exact ⟨z,List.mem_append_left _ hz,rfl,rfl,rfl⟩
  ·rcases List.mem_cons.1 hz with rfl | hz
   ·exact ⟨_,List.mem_append_right _ (List.mem_cons_self ..),rfl,rfl,rfl⟩
   ·exact ⟨z,List.mem_append_right _ (List.mem_cons_of_mem _ hz),rfl,rfl,rfl⟩
 refine ⟨h.dnm,by rw [d7 _ _ (by omega)];exact h.root,by rw [d7 _ _ (by omega)];exact h.dir,h.ok,h.len,fun q nm i=>?_,fun y hy=>?_,fun j hj hjx=>?_,fun y hy=>?_,?_,?_⟩
 ·rw [h.slot]
  constructor
  ·rintro ⟨z,hz,h1,h2,h3⟩
   obtain ⟨y,hy,e1,e2,e3⟩:=forth z hz
   exact ⟨y,hy,by rw [<- e2];exact h1,by rw [<- e3];exact h2,by rw [<- e1];exact h3⟩
  ·rintro ⟨y,hy,h1,h2,h3⟩
   obtain ⟨z,hz,e1,e2,e3⟩:=back y hy
   exact ⟨z,hz,by rw [e2];exact h1,by rw [e3];exact h2,by rw [e1];exact h3⟩
 ·rcases List.mem_append.1 hy with hy | hy
  ·have hf:=h.file y (List.mem_append_left _ hy)
   rw [d7 _ _ (hpre y hy).1]
   exact hf
  ·rcases List.mem_cons.1 hy with rfl | hy
   ·exact ⟨Hk ..,hfx.2⟩
   ·have hf:=h.file y (List.mem_append_right _ (List.mem_cons_of_mem _ hy))
    rw [d7 _ _ (fun e=>(hpost y hy).1 e.symm)]
    exact hf
 ·have hx':=hjx _ (List.mem_append_right _ (List.mem_cons_self ..))
  rw [d7 _ _ (fun e=>hx' e.symm)]
  refine h.none' j hj fun z hz=>?_
  obtain ⟨y,hy,e1,_⟩:=forth z hz
  rw [e1]
  exact hjx y hy
 ·obtain ⟨z,hz,e1,_⟩:=back y hy
  rw [<- e1]
  exact h.top z hz
 ·rw [List.pairwise_append,List.pairwise_cons]
  exact ⟨hp1,⟨hp2,hp3⟩,fun y hy z hz=>by
   rcases List.mem_cons.1 hz with rfl | hz
   ·exact hpre y hy
   ·exact hp4 y hy z (List.mem_cons_of_mem _ hz)⟩
 ·have htop:=h.top x hxm
  have h1:=eo (fmT T) (show x.i < p.ino by omega) (some (NodeT.file c').f)
  rw [fm,bx hfx.1] at h1
  have e1:hasO (some (NodeT.file c').f)=has c'.length:=rfl
  have e2:hasO (some (NodeT.file x.c).f)=has x.c.length:=rfl
  have h2:=h.tot'
  rw [Cr] at h2 ⊢
  show tot _ p.ino=1+has (64 * sl.length)+(hasF pre+(has c'.length+hasF post))
  omega
end
theorem FSB.wkn {f:Nat} {p:Pl} {F0:FM} {T:FT} {W W':Nat} {B:Base} {w:World} {M:List HP} (hW:W<=W') (hs:Sat B w (FSB f p F0 T W :: M)):Sat B w (FSB f p F0 T W' :: M):=by
 obtain ⟨y,_,h1⟩:=Sat.opens hs (FSB.opens f p F0 T W)
 have h2:Sat B w (IN y.2.2.1 y.2.1 y.1 p F0 (fmT T) W true :: pt f (fO y.1 y.2.1 y.2.2.1 true false false y.2.2.2) :: LD y.2.2.2 T :: M):=Sat.front (.there (.there .here)) h1
 obtain ⟨z,hz,h3⟩:=Sat.opens h2 (IN.opens y.2.2.1 y.2.1 y.1 p F0 (fmT T) W true)
 have h4:=Sat.shuts (IN.opens y.2.2.1 y.2.1 y.1 p F0 (fmT T) W' true) (x:=z) ⟨hz.r0,hz.r,hz.dk,Nat.le_trans hz.wt hW⟩ h3
 exact Sat.shuts (FSB.opens f p F0 T W') (x:=y) trivial (Sat.take (.cons (.there .here) (.cons (.there .here) (.cons .here .nil))) h4)
def DB (f:Nat) (p:Pl) (dn:aa) (N:Nat) (F0:FM) (fl:List PF) (W:Nat):HP:=exH (fun x:FT×List Slot=>DirF p dn N x.1 x.2 fl) (fun x=>[FSB f p F0 x.1 W])
theorem DB.opens (f:Nat) (p:Pl) (dn:aa) (N:Nat) (F0:FM) (fl:List PF) (W:Nat):Opens (DB f p dn N F0 fl W) (fun x:FT×List Slot=>DirF p dn N x.1 x.2 fl) (fun x=>[FSB f p F0 x.1 W]):=exH.opens
def DR (f:Nat) (p:Pl) (dn:aa) (N:Nat) (fl:List PF):HP:=exH (fun x:FT×List Slot=>DirF p dn N x.1 x.2 fl) (fun x=>[FSR f p x.1])
theorem DR.opens (f:Nat) (p:Pl) (dn:aa) (N:Nat) (fl:List PF):Opens (DR f p dn N fl) (fun x:FT×List Slot=>DirF p dn N x.1 x.2 fl) (fun x=>[FSR f p x.1]):=exH.opens
theorem Lh {f:Nat} {p:Pl} {dn:aa} {N W:Nat} {F0:FM} {fl:List PF} {nm:aa} (ho:PlOk p) (hN:N<=900) (hino:N+2 < p.ino) (hn:ap nm=true) (hx:∀ x∈fl,x.nm≠nm) (hl:nm.length<=1000) (hw:Rw p W 14) (hfit:1+has (64 * (N+1))+hasF fl<=p.dc) :
  Spec Tryz.prog 100 #[.pointer (some ⟨f,0,none⟩),sv (d3 dn nm)] [DB f p dn N F0 fl W] fun F v M=>∃ i q,v=okV/\M=DB f p dn (N+1) F0 (fl++[⟨i,q,nm,[]⟩]) (W+1+8) :: F:=by
 refine Spec.opens (DB.opens f p dn N F0 fl W) fun x hd=>?_
 obtain ⟨T,sl⟩:=x
 have hd:DirF p dn N T sl (fl):=hd
 obtain ⟨i,h2,hi,hT,hb⟩:=hd.free
 have hfl:=qu sl
 have hlen:=hd.len
 refine Spec.post' (Hs (f:=f) (p:=p) (T:=T) (F0:=F0) (W0:=W) (path:=d3 dn nm) (d:=1) (i:=i) (nm:=nm) (sl:=sl) (x:=.file []) ho (hd.tok (by omega)) (by rw [lh];have:=an hd.dnm;omega) (by intro h;have:=congrArg List.length h;rw [lh] at this;have:=an hd.dnm;simp only [List.length_cons,List.length_nil] at *;omega) (hd.parent hn) (hd.findNo hn hx) hd.dir (by omega) hT hb rfl rfl hw (by
  have h1:=oo (show max (64 * sl.length) (64 * d8 sl+64)<=64 * (N+1) by omega)
  have h2:=hd.tot'
  omega)) ?_
 rintro F v M B w ⟨rfl,rfl⟩ hs
 exact ⟨_,⟨i,d8 sl,rfl,rfl⟩,Sat.shuts (DB.opens f p dn (N+1) F0 _ (W+1+8)) (x:=(_,_)) (hd.made hn hx h2 hi hT hino hN) hs⟩
theorem Li {f m cc:Nat} {p:Pl} {dn:aa} {N W:Nat} {F0:FM} {pre post:List PF} {x:PF} {bs:aa} {R:HP} {A:Option Addr} (ho:PlOk p) (hN:N<=900) (hino:N+2<=p.ino) (hl:x.nm.length<=1000) (hR:bs=[] ∨ Reads R A (bvs bs)) (hm:bs.length=m) (hcc:m<=cc) (hcb:cc<=maxLen) (hm6:m<=6000) (hbg:x.c.length+m<=70656) (hw:Rw p W 40)
  (hfit:1+has (64 * N)+hasF (pre++x :: post)+14<=p.dc) :
  Spec Tryz.prog 96 #[.pointer (some ⟨f,0,none⟩),sv (d3 dn x.nm),.slice A m cc] [DB f p dn N F0 (pre++x :: post) W,R] fun F v M=>v=okV/\M=DB f p dn N F0 (pre++⟨x.i,x.q,x.nm,x.c++bs⟩ :: post) (W+40) :: R :: F:=by
 refine Spec.opens (DB.opens f p dn N F0 _ W) fun y hd=>?_
 obtain ⟨T,sl⟩:=y
 have hd:DirF p dn N T sl (pre++x :: post):=hd
 have hxm:x∈pre++x :: post:=List.mem_append_right _ (List.mem_cons_self ..)
 have hf:=hd.file x hxm
 have hlen:=hd.len
 have hh:has (max x.c.length (x.c.length+m))<=has x.c.length+14:=by
  unfold has dat
  split<;>split<;>omega
 have h1:=oo (show 64 * sl.length<=64 * N by omega)
 have h2:=hd.tot'
 refine Spec.post' (Ht (f:=f) (p:=p) (T:=T) (F0:=F0) (W0:=W) (path:=d3 dn x.nm) (i:=x.i) (m:=m) (cc:=cc) (fb:=x.c) (bs:=bs) (R:=R) (A:=A) ho (hd.tok (by omega)) (by rw [lh];have:=an hd.dnm;omega) (hd.fileAt hxm) hf.1 hR hm hcc hcb (hw.less (by omega)) (Nat.le_refl _) hbg (by omega)) ?_
 rintro F v M B w ⟨rfl,rfl⟩ hs
 refine ⟨_,⟨rfl,rfl⟩,Sat.shuts (DB.opens f p dn N F0 _ (W+40)) (x:=(_,sl)) (hd.wrote (x.c++bs) hino) ?_⟩
 rw [show wrB x.c x.c.length bs=x.c++bs by unfold wrB mh ext;simp] at hs
 exact FSB.wkn (by omega) hs
theorem Rx {f:Nat} {p:Pl} {dn:aa} {N:Nat} {fl:List PF} {x:PF} (ho:PlOk p) (hN:N<=900) (hx:x∈fl) (hl:x.nm.length<=1000) (hc:x.c.length<=70656) :
  Spec Tryz.prog 116 #[.pointer (some ⟨f,0,none⟩),sv (d3 dn x.nm),nI 0,nI 70656] [DR f p dn N fl] fun F v M=>∃ u,v=.tuple #[u,.int .i64 0]/\M=rowR 5 1 u x.c.length (bvs x.c) :: DR f p dn N fl :: F:=by
 refine Spec.opens (DR.opens f p dn N fl) fun y hd=>?_
 obtain ⟨T,sl⟩:=y
 have hd:DirF p dn N T sl (fl):=hd
 have h:=Ru (f:=f) (p:=p) (T:=T) (path:=d3 dn x.nm) (i:=x.i) (z:=x.c.length) (fb:=x.c) (at':=0) (n:=70656) ho (hd.tok (by omega)) (by rw [lh];have:=an hd.dnm;omega) (hd.fileAt hx) (hd.file x hx).1 (by decide) (by decide)
 rw [List.drop_zero,List.take_of_length_le hc] at h
 refine Spec.post' h ?_
 rintro F v M B w ⟨u,rfl,rfl⟩ hs
 exact ⟨_,⟨u,rfl,rfl⟩,Sat.front (.there .here) (Sat.shuts (M:=rowR _ _ _ _ _ :: F) (DR.opens f p dn N fl) (x:=(T,sl)) hd (Sat.front (.there .here) hs))⟩
def digP (b j:Nat):Nat:=48+b / 10 ^ j % 10
def aw (b:Nat):aa:=(List.range 20).map fun i=>UInt8.ofNat (digP b (19 - i))
theorem dt (b:Nat):(aw b).length=20:=by simp [aw]
theorem oq (b j:Nat):48<=digP b j/\digP b j<=57:=by
 unfold digP
 have:=Nat.mod_lt (b / 10 ^ j) (show 0 < 10 by decide)
 omega
theorem ot (b j:Nat):(UInt8.ofNat (digP b j)).toNat=digP b j:=by
 have:=oq b j
 rw [UInt8.toNat_ofNat',Nat.mod_eq_of_lt (by omega)]
theorem xj {b i:Nat} (h:i < 20):(aw b)[i]?=some (UInt8.ofNat (digP b (19 - i))):=by simp [aw,h]
theorem Lj (b:Nat):ap (aw b)=true:=by
 have hlen:=dt b
 unfold ap
 have h1:aw b≠[]:=fun h=>by rw [h] at hlen;cases hlen
 have h2:pn (aw b)=false:=by
  unfold pn
  rw [List.any_eq_false]
  intro c hc
  unfold aw at hc
  obtain ⟨i,_,rfl⟩:=List.mem_map.1 hc
  have hr:=oq b (19 - i)
  have hn:=ot b (19 - i)
  intro h
  simp only [Bool.or_eq_true,beq_iff_eq] at h
  rcases h with h | h
  ·rw [h] at hn
   have:(47:UInt8).toNat=47:=rfl
   omega
  ·rw [h] at hn
   have:(0:UInt8).toNat=0:=rfl
   omega
 have h3:aw b≠[46]:=fun h=>by rw [h] at hlen;cases hlen
 have h4:aw b≠[46,46]:=fun h=>by rw [h] at hlen;cases hlen
 rw [decide_eq_false h1,decide_eq_true (show (aw b).length<=50 by omega),h2,decide_eq_false h3,decide_eq_false h4]
 rfl
def valP (l:aa):Nat:=l.foldl (fun v c=>10 * v+(c.toNat - 48)) 0
theorem Hu (b:Nat) (hb:b < 10 ^ 20):∀ k,k<=20->valP ((aw b).take k)=b / 10 ^ (20 - k):=by
 intro k
 induction k with
 | zero =>
  intro _
  rw [List.take_zero,Nat.sub_zero,Nat.div_eq_of_lt hb]
  rfl
 | succ k ih =>
  intro hk
  rw [List.take_add_one,xj (by omega)]
  unfold valP at ih ⊢
  rw [Option.toList_some,List.foldl_append,ih (by omega),List.foldl_cons,List.foldl_nil,ot]
  unfold digP
  rw [show 20 - k=(19 - k)+1 by omega,show 20 - (k+1)=19 - k by omega,Nat.pow_succ,<-Nat.div_div_eq_div_mul]
  have:=Nat.div_add_mod (b / 10 ^ (19 - k)) 10
  omega
theorem zc {b:Nat} (hb:b < 10 ^ 20):valP (aw b)=b:=by
 have h:=Hu b hb 20 (Nat.le_refl _)
 rwa [List.take_of_length_le (by rw [dt];exact Nat.le_refl _),Nat.sub_self,Nat.pow_zero,Nat.div_one] at h
theorem Hv {a b:Nat} (ha:a < 10 ^ 20) (hb:b < 10 ^ 20) (h:aw a=aw b):a=b:=by
 rw [<- zc ha,<-zc hb,h]
def qj (b k:Nat):aa:=List.replicate (20 - k) 0++(List.range k).map fun i=>UInt8.ofNat (digP b (k - 1 - i))
theorem Ed (b:Nat):qj b 20=aw b:=by simp [qj,aw]
theorem Hw {b k:Nat} (h:k<=20):(qj b k).length=20:=by
 unfold qj
 rw [List.length_append,List.length_replicate,List.length_map,List.length_range]
 omega
theorem Hx {b k:Nat} (h:k < 20):(qj b k).set (19 - k) (UInt8.ofNat (digP b k))=qj b (k+1):=by
 unfold qj
 rw [show 20 - k=(19 - k)+1 by omega,List.replicate_succ',List.append_assoc,List.set_append]
 rw [if_neg (by rw [List.length_replicate];omega),List.length_replicate,Nat.sub_self]
 rw [show 20 - (k+1)=19 - k by omega]
 congr 1
 show UInt8.ofNat (digP b k) :: ((List.range k).map fun i=>UInt8.ofNat (digP b (k - 1 - i)))=_
 rw [List.range_succ_eq_map,List.map_cons,List.map_map]
 congr 1
 refine List.map_congr_left fun i _=>?_
 show _=UInt8.ofNat (digP b (k+1 - 1 - (i+1)))
 rw [show k+1 - 1 - (i+1)=k - 1 - i by omega]
theorem O6 {f:Nat} {p:Pl} {T:FT}:Spec Tryz.prog 93 #[.pointer (some ⟨f,0,none⟩)] [FSR f p T] fun F v M=>v=okV/\M=FSB f p (fmT T) T 0 :: F:=by
 refine Spec.intro Tryz.func93 rfl rfl fun B F=>?_
 simp only [Tryz.ntmps93,List.cons_append,List.nil_append,env0,Nat.reduceAdd]
 refine .openR (FSR.opens f p T) fun y _=>?_
 obtain ⟨c,a,s,mp⟩:=y
 simp only [fsLs,List.cons_append,List.nil_append]
 refine .sr (.assign (.z (.seq (.block (.sr (.move ?_))))))
 refine .neNil ?_ ui
 refine .move (.gT (.move (.gT (.nilCheck (.gT ?_)))))
 refine .fa ?_ nh
 refine .gT ?_
 refine .ld ?_ sc4
 refine .pickT (.assign (.z ?_))
 refine .condF rfl rfl ?_
 refine .sr (.move ?_)
 refine .call (hc:=Tryz.call89) (sp:=Cq (f:=f) (s:=s) (a:=a) (c:=c) (mp:=mp) (b:=false) (ov:=false) (dead:=false)) (h:=?_)
 rintro _ _ ⟨rfl,rfl⟩
 refine .assign (.z ?_)
 refine .condF rfl rfl ?_
 refine .skip (.blockNormal (.next (.sr (.move (.move ?_)))))
 refine .nilCheck ?_
 refine .fa ?_ nh
 refine .st ?_ sc4
 refine .nilCheck ?_
 refine .fa ?_ Az
 refine .st ?_ sc4
 refine .x (.move (.nilCheck ?_))
 refine .fa ?_ ep
 refine .ld ?_ cx
 refine .call (hc:=Tryz.call76) (sp:=M1 (s:=s) (a:=a) (c:=c) (p:=p) (F0:=fmT T) (F:=fmT T) (W:=0)) (h:=?_)
 rintro _ _ ⟨rfl,rfl⟩
 refine .assign (.z (.ret (?_)))
 refine .shutR (FSB.opens f p (fmT T) T 0) (c,a,s,mp) trivial ?_
 exact .ret1 (h1:=.tmp (t:=2) rfl) ⟨_,⟨rfl,rfl⟩,Am.auto⟩
theorem Lk {f:Nat} {p:Pl} {F0:FM} {T:FT} {W:Nat} (ho:PlOk p):Spec Tryz.prog 95 #[.pointer (some ⟨f,0,none⟩)] [FSB f p F0 T W] fun F v M=>v=okV/\M=FSR f p T :: F:=by
 refine Spec.intro Tryz.func95 rfl rfl fun B F=>?_
 simp only [Tryz.ntmps95,List.cons_append,List.nil_append,env0,Nat.reduceAdd]
 refine .openR (FSB.opens f p F0 T W) fun y _=>?_
 obtain ⟨c,a,s,mp⟩:=y
 simp only [Hq,List.cons_append,List.nil_append]
 refine .sr (.assign (.z (.seq (.sr (.move ?_)))))
 refine .eqNil ?_ ui
 refine .move (.gT (.move (.gT (.nilCheck (.gT ?_)))))
 refine .fa ?_ ep
 refine .gT ?_
 refine .ld ?_ cx
 refine .gT ?_
 refine .eqNil ?_ kg
 refine .pickF (.z ?_)
 refine .condF rfl rfl ?_
 refine .skip (.next (.seq (.sr (.move (.nilCheck ?_)))))
 refine .fa ?_ nh
 refine .ld ?_ sc4
 refine .not ?_
 refine .z ?_
 refine .condF rfl rfl ?_
 refine .skip (.next (.sr (.move (.nilCheck ?_))))
 refine .fa ?_ nh
 refine .st ?_ sc4
 refine .z (.seq (.sr (.move (.nilCheck ?_))))
 refine .fa ?_ Az
 refine .ld ?_ sc4
 refine .z ?_
 refine .condF rfl rfl ?_
 refine .skip (.next (.sr (.move ?_)))
 refine .call (hc:=Tryz.call166) (sp:=Rt (f:=f) (s:=s) (a:=a) (c:=c) (mp:=mp) (b:=false) (ov:=false) (dead:=false) (p:=p) (S:=T) (T:=T) (F0:=F0) (Fm:=fmT T) (W:=W) ho) (h:=?_)
 rintro _ _ ⟨rfl,rfl⟩
 refine .assign (.z (.ret (?_)))
 refine .shutR (FSR.opens f p T) (c,a,s,mp) trivial ?_
 exact .ret1 (h1:=.tmp (t:=2) rfl) ⟨_,⟨rfl,rfl⟩,Am.auto⟩
theorem vc {f:Nat} {p:Pl} {α:Type} {q:α->Prop} {T:FT} {T':α->FT} {W':α->Nat} {X0:HP} {X':α->HP} {k:FuncId} {cap:Array Value} (ho:PlOk p) (hc:∀ args w,(callFunc k args).run Tryz.prog w=.ok (.enter k args) w)
  (sp:Spec Tryz.prog k cap [FSB f p (fmT T) T 0,X0] fun F v M=>∃ y,q y/\v=okV/\M=FSB f p (fmT T) (T' y) (W' y) :: X' y :: F):Spec Tryz.prog 41 #[.pointer (some ⟨f,0,none⟩),.func (.func k) #[] cap] [FSR f p T,X0] fun F v M=>∃ y,q y/\v=okV/\M=FSR f p (T' y) :: X' y :: F:=by
 refine Spec.intro Tryz.func41 rfl rfl fun B F=>?_
 simp only [Tryz.ntmps41,List.cons_append,List.nil_append,env0,Nat.reduceAdd]
 have sp':=sp
 rw [show cap=(([]:List Value)).toArray++cap from by simp] at sp'
 refine .openR (FSR.opens f p T) fun y _=>?_
 obtain ⟨c,a,s,mp⟩:=y
 simp only [fsLs,List.cons_append,List.nil_append]
 refine .sr (.assign (.z (.seq (.sr (.move ?_)))))
 refine .call (hc:=Tryz.call89) (sp:=Cq (f:=f) (s:=s) (a:=a) (c:=c) (mp:=mp) (b:=false) (ov:=false) (dead:=false)) (h:=?_)
 rintro _ _ ⟨rfl,rfl⟩
 refine .z ?_
 refine .condF rfl rfl ?_
 refine .skip (.next (.seq (.sr (.move (.nilCheck ?_)))))
 refine .fa ?_ nh
 refine .ld ?_ sc4
 refine .z ?_
 refine .shutR (FSR.opens f p T) (c,a,s,mp) trivial ?_
 refine .condF rfl rfl ?_
 refine .skip (.next (.sr (.move ?_)))
 refine .call (hc:=Tryz.call93) (sp:=O6 (f:=f) (p:=p) (T:=T)) (h:=?_)
 rintro _ _ ⟨rfl,rfl⟩
 refine .z (.seq (.sr (.move ?_)))
 refine .callV (hc:=hc) (sp:=sp') (h:=?_)
 rintro _ _ ⟨y,hq,rfl,rfl⟩
 refine .assign (.x (.move ?_))
 refine .nei ?_
 refine .z ?_
 refine .condF rfl rfl ?_
 refine .skip (.next (.sr (.move ?_)))
 refine .call (hc:=Tryz.call95) (sp:=Lk (f:=f) (p:=p) (F0:=fmT T) (T:=T' y) (W:=W' y) ho) (h:=?_)
 rintro _ _ ⟨rfl,rfl⟩
 refine .assign (.z (.ret (?_)))
 exact .ret1 (h1:=.tmp (t:=4) rfl) ⟨_,⟨y,hq,rfl,rfl⟩,Am.auto⟩
theorem Ee {f:Nat} {p:Pl} {dn:aa} {N N':Nat} {fl:List PF} {β:Type} {qb:β->Prop} {fl':β->List PF} {W':β->Nat} {X0:HP} {X':β->HP} {k:FuncId} {cap:Array Value} (ho:PlOk p) (hc:∀ args w,(callFunc k args).run Tryz.prog w=.ok (.enter k args) w)
  (sp:∀ F0,Spec Tryz.prog k cap [DB f p dn N F0 fl 0,X0] fun F v M=>∃ y,qb y/\v=okV/\M=DB f p dn N' F0 (fl' y) (W' y) :: X' y :: F):Spec Tryz.prog 41 #[.pointer (some ⟨f,0,none⟩),.func (.func k) #[] cap] [DR f p dn N fl,X0] fun F v M=>∃ y,qb y/\v=okV/\M=DR f p dn N' (fl' y) :: X' y :: F:=by
 refine Spec.opens (DR.opens f p dn N fl) fun x hd=>?_
 obtain ⟨T,sl⟩:=x
 refine Spec.post' (vc (f:=f) (p:=p) (α:=β×FT×List Slot) (q:=fun y=>qb y.1/\DirF p dn N' y.2.1 y.2.2 (fl' y.1)) (T:=T) (T':=fun y=>y.2.1) (W':=fun y=>W' y.1) (X0:=X0) (X':=fun y=>X' y.1) ho hc ?_) ?_
 ·refine Spec.post' (Spec.pre' (sp (fmT T)) (pre':=[FSB f p (fmT T) T 0,X0]) fun B w F hs=>Sat.shuts (DB.opens f p dn N (fmT T) fl 0) (x:=(T,sl)) hd hs) ?_
  rintro F v M B w ⟨y,hq,rfl,rfl⟩ hs
  obtain ⟨z,hz,hs1⟩:=Sat.opens hs (DB.opens f p dn N' (fmT T) (fl' y) (W' y))
  exact ⟨_,⟨(y,z.1,z.2),⟨hq,hz⟩,rfl,rfl⟩,hs1⟩
 ·rintro F v M B w ⟨y,⟨hq,hz⟩,rfl,rfl⟩ hs
  exact ⟨_,⟨y.1,hq,rfl,rfl⟩,Sat.shuts (DR.opens f p dn N' (fl' y.1)) (x:=(y.2.1,y.2.2)) hz hs⟩
theorem O7 :Tryz.prog.underlying 162=some (.slice 166):=by kernel_rfl
def Ry (T:FT) (path:aa) (e:Nat):Prop :=
 (ce T path).2.2=e ∨ ∃ d nm i fe,ce T path=(d,nm,0)/\dx T d nm=(i,fe)/\(fe=e ∨ (fe=0/\e=7/\∃ sl,T i=some (.dir sl)/\lc sl≠[]))
def rmT (T:FT) (d:Nat) (sl:List Slot) (q i:Nat):FT:=updT (updT T d (some (.dir (setS sl q none)))) i none
def NodeT.bare :NodeT->Prop
 | .file _=>True
 | .dir sl=>lc sl=[]
theorem P5 {f s a c mp:Nat} {p:Pl} {T:FT} {path:aa} {b2 b3 e:Nat} (ho:PlOk p) (hT:TOk T) (hpl:path.length<=1000000) (hm:Ry T path e) (he:e≠0):Spec Tryz.prog 111 #[.pointer (some ⟨b2,0,none⟩),.pointer (some ⟨b3,0,none⟩)] [pt f (fO c a s false false false mp),LD mp T,IN s a c p (fmT T) (fmT T) 0 true,bun [pt b2 (.cells #[.pointer (some ⟨f,0,none⟩)] 29 (0,0)),pt b3 (.cells #[sv path] 9 (0,0))]] fun F v M=>v=nI e/\M=pt f (fO c a s false false false mp) :: LD mp T :: IN s a c p (fmT T) (fmT T) 0 true :: bun [pt b2 (.cells #[.pointer (some ⟨f,0,none⟩)] 29 (0,0)),pt b3 (.cells #[sv path] 9 (0,0))] :: F:=by
 refine Spec.intro Tryz.func111 rfl rfl fun B F=>?_
 simp only [Tryz.ntmps111,List.cons_append,List.nil_append,env0,Nat.reduceAdd]
 refine .openR (bun.opens _) fun _ _=>?_
 simp only [List.cons_append,List.nil_append]
 rcases hm with hm | ⟨d,nm,i,fe,hpar,hfi,hm | ⟨rfl,rfl,sl,hTi,hne⟩⟩
 ·obtain ⟨d,nm,pe,hpar⟩:∃ d nm pe,ce T path=(d,nm,pe):=⟨_,_,_,rfl⟩
  rw [hpar] at hm
  simp only at hm
  subst hm
  refine .sr (.assign (.x ?_))
  refine .ld ?_ sc29
  refine .ld ?_ sc9
  refine .call (hc:=Tryz.call112) (sp:=lu (f:=f) (s:=s) (a:=a) (c:=c) (mp:=mp) (b:=false) (ov:=false) (dead:=false) (p:=p) (T:=T) (F0:=fmT T) (W:=0) (op:=true) (path:=path) ho hT hpl) (h:=?_)
  rintro _ _ ⟨rfl,rfl⟩
  rw [hpar]
  refine .move ?_
  refine .extract (.extract (.extract ?_))
  refine .assign (.assign (.assign (.z (.seq (.sr (.move ?_))))))
  refine .nei ?_
  refine .z ?_
  refine .condT rfl (cB9 (by first|simp;done|simp;omega|omega)) ?_
  refine .sr (.move (.assign (.z ?_)))
  refine .ret (.thenRet (?_))
  refine .shutR (bun.opens [pt b2 (.cells #[.pointer (some ⟨f,0,none⟩)] 29 (0,0)),pt b3 (.cells #[sv path] 9 (0,0))]) () trivial ?_
  exact .ret1 (h1:=.tmp (t:=2) rfl) ⟨_,⟨rfl,rfl⟩,Am.auto⟩
 ·subst hm
  refine .sr (.assign (.x ?_))
  refine .ld ?_ sc29
  refine .ld ?_ sc9
  refine .call (hc:=Tryz.call112) (sp:=lu (f:=f) (s:=s) (a:=a) (c:=c) (mp:=mp) (b:=false) (ov:=false) (dead:=false) (p:=p) (T:=T) (F0:=fmT T) (W:=0) (op:=true) (path:=path) ho hT hpl) (h:=?_)
  rintro _ _ ⟨rfl,rfl⟩
  rw [hpar]
  refine .move ?_
  refine .extract (.extract (.extract ?_))
  refine .assign (.assign (.assign (.z (.seq (.sr (.move ?_))))))
  refine .nei ?_
  refine .z ?_
  refine .condF rfl (cB9 (by first|simp;done|simp;omega|omega)) ?_
  refine .skip (.next (.sr ?_))
  refine .ld ?_ sc29
  refine .move (.move ?_)
  refine .call (hc:=Tryz.call113) (sp:=s9 (f:=f) (s:=s) (a:=a) (c:=c) (mp:=mp) (b:=false) (ov:=false) (dead:=false) (p:=p) (T:=T) (F0:=fmT T) (W:=0) (op:=true) (d:=d) (nm:=nm) ho hT) (h:=?_)
  rintro _ _ ⟨rfl,rfl⟩
  rw [hfi]
  refine .move ?_
  refine .extract (.extract ?_)
  refine .assign (.assign (.z (.seq (.sr (.move ?_)))))
  refine .nei ?_
  refine .z ?_
  refine .condT rfl (cB9 (by first|simp;done|simp;omega|omega)) ?_
  refine .sr (.move (.assign (.z ?_)))
  refine .ret (.thenRet (?_))
  refine .shutR (bun.opens [pt b2 (.cells #[.pointer (some ⟨f,0,none⟩)] 29 (0,0)),pt b3 (.cells #[sv path] 9 (0,0))]) () trivial ?_
  exact .ret1 (h1:=.tmp (t:=2) rfl) ⟨_,⟨rfl,rfl⟩,Am.auto⟩
 ·refine .sr (.assign (.x ?_))
  refine .ld ?_ sc29
  refine .ld ?_ sc9
  refine .call (hc:=Tryz.call112) (sp:=lu (f:=f) (s:=s) (a:=a) (c:=c) (mp:=mp) (b:=false) (ov:=false) (dead:=false) (p:=p) (T:=T) (F0:=fmT T) (W:=0) (op:=true) (path:=path) ho hT hpl) (h:=?_)
  rintro _ _ ⟨rfl,rfl⟩
  rw [hpar]
  refine .move ?_
  refine .extract (.extract (.extract ?_))
  refine .assign (.assign (.assign (.z (.seq (.sr (.move ?_))))))
  refine .nei ?_
  refine .z ?_
  refine .condF rfl (cB9 (by first|simp;done|simp;omega|omega)) ?_
  refine .skip (.next (.sr ?_))
  refine .ld ?_ sc29
  refine .move (.move ?_)
  refine .call (hc:=Tryz.call113) (sp:=s9 (f:=f) (s:=s) (a:=a) (c:=c) (mp:=mp) (b:=false) (ov:=false) (dead:=false) (p:=p) (T:=T) (F0:=fmT T) (W:=0) (op:=true) (d:=d) (nm:=nm) ho hT) (h:=?_)
  rintro _ _ ⟨rfl,rfl⟩
  rw [hfi]
  refine .move ?_
  refine .extract (.extract ?_)
  refine .assign (.assign (.z (.seq (.sr (.move ?_)))))
  refine .nei ?_
  refine .z ?_
  refine .condF rfl (cB9 (by first|simp;done|simp;omega|omega)) ?_
  refine .skip (.next (.seq (.sr ?_)))
  refine .ld ?_ sc29
  refine .nilCheck ?_
  refine .fa ?_ df
  refine .ld ?_ jf
  refine .move ?_
  refine .call (hc:=Tryz.call108) (sp:=Oz (s:=s) (a:=a) (c:=c) (p:=p) (F0:=fmT T) (Fm:=fmT T) (W:=0) (d:=i) (op:=true) (sl:=sl) ho (bx hTi) (hT _ _ hTi).1 (by have:=(hT _ _ hTi).2;omega)) (h:=?_)
  rintro _ _ ⟨u,l,rfl,⟨hpm,hso⟩,rfl⟩
  have hll:=hpm.length_eq
  refine .fact (ag (el:=166) (size:=2) (v:=u) (k:=l.length) (xs:=l.flatMap entL)) (fun ⟨A,cc,hu,hR,hc1,hc2,hlen⟩=>?_)
  subst hu
  have hlp:0 < l.length:=by rw [hll];exact List.length_pos_iff.2 hne
  refine .move ?_
  refine .extract (.extract (.assign (.assign (.x (.move ?_)))))
  refine .eqi ?_
  refine .move ?_
  refine .cast (d:=41) (u:=.bool true) rfl (cB9 (by first|simp;done|simp;omega|omega)) ?_
  refine .gT (.move (.gT ?_))
  refine .lenS ?_ O7
  refine .gT ?_
  refine .gtr ?_
  refine .pickT (.z ?_)
  refine .condT rfl (cB9 (by first|simp;done|simp;omega|omega)) ?_
  refine .sr (.assign (.z ?_))
  refine .ret (.thenRet (?_))
  refine .shutR (bun.opens [pt b2 (.cells #[.pointer (some ⟨f,0,none⟩)] 29 (0,0)),pt b3 (.cells #[sv path] 9 (0,0))]) () trivial ?_
  exact .ret1 (h1:=.tmp (t:=2) rfl) ⟨_,⟨rfl,rfl⟩,Am.auto⟩
theorem Hy {f s a c mp:Nat} {p:Pl} {T:FT} {path:aa} {b2 b3:Nat} (ho:PlOk p) (hT:TOk T) (hpl:path.length<=1000000) {d i q:Nat} {nm:aa} {sl:List Slot} {x:NodeT} (hpar:ce T path=(d,nm,0)) (hd:T d=some (.dir sl)) (hnm:ap nm=true) (hl:i0 nm sl=some (q,i)) (hx:T i=some x) (hbx:x.bare) (hid:i≠d) (hi0:i≠0) (hw:Rw p 0 13) (hfit:tot (fmT T) p.ino<=p.dc):Spec Tryz.prog 111 #[.pointer (some ⟨b2,0,none⟩),.pointer (some ⟨b3,0,none⟩)] [pt f (fO c a s false false false mp),LD mp T,IN s a c p (fmT T) (fmT T) 0 true,bun [pt b2 (.cells #[.pointer (some ⟨f,0,none⟩)] 29 (0,0)),pt b3 (.cells #[sv path] 9 (0,0))]] fun F v M=>v=okV/\M=pt f (fO c a s false false false mp) :: LD mp T :: IN s a c p (fmT T) (fmT (rmT T d sl q i)) 8 true :: bun [pt b2 (.cells #[.pointer (some ⟨f,0,none⟩)] 29 (0,0)),pt b3 (.cells #[sv path] 9 (0,0))] :: F:=by
 refine Spec.intro Tryz.func111 rfl rfl fun B F=>?_
 simp only [Tryz.ntmps111,List.cons_append,List.nil_append,env0,Nat.reduceAdd]
 refine .openR (bun.opens _) fun _ _=>?_
 simp only [List.cons_append,List.nil_append]
 have hfi:dx T d nm=(i,0):=by unfold dx;rw [if_pos hnm];simp only [hd,hl]
 have hF1:updM (fmT T) d (some (2,dirB (setS sl q none)))=fmT (updT T d (some (.dir (setS sl q none)))):=fm T d (.dir _)
 have hx1:fmT (updT T d (some (.dir (setS sl q none)))) i=some x.f:=bx (by rw [d7 _ _ hid];exact hx)
 have hto:=hT d sl hd
 cases x with
 | file b =>
  refine .sr (.assign (.x ?_))
  refine .ld ?_ sc29
  refine .ld ?_ sc9
  refine .call (hc:=Tryz.call112) (sp:=lu (f:=f) (s:=s) (a:=a) (c:=c) (mp:=mp) (b:=false) (ov:=false) (dead:=false) (p:=p) (T:=T) (F0:=fmT T) (W:=0) (op:=true) (path:=path) ho hT hpl) (h:=?_)
  rintro _ _ ⟨rfl,rfl⟩
  rw [hpar]
  refine .move ?_
  refine .extract (.extract (.extract ?_))
  refine .assign (.assign (.assign (.z (.seq (.sr (.move ?_))))))
  refine .nei ?_
  refine .z ?_
  refine .condF rfl (cB9 (by first|simp;done|simp;omega|omega)) ?_
  refine .skip (.next (.sr ?_))
  refine .ld ?_ sc29
  refine .move (.move ?_)
  refine .call (hc:=Tryz.call113) (sp:=s9 (f:=f) (s:=s) (a:=a) (c:=c) (mp:=mp) (b:=false) (ov:=false) (dead:=false) (p:=p) (T:=T) (F0:=fmT T) (W:=0) (op:=true) (d:=d) (nm:=nm) ho hT) (h:=?_)
  rintro _ _ ⟨rfl,rfl⟩
  rw [hfi]
  refine .move ?_
  refine .extract (.extract ?_)
  refine .assign (.assign (.z (.seq (.sr (.move ?_)))))
  refine .nei ?_
  refine .z ?_
  refine .condF rfl (cB9 (by first|simp;done|simp;omega|omega)) ?_
  refine .skip (.next (.seq (.sr ?_)))
  refine .ld ?_ sc29
  refine .nilCheck ?_
  refine .fa ?_ df
  refine .ld ?_ jf
  refine .move ?_
  refine .call (hc:=Tryz.call108) (sp:=Rr (s:=s) (a:=a) (c:=c) (p:=p) (F0:=fmT T) (Fm:=fmT T) (W:=0) (op:=true) (d:=(i:Int)) (e:=6) ho (.inr (.inr ⟨rfl,⟨1,b,by omega,by rw [Int.toNat_natCast];exact bx hx,by decide⟩,rfl⟩)) (by decide)) (h:=?_)
  rintro _ _ ⟨rfl,rfl⟩
  refine .move ?_
  refine .extract (.extract (.assign (.assign (.x (.move ?_)))))
  refine .eqi ?_
  refine .move ?_
  refine .cast (d:=41) (u:=.bool false) rfl (cB9 (by first|simp;done|simp;omega|omega)) ?_
  refine .gF (.gF (.gF (.pickF (.z ?_))))
  refine .condF rfl rfl ?_
  refine .skip (.next (.seq (.sr ?_)))
  refine .ld ?_ sc29
  refine .nilCheck ?_
  refine .fa ?_ df
  refine .ld ?_ jf
  refine .move (.move ?_)
  refine .call (hc:=Tryz.call114) (sp:=Hj (s:=s) (a:=a) (c:=c) (p:=p) (F0:=fmT T) (Fm:=fmT T) (W:=0) (d:=d) (nm:=nm) (sl:=sl) ho hnm (bx hd) hto.1 (by omega) (ff hl) hw hfit) (h:=?_)
  rintro _ _ ⟨rfl,rfl⟩
  rw [hF1]
  refine .assign (.x (.move ?_))
  refine .nei ?_
  refine .z ?_
  refine .condF rfl (cB9 (by first|simp;done|simp;omega|omega)) ?_
  refine .skip (.next (.sr ?_))
  refine .ld ?_ sc29
  refine .nilCheck ?_
  refine .fa ?_ df
  refine .ld ?_ jf
  refine .move ?_
  refine .call (hc:=Tryz.call115) (sp:=Re (s:=s) (a:=a) (c:=c) (p:=p) (F0:=fmT T) (F:=fmT (updT T d (some (.dir (setS sl q none))))) (W:=0+8) (i:=i) ho hx1 hi0 (by unfold Rw at hw ⊢;omega)) (h:=?_)
  rintro _ _ ⟨rfl,rfl⟩
  rw [show updM (fmT (updT T d (some (.dir (setS sl q none))))) i none=fmT (rmT T d sl q i) from Cj _ _]
  refine .assign (.z (.ret (?_)))
  refine .shutR (bun.opens [pt b2 (.cells #[.pointer (some ⟨f,0,none⟩)] 29 (0,0)),pt b3 (.cells #[sv path] 9 (0,0))]) () trivial ?_
  exact .ret1 (h1:=.tmp (t:=2) rfl) ⟨_,⟨rfl,rfl⟩,Am.auto⟩
 | dir sl2 =>
  refine .sr (.assign (.x ?_))
  refine .ld ?_ sc29
  refine .ld ?_ sc9
  refine .call (hc:=Tryz.call112) (sp:=lu (f:=f) (s:=s) (a:=a) (c:=c) (mp:=mp) (b:=false) (ov:=false) (dead:=false) (p:=p) (T:=T) (F0:=fmT T) (W:=0) (op:=true) (path:=path) ho hT hpl) (h:=?_)
  rintro _ _ ⟨rfl,rfl⟩
  rw [hpar]
  refine .move ?_
  refine .extract (.extract (.extract ?_))
  refine .assign (.assign (.assign (.z (.seq (.sr (.move ?_))))))
  refine .nei ?_
  refine .z ?_
  refine .condF rfl (cB9 (by first|simp;done|simp;omega|omega)) ?_
  refine .skip (.next (.sr ?_))
  refine .ld ?_ sc29
  refine .move (.move ?_)
  refine .call (hc:=Tryz.call113) (sp:=s9 (f:=f) (s:=s) (a:=a) (c:=c) (mp:=mp) (b:=false) (ov:=false) (dead:=false) (p:=p) (T:=T) (F0:=fmT T) (W:=0) (op:=true) (d:=d) (nm:=nm) ho hT) (h:=?_)
  rintro _ _ ⟨rfl,rfl⟩
  rw [hfi]
  refine .move ?_
  refine .extract (.extract ?_)
  refine .assign (.assign (.z (.seq (.sr (.move ?_)))))
  refine .nei ?_
  refine .z ?_
  refine .condF rfl (cB9 (by first|simp;done|simp;omega|omega)) ?_
  refine .skip (.next (.seq (.sr ?_)))
  refine .ld ?_ sc29
  refine .nilCheck ?_
  refine .fa ?_ df
  refine .ld ?_ jf
  refine .move ?_
  refine .call (hc:=Tryz.call108) (sp:=Oz (s:=s) (a:=a) (c:=c) (p:=p) (F0:=fmT T) (Fm:=fmT T) (W:=0) (d:=i) (op:=true) (sl:=sl2) ho (bx hx) (hT _ _ hx).1 (by have:=(hT _ _ hx).2;omega)) (h:=?_)
  rintro _ _ ⟨u,l,rfl,⟨hpm,hso⟩,rfl⟩
  have hll:=hpm.length_eq
  refine .fact (ag (el:=166) (size:=2) (v:=u) (k:=l.length) (xs:=l.flatMap entL)) (fun ⟨A,cc,hu,hR,hc1,hc2,hlen⟩=>?_)
  subst hu
  have hlp:l.length=0:=by have hb2:lc sl2=[]:=hbx;rw [hll,hb2];rfl
  rw [hlp]
  refine .move ?_
  refine .extract (.extract (.assign (.assign (.x (.move ?_)))))
  refine .eqi ?_
  refine .move ?_
  refine .cast (d:=41) (u:=.bool true) rfl (cB9 (by first|simp;done|simp;omega|omega)) ?_
  refine .gT (.move (.gT ?_))
  refine .lenS ?_ O7
  refine .gT ?_
  refine .gtr ?_
  refine .pickT (.z ?_)
  refine .condF rfl (cB9 (by first|simp;done|simp;omega|omega)) ?_
  refine .skip (.next (.seq (.sr ?_)))
  refine .ld ?_ sc29
  refine .nilCheck ?_
  refine .fa ?_ df
  refine .ld ?_ jf
  refine .move (.move ?_)
  refine .call (hc:=Tryz.call114) (sp:=Hj (s:=s) (a:=a) (c:=c) (p:=p) (F0:=fmT T) (Fm:=fmT T) (W:=0) (d:=d) (nm:=nm) (sl:=sl) ho hnm (bx hd) hto.1 (by omega) (ff hl) hw hfit) (h:=?_)
  rintro _ _ ⟨rfl,rfl⟩
  rw [hF1]
  refine .assign (.x (.move ?_))
  refine .nei ?_
  refine .z ?_
  refine .condF rfl (cB9 (by first|simp;done|simp;omega|omega)) ?_
  refine .skip (.next (.sr ?_))
  refine .ld ?_ sc29
  refine .nilCheck ?_
  refine .fa ?_ df
  refine .ld ?_ jf
  refine .move ?_
  refine .call (hc:=Tryz.call115) (sp:=Re (s:=s) (a:=a) (c:=c) (p:=p) (F0:=fmT T) (F:=fmT (updT T d (some (.dir (setS sl q none))))) (W:=0+8) (i:=i) ho hx1 hi0 (by unfold Rw at hw ⊢;omega)) (h:=?_)
  rintro _ _ ⟨rfl,rfl⟩
  rw [show updM (fmT (updT T d (some (.dir (setS sl q none))))) i none=fmT (rmT T d sl q i) from Cj _ _]
  refine .assign (.z (.ret (?_)))
  refine .shutR (bun.opens [pt b2 (.cells #[.pointer (some ⟨f,0,none⟩)] 29 (0,0)),pt b3 (.cells #[sv path] 9 (0,0))]) () trivial ?_
  exact .ret1 (h1:=.tmp (t:=2) rfl) ⟨_,⟨rfl,rfl⟩,Am.auto⟩
theorem Ll {f:Nat} {p:Pl} {T:FT} {path:aa} (ho:PlOk p) (hT:TOk T) (hpl:path.length<=1000000) {d i q:Nat} {nm:aa} {sl:List Slot} {x:NodeT} (hpar:ce T path=(d,nm,0)) (hd:T d=some (.dir sl)) (hnm:ap nm=true) (hl:i0 nm sl=some (q,i)) (hx:T i=some x) (hbx:x.bare) (hid:i≠d) (hi0:i≠0) (hw:Rw p 0 13) (hfit:tot (fmT T) p.ino<=p.dc):Spec Tryz.prog 61 #[.pointer (some ⟨f,0,none⟩),sv path] [FSR f p T] fun F v M=>v=okV/\M=FSR f p (rmT T d sl q i) :: F:=by
 refine Spec.intro Tryz.func61 rfl rfl fun B F=>?_
 simp only [Tryz.ntmps61,List.cons_append,List.nil_append,env0,Nat.reduceAdd]
 refine .openR (FSR.opens f p T) fun y _=>?_
 obtain ⟨c,a,s,mp⟩:=y
 simp only [fsLs,List.cons_append,List.nil_append]
 refine .sr ?_
 refine .box fun b2=>?_
 refine .box fun b3=>?_
 refine .assign (.x ?_)
 refine .ld ?_ sc29
 refine .shutR (bun.opens [pt b2 (.cells #[.pointer (some ⟨f,0,none⟩)] 29 (0,0)),pt b3 (.cells #[sv path] 9 (0,0))]) () trivial ?_
 refine .makeFuncB ?_
 refine .call (hc:=Tryz.call110) (sp:=La (s:=s) (a:=a) (c:=c) (p:=p) (f:=f) (mp:=mp) (T:=rmT T d sl q i) (S:=T) ho (hc:=Tryz.call111) (sp:=(Hy (b2:=b2) (b3:=b3) ho hT hpl hpar hd hnm hl hx hbx hid hi0 hw hfit))) (h:=?_)
 rintro _ _ ⟨rfl,rfl⟩
 refine .assign (.z (.ret (?_)))
 refine .shutR (FSR.opens f p (rmT T d sl q i)) (c,a,s,mp) trivial ?_
 exact .ret1 (h1:=.tmp (t:=4) rfl) ⟨_,⟨rfl,rfl⟩,Am.auto⟩
section
variable {P:Program} {w:World}
theorem te (s:aa) (size:Nat) (w:World):(Builtin.firstCells size s.length (sv s)).run P w=.ok (bvs s).toArray w:=by
 have h1:(bstr s).extract 0 s.length=bstr s:=by
  apply ByteArray.ext
  simp [bstr]
 rw [ez]
 simp only [Builtin.firstCells,h1]
 simp [bstr,bvs,bv]
theorem uj {t u ty e:TypeId} {i:TypeInfo} {z:Value} {bytes:Nat} (ht:P.underlying t=some (.slice e)) (hu:P.underlying u=some .string) (hi:P.info? e=some i) (hz:i.zero=some z)
  (hsize:i.size=1) (hby:i.bytes=bytes) (hzs:z.cells.size=1) {v:Value} {n:Nat} {xs:List Value} (hown:w.ownsRow 0 e 1 v n xs) (s:aa)
  (h63:n+s.length<=maxLen) (hbytes:(n+s.length) * bytes<=140737488355328) :
  ∃ v' w',(Builtin.append_ #[t,u] ty #[v,sv s]).run P w=.ok v' w'/\w'.ownsRow 0 e 1 v' (n+s.length) (xs++bvs s)/\w.grownBy w' v.ownBlock ∧
   (v'=.slice none 0 0 ↔ v=.slice none 0 0/\s.length=0)/\(v'.ownBlock=v.ownBlock ∨ v'.ownBlock=some w.heap.size):=by
 subst hby
 have hsmall:n+s.length<=9223372036854775807:=by simp only [maxLen] at h63;omega
 have hbl:(bvs s).length=s.length:=ae s
 have hxl:xs.length=n:=by simpa using hown.1
 have hlen:(xs++bvs s).length=(n+s.length) * 1:=by rw [List.length_append,hxl,hbl];omega
 have hlo:(Builtin.lenOf (sv s)).run P w=.ok s.length w:=by rw [ez];simp [Builtin.lenOf,cf]
 have grown:∀ old:Nat,old < n+s.length->∀ row:Option Nat,
   (w.drew.alloc (.cells (xs.toArray++(bvs s).toArray++Builtin.zeroCells z.cells (grownCap w (n+s.length) old e - (n+s.length))) e)).ownsRow 0 e 1
    (.slice (some ⟨w.heap.size,0,none⟩) (n+s.length) (grownCap w (n+s.length) old e)) (n+s.length) (xs++bvs s) ∧
   w.grownBy (w.drew.alloc (.cells (xs.toArray++(bvs s).toArray++Builtin.zeroCells z.cells (grownCap w (n+s.length) old e - (n+s.length))) e)) row:=by
  intro old ho row
  have hge:=grownCap_ge w (n+s.length) old e
  refine ⟨⟨hlen,.inr ⟨w.heap.size,_,_,rfl,Nat.zero_le _,heap_alloc_new w.drew _,hge,grownCap_le_maxLen w _ old e h63,?_,?_⟩⟩,⟨rfl,rfl,rfl,by simp,fun k hk _=>heap_alloc_old w.drew _ hk⟩⟩
  ·simp only [Array.size_append,List.size_toArray,size_zeroCells,hzs,hxl,hbl]
   omega
  ·simp only [Array.toList_append]
   rw [<- hlen]
   exact List.take_left
 have hgrow:∀ (b:Option Addr) (cap:Nat),v=.slice b n cap->n+s.length > cap->(Builtin.firstCells 1 n v).run P w.drew=.ok xs.toArray w.drew ->
   (Builtin.append_ #[t,u] ty #[v,sv s]).run P w=.ok (.slice (some ⟨w.heap.size,0,none⟩) (n+s.length) (grownCap w (n+s.length) cap e))
    (w.drew.alloc (.cells (xs.toArray++(bvs s).toArray++Builtin.zeroCells z.cells (grownCap w (n+s.length) cap e - (n+s.length))) e)):=by
  intro b cap hv hc hf
  have hn:¬ (n+s.length<=cap):=by omega
  have h1:¬ (9223372036854775807 < ((n:Int)+(s.length:Int))):=by omega
  have h2:¬ (281474976710656 < Builtin.nextslicecap (n+s.length) cap * i.bytes):=by
   have:=growslice_fits (old:=cap) (by omega) hbytes
   omega
  have h3:=te (P:=P) s 1 w.drew
  subst hv
  rw [ez] at *
  simp [Builtin.append_,run_underlying ht,run_underlying hu,sizeOf,typeInfo,zeroValue,hi,hz,hlo,hn,h1,h2,Question.forced,hsize,hf,h3,newRow,grownCap]
  congr 2
  apply Array.ext'
  simp [List.append_assoc]
 rcases hown.2 with ⟨rfl,rfl⟩ | ⟨g,cap,cur,rfl,hbg,hg,hnc,hcm,hcs,htake⟩
 ·have hx:xs=[]:=List.eq_nil_of_length_eq_zero hxl
  subst hx
  by_cases hm:s.length=0
  ·have hs:s=[]:=List.eq_nil_of_length_eq_zero hm
   subst hs
   refine ⟨.slice none 0 0,w,?_,World.ownsRow_nil w 0 e 1,⟨rfl,rfl,rfl,Nat.le_refl _,fun _ _ _=>rfl⟩,by simp,Or.inl rfl⟩
   have h3:=te (P:=P) [] 1 w
   rw [ez] at *
   simp only [List.length_nil] at hlo h3
   simp [Builtin.append_,run_underlying ht,run_underlying hu,sizeOf,typeInfo,hi,hlo,hsize,h3]
  ·have hr:=hgrow none 0 rfl (by omega) (by simp [Builtin.firstCells])
   have hgr:=grown 0 (by omega) (Value.ownBlock (.slice none 0 0))
   exact ⟨_,_,hr,hgr.1,hgr.2,by simp [hm],Or.inr rfl⟩
 ·by_cases hroom:n+s.length<=cap
  ·have hfit:n * 1+(bvs s).length<=cur.size:=by rw [hbl];omega
   have h3:=te (P:=P) s 1 w
   have hst:=run_storeCells_at P g (n * 1) e (bvs s) 0 cur w hg (by simpa using hfit) (fun u hu=>by
    have:=be s u hu
    cases u<;>first | rfl | (simp [Value.single] at this;done))
   simp only [Nat.add_zero] at hst
   have hr:(Builtin.append_ #[t,u] ty #[.slice (some ⟨g,0,none⟩) n cap,sv s]).run P w=.ok (.slice (some ⟨g,0,none⟩) (n+s.length) cap) (w.setRow g (cur.toList.take (n * 1)++bvs s++cur.toList.drop (n * 1+(bvs s).length)).toArray):=by
    rw [ez] at *
    simp only [Nat.mul_one] at hst
    simp [Builtin.append_,run_underlying ht,run_underlying hu,sizeOf,typeInfo,hi,hlo,hroom,hsize,h3,Addr.add_lit,hst]
   refine ⟨_,_,hr,⟨hlen,.inr ⟨g,cap,_,rfl,hbg,setRow_heap w g cur _ e _ hg,hroom,hcm,?_,?_⟩⟩,⟨rfl,rfl,rfl,by simp,fun k _ hk=>setRow_other w g k _ (fun e=>hk (by simp [Value.ownBlock,e]))⟩,by simp,Or.inl rfl⟩
   ·simp only [List.size_toArray,List.length_append,List.length_take,List.length_drop,Array.length_toList]
    omega
   ·rw [htake,<-hlen]
    exact List.take_left
  ·have hf:(Builtin.firstCells 1 n (.slice (some ⟨g,0,none⟩) n cap)).run P w.drew=.ok xs.toArray w.drew :=
    run_firstCells_some (P:=P) w.drew 1 n ⟨g,0,none⟩ n cap xs (by omega) (by simpa using hown.cells (g:=g) rfl)
   have hr:=hgrow _ cap rfl (by omega) hf
   have hgr:=grown cap (by omega) (Value.ownBlock (.slice (some ⟨g,0,none⟩) n cap))
   exact ⟨_,_,hr,hgr.1,hgr.2,by simp,Or.inr rfl⟩
end
section
variable {P:Program} {B:Base} {n:Fr} {Q:Exit->Act->World->Prop} {e:Env} {L:List HP} {ops:Array Oper} {l:List Oper}
variable {d:Nat} {ty:TypeId} {pos:String} {af:Array Edge} {x y z:Operand} {gd:Option (Nat×Bool)}
theorem WL.appendT {t u el bytes:Nat} {v:Value} {k:Nat} {xs:List Value} {M:List HP} (s:aa) (ht:ar P t el 1 bytes=true) (hu':km P u=true)
  (r:Rem L (rowR el 1 v k xs) M) (h63:k+s.length<=maxLen) (hbytes:(k+s.length) * bytes<=140737488355328)
  (hzc:∃ zz,ax P el=some zz/\zz.size=1)
  (h:∀ v',(v'=.slice none 0 0 ↔ v=.slice none 0 0/\s.length=0)->WL P B n ops l Q ((d,v') :: e) (rowR el 1 v' (k+s.length) (xs++bvs s) :: M)) (hx:evo e x=some v:=by rfl) (hy:evo e y=some (sv s):=by rfl) (hd:Nat.ble (d+1) n.k=true:=by rfl) :
  WL P B n ops (⟨some d,.call ⟨.builtin .append,#[x,y],#[t,u]⟩,ty,pos,af,none⟩ :: l) Q e L :=
 WL.step rfl fun a w ha hs=>by
  obtain ⟨hu,i,z,hi,hsz',hby,hz⟩:=ej ht
  obtain ⟨zz,hzz,hzs⟩:=hzc
  have hzs':z.cells.size=1:=by
   unfold ax at hzz
   simp [hi,hz] at hzz
   rw [hzz];exact hzs
  have hs1:=hs.front r
  obtain ⟨v',w',hr,h2,h3,h4,h5⟩:=uj (P:=P) (ty:=ty) hu (kf hu') hi hz hsz' hby hzs' hs1.ownsRow s h63 hbytes
  refine ⟨v',w',_,_,?_,ha.put hd _,hs1.rowGrown h2 h3 h5,h v' h4⟩
  simp [execOp,resolve,invoke,builtin,ha.eval hx,ha.eval hy,hr]
theorem WL.ixF {t:Nat} {u i v:Value} (h:WL P B n ops l Q ((d,v) :: e) L) (hr:∀ w,(Instr.index t u i).run P w=.ok v w) (hx:evo e x=some u:=by rfl) (hy:evo e y=some i:=by rfl) (hd:Nat.ble (d+1) n.k=true:=by rfl) :
  WL P B n ops (⟨some d,.index t x y,ty,pos,af,none⟩ :: l) Q e L :=
 WL.pure h hd fun a w ha hs=>by simp [execOp,ha.eval hx,ha.eval hy,hr]
end
section
variable {P:Program} {B:Base} {n:Fr} {Q:Exit->Act->World->Prop} {e:Env} {L L0:List HP} {ops:Array Oper} {ds:List Nat}
theorem WD.tu {fuel:Nat} {o:Op} {ty:TypeId} {pos:String} {af:Array Edge} {lst:Array Bool} (i:Nat) {d t j:Nat} {b:Bool} (hi:ops[i]?=some ⟨some d,o,ty,pos,af,some (j,b)⟩)
  (h:WD P B n ops Q L0 ds fuel (lst.setIfInBounds i true) ((d,undef) :: e) L) (hc:rh ops ds lst (lst.setIfInBounds i true) i=true:=by kernel_rfl)
  (h0:Am L L0:=by repeat (first | exact .refl | exact .nil | (apply Am.take;focus ((repeat (first | exact .here | apply Rem.there));done)) | refine .skip ?_))
  (hs:(ops[j]?).bind (·.dst)=some t:=by rfl) (hl:Go.Proofs.YtmihjfcbofejoaaGreatDoor.look e t=some undef:=by rfl) (hd:Nat.ble (d+1) n.k=true:=by rfl):WD P B n ops Q L0 ds (fuel+1) lst e L:=by
 intro hQ a w ha hsat
 simp only [rh,Bool.and_eq_true,beq_iff_eq] at hc
 obtain ⟨⟨⟨⟨h1,h2⟩,h3⟩,h4⟩,h5⟩:=hc
 have hy:yielded ops a.tmps j=none:=by
  have hg:=ha.get t undef hl
  rw [Array.getD_eq_getD_getElem?] at hg
  cases hq:a.tmps[t]? with
  | none=>simp [yielded,hs,hq]
  | some u =>
   rw [hq] at hg
   have hu:u=undef:=hg
   subst hu
   simp [yielded,hs,hq,undef]
 exact ij (v:=undef) hi (Region.noSelect_spec h1) (fun c a w=>hQ c a _ undef w) h4 fuel lst a w (Region.free_spec hi h2) (by simpa using h3)
  (.inr ⟨by simp [Region.wanted,hy],rfl⟩) (h0.wk B w hsat) (h hQ _ w (ha.put hd undef) hsat)
end
theorem g8 {α:Type} {enc:α->List Value} {m:Nat} (hk:∀ x,(enc x).length=m):∀ (l:List α) (i:Nat) (x:α),l[i]?=some x->((l.flatMap enc).drop (i * m)).take m=enc x:=by
 intro l
 induction l with
 | nil=>intro i x h;cases h
 | cons y l ih =>
  intro i x h
  cases i with
  | zero =>
   simp only [List.getElem?_cons_zero,Option.some.injEq] at h
   subst h
   rw [List.flatMap_cons,Nat.zero_mul,List.drop_zero,<-hk y]
   exact List.take_left
  | succ i =>
   rw [List.flatMap_cons,Nat.succ_mul,Nat.add_comm,<-List.drop_drop]
   have h1:(enc y++l.flatMap enc).drop m=l.flatMap enc:=by rw [<- hk y];exact List.drop_left
   rw [h1]
   exact ih i x (by simpa using h)
theorem jx {α:Type} {enc:α->List Value} {m:Nat} (hk:∀ x,(enc x).length=m) {l:List α} {i:Nat} (h:i < l.length):i * m+m<=(l.flatMap enc).length:=by
 rw [a7 hk,<-Nat.succ_mul]
 exact Nat.mul_le_mul_right _ h
theorem O8 :Tryz.prog.underlying 202=some (.int .u32):=by kernel_rfl
theorem Hz :ad Tryz.prog 121 0 0=true:=by kernel_rfl
def Rz (c:Int):Int:=bxor .u32 (c.fdiv (2 ^ (min (1:Int).toNat IntKind.u32.bits))) (band .u32 2197175160 (IntKind.u32.wrap (0 - band .u32 c 1)))
def crc8 (c:Int):Nat->Int
 | 0=>c
 | j+1=>Rz (crc8 c j)
def crcK (xs:aa) (c:Int):Nat->Int
 | 0=>c
 | k+1=>crc8 (bxor .u32 (crcK xs c k) (IntKind.u32.wrap ((xs.getD k 0).toNat:Int))) 8
def crcI (xs:aa):Int:=Af .u32 (crcK xs (Af .u32 0) xs.length)
theorem vd (xs:aa):0<=crcI xs/\crcI xs < 4294967296:=by
 have:∀ x,0<=IntKind.u32.wrap x/\IntKind.u32.wrap x < 4294967296:=fun x=>by
  have:IntKind.u32.wrap x=x % 2 ^ 32:=by simp [IntKind.wrap,IntKind.bits,IntKind.signed]
  rw [this];omega
 exact this _
theorem O9 {R:HP} {A:Addr} {m c:Nat} {xs:aa} (hR:Reads R (some A) (bvs xs)) (hm:xs.length=m) (hl:m<=1073741824):Spec Tryz.prog 210 #[.int .u32 0,.slice (some A) m c] [R] fun F v M=>v=.int .u32 (crcI xs)/\M=R :: F:=by
 refine Spec.intro Tryz.func210 rfl rfl fun B F=>?_
 simp only [Tryz.ntmps210,List.cons_append,List.nil_append,env0,Nat.reduceAdd]
 subst hm
 obtain ⟨ab,ao,asp⟩:=A
 have hsp:asp=none:=hR.1
 subst hsp
 refine .sr (.assign (.x (.move ?_)))
 refine .comp ?_
 refine .assign (.z (.seq (.sr (.move ?_))))
 refine .lenS ?_ sl79
 refine .move (.z (.block ?_))
 refine .loopA (σ:=Nat) (fun k=>[(0,.int .u32 (crcK xs (Af .u32 0) k)),(9,.slice (some ⟨ab,ao,none⟩) xs.length c),(10,.int .i64 ((xs.length:Nat):Int)),(11,.int .i64 ((k:Nat):Int))]) (fun _=>R :: F) (fun k=>k<=xs.length) (fun k=>xs.length - k) 0 (Nat.zero_le _) ?_
 rintro k hk
 refine .sr ?_
 refine .lss ?_
 refine .z (.seq ?_)
 refine .cond rfl (fun hb=>?_) (fun hb=>?_)
 ·have hlt:k < xs.length:=by have h:(k:Int) < (xs.length:Int):=of_decide_eq_true hb;omega
  have hgk:(bvs xs)[((k:Nat):Int).toNat]?=some (.int .u8 ((xs.getD k 0).toNat:Int)):=by rw [Int.toNat_natCast];simp [bvs,hlt];rfl
  refine .skip (.next (.seq (.block (.sr ?_))))
  refine .idx1 ?_ so79
  refine .ldR (i:=((k:Nat):Int).toNat) ?_ sc5 hR hgk
  refine .assign (.x (.move (.move ?_)))
  refine .cvt ?_ un5 O8
  refine .xor ?_
  refine .assign (.x (.move (.z (.block ?_))))
  refine .loopA (σ:=Nat) (fun j=>[(0,.int .u32 (crc8 (bxor .u32 (crcK xs (Af .u32 0) k) (IntKind.u32.wrap ((xs.getD k 0).toNat:Int))) j)),(9,.slice (some ⟨ab,ao,none⟩) xs.length c),(10,.int .i64 ((xs.length:Nat):Int)),(11,.int .i64 ((k:Nat):Int)),(19,.int .i64 ((j:Nat):Int))]) (fun _=>R :: F) (fun j=>j<=8) (fun j=>8 - j) 0 (Nat.zero_le _) ?_
  rintro j hj
  refine .sr ?_
  refine .lss ?_
  refine .z (.seq ?_)
  refine .cond rfl (fun hb2=>?_) (fun hb2=>?_)
  ·have hlt2:j < 8:=by have h:(j:Int) < 8:=of_decide_eq_true hb2;omega
   refine .skip (.next (.seq (.block (.region (.move ?_)))))
   refine .shr ?_
   refine .move ?_
   refine .and ?_
   refine .negw ?_
   refine .and ?_
   refine .xor ?_
   refine .assign (.nil (.blockNormal (.next (.region ?_))))
   refine .add ?_
   refine .move (.nil ?_)
   refine .cast (d:=19) (u:=.int .i64 ((j+1:Nat):Int)) rfl (cI9 (by omega)) ?_
   exact .back (j+1) (by show j+1<=8;omega) (by show 8 - (j+1) < 8 - j;omega)
  ·have hge2:j=8:=by have h:¬ (j:Int) < 8:=of_decide_eq_false hb2;omega
   subst hge2
   refine .exit (.thenExit (.thenExit (.blockExit (?_))))
   refine .blockNormal (.next (.region ?_))
   refine .add ?_
   refine .move (.nil ?_)
   refine .cast (d:=11) (u:=.int .i64 ((k+1:Nat):Int)) rfl (cI9 (by omega)) ?_
   exact .back (k+1) (by show k+1<=xs.length;omega) (by show xs.length - (k+1) < xs.length - k;omega)
 ·have hge:k=xs.length:=by have h:¬ (k:Int) < (xs.length:Int):=of_decide_eq_false hb;omega
  subst hge
  refine .exit (.thenExit (.thenExit (.blockExit (?_))))
  refine .next (.sr (.move ?_))
  refine .comp ?_
  refine .assign (.z (.ret (?_)))
  exact .ret1 (h1:=.tmp (t:=4) rfl) ⟨_,⟨rfl,rfl⟩,Am.auto⟩
theorem M6 {R:HP} {A:Addr} {m c:Nat} {xs:aa} (hR:Reads R (some A) (bvs xs)) (hm:xs.length=m) (hl:m<=1073741824):Spec Tryz.prog 134 #[.slice (some A) m c] [R] fun F v M=>v=.int .u32 (crcI xs)/\M=R :: F:=by
 refine Spec.intro Tryz.func134 rfl rfl fun B F=>?_
 simp only [Tryz.ntmps134,List.cons_append,List.nil_append,env0,Nat.reduceAdd]
 refine .sr (.assign (.x (.move ?_)))
 refine .call (hc:=Tryz.call210) (sp:=O9 hR hm hl) (h:=?_)
 rintro _ _ ⟨rfl,rfl⟩
 refine .assign (.z (.ret (?_)))
 exact .ret1 (h1:=.tmp (t:=2) rfl) ⟨_,⟨rfl,rfl⟩,Am.auto⟩
theorem jg {a:Nat} (h:a < 2 ^ 64):IntKind.u64.wrap ((a:Nat):Int)=(a:Int):=by
 have:IntKind.u64.wrap ((a:Nat):Int)=(a:Int) % 2 ^ 64:=by simp [IntKind.wrap,IntKind.bits,IntKind.signed]
 rw [this];omega
theorem bsI7 (a b c d e f h:Int):az Tryz.prog 26 7 [(0,.int .i64 a),(1,.int .i64 b),(2,.int .i64 c),(3,.int .i64 d),(4,.int .i64 e),(5,.int .i64 f),(6,.int .i64 h)] 3 #[.int .i64 a,.int .i64 b,.int .i64 c,.int .i64 d,.int .i64 e,.int .i64 f,.int .i64 h]:=fun w=>by kernel_rfl
def plN (p:Pl):List Nat:=[p.n,p.ino,p.im,p.bm,p.tb,p.da,p.dc]
def magicS :aa:=[66,79,76,76,65,82,68,83]
def encN (nums:List Nat):Nat->aa
 | 0=>magicS++List.replicate 504 0
 | i+1=>put (encN nums i) (8+4 * i) 4 false (nums.getD i 0)
theorem g9 (nums:List Nat):∀ i,(encN nums i).length=512
 | 0=>by rw [encN,List.length_append,List.length_replicate];rfl
 | i+1=>by rw [encN,bi];exact g9 nums i
theorem xk (nums:List Nat) {k:Nat} (hk:k < 100) (hv:nums.getD k 0 < 2 ^ 32):∀ i,k < i->i<=100->bo (seg (encN nums i) (8+4 * k) 4 false)=nums.getD k 0
 | i+1,h1,h2=>by
  rw [encN]
  have hlen:=g9 nums i
  by_cases hki:k=i
  ·subst hki
   exact Al (by omega) (by rw [show (256:Nat) ^ 4=2 ^ 32 from by decide];exact hv)
  ·rw [d5 (by omega)]
   exact xk nums hk hv i (by omega) (by omega)
def supB (p:Pl):aa:=put (encN (plN p) 7) 36 4 false (crcI ((encN (plN p) 7).take 36)).toNat
theorem ni (p:Pl):(supB p).length=512:=by unfold supB;rw [bi];exact g9 _ _
theorem th {p:Pl} (h:PlIs p):∀ v∈plN p,v < 2 ^ 32:=by
 have h1:=h.im;have h2:=h.bm;have h3:=h.m1;have h4:=h.da;have h5:=h.dc;have h8:=h.n2;have h10:=h.i2
 intro v hv
 unfold plN at hv
 simp only [List.mem_cons,List.not_mem_nil,or_false] at hv
 rcases hv with rfl | rfl | rfl | rfl | rfl | rfl | rfl<;>omega
theorem R0 {p:Pl} (h:PlIs p):bo (seg (supB p) 8 4 false)=p.n:=by
 unfold supB
 rw [d5 (by omega)]
 exact xk (plN p) (k:=0) (by omega) (th h _ (List.getElem_mem (l:=plN p) (n:=0) (by show 0 < 7;decide))) 7 (by omega) (by omega)
theorem Lm {p:Pl} (h:PlIs p):bo (seg (supB p) 12 4 false)=p.ino:=by
 unfold supB
 rw [d5 (by omega)]
 exact xk (plN p) (k:=1) (by omega) (th h _ (List.getElem_mem (l:=plN p) (n:=1) (by show 1 < 7;decide))) 7 (by omega) (by omega)
theorem M7 {p:Pl} (h:PlIs p):Spec Tryz.prog 79 #[.agg p.cells] [] fun F v M=>∃ g q,v=.slice (some ⟨g,0,none⟩) 512 q/\(512<=q/\q<=maxLen)/\M=buf g 5 q (bvs (supB p)) :: F:=by
 refine Spec.intro Tryz.func79 rfl rfl fun B F=>?_
 simp only [Tryz.ntmps79,List.cons_append,List.nil_append,env0,Nat.reduceAdd]
 refine .sr ?_
 refine .box fun b1=>?_
 refine .to (A:=pt b1 (.cells p.cells 121 (0,0))) (A':=pt b1 (.cells p.cells 121 (0,0))) (fun h hh=>hh) ?_
 refine .assign (.x ?_)
 refine .mkSN 512 z5 so79 (by decide) (by decide) fun b6=>?_
 refine .assign (.x (.move ?_))
 refine .copyS magicS so79 ?_ (hdl:=by rw [List.length_replicate];decide)
 refine .to (r:=.here) (A':=buf b6 5 512 (bvs (encN (plN p) 0))) (fun h hh=>by
  have e1:(List.replicate 512 (Value.int .u8 0)).take 0++(bvs magicS).take (min magicS.length 512)++(List.replicate 512 (Value.int .u8 0)).drop (0+min magicS.length 512)=bvs (encN (plN p) 0):=by
   rw [encN,bc,av,List.take_zero,List.nil_append,List.drop_replicate]
   rfl
  rw [<- e1];exact hh) ?_
 refine .z (.seq (.sr ?_))
 refine .fa ?_ Hz
 refine .ld ?_ sc3
 refine .fa ?_ rr
 refine .ld ?_ sc3
 refine .fa ?_ rt
 refine .ld ?_ sc3
 refine .fa ?_ z2
 refine .ld ?_ sc3
 refine .fa ?_ z6
 refine .ld ?_ sc3
 refine .fa ?_ ru
 refine .ld ?_ sc3
 refine .fa ?_ vz
 refine .ld ?_ sc3
 refine .buildS (fun b23=>?_) (bsI7 _ _ _ _ _ _ _)
 refine .lenS ?_ sl26
 refine .move (.z (.block ?_))
 refine .to (A:=pt b23 (.cells #[.int .i64 (p.n:Int),.int .i64 (p.ino:Int),.int .i64 (p.im:Int),.int .i64 (p.bm:Int),.int .i64 (p.tb:Int),.int .i64 (p.da:Int),.int .i64 (p.dc:Int)] 3 (0,0))) (A':=pt b23 (.cells (ko (plN p)).toArray 3 (0,0))) (fun h hh=>hh) ?_
 refine .loopA (σ:=Nat×Nat×Nat) (fun y=>[(3,.slice (some ⟨y.2.1,0,none⟩) 512 y.2.2),(23,.slice (some ⟨b23,0,none⟩) 7 7),(24,.int .i64 7),(25,.int .i64 ((y.1:Nat):Int))]) (fun y=>buf y.2.1 5 y.2.2 (bvs (encN (plN p) y.1)) :: pt b23 (.cells (ko (plN p)).toArray 3 (0,0)) :: F) (fun y=>y.1<=7/\512<=y.2.2/\y.2.2<=maxLen) (fun y=>7 - y.1) (0,b6,512) ⟨Nat.zero_le _,Nat.le_refl _,by show 512<=maxLen;decide⟩ ?_
 rintro y hy
 obtain ⟨k,gb,q⟩:=y
 obtain ⟨hk,hq1,hq2⟩:=hy
 simp only at hk hq1 hq2 ⊢
 refine .sr ?_
 refine .lss ?_
 refine .z (.seq ?_)
 refine .cond rfl (fun hb=>?_) (fun hb=>?_)
 ·have hlt:k < 7:=by have h:(k:Int) < 7:=of_decide_eq_true hb;omega
  have hgk:(ko (plN p))[((k:Nat):Int).toNat]?=some (.int .i64 (((plN p).getD k 0:Nat):Int)):=by
   have hl7:k < (plN p).length:=hlt
   rw [Int.toNat_natCast,List.getD_eq_getElem?_getD,List.getElem?_eq_getElem hl7]
   unfold ko ints
   simp [hl7]
  have hv:(plN p).getD k 0 < 2 ^ 32:=by
   have hl7:k < (plN p).length:=hlt
   rw [List.getD_eq_getElem?_getD,List.getElem?_eq_getElem hl7]
   exact th h _ (List.getElem_mem hl7)
  have hlen:=g9 (plN p) k
  refine .skip (.next (.seq (.block (.sr (.move ?_)))))
  refine .idx1 ?_ so26
  refine .ldR (i:=((k:Nat):Int).toNat) (R:=pt b23 (.cells (ko (plN p)).toArray 3 (0,0))) ?_ sc3 Reads.pt hgk
  refine .assign (.assign (.y (.move (.move ?_))))
  refine .mul ?_
  refine .add ?_
  refine .move ?_
  refine .cvt ?_ un3 gj
  refine .cast (d:=36) (u:=.int .u64 (((plN p).getD k 0:Nat):Int)) rfl (cI9 (jg (by omega))) ?_
  refine .call (hc:=Tryz.call105) (sp:=mz (xs:=encN (plN p) k) (v:=(plN p).getD k 0) Reads.buf hlen (by decide) (by omega) (by omega) (by omega) (by omega)) (h:=?_)
  rintro _ _ ⟨g',q',⟨rfl,h1,h2⟩,rfl⟩
  refine .move ?_
  refine .extract (.extract ?_)
  refine .assign (.nil (.blockNormal (.next (.region ?_))))
  refine .add ?_
  refine .move (.nil ?_)
  refine .to (r:=.here) (A':=buf g' 5 q' (bvs (encN (plN p) (k+1)))) (fun h hh=>by
   rw [encN,show 8+4 * k=(8+4 * ((k:Nat):Int)).toNat from by omega];exact hh) ?_
  refine .cast (d:=25) (u:=.int .i64 ((k+1:Nat):Int)) rfl (cI9 (by omega)) ?_
  exact .back (k+1,g',q') ⟨by show k+1<=7;omega,h1,h2⟩ (by show 7 - (k+1) < 7 - k;omega)
 ·have hge:k=7:=by have h:¬ (k:Int) < 7:=of_decide_eq_false hb;omega
  subst hge
  have hlen:=g9 (plN p) 7
  have hcr:=vd ((encN (plN p) 7).take 36)
  refine .exit (.thenExit (.thenExit (.blockExit (?_))))
  refine .next (.sr (.move (.move ?_)))
  refine .slcH ?_ so79
  refine .call (hc:=Tryz.call134) (sp:=M6 (R:=buf gb 5 q (bvs (encN (plN p) 7))) (xs:=(encN (plN p) 7).take 36) (by rw [dm];exact Reads.buf.take 36) (by rw [List.length_take,hlen];rfl) (by decide)) (h:=?_)
  rintro _ _ ⟨rfl,rfl⟩
  refine .cvt ?_ O8 gj
  refine .cast (d:=46) (u:=.int .u64 (((crcI ((encN (plN p) 7).take 36)).toNat:Nat):Int)) rfl (cI9 (by rw [<- jg (a:=(crcI ((encN (plN p) 7).take 36)).toNat) (by omega)];first | (congr 1;omega) | congr 1)) ?_
  refine .call (hc:=Tryz.call105) (sp:=mz (xs:=encN (plN p) 7) (v:=(crcI ((encN (plN p) 7).take 36)).toNat) Reads.buf hlen (by decide) (by omega) (by omega) (by omega) (by omega)) (h:=?_)
  rintro _ _ ⟨g',q',⟨rfl,h1,h2⟩,rfl⟩
  refine .move ?_
  refine .extract (.extract ?_)
  refine .assign (.x (.move (.assign (.z (.ret (?_))))))
  exact .ret1 (h1:=.tmp (t:=2) rfl) ⟨_,⟨g',q',rfl,⟨h1,h2⟩,rfl⟩,Am.auto⟩
theorem Pa {R R2:HP} {A A2:Option Addr} {m c m2 c2:Nat} {xs ys:aa} (hR:Reads R A (bvs xs)) (hm:xs.length=m) (hR2:Reads R2 A2 (bvs ys)) (hm2:ys.length=m2):Spec Tryz.prog 158 #[.slice A m c,.slice A2 m2 c2] [R,R2] fun F v M=>v=.bool (decide (xs=ys))/\M=R :: R2 :: F:=by
 refine Spec.intro Tryz.func158 rfl rfl fun B F=>?_
 simp only [Tryz.ntmps158,List.cons_append,List.nil_append,env0,Nat.reduceAdd]
 refine .sr (.assign (.x (.move ?_)))
 refine .cvtBS (R:=R) (xs:=xs) ?_ by79 st9 hR hm
 refine .move ?_
 refine .cvtBS (R:=R2) (xs:=ys) ?_ by79 st9 hR2 hm2
 refine .eqS xs ys ?_
 refine .assign (.z (.ret (?_)))
 exact .ret1 (h1:=.tmp (t:=4) rfl) ⟨_,⟨rfl,rfl⟩,Am.auto⟩
theorem R1 {R:HP} {A:Addr} {cc:Nat} {p:Pl} (h:PlIs p) (hR:Reads R (some A) (bvs (supB p))):Spec Tryz.prog 85 #[.slice (some A) 512 cc] [R] fun F v M=>v=.tuple #[.agg p.cells,.int .i64 0]/\M=R :: F:=by
 refine Spec.intro Tryz.func85 rfl rfl fun B F=>?_
 simp only [Tryz.ntmps85,List.cons_append,List.nil_append,env0,Nat.reduceAdd]
 have hl:=ni p
 have h8:=h.n2
 have h10:=h.i2
 refine .sr ?_
 refine .alloc z121 fun b2=>?_
 refine .assign (.x (.move ?_))
 refine .call (hc:=Tryz.call157) (sp:=pf (p:=8) (size:=4) (big:=false) hR hl (by decide) (by decide) (by decide) (by decide)) (h:=?_)
 rintro _ _ ⟨rfl,rfl⟩
 rw [show bo (seg (supB p) (8:Int).toNat (4:Int).toNat false)=p.n from R0 h]
 refine .move ?_
 refine .extract (.extract (.assign (.assign (.x (.move ?_)))))
 refine .call (hc:=Tryz.call157) (sp:=pf (p:=12) (size:=4) (big:=false) hR hl (by decide) (by decide) (by decide) (by decide)) (h:=?_)
 rintro _ _ ⟨rfl,rfl⟩
 rw [show bo (seg (supB p) (12:Int).toNat (4:Int).toNat false)=p.ino from Lm h]
 refine .move ?_
 refine .extract (.extract (.assign (.assign (.x (.move ?_)))))
 refine .cvt ?_ gj un3
 refine .cast (d:=22) (u:=.int .i64 (p.n:Int)) rfl (cI9 (IntWalk.i64_in _ (by omega))) ?_
 refine .move ?_
 refine .cvt ?_ gj un3
 refine .cast (d:=24) (u:=.int .i64 (p.ino:Int)) rfl (cI9 (IntWalk.i64_in _ (by omega))) ?_
 refine .call (hc:=Tryz.call72) (sp:=Gi h) (h:=?_)
 rintro _ _ ⟨rfl,rfl⟩
 refine .move ?_
 refine .extract (.extract ?_)
 refine .alloc z121 fun b8=>?_
 refine .stV ?_ ga
 refine .to (A:=pt b8 (.cells p.cells 121 (0,0))) (A':=pt b8 (.cells p.cells 121 (0,0))) (fun h hh=>hh) ?_
 refine .assign (.z (.seq (.sr (.move ?_))))
 refine .nei ?_
 refine .move ?_
 refine .cast (d:=30) (u:=.bool false) rfl (cB9 (by first|simp;done|simp;omega|omega)) ?_
 refine .gT ?_
 refine .ldA ?_ ga
 refine .gT ?_
 refine .call (hc:=Tryz.call79) (sp:=M7 h) (h:=?_)
 rintro _ _ ⟨gb,q,rfl,⟨hq1,hq2⟩,rfl⟩
 refine .gT (.move (.gT ?_))
 refine .call (hc:=Tryz.call158) (sp:=Pa (R:=buf gb 5 q (bvs (supB p))) (R2:=R) (xs:=supB p) (ys:=supB p) Reads.buf hl hR hl) (h:=?_)
 rintro _ _ ⟨rfl,rfl⟩
 rw [decide_eq_true rfl]
 refine .gT ?_
 refine .not ?_
 refine .pickF (.z ?_)
 refine .condF rfl rfl ?_
 refine .skip (.next (.sr ?_))
 refine .ldA ?_ ga
 refine .stV ?_ ga
 refine .assign (.z (.ret (?_)))
 exact .ret2 (h2:=.tmp (t:=3) rfl) ⟨_,⟨rfl,rfl⟩,Am.auto⟩
structure DevOk (n:Nat) (V:Nat->aa) (J:JS):Prop where
 ok:HeadsOk n J
 last:J.last < 2 ^ 64
 gen:J.gen < 2 ^ 64
 n1:246<=n
 n2:n<=65536
 fit:Fit n J.ch
 home:∀ k,245<=k->k < n->J.view k=V k
theorem DevOk.settled {n:Nat} {V:Nat->aa} {J:JS} (h:DevOk n V J):DevOk n V J.settled:=by
 refine ⟨h.ok.settled h.fit,h.last,h.gen,h.n1,h.n2,Fit.nil n,fun k h1 h2=>?_⟩
 rw [<- h.home k h1 h2]
 show (kget [] k).getD (lay J.cur J.ch k)=_
 rw [B1 _ _ h.fit.apart]
 rfl
theorem Ln {c n d:Nat} {V0 V:Nat->aa} {D:List Nat} (ht:tagN (V0 1)=some d) (hn1:246<=n):Spec Tryz.prog 82 #[.pointer (some ⟨c,0,none⟩)] [TR c n V0 V D true] fun F v M=>∃ J,v=okV/\DevOk n V J/\M=DevR d n J.cur 0 :: F:=by
 refine Spec.opens (TR.opens c n V0 V D true) fun y hy=>(Bx (c:=c) (j:=y.1) (d:=y.2.1) (n:=n) (S:=y.2.2) hy.hop).post ?_
 rintro F v M ⟨L,hL,hW,hJ,rfl,rfl⟩
 obtain ⟨hdev,hok,hlast,hgen,hn2⟩:=hy.tg _ ht
 have hLf:=hW.perm hL
 have hv:∀ k,245<=k->k < n->(y.2.2.J.commits L).view k=V k:=fun k h1 h2=>by
  rw [JS.view_commits hJ (hW.perm hL) k h1,yp hL hW.apart]
  exact hy.h1 k h1 h2
 have hD:DevOk n V (y.2.2.J.commits L):=by
  unfold JS.commits at hv ⊢
  by_cases h0:L=[]
  ·rw [if_pos h0] at hv ⊢
   exact ⟨hok,by omega,hgen,hn1,hn2,hJ,hv⟩
  ·rw [if_neg h0] at hv ⊢
   have hnx:(y.2.2.J.commit L).last < 2 ^ 64:=Nat.mod_lt _ (by decide)
   exact ⟨hok.commit hgen hn2 hJ hLf hlast,hnx,hgen,hn1,hn2,hLf,hv⟩
 refine ⟨_,⟨_,rfl,hD,rfl⟩,fun B w hs=>?_⟩
 subst hdev
 obtain ⟨x,hx,h1⟩:=Sat.opens hs (CR.opens c y.1 y.2.1 n _)
 have h2:=Sat.front (.there (.there .here)) h1
 obtain ⟨z,hz,h3⟩:=Sat.opens h2 (JR.opens y.1 y.2.1 n _)
 exact Sat.front (.there (.there (.there (.there .here)))) h3 |> fun h=>Am.wk Am.auto B w h
theorem bdFS (c a s m:Nat):bg Tryz.prog 133 [(0,.pointer (some ⟨c,0,none⟩)),(1,.pointer (some ⟨a,0,none⟩)),(2,.pointer (some ⟨s,0,none⟩)),(6,.map (some m))] #[.pointer (some ⟨c,0,none⟩),.pointer (some ⟨a,0,none⟩),.pointer (some ⟨s,0,none⟩),.bool false,.bool false,.bool false,.map (some m)]:=fun w=>by kernel_rfl
theorem H0 {j d:Nat} {p:Pl} {J:JS} {T:FT} (hn1:246<=p.n) (hn2:p.n<=65536):Spec Tryz.prog 75 #[.pointer (some ⟨j,0,none⟩),.agg p.cells] [JR j d p.n J] fun F v M=>∃ f c a s mp,v=.pointer (some ⟨f,0,none⟩)/\M=[pt f (fO c a s false false false mp),LD mp T,pt s (stO c a p),pt a (alO c p),CR c j d p.n ⟨J,[],false,false⟩]++F:=by
 refine Spec.intro Tryz.func75 rfl rfl fun B F=>?_
 simp only [Tryz.ntmps75,List.cons_append,List.nil_append,env0,Nat.reduceAdd]
 refine .sr ?_
 refine .box fun b3=>?_
 refine .to (A:=pt b3 (.cells p.cells 121 (0,0))) (A':=pt b3 (.cells p.cells 121 (0,0))) (fun h hh=>hh) ?_
 refine .assign (.x (.move ?_))
 refine .call (hc:=Tryz.call129) (sp:=cNew (n:=p.n) hn1 hn2) (h:=?_)
 rintro _ _ ⟨c,rfl,rfl⟩
 refine .assign (.x (.move ?_))
 refine .ldA ?_ ga
 refine .call (hc:=Tryz.call130) (sp:=alNew (p:=p)) (h:=?_)
 rintro _ _ ⟨a,rfl,rfl⟩
 refine .assign (.x (.move (.move (.move (.move ?_)))))
 refine .ldA ?_ ga
 refine .call (hc:=Tryz.call131) (sp:=inNew (p:=p)) (h:=?_)
 rintro _ _ ⟨s,rfl,rfl⟩
 refine .mkMap fun m18=>?_
 refine .build ?_ (bdFS _ _ _ _)
 refine .box fun b20=>?_
 refine .assign (.z (.ret (?_)))
 refine .shutR (LD.opens m18 T) (#[],0,[]) (LDP.empty T 0) ?_
 exact .ret1 (h1:=.tmp (t:=4) rfl) ⟨_,⟨b20,c,a,s,m18,rfl,rfl⟩,Am.auto⟩
def mkW (p:Pl):Nat->aa:=svV p (fmtA p (wr ew 245 (supB p))) 0 ⟨2,0,List.replicate 11 0⟩
theorem xl (p:Pl) (V:Nat->aa) (k:Nat):fmtA p V k=if p.bm<=k/\k < p.bm+(p.dc+4095) / 4096 then fmtZ p p.bm p.dc else if p.im<=k/\k < p.im+(p.ino+4095) / 4096 then fmtZ p p.im p.ino else V k:=by
 unfold fmtA;rw [k9,k9]
theorem H1 {p:Pl} {V:Nat->aa} {x:Nd} {k:Nat} (h:k≠p.tb):svV p V 0 x k=V k:=ec _ _ (by omega)
theorem Pb {p:Pl} (h:PlIs p):mkW p 245=supB p:=by
 have h1:=h.im;have h2:=h.bm;have h3:=h.m1
 unfold mkW
 rw [H1 (by omega),xl,if_neg (by omega),if_neg (by omega)]
 unfold wr
 rw [if_pos rfl]
theorem Lo {p:Pl} (h:PlIs p) {k:Nat} (hk:246<=k):mkW p k=oe p k:=by
 have h1:=h.im;have h2:=h.bm;have h3:=h.m1
 have key:∀ v,246<=v->fmtA p (wr ew 245 (supB p)) v=mb p v:=fun v hv=>by
  unfold mb
  rw [xl,xl]
  split
  ·rfl
  ·split
   ·rfl
   ·unfold wr;rw [if_neg (by omega)]
 unfold mkW oe svV
 generalize fmtA p (wr ew 245 (supB p))=X at key ⊢
 unfold wr
 by_cases ht:k=p.tb+0 / 8
 ·rw [if_pos ht,if_pos ht,key _ (by omega)]
 ·rw [if_neg ht,if_neg ht];exact key k hk
theorem Pc {p:Pl} (h:PlIs p):Len5 (mkW p):=by
 have h0:Len5 (wr ew 245 (supB p)):=fun k=>by unfold wr;split;exact ni p;exact ay
 have h1:Len5 (fmtA p (wr ew 245 (supB p))):=fun k=>by
  rw [xl]
  split
  ·exact e9 _ _ _
  ·split
   ·exact e9 _ _ _
   ·exact h0 k
 exact As h1 _ _
theorem Pd {p:Pl} (h:PlIs p):Rep p (cm0 (mkW p)) qg:=by
 have h1:=(G3 h).mono h.ok (V':=mkW p) (Pc h) (fun v hv=>Lo h (by have:=h.im;omega))
 exact h1.cm h.ok
def tagV (d:Nat):Nat->aa:=fun k=>if k=1 then List.replicate (513+d) 0 else zeros
theorem Cs (d:Nat):tagN (tagV d 1)=some d:=by
 have hl:(tagV d 1).length=513+d:=by
  show (List.replicate (513+d) (0:UInt8)).length=_
  rw [List.length_replicate]
 unfold tagN
 rw [hl,if_pos (Nat.le_add_right _ _),Nat.add_sub_cancel_left]
theorem H2 {d k:Nat} (h:245<=k):tagV d k=zeros:=if_neg (by omega)
theorem H3 :ad Tryz.prog 95 0 0=true:=by kernel_rfl
theorem H4 :ad Tryz.prog 95 1 1=true:=by kernel_rfl
theorem H5 :ad Tryz.prog 95 2 2=true:=by kernel_rfl
theorem H6 :ad Tryz.prog 95 3 3=true:=by kernel_rfl
theorem zd :ad Tryz.prog 95 4 4=true:=by kernel_rfl
theorem ou :ad Tryz.prog 95 5 5=true:=by kernel_rfl
theorem sl301 :Tryz.prog.underlying 301=some (.slice 79):=by kernel_rfl
theorem Pe :ar Tryz.prog 301 79 1 24=true:=by kernel_rfl
theorem ti :dh Tryz.prog 95 6=true:=by kernel_rfl
def vint (n:Nat):aa:=if 127 < n then UInt8.ofNat (n % 128+128) :: vint (n / 128) else [UInt8.ofNat n]
termination_by n
decreasing_by omega
theorem xm {n:Nat} (h:127 < n):vint n=UInt8.ofNat (n % 128+128) :: vint (n / 128):=by rw [vint,if_pos h]
theorem lw {n:Nat} (h:¬ 127 < n):vint n=[UInt8.ofNat n]:=by rw [vint,if_neg h]
theorem Lp :∀ (k n:Nat),n < 128 ^ (k+1)->(vint n).length<=k+1:=by
 intro k
 induction k with
 | zero=>intro n h;rw [lw (by have:n < 128:=(by simpa using h);omega)];simp
 | succ k ih =>
  intro n h
  by_cases hb:127 < n
  ·rw [xm hb,List.length_cons]
   have:=ih (n / 128) (Nat.div_lt_of_lt_mul (by rw [Nat.mul_comm];simpa [Nat.pow_succ] using h))
   omega
  ·rw [lw hb];simp
theorem go {n:Nat} (h:n < 18446744073709551616):(vint n).length<=10:=Lp 9 n (by omega)
theorem Lq (n:Nat):1<=(vint n).length:=by rw [vint];split<;>simp
theorem Lt :∀ m:Fin 256,bor .u8 ((m.val:Nat):Int) 128=(((UInt8.ofNat (m.val % 128+128)).toNat:Nat):Int):=by decide +kernel
theorem Ct (n:Nat):IntKind.u8.wrap (n:Int)=((n % 256:Nat):Int):=by simp [IntKind.wrap,IntKind.bits,IntKind.signed]
theorem u8or (n:Nat):bor .u8 (IntKind.u8.wrap (n:Int)) 128=(((UInt8.ofNat (n % 128+128)).toNat:Nat):Int):=by
 rw [Ct]
 have:=Lt ⟨n % 256,Nat.mod_lt _ (by decide)⟩
 rw [this]
 simp only []
 rw [show n % 256 % 128=n % 128 by omega]
theorem u8low {n:Nat} (h:¬ 127 < n):IntKind.u8.wrap (n:Int)=(((UInt8.ofNat n).toNat:Nat):Int):=by
 rw [Ct]
 simp
theorem shr7 (n:Nat):((n:Int)).fdiv (2 ^ (min (7:Int).toNat IntKind.u64.bits))=((n / 128:Nat):Int):=by
 rw [show (2:Int) ^ (min (7:Int).toNat IntKind.u64.bits)=128 from by decide,Int.fdiv_eq_ediv_of_nonneg _ (by decide)]
 omega
theorem bsb1 (v0:Int):az Tryz.prog 79 1 [(0,.int .u8 v0)] 5 #[.int .u8 v0]:=fun w=>by kernel_rfl
theorem fg {n:Nat} (hn:n < 18446744073709551616):Spec Tryz.prog 222 #[.int .u64 (n:Int)] []
  fun F v M=>v≠.slice none 0 0/\M=rowR 5 1 v (vint n).length (bvs (vint n)) :: F:=by
 refine Spec.intro Tryz.func222 rfl rfl fun B F=>?_
 simp only [Tryz.ntmps222,List.cons_append,List.nil_append,env0,Nat.reduceAdd]
 have hlen:=go hn
 refine .emp (A:=rowR 5 1 (.slice none 0 0) 0 (bvs [])) (rowR.nil _) ?_
 refine .sr (.assign (.z (.seq (.block ?_))))
 refine .loopA (σ:=Nat×aa×Value) (fun s=>[(0,.int .u64 (s.1:Int)),(2,s.2.2)]) (fun s=>rowR 5 1 s.2.2 s.2.1.length (bvs s.2.1) :: F) (fun s=>s.1 < 18446744073709551616/\s.2.1++vint s.1=vint n) (fun s=>s.1) (n,[],.slice none 0 0) ⟨hn,rfl⟩ ?_
 rintro s hs
 obtain ⟨m,bs,u⟩:=s
 obtain ⟨hm,hb⟩:=hs
 simp only at hm hb
 have hle:bs.length+(vint m).length<=10:=by rw [<- List.length_append,hb];exact hlen
 have hpos:=Lq m
 refine .seq (.sr (.move ?_))
 refine .gtr ?_
 refine .z ?_
 refine .cond rfl (fun hd=>?_) (fun hd=>?_)
 ·have hbig:127 < m:=by have h:(127:Int) < (m:Int):=of_decide_eq_true hd;omega
  refine .skip (.next (.block (.sr (.move (.move ?_)))))
  refine .cvt ?_ gj un5
  refine .or ?_
  refine .cast (d:=8) rfl (cI9 (u8or m)) ?_
  refine .buildS (fun b9=>?_) (bsb1 _)
  refine .append (m:=1) (news:=bvs [UInt8.ofNat (m % 128+128)]) so79 (by decide) (by repeat (first | exact .here | apply Rem.there | apply Repl.there | apply Mem.there)) (Reads.pt (cs:=(bvs [UInt8.ofNat (m % 128+128)]).toArray)) (by repeat (first | exact .here | apply Rem.there | apply Repl.there | apply Mem.there)) rfl (be _) (by show bs.length+1<=maxLen;unfold maxLen;omega) (by show (bs.length+1) * 1<=140737488355328;omega) ⟨_,z5,rfl⟩ (fun v' hv'=>?_)
  refine .assign (.y (.move ?_))
  refine .shr ?_
  refine .cast (d:=12) rfl (cI9 (shr7 m)) ?_
  refine .assign (.nil (.blockNormal ?_))
  exact .back (m / 128,bs++[UInt8.ofNat (m % 128+128)],v') ⟨by show m / 128 < _;omega,by show (bs++[_])++vint (m / 128)=_;rw [List.append_assoc,<-hb,xm hbig];rfl⟩ (show m / 128 < m by omega) (hI:=by rw [show bs.length+1=(bs++[UInt8.ofNat (m % 128+128)]).length by simp,<-bc];exact Am.auto)
 ·have hlow:¬ 127 < m:=by have h:¬ (127:Int) < (m:Int):=of_decide_eq_false hd;omega
  refine .exit (.thenExit (.thenExit (.blockExit (?_))))
  refine .next (.sr (.move (.move ?_)))
  refine .cvt ?_ gj un5
  refine .cast (d:=15) rfl (cI9 (u8low hlow)) ?_
  refine .buildS (fun b16=>?_) (bsb1 _)
  refine .append (m:=1) (news:=bvs [UInt8.ofNat m]) so79 (by decide) (by repeat (first | exact .here | apply Rem.there | apply Repl.there | apply Mem.there)) (Reads.pt (cs:=(bvs [UInt8.ofNat m]).toArray)) (by repeat (first | exact .here | apply Rem.there | apply Repl.there | apply Mem.there)) rfl (be _) (by show bs.length+1<=maxLen;unfold maxLen;omega) (by show (bs.length+1) * 1<=140737488355328;omega) ⟨_,z5,rfl⟩ (fun v' hv'=>?_)
  refine .assign (.z (.ret (?_)))
  have hfin:bvs bs++bvs [UInt8.ofNat m]=bvs (vint n):=by rw [<- bc,<-hb,lw hlow]
  have hk:bs.length+1=(vint n).length:=by rw [<- hb,lw hlow,List.length_append];rfl
  refine .to (A:=rowR 5 1 v' (bs.length+1) (bvs bs++bvs [UInt8.ofNat m])) (A':=rowR 5 1 v' (vint n).length (bvs (vint n))) (fun h hh=>by rw [<- hk,<-hfin];exact hh) ?_
  exact .ret1 (h1:=.tmp (t:=2) rfl) ⟨_,⟨fun h=>(by have:=(hv'.1 h).2;omega),rfl⟩,Am.auto⟩
def zigI (v:Int):Int:=bxor .u64 (IntKind.u64.wrap (IntKind.u64.wrap v * 2 ^ (min (1:Int).toNat IntKind.u64.bits))) (IntKind.u64.wrap (v.fdiv (2 ^ (min (63:Int).toNat IntKind.i64.bits))))
theorem A6 (x:Int):0<=IntKind.u64.wrap x/\IntKind.u64.wrap x < 18446744073709551616:=by
 simp only [IntKind.wrap,IntKind.bits,IntKind.signed]
 constructor
 ·exact Int.emod_nonneg _ (by decide)
 ·exact Int.emod_lt_of_pos _ (by decide)
theorem Cu (v:Int):0<=zigI v/\zigI v < 18446744073709551616:=A6 _
def zigN (v:Int):Nat:=(zigI v).toNat
theorem tj (v:Int):zigN v < 18446744073709551616:=by have:=Cu v;unfold zigN;omega
theorem Pf (v:Int):zigI v=((zigN v:Nat):Int):=by have:=Cu v;unfold zigN;omega
structure Rc where
 hk:Bool
 key:aa
 hv:Bool
 val:aa
 time:Int
 off:Int
def Rc.v (r:Rc):List Value:=[.bool r.hk,sv r.key,.bool r.hv,sv r.val,.int .i64 r.time,.int .i64 r.off]
theorem Rc.v_len (r:Rc):r.v.length=6:=rfl
def Rc.odd (r:Rc):Bool:=(!r.hk && !decide (r.key=[])) || (!r.hv && !decide (r.val=[])) || decide (r.time < 0) || decide (1125899906842624 < r.time) || decide (r.off < 0) || decide (100<=r.off)
def Rc.big (r:Rc):Bool:=decide ((2000:Int) < ((r.key.length:Nat):Int)) || decide ((2000:Int) < ((r.val.length:Nat):Int))
def ckE (r:Rc):Int:=if r.odd then 1 else if r.big then 2 else 0
theorem ck1 {r:Rc} (h:r.odd=true):(1:Int)=ckE r:=by unfold ckE;rw [if_pos h]
theorem ck2 {r:Rc} (h:r.odd=false) (h2:r.big=true):(2:Int)=ckE r:=by unfold ckE;rw [if_neg (by simp [h]),if_pos h2]
theorem ck0 {r:Rc} (h:r.odd=false) (h2:r.big=false):(0:Int)=ckE r:=by unfold ckE;rw [if_neg (by simp [h]),if_neg (by simp [h2])]
theorem A7 {v:Int}:Spec Tryz.prog 223 #[.int .i64 v] [] fun F u M=>u=.int .u64 ((zigN v:Nat):Int)/\M=F:=by
 refine Spec.intro Tryz.func223 rfl rfl fun B F=>?_
 simp only [Tryz.ntmps223,List.cons_append,List.nil_append,env0,Nat.reduceAdd]
 refine .sr (.assign (.x (.move ?_)))
 refine .cvt ?_ un3 gj
 refine .shl ?_
 refine .move ?_
 refine .shr ?_
 refine .cvt ?_ un3 gj
 refine .xor ?_
 refine .assign (.z (.ret (?_)))
 exact .ret1 (h1:=.tmp (t:=2) rfl) ⟨_,⟨cI9 (Pf v),rfl⟩,Am.auto⟩
theorem H7 {s:aa} (hs:s.length<=1073741824):Spec Tryz.prog 224 #[sv s] [] fun F v M=>v≠.slice none 0 0/\M=rowR 5 1 v ((vint s.length).length+s.length) (bvs (vint s.length++s)) :: F:=by
 refine Spec.intro Tryz.func224 rfl rfl fun B F=>?_
 simp only [Tryz.ntmps224,List.cons_append,List.nil_append,env0,Nat.reduceAdd]
 have hv10:=go (n:=s.length) (by omega)
 refine .sr (.assign (.x (.move ?_)))
 refine .lenT _ ?_ st9
 refine .cvt ?_ un3 gj
 refine .cast (d:=5) (u:=.int .u64 ((s.length:Nat):Int)) rfl (cI9 (jg (by omega))) ?_
 refine .call (hc:=Tryz.call222) (sp:=fg (n:=s.length) (by omega)) (h:=?_)
 rintro _ _ ⟨hne,rfl⟩
 refine .move ?_
 refine .appendT s so79 st9 (by repeat (first | exact .here | apply Rem.there | apply Repl.there | apply Mem.there)) (by unfold maxLen;omega) (by omega) ⟨_,z5,rfl⟩ (fun v' hv'=>?_)
 refine .assign (.z (.ret (?_)))
 rw [<- bc]
 exact .ret1 (h1:=.tmp (t:=2) rfl) ⟨_,⟨fun h=>hne (hv'.1 h).1,rfl⟩,Am.auto⟩
theorem Cv {r:Rc}:Spec Tryz.prog 162 #[.agg r.v.toArray] [] fun F v M=>v=.int .i64 (ckE r)/\M=F:=by
 refine Spec.intro Tryz.func162 rfl rfl fun B F=>?_
 simp only [Tryz.ntmps162,List.cons_append,List.nil_append,env0,Nat.reduceAdd]
 obtain ⟨hk,key,hv,val,time,off⟩:=r
 refine .sr ?_
 refine .box fun b1=>?_
 refine .assign (.z (.seq (.block (.seq (.seq ?_)))))
 refine .join (σ:=Bool) (fun b=>[(1,.pointer (some ⟨b1,0,none⟩)),(3,.bool b)]) (fun _=>[pt b1 (.cells (Rc.v ⟨hk,key,hv,val,time,off⟩).toArray 95 (0,0))]++F) (fun b=>b=(!hk && !decide (key=[]))) ?_ ?_
 ·refine .region ?_
  refine .fa ?_ H3
  refine .ld ?_ sc4
  refine .not ?_
  refine .move ?_
  refine .split (t:=7) rfl (fun hg=>?_) (fun hg=>?_)
  ·refine .gT ?_
   refine .fa ?_ H4
   refine .gT ?_
   refine .ld ?_ sc9
   refine .gT ?_
   refine .neS _ _ ?_
   refine .pickT (.assign (.nil ?_))
   exact .joined (!decide (key=[])) (by simp only [hg,Bool.true_and])
  ·refine .gF (.gF (.gF (.pickF (.assign (.nil ?_)))))
   exact .joined false (by simp only [hg,Bool.false_and])
 ·rintro a ea
  refine .next ?_
  refine .cond rfl (fun ha=>?_) (fun ha=>?_)
  ·refine .skip (.next ?_)
   refine .condT rfl (cB9 (ha)) ?_
   refine .sr (.assign (.z ?_))
   refine .ret (.blockRet (.thenRet (?_)))
   exact .ret1 (h1:=.tmp (t:=2) rfl) ⟨_,⟨cI9 (ck1 (by simp only [Rc.odd,<-ea,ha,Bool.or_true,Bool.true_or])),rfl⟩,Am.auto⟩
  ·refine .seq ?_
   refine .join (σ:=Bool) (fun b=>[(1,.pointer (some ⟨b1,0,none⟩)),(3,.bool b)]) (fun _=>[pt b1 (.cells (Rc.v ⟨hk,key,hv,val,time,off⟩).toArray 95 (0,0))]++F) (fun b=>b=(!hv && !decide (val=[]))) ?_ ?_
   ·refine .region ?_
    refine .fa ?_ H5
    refine .ld ?_ sc4
    refine .not ?_
    refine .move ?_
    refine .split (t:=15) rfl (fun hg=>?_) (fun hg=>?_)
    ·refine .gT ?_
     refine .fa ?_ H6
     refine .gT ?_
     refine .ld ?_ sc9
     refine .gT ?_
     refine .neS _ _ ?_
     refine .pickT (.assign (.nil ?_))
     exact .joined (!decide (val=[])) (by simp only [hg,Bool.true_and])
    ·refine .gF (.gF (.gF (.pickF (.assign (.nil ?_)))))
     exact .joined false (by simp only [hg,Bool.false_and])
   ·rintro b eb
    refine .next ?_
    refine .cond rfl (fun hb=>?_) (fun hb=>?_)
    ·refine .skip (.next ?_)
     refine .condT rfl (cB9 (hb)) ?_
     refine .sr (.assign (.z ?_))
     refine .ret (.blockRet (.thenRet (?_)))
     exact .ret1 (h1:=.tmp (t:=2) rfl) ⟨_,⟨cI9 (ck1 (by simp only [Rc.odd,<-eb,hb,Bool.or_true,Bool.true_or])),rfl⟩,Am.auto⟩
    ·refine .sr ?_
     refine .fa ?_ zd
     refine .ld ?_ sc3
     refine .lss ?_
     refine .assign (.z ?_)
     refine .cond rfl (fun h3=>?_) (fun h3=>?_)
     ·refine .skip (.next ?_)
      refine .condT rfl (cB9 (h3)) ?_
      refine .sr (.assign (.z ?_))
      refine .ret (.blockRet (.thenRet (?_)))
      exact .ret1 (h1:=.tmp (t:=2) rfl) ⟨_,⟨cI9 (ck1 (by simp only [Rc.odd,h3,Bool.or_true,Bool.true_or])),rfl⟩,Am.auto⟩
     ·refine .sr ?_
      refine .fa ?_ zd
      refine .ld ?_ sc3
      refine .gtr ?_
      refine .assign (.z ?_)
      refine .cond rfl (fun h4=>?_) (fun h4=>?_)
      ·refine .skip (.next ?_)
       refine .condT rfl (cB9 (h4)) ?_
       refine .sr (.assign (.z ?_))
       refine .ret (.blockRet (.thenRet (?_)))
       exact .ret1 (h1:=.tmp (t:=2) rfl) ⟨_,⟨cI9 (ck1 (by simp only [Rc.odd,h4,Bool.or_true,Bool.true_or])),rfl⟩,Am.auto⟩
      ·refine .sr ?_
       refine .fa ?_ ou
       refine .ld ?_ sc3
       refine .lss ?_
       refine .assign (.z ?_)
       refine .cond rfl (fun h5=>?_) (fun h5=>?_)
       ·refine .skip (.next ?_)
        refine .condT rfl (cB9 (h5)) ?_
        refine .sr (.assign (.z ?_))
        refine .ret (.blockRet (.thenRet (?_)))
        exact .ret1 (h1:=.tmp (t:=2) rfl) ⟨_,⟨cI9 (ck1 (by simp only [Rc.odd,h5,Bool.or_true,Bool.true_or])),rfl⟩,Am.auto⟩
       ·refine .region ?_
        refine .fa ?_ ou
        refine .ld ?_ sc3
        refine .geq ?_
        refine .assign (.z ?_)
        refine .cond rfl (fun h6=>?_) (fun h6=>?_)
        ·refine .sr (.assign (.z ?_))
         refine .ret (.blockRet (.thenRet (?_)))
         exact .ret1 (h1:=.tmp (t:=2) rfl) ⟨_,⟨cI9 (ck1 (by simp only [Rc.odd,h6,Bool.or_true,Bool.true_or])),rfl⟩,Am.auto⟩
        ·have hodd:Rc.odd ⟨hk,key,hv,val,time,off⟩=false:=by simp only [Rc.odd,<-ea,ha,<-eb,hb,h3,h4,h5,h6,Bool.or_false]
         refine .seq (.sr ?_)
         refine .fa ?_ H4
         refine .ld ?_ sc9
         refine .lenT _ ?_ st9
         refine .gtr ?_
         refine .assign (.z ?_)
         refine .cond rfl (fun h7=>?_) (fun h7=>?_)
         ·refine .skip (.next ?_)
          refine .condT rfl (cB9 (h7)) ?_
          refine .sr (.assign (.z ?_))
          refine .ret (.blockRet (.thenRet (?_)))
          exact .ret1 (h1:=.tmp (t:=2) rfl) ⟨_,⟨cI9 (ck2 hodd (by simp only [Rc.big,h7,Bool.true_or])),rfl⟩,Am.auto⟩
         ·refine .region ?_
          refine .fa ?_ H6
          refine .ld ?_ sc9
          refine .lenT _ ?_ st9
          refine .gtr ?_
          refine .assign (.z ?_)
          refine .cond rfl (fun h8=>?_) (fun h8=>?_)
          ·refine .sr (.assign (.z ?_))
           refine .ret (.blockRet (.thenRet (?_)))
           exact .ret1 (h1:=.tmp (t:=2) rfl) ⟨_,⟨cI9 (ck2 hodd (by simp only [Rc.big,h7,h8,Bool.or_true])),rfl⟩,Am.auto⟩
          ·refine .skip (.blockNormal (.next (.sr (.assign (.z ?_)))))
           refine .ret (?_)
           exact .ret1 (h1:=.tmp (t:=2) rfl) ⟨_,⟨cI9 (ck0 hodd (by simp only [Rc.big,h7,h8,Bool.or_false])),rfl⟩,Am.auto⟩
theorem H8 {l:List (Value×aa)} {i:Nat} {pv:Value} {px:aa} (h:l[i]?=some (pv,px)):(l.take (i+1)).flatMap (·.2)=(l.take i).flatMap (·.2)++px/\((l.take i).flatMap (·.2)).length+px.length<=(l.flatMap (·.2)).length:=by
 have h1:(l.take (i+1)).flatMap (·.2)=(l.take i).flatMap (·.2)++px:=by
  rw [List.take_add_one,h]
  simp
 refine ⟨h1,?_⟩
 have h2:(l.flatMap (·.2)).length=((l.take (i+1)).flatMap (·.2)).length+((l.drop (i+1)).flatMap (·.2)).length:=by
  rw [<- List.length_append,<-List.flatMap_append,List.take_append_drop]
 rw [h1,List.length_append] at h2
 omega
theorem Pg {R:HP} {A:Addr} {c:Nat} {bl l:List (Value×aa)} (hR:Reads R (some A) (l.map (·.1))) (hl:∀ p∈l,p∈bl) (hk:l.length<=1073741824) (hn:(l.flatMap (·.2)).length<=1073741824):Spec Tryz.prog 225 #[.slice (some A) l.length c] [R,a6 bl]
  fun F v M=>M=rowR 5 1 v (l.flatMap (·.2)).length (bvs (l.flatMap (·.2))) :: R :: a6 bl :: F:=by
 refine Spec.intro Tryz.func225 rfl rfl fun B F=>?_
 simp only [Tryz.ntmps225,List.cons_append,List.nil_append,env0,Nat.reduceAdd]
 obtain ⟨ab,ao,asp⟩:=A
 have hsp:asp=none:=hR.1
 subst hsp
 refine .emp (A:=rowR 5 1 (.slice none 0 0) 0 (bvs [])) (rowR.nil _) ?_
 refine .sr (.assign (.z (.seq (.sr (.move ?_)))))
 refine .lenS ?_ sl301
 refine .move (.z (.block ?_))
 refine .loopA (σ:=Nat×Value) (fun s=>[(2,s.2),(5,.slice (some ⟨ab,ao,none⟩) l.length c),(6,.int .i64 (l.length:Int)),(7,.int .i64 ((s.1:Nat):Int))]) (fun s=>rowR 5 1 s.2 ((l.take s.1).flatMap (·.2)).length (bvs ((l.take s.1).flatMap (·.2))) :: R :: a6 bl :: F) (fun s=>s.1<=l.length) (fun s=>l.length - s.1) (0,.slice none 0 0) (Nat.zero_le _) ?_
 rintro s hs
 obtain ⟨i,u⟩:=s
 simp only at hs
 refine .sr ?_
 refine .lss ?_
 refine .z (.seq ?_)
 refine .cond rfl (fun hd=>?_) (fun hd=>?_)
 ·have hlt:i < l.length:=by have h:(i:Int) < (l.length:Int):=of_decide_eq_true hd;omega
  obtain ⟨pv,px,hp⟩:∃ pv px,l[i]?=some (pv,px):=⟨_,_,List.getElem?_eq_getElem hlt⟩
  have hmem:(pv,px)∈bl:=hl _ (List.mem_of_getElem? hp)
  obtain ⟨hf1,hf2⟩:=H8 hp
  refine .fact (jp hmem) fun ⟨gb,cb,hvs,hcb⟩=>?_
  subst hvs
  refine .skip (.next (.seq (.block (.sr ?_))))
  refine .idx1 ?_ Pe
  refine .ldR (i:=i) ?_ sc79 hR (by rw [List.getElem?_map,hp];rfl)
  refine .assign (.y (.move (.move ?_)))
  refine .append (m:=px.length) (news:=bvs px) (R:=a6 bl) so79 (by decide) (by repeat (first | exact .here | apply Rem.there | apply Repl.there | apply Mem.there)) (Reads.blob hmem) (by repeat (first | exact .here | apply Rem.there | apply Repl.there | apply Mem.there)) (by rw [ae,Nat.mul_one]) (be _) (by show ((l.take i).flatMap (·.2)).length+px.length<=maxLen;unfold maxLen;omega) (by show (((l.take i).flatMap (·.2)).length+px.length) * 1<=140737488355328;omega) ⟨_,z5,rfl⟩ (fun v' hv'=>?_)
  refine .assign (.nil (.blockNormal (.next (.region ?_))))
  refine .add ?_
  refine .move (.nil ?_)
  exact .back (i+1,v') (by show i+1<=l.length;omega) (show l.length - (i+1) < l.length - i by omega) (hI:=by rw [show (i+1,v').1=i+1 from rfl,hf1,List.length_append,bc];exact Am.auto)
 ·have hge:i=l.length:=by have h:¬ (i:Int) < (l.length:Int):=of_decide_eq_false hd;omega
  subst hge
  rw [List.take_length]
  refine .exit (.thenExit (.thenExit (.blockExit (?_))))
  refine .next (.sr (.move (.assign (.z (.ret (?_))))))
  exact .ret1 (h1:=.tmp (t:=2) rfl) ⟨_,rfl,Am.auto⟩
def flN (a b:Bool):Nat:=(if a then 1 else 0)+(if b then 2 else 0)
def flB (r:Rc):aa:=[UInt8.ofNat (flN r.hk r.hv)]
def txtB (s:aa):aa:=vint s.length++s
def encB (r:Rc) (first:Int):aa:=flB r++(vint r.off.toNat++(vint (zigN (r.time - first))++((if r.hk then txtB r.key else [])++(if r.hv then txtB r.val else []))))
def encE (r:Rc) (first:Int):Int:=if ckE r=0 then (if first < 0 ∨ 1125899906842624 < first then 1 else 0) else ckE r
theorem H9 {r:Rc} (h:ckE r=0):(r.key.length<=2000/\r.val.length<=2000)/\(0<=r.time/\r.time<=1125899906842624)/\(0<=r.off/\r.off < 100):=by
 unfold ckE at h
 by_cases h1:r.odd=true
 ·rw [if_pos h1] at h;cases h
 ·rw [if_neg h1] at h
  by_cases h2:r.big=true
  ·rw [if_pos h2] at h;cases h
  ·simp only [Rc.odd,Rc.big,Bool.or_eq_true,decide_eq_true_eq] at h1 h2
   omega
theorem xn {r:Rc} {first:Int} (h:ckE r=0):(encB r first).length<=4100:=by
 obtain ⟨⟨h1,h2⟩,h3,h4⟩:=H9 h
 have a:=go (n:=r.off.toNat) (by omega)
 have b:=go (tj (r.time - first))
 have c:=go (n:=r.key.length) (by omega)
 have d:=go (n:=r.val.length) (by omega)
 unfold encB flB txtB
 simp only [List.length_append,List.length_cons,List.length_nil]
 split<;>split<;>simp only [List.length_append,List.length_nil]<;>omega
theorem Lu (A0 A1 A2:Option Addr) (n0 c0 n1 c1 n2 c2:Nat):az Tryz.prog 301 3 [(0,.slice A0 n0 c0),(1,.slice A1 n1 c1),(2,.slice A2 n2 c2)] 79 #[.slice A0 n0 c0,.slice A1 n1 c1,.slice A2 n2 c2]:=fun w=>by kernel_rfl
theorem R3 (A0:Option Addr) (n0 c0:Nat):az Tryz.prog 301 1 [(0,.slice A0 n0 c0)] 79 #[.slice A0 n0 c0]:=fun w=>by kernel_rfl
theorem Ia {r:Rc} {first:Int}:Spec Tryz.prog 163 #[.agg r.v.toArray,.int .i64 first] []
  fun F v M=>(encE r first≠0/\v=.tuple #[.slice none 0 0,.int .i64 (encE r first)]/\M=F) ∨
   (ckE r=0/\encE r first=0/\∃ u,v=.tuple #[u,.int .i64 0]/\M=rowR 5 1 u (encB r first).length (bvs (encB r first)) :: F):=by
 refine Spec.intro Tryz.func163 rfl rfl fun B F=>?_
 simp only [Tryz.ntmps163,List.cons_append,List.nil_append,env0,Nat.reduceAdd]
 obtain ⟨hk,key,hv,val,time,off⟩:=r
 refine .sr ?_
 refine .box fun b2=>?_
 refine .assign (.assign (.z (.seq (.sr ?_))))
 refine .ldA ?_ ti
 refine .call (hc:=Tryz.call162) (sp:=Cv (r:=⟨hk,key,hv,val,time,off⟩)) (h:=?_)
 rintro _ _ ⟨rfl,rfl⟩
 refine .assign (.x (.move ?_))
 refine .nei ?_
 refine .z ?_
 refine .cond rfl (fun he=>?_) (fun he=>?_)
 ·have hne:ckE ⟨hk,key,hv,val,time,off⟩≠0:=of_decide_eq_true (by simpa using he)
  have hE:encE ⟨hk,key,hv,val,time,off⟩ first=ckE ⟨hk,key,hv,val,time,off⟩:=by unfold encE;rw [if_neg hne]
  refine .sr (.move (.assign (.assign (.z ?_))))
  refine .ret (.thenRet (?_))
  exact .ret2 (h1:=.tmp (t:=4) rfl) (h2:=.tmp (t:=5) rfl) ⟨_,.inl ⟨by rw [hE];exact hne,by rw [hE],rfl⟩,Am.auto⟩
 ·have hck:ckE ⟨hk,key,hv,val,time,off⟩=0:=by simpa using he
  obtain ⟨⟨hkl,hvl⟩,ht,ho⟩:=H9 hck
  simp only at hkl hvl ht ho
  refine .skip (.next (.seq (.sr (.move ?_))))
  refine .lss ?_
  refine .move ?_
  refine .split (t:=16) rfl (fun hf1=>?_) (fun hf1=>?_)
  ·have hlt:first < 0:=of_decide_eq_true hf1
   have hE:encE ⟨hk,key,hv,val,time,off⟩ first=1:=by unfold encE;rw [if_pos hck,if_pos (.inl hlt)]
   refine .gF (.gF (.pickT (.z ?_)))
   refine .condT rfl rfl ?_
   refine .sr (.assign (.assign (.z ?_)))
   refine .ret (.thenRet (?_))
   exact .ret2 (h1:=.tmp (t:=4) rfl) (h2:=.tmp (t:=5) rfl) ⟨_,.inl ⟨by rw [hE];decide,by rw [hE],rfl⟩,Am.auto⟩
  ·have hge:¬ first < 0:=of_decide_eq_false hf1
   refine .gT (.move (.gT ?_))
   refine .gtr ?_
   refine .pickF (.z ?_)
   refine .cond rfl (fun hf2=>?_) (fun hf2=>?_)
   ·have hlt:1125899906842624 < first:=of_decide_eq_true hf2
    have hE:encE ⟨hk,key,hv,val,time,off⟩ first=1:=by unfold encE;rw [if_pos hck,if_pos (.inr hlt)]
    refine .sr (.assign (.assign (.z ?_)))
    refine .ret (.thenRet (?_))
    exact .ret2 (h1:=.tmp (t:=4) rfl) (h2:=.tmp (t:=5) rfl) ⟨_,.inl ⟨by rw [hE];decide,by rw [hE],rfl⟩,Am.auto⟩
   ·have hle:¬ 1125899906842624 < first:=of_decide_eq_false hf2
    have hE:encE ⟨hk,key,hv,val,time,off⟩ first=0:=by unfold encE;rw [if_pos hck,if_neg (by omega)]
    refine .skip (.next (.sr (.assign (.z (.seq (.sr ?_))))))
    refine .fa ?_ H3
    refine .ld ?_ sc4
    refine .z ?_
    refine .join (σ:=Int) (fun s=>[(1,.int .i64 first),(2,.pointer (some ⟨b2,0,none⟩)),(7,.int .u8 s)]) (fun _=>[pt b2 (.cells #[.bool hk,sv key,.bool hv,sv val,.int .i64 time,.int .i64 off] 95 (0,0))]++F) (fun s=>s=if hk then 1 else 0) ?_ ?_
    ·refine .cond rfl (fun h1=>?_) (fun h1=>?_)
     ·refine .region (.move ?_)
      refine .or ?_
      refine .assign (.nil ?_)
      exact .joined (bor .u8 0 1) (by rw [show hk=true from h1];decide)
     ·refine .skip ?_
      exact .joined 0 (by rw [show hk=false from h1];rfl)
    ·rintro s1 hs1
     refine .next (.seq (.sr ?_))
     refine .fa ?_ H5
     refine .ld ?_ sc4
     refine .z ?_
     refine .join (σ:=Int) (fun s=>[(1,.int .i64 first),(2,.pointer (some ⟨b2,0,none⟩)),(7,.int .u8 s)]) (fun _=>[pt b2 (.cells #[.bool hk,sv key,.bool hv,sv val,.int .i64 time,.int .i64 off] 95 (0,0))]++F) (fun s=>s=(((UInt8.ofNat (flN hk hv)).toNat:Nat):Int)) ?_ ?_
     ·refine .cond rfl (fun h2=>?_) (fun h2=>?_)
      ·refine .region (.move ?_)
       refine .or ?_
       refine .assign (.nil ?_)
       exact .joined (bor .u8 s1 2) (by rw [show hv=true from h2,hs1];cases hk<;>decide)
      ·refine .skip ?_
       exact .joined s1 (by rw [show hv=false from h2,hs1];cases hk<;>decide)
     ·rintro s2 hs2
      refine .next (.seq ?_)
      subst hs2
      have hoffc:IntKind.u64.wrap off=((off.toNat:Nat):Int):=by rw [show off=((off.toNat:Nat):Int) by omega,jg (by omega)];rfl
      refine .blobsNil ?_
      refine .join (σ:=Value×List (Value×aa)) (fun s=>[(2,.pointer (some ⟨b2,0,none⟩)),(8,s.1)]) (fun s=>[pt b2 (.cells #[.bool hk,sv key,.bool hv,sv val,.int .i64 time,.int .i64 off] 95 (0,0)),rowR 79 1 s.1 s.2.length (s.2.map (·.1)),a6 s.2.reverse]++F) (fun s=>s.2.map (·.2)=[flB ⟨hk,key,hv,val,time,off⟩,vint off.toNat,vint (zigN (time - first))]/\s.1≠.slice none 0 0) ?_ ?_
      ·refine .dr ([pt b2 (.cells #[.bool hk,sv key,.bool hv,sv val,.int .i64 time,.int .i64 off] 95 (0,0))]) [] 14 mixed .autoJ ?_
       refine .tk 0 rfl .move ?_
       refine .tk 2 rfl (.fa ou) ?_
       refine .tk 3 rfl (.ld sc3) ?_
       refine .tk 4 rfl ((Qt.cvt un3 gj).eq (cI9 hoffc)) ?_
       refine .tk 6 rfl (.fa zd) ?_
       refine .tk 7 rfl (.ld sc3) ?_
       refine .tk 8 rfl .move ?_
       refine .tk 9 rfl .sub ?_
       refine .tw 1 5 rfl rfl (fun hnp=>?_) (fun hnp=>?_)
       ·refine .buildS (fun b29=>?_) (bsb1 _)
        refine .nil (.wa hnp ?_)
        refine .on 5 rfl fun hnp=>?_
        refine .call (hc:=Tryz.call222) (sp:=fg (n:=off.toNat) (by omega)) (h:=?_)
        rintro v5 _ ⟨hn5,rfl⟩
        refine .toE (bw hn5) ?_
        rintro ⟨g5,q5⟩ ⟨rfl,h5a,h5b,_⟩
        refine .nil (.wa hnp ?_)
        refine .on 10 rfl fun hnp=>?_
        refine .call (hc:=Tryz.call223) (sp:=A7 (v:=time - first)) (h:=?_)
        rintro _ _ ⟨rfl,rfl⟩
        refine .nil (.wa hnp ?_)
        refine .on 11 rfl fun hnp=>?_
        refine .call (hc:=Tryz.call222) (sp:=fg (n:=zigN (time - first)) (tj _)) (h:=?_)
        rintro v11 _ ⟨hn11,rfl⟩
        refine .toE (bw hn11) ?_
        rintro ⟨g11,q11⟩ ⟨rfl,h11a,h11b,_⟩
        refine .nil (.wa hnp ?_)
        refine .on 12 rfl fun hnp=>?_
        refine .buildS (fun b40=>?_) (Lu _ _ _ _ _ _ _ _ _)
        refine .nil (.wa hnp ?_)
        refine .tk 13 rfl .assign ?_
        refine .fin ?_
        refine .to (A':=buf b40 79 3 [.slice (some ⟨b29,0,none⟩) 1 1,.slice (some ⟨g5,0,none⟩) (vint off.toNat).length q5,.slice (some ⟨g11,0,none⟩) (vint (zigN (time - first))).length q11]) (cw rfl) ?_
        refine .to (dj (cap:=3) (by decide)) ?_
        refine .to (A:=pt b29 (.cells #[.int .u8 (((UInt8.ofNat (flN hk hv)).toNat:Nat):Int)] 5 (0,0))) (A':=buf b29 5 1 (bvs (flB ⟨hk,key,hv,val,time,off⟩))) (cw rfl) ?_
        refine .blobsAdd (xs:=flB ⟨hk,key,hv,val,time,off⟩) (k:=1) (Nat.le_refl 1) ?_
        refine .blobsAdd (xs:=vint off.toNat) (k:=q5) h5a ?_
        refine .blobsAdd (xs:=vint (zigN (time - first))) (k:=q11) h11a ?_
        exact .joined (.slice (some ⟨b40,0,none⟩) 3 3,[(.slice (some ⟨b29,0,none⟩) 1 1,flB ⟨hk,key,hv,val,time,off⟩),(.slice (some ⟨g5,0,none⟩) (vint off.toNat).length q5,vint off.toNat),(.slice (some ⟨g11,0,none⟩) (vint (zigN (time - first))).length q11,vint (zigN (time - first)))]) ⟨rfl,by simp⟩
       ·refine .call (hc:=Tryz.call222) (sp:=fg (n:=off.toNat) (by omega)) (h:=?_)
        rintro v5 _ ⟨hn5,rfl⟩
        refine .toE (bw hn5) ?_
        rintro ⟨g5,q5⟩ ⟨rfl,h5a,h5b,_⟩
        refine .nil (.wa hnp ?_)
        refine .tw 1 10 rfl rfl (fun hnp=>?_) (fun hnp=>?_)
        ·refine .buildS (fun b29=>?_) (bsb1 _)
         refine .nil (.wa hnp ?_)
         refine .on 10 rfl fun hnp=>?_
         refine .call (hc:=Tryz.call223) (sp:=A7 (v:=time - first)) (h:=?_)
         rintro _ _ ⟨rfl,rfl⟩
         refine .nil (.wa hnp ?_)
         refine .on 11 rfl fun hnp=>?_
         refine .call (hc:=Tryz.call222) (sp:=fg (n:=zigN (time - first)) (tj _)) (h:=?_)
         rintro v11 _ ⟨hn11,rfl⟩
         refine .toE (bw hn11) ?_
         rintro ⟨g11,q11⟩ ⟨rfl,h11a,h11b,_⟩
         refine .nil (.wa hnp ?_)
         refine .on 12 rfl fun hnp=>?_
         refine .buildS (fun b40=>?_) (Lu _ _ _ _ _ _ _ _ _)
         refine .nil (.wa hnp ?_)
         refine .tk 13 rfl .assign ?_
         refine .fin ?_
         refine .to (A':=buf b40 79 3 [.slice (some ⟨b29,0,none⟩) 1 1,.slice (some ⟨g5,0,none⟩) (vint off.toNat).length q5,.slice (some ⟨g11,0,none⟩) (vint (zigN (time - first))).length q11]) (cw rfl) ?_
         refine .to (dj (cap:=3) (by decide)) ?_
         refine .to (A:=pt b29 (.cells #[.int .u8 (((UInt8.ofNat (flN hk hv)).toNat:Nat):Int)] 5 (0,0))) (A':=buf b29 5 1 (bvs (flB ⟨hk,key,hv,val,time,off⟩))) (cw rfl) ?_
         refine .blobsAdd (xs:=flB ⟨hk,key,hv,val,time,off⟩) (k:=1) (Nat.le_refl 1) ?_
         refine .blobsAdd (xs:=vint off.toNat) (k:=q5) h5a ?_
         refine .blobsAdd (xs:=vint (zigN (time - first))) (k:=q11) h11a ?_
         exact .joined (.slice (some ⟨b40,0,none⟩) 3 3,[(.slice (some ⟨b29,0,none⟩) 1 1,flB ⟨hk,key,hv,val,time,off⟩),(.slice (some ⟨g5,0,none⟩) (vint off.toNat).length q5,vint off.toNat),(.slice (some ⟨g11,0,none⟩) (vint (zigN (time - first))).length q11,vint (zigN (time - first)))]) ⟨rfl,by simp⟩
        ·refine .call (hc:=Tryz.call223) (sp:=A7 (v:=time - first)) (h:=?_)
         rintro _ _ ⟨rfl,rfl⟩
         refine .nil (.wa hnp ?_)
         refine .tw 1 11 rfl rfl (fun hnp=>?_) (fun hnp=>?_)
         ·refine .buildS (fun b29=>?_) (bsb1 _)
          refine .nil (.wa hnp ?_)
          refine .on 11 rfl fun hnp=>?_
          refine .call (hc:=Tryz.call222) (sp:=fg (n:=zigN (time - first)) (tj _)) (h:=?_)
          rintro v11 _ ⟨hn11,rfl⟩
          refine .toE (bw hn11) ?_
          rintro ⟨g11,q11⟩ ⟨rfl,h11a,h11b,_⟩
          refine .nil (.wa hnp ?_)
          refine .on 12 rfl fun hnp=>?_
          refine .buildS (fun b40=>?_) (Lu _ _ _ _ _ _ _ _ _)
          refine .nil (.wa hnp ?_)
          refine .tk 13 rfl .assign ?_
          refine .fin ?_
          refine .to (A':=buf b40 79 3 [.slice (some ⟨b29,0,none⟩) 1 1,.slice (some ⟨g5,0,none⟩) (vint off.toNat).length q5,.slice (some ⟨g11,0,none⟩) (vint (zigN (time - first))).length q11]) (cw rfl) ?_
          refine .to (dj (cap:=3) (by decide)) ?_
          refine .to (A:=pt b29 (.cells #[.int .u8 (((UInt8.ofNat (flN hk hv)).toNat:Nat):Int)] 5 (0,0))) (A':=buf b29 5 1 (bvs (flB ⟨hk,key,hv,val,time,off⟩))) (cw rfl) ?_
          refine .blobsAdd (xs:=flB ⟨hk,key,hv,val,time,off⟩) (k:=1) (Nat.le_refl 1) ?_
          refine .blobsAdd (xs:=vint off.toNat) (k:=q5) h5a ?_
          refine .blobsAdd (xs:=vint (zigN (time - first))) (k:=q11) h11a ?_
          exact .joined (.slice (some ⟨b40,0,none⟩) 3 3,[(.slice (some ⟨b29,0,none⟩) 1 1,flB ⟨hk,key,hv,val,time,off⟩),(.slice (some ⟨g5,0,none⟩) (vint off.toNat).length q5,vint off.toNat),(.slice (some ⟨g11,0,none⟩) (vint (zigN (time - first))).length q11,vint (zigN (time - first)))]) ⟨rfl,by simp⟩
         ·refine .call (hc:=Tryz.call222) (sp:=fg (n:=zigN (time - first)) (tj _)) (h:=?_)
          rintro v11 _ ⟨hn11,rfl⟩
          refine .toE (bw hn11) ?_
          rintro ⟨g11,q11⟩ ⟨rfl,h11a,h11b,_⟩
          refine .nil (.wa hnp ?_)
          refine .on 1 rfl fun hnp=>?_
          refine .buildS (fun b29=>?_) (bsb1 _)
          refine .nil (.wa hnp ?_)
          refine .on 12 rfl fun hnp=>?_
          refine .buildS (fun b40=>?_) (Lu _ _ _ _ _ _ _ _ _)
          refine .nil (.wa hnp ?_)
          refine .tk 13 rfl .assign ?_
          refine .fin ?_
          refine .to (A':=buf b40 79 3 [.slice (some ⟨b29,0,none⟩) 1 1,.slice (some ⟨g5,0,none⟩) (vint off.toNat).length q5,.slice (some ⟨g11,0,none⟩) (vint (zigN (time - first))).length q11]) (cw rfl) ?_
          refine .to (dj (cap:=3) (by decide)) ?_
          refine .to (A:=pt b29 (.cells #[.int .u8 (((UInt8.ofNat (flN hk hv)).toNat:Nat):Int)] 5 (0,0))) (A':=buf b29 5 1 (bvs (flB ⟨hk,key,hv,val,time,off⟩))) (cw rfl) ?_
          refine .blobsAdd (xs:=flB ⟨hk,key,hv,val,time,off⟩) (k:=1) (Nat.le_refl 1) ?_
          refine .blobsAdd (xs:=vint off.toNat) (k:=q5) h5a ?_
          refine .blobsAdd (xs:=vint (zigN (time - first))) (k:=q11) h11a ?_
          exact .joined (.slice (some ⟨b40,0,none⟩) 3 3,[(.slice (some ⟨b29,0,none⟩) 1 1,flB ⟨hk,key,hv,val,time,off⟩),(.slice (some ⟨g5,0,none⟩) (vint off.toNat).length q5,vint off.toNat),(.slice (some ⟨g11,0,none⟩) (vint (zigN (time - first))).length q11,vint (zigN (time - first)))]) ⟨rfl,by simp⟩
      ·rintro s3 hs3
       refine .next (.seq (.sr ?_))
       refine .fa ?_ H3
       refine .ld ?_ sc4
       refine .z ?_
       refine .join (σ:=Value×List (Value×aa)) (fun s=>[(2,.pointer (some ⟨b2,0,none⟩)),(8,s.1)]) (fun s=>[pt b2 (.cells #[.bool hk,sv key,.bool hv,sv val,.int .i64 time,.int .i64 off] 95 (0,0)),rowR 79 1 s.1 s.2.length (s.2.map (·.1)),a6 s.2.reverse]++F) (fun s=>s.2.map (·.2)=[flB ⟨hk,key,hv,val,time,off⟩,vint off.toNat,vint (zigN (time - first))]++(if hk then [txtB key] else [])/\s.1≠.slice none 0 0) ?_ ?_
       ·refine .cond rfl (fun hk=>?_) (fun hk=>?_)
        ·obtain ⟨lv,l⟩:=s3
         obtain ⟨hl,hnn⟩:=hs3
         simp only at hl hnn
         have hll:l.length<=4:=by have:=congrArg List.length hl;simp at this;omega
         refine .region (.move ?_)
         refine .fa ?_ H4
         refine .ld ?_ sc9
         refine .call (hc:=Tryz.call224) (sp:=H7 (s:=key) (by omega)) (h:=?_)
         rintro vt _ ⟨hnt,rfl⟩
         refine .toE (bw hnt) ?_
         rintro ⟨gt,qt⟩ ⟨rfl,hta,htb,htc⟩
         refine .to (A':=buf gt 5 qt (bvs (txtB key))) (fun h hh=>hh) ?_
         have htl:(txtB key).length=(vint (key).length).length+(key).length:=List.length_append
         refine .blobsAdd (xs:=txtB key) (k:=qt) (by omega) ?_
         refine .buildS (fun b47=>?_) (R3 _ _ _)
         refine .append (m:=1) (news:=[.slice (some ⟨gt,0,none⟩) ((vint (key).length).length+(key).length) qt]) Pe (by decide) (by repeat (first | exact .here | apply Rem.there | apply Repl.there | apply Mem.there)) (Reads.pt (cs:=#[.slice (some ⟨gt,0,none⟩) ((vint (key).length).length+(key).length) qt])) (by repeat (first | exact .here | apply Rem.there | apply Repl.there | apply Mem.there)) rfl (by simp [Value.single]) (by show l.length+1<=maxLen;unfold maxLen;omega) (by show (l.length+1) * 24<=140737488355328;omega) ⟨_,z79,rfl⟩ (fun v' hv'=>?_)
         refine .assign (.nil ?_)
         rw [<- htl]
         exact .joined (v',l++[(.slice (some ⟨gt,0,none⟩) (txtB key).length qt,txtB key)]) ⟨by simp only [List.map_append,hl,hk,if_true];rfl,fun h=>(by have:=(hv'.1 h).2;omega)⟩ (hI:=by simp only [List.length_append,List.length_cons,List.length_nil,List.map_append,List.map_cons,List.map_nil,List.reverse_append,List.reverse_cons,List.reverse_nil,List.nil_append,List.cons_append];exact Am.auto)
        ·refine .skip ?_
         exact .joined s3 ⟨by rw [hs3.1,hk];simp,hs3.2⟩
       ·rintro sk hsk
        refine .next (.seq (.sr ?_))
        refine .fa ?_ H5
        refine .ld ?_ sc4
        refine .z ?_
        refine .join (σ:=Value×List (Value×aa)) (fun s=>[(2,.pointer (some ⟨b2,0,none⟩)),(8,s.1)]) (fun s=>[pt b2 (.cells #[.bool hk,sv key,.bool hv,sv val,.int .i64 time,.int .i64 off] 95 (0,0)),rowR 79 1 s.1 s.2.length (s.2.map (·.1)),a6 s.2.reverse]++F) (fun s=>s.2.map (·.2)=[flB ⟨hk,key,hv,val,time,off⟩,vint off.toNat,vint (zigN (time - first))]++(if hk then [txtB key] else [])++(if hv then [txtB val] else [])/\s.1≠.slice none 0 0) ?_ ?_
        ·refine .cond rfl (fun hv=>?_) (fun hv=>?_)
         ·obtain ⟨lv,l⟩:=sk
          obtain ⟨hl,hnn⟩:=hsk
          simp only at hl hnn
          have hll:l.length<=4:=by have:=congrArg List.length hl;simp at this;split at this<;>simp at this<;>omega
          refine .region (.move ?_)
          refine .fa ?_ H6
          refine .ld ?_ sc9
          refine .call (hc:=Tryz.call224) (sp:=H7 (s:=val) (by omega)) (h:=?_)
          rintro vt _ ⟨hnt,rfl⟩
          refine .toE (bw hnt) ?_
          rintro ⟨gt,qt⟩ ⟨rfl,hta,htb,htc⟩
          refine .to (A':=buf gt 5 qt (bvs (txtB val))) (fun h hh=>hh) ?_
          have htl:(txtB val).length=(vint (val).length).length+(val).length:=List.length_append
          refine .blobsAdd (xs:=txtB val) (k:=qt) (by omega) ?_
          refine .buildS (fun b55=>?_) (R3 _ _ _)
          refine .append (m:=1) (news:=[.slice (some ⟨gt,0,none⟩) ((vint (val).length).length+(val).length) qt]) Pe (by decide) (by repeat (first | exact .here | apply Rem.there | apply Repl.there | apply Mem.there)) (Reads.pt (cs:=#[.slice (some ⟨gt,0,none⟩) ((vint (val).length).length+(val).length) qt])) (by repeat (first | exact .here | apply Rem.there | apply Repl.there | apply Mem.there)) rfl (by simp [Value.single]) (by show l.length+1<=maxLen;unfold maxLen;omega) (by show (l.length+1) * 24<=140737488355328;omega) ⟨_,z79,rfl⟩ (fun v' hv'=>?_)
          refine .assign (.nil ?_)
          rw [<- htl]
          exact .joined (v',l++[(.slice (some ⟨gt,0,none⟩) (txtB val).length qt,txtB val)]) ⟨by simp only [List.map_append,hl,hv,if_true];rfl,fun h=>(by have:=(hv'.1 h).2;omega)⟩ (hI:=by simp only [List.length_append,List.length_cons,List.length_nil,List.map_append,List.map_cons,List.map_nil,List.reverse_append,List.reverse_cons,List.reverse_nil,List.nil_append,List.cons_append];exact Am.auto)
         ·refine .skip ?_
          exact .joined sk ⟨by rw [hsk.1,hv];simp,hsk.2⟩
        ·rintro sv hsv
         obtain ⟨hl,hnn⟩:=hsv
         have hfl:sv.2.flatMap (·.2)=encB ⟨hk,key,hv,val,time,off⟩ first:=by
          rw [show sv.2.flatMap (·.2)=(sv.2.map (·.2)).flatten by rw [List.flatMap_def],hl]
          unfold encB
          cases hk<;>cases hv<;>simp
         have hel:=xn (first:=first) hck
         have hll:1<=sv.2.length/\sv.2.length<=5:=by
          have:=congrArg List.length hl
          rw [List.length_map] at this
          rw [this]
          cases hk<;>cases hv<;>simp
         refine .next (.sr ?_)
         refine .rowOpen (v:=sv.1) (hx:=fun h=>by have:=congrArg List.length h;rw [List.length_map] at this;simp only [List.length_nil] at this;omega) fun A4 c4 hv4 hR4 h41 h42=>?_
         refine .cast (d:=8) rfl hv4 ?_
         refine .move ?_
         refine .call (hc:=Tryz.call225) (sp:=Pg (l:=sv.2) (bl:=sv.2.reverse) hR4 (fun p hp=>by simpa using hp) (by omega) (by rw [hfl];omega)) (h:=?_)
         rintro vj _ rfl
         rw [hfl]
         refine .assign (.assign (.z (.ret (?_))))
         exact .ret2 (h1:=.tmp (t:=4) rfl) (h2:=.tmp (t:=5) rfl) ⟨_,.inr ⟨hck,hE,vj,rfl,rfl⟩,Am.auto⟩
theorem z243 :ax Tryz.prog 243=some (#[.int .i64 0,.int .i64 0,.int .i64 0,.int .i64 0,.int .i64 0,.int .i64 0,.int .i64 0,.int .i64 0,.int .i64 0,.int .i64 0]):=by kernel_rfl
theorem R4 :dh Tryz.prog 243 10=true:=by kernel_rfl
theorem qa :ad Tryz.prog 44 0 0=true:=by kernel_rfl
theorem ow :ad Tryz.prog 44 1 1=true:=by kernel_rfl
theorem M8 :ad Tryz.prog 44 2 2=true:=by kernel_rfl
theorem M9 :ad Tryz.prog 44 3 3=true:=by kernel_rfl
theorem mi :ad Tryz.prog 44 4 4=true:=by kernel_rfl
theorem sc37 :ah Tryz.prog 37=true:=by kernel_rfl
theorem sl37 :Tryz.prog.underlying 37=some (.slice 95):=by kernel_rfl
theorem so37 :ar Tryz.prog 37 95 6 64=true:=by kernel_rfl
theorem z95 :ax Tryz.prog 95=some (#[.bool false,.string ⟨#[]⟩,.bool false,.string ⟨#[]⟩,.int .i64 0,.int .i64 0]):=by kernel_rfl
theorem ex :dh Tryz.prog 44 5=true:=by kernel_rfl
theorem z242 :ax Tryz.prog 242=some (#[.int .i64 0,.int .i64 0]):=by kernel_rfl
theorem ze :dh Tryz.prog 242 2=true:=by kernel_rfl
theorem tl :ad Tryz.prog 242 0 0=true:=by kernel_rfl
theorem tm :ad Tryz.prog 242 1 1=true:=by kernel_rfl
theorem Ib (a b:Int):bg Tryz.prog 242 [(0,.int .i64 a),(1,.int .i64 b)] #[.int .i64 a,.int .i64 b]:=fun w=>by kernel_rfl
abbrev Ba :Array Value:=#[.int .i64 16,.int .i64 8,.int .i64 24,.int .i64 8,.int .i64 32,.int .i64 4,.int .i64 36,.int .i64 4,.int .i64 40,.int .i64 8]
theorem R5 :bg Tryz.prog 243 [(0,.agg #[.int .i64 16,.int .i64 8]),(1,.agg #[.int .i64 24,.int .i64 8]),(2,.agg #[.int .i64 32,.int .i64 4]),(3,.agg #[.int .i64 36,.int .i64 4]),(4,.agg #[.int .i64 40,.int .i64 8])] Ba:=fun w=>by kernel_rfl
theorem R6 (w:World):(Instr.index 243 (.agg Ba) (.int .i64 0)).run Tryz.prog w=.ok (.agg #[.int .i64 16,.int .i64 8]) w:=by kernel_rfl
theorem R7 (w:World):(Instr.index 243 (.agg Ba) (.int .i64 1)).run Tryz.prog w=.ok (.agg #[.int .i64 24,.int .i64 8]) w:=by kernel_rfl
theorem R8 (w:World):(Instr.index 243 (.agg Ba) (.int .i64 2)).run Tryz.prog w=.ok (.agg #[.int .i64 32,.int .i64 4]) w:=by kernel_rfl
theorem R9 (w:World):(Instr.index 243 (.agg Ba) (.int .i64 3)).run Tryz.prog w=.ok (.agg #[.int .i64 36,.int .i64 4]) w:=by kernel_rfl
theorem Sa (w:World):(Instr.index 243 (.agg Ba) (.int .i64 4)).run Tryz.prog w=.ok (.agg #[.int .i64 40,.int .i64 8]) w:=by kernel_rfl
theorem jh :Spec Tryz.prog 161 #[] [] fun F v M=>v=.agg Ba/\M=F:=by
 refine Spec.intro Tryz.func161 rfl rfl fun B F=>?_
 simp only [Tryz.ntmps161,List.cons_append,List.nil_append,env0,Nat.reduceAdd]
 refine .sr ?_
 refine .alloc z243 fun b0=>?_
 refine .x ?_
 refine .build ?_ (Ib _ _)
 refine .build ?_ (Ib _ _)
 refine .build ?_ (Ib _ _)
 refine .build ?_ (Ib _ _)
 refine .build ?_ (Ib _ _)
 refine .build ?_ R5
 refine .stV ?_ R4
 refine .z (.ret (?_))
 exact .ret1 ⟨_,⟨rfl,rfl⟩,Am.auto⟩
def u64N (v:Int):Nat:=(IntKind.u64.wrap v).toNat
theorem Ph (v:Int):u64N v < 2 ^ 64:=by have:=A6 v;unfold u64N;omega
theorem Pi (v:Int):IntKind.u64.wrap v=((u64N v:Nat):Int):=by have:=A6 v;unfold u64N;omega
theorem Lv {a:Nat} (h:a < 2 ^ 64):u64N (a:Int)=a:=by unfold u64N;rw [jg h];rfl
theorem qc {R:HP} {A:Addr} {n c:Nat} {xs:aa} {p size v:Int} (hR:Reads R (some A) (bvs xs)) (hn:xs.length=n) (hl:n<=1073741824) (hs:1<=size/\size<=8) (h0:0<=p) (h1:p<=(n:Int) - size):Spec Tryz.prog 160 #[.slice (some A) n c,.int .i64 p,.int .i64 size,.int .i64 v] [R]
  fun F u M=>∃ g q,(u=.slice (some ⟨g,0,none⟩) n q/\n<=q/\q<=maxLen)/\M=buf g 5 q (bvs (put xs p.toNat size.toNat true (u64N v))) :: R :: F:=by
 refine Spec.intro Tryz.func160 rfl rfl fun B F=>?_
 simp only [Tryz.ntmps160,List.cons_append,List.nil_append,env0,Nat.reduceAdd]
 refine .sr (.assign (.x (.move (.move (.move (.move ?_))))))
 refine .cvt ?_ un3 gj
 refine .cast (d:=16) (u:=.int .u64 ((u64N v:Nat):Int)) rfl (cI9 (Pi v)) ?_
 refine .call (hc:=Tryz.call105) (sp:=mz (xs:=xs) (v:=u64N v) hR hn hl hs h0 h1 (Ph v)) (h:=?_)
 rintro _ _ ⟨gq,kq,⟨rfl,h1,h2⟩,rfl⟩
 refine .move ?_
 refine .extract (.extract ?_)
 refine .assign (.assign (.x (.move (.assign (.z ?_)))))
 refine .ret (?_)
 exact .ret1 (h1:=.tmp (t:=8) rfl) ⟨_,⟨gq,kq,⟨rfl,h1,h2⟩,rfl⟩,Am.auto⟩
structure Bt where
 base:Int
 span:Int
 prod:Int
 seq:Int
 recs:List Rc
def Bt.v (b:Bt) (s:Value):List Value:=[.int .i64 b.base,.int .i64 b.span,.int .i64 b.prod,.int .i64 b.seq,s]
def Bt.rv (b:Bt):List Value:=b.recs.flatMap Rc.v
def ef (b:Bt):Bool:=decide (b.base < 0) || (decide (1125899906842624 < b.base) || (decide (b.span < 1) || (decide (100 < b.span) || (decide (b.prod < 0) || (decide (b.seq < 0) || decide (((b.recs.length:Nat):Int)=0))))))
def Ef (b:Bt) (i:Nat):Int:=((b.recs[i]?).map Rc.off).getD 0
def ml (b:Bt) (i:Nat):Bool:=!(decide (b.span<=Ef b i) || (decide ((0:Int) < ((i:Nat):Int)) && decide (Ef b i<=Ef b (i - 1))))
def ia (b:Bt):Bool:=!ef b && (List.range b.recs.length).all (ml b)
theorem ib {b:Bt} (h:ef b=true):false=ia b:=by unfold ia;rw [h];rfl
theorem Cw {b:Bt} {i:Nat} (hi:i < b.recs.length) (h:ml b i=false):false=ia b:=by
 unfold ia
 have:(List.range b.recs.length).all (ml b)=false:=by
  rw [List.all_eq_false]
  exact ⟨i,List.mem_range.2 hi,by simp [h]⟩
 rw [this,Bool.and_false]
theorem Cy {b:Bt} (h0:ef b=false) (h:∀ j,j < b.recs.length->ml b j=true):true=ia b:=by
 unfold ia
 rw [h0,List.all_eq_true.2 fun j hj=>h j (List.mem_range.1 hj)]
 rfl
theorem xo {b:Bt} {i:Nat} {r:Rc} (h:b.recs[i]?=some r):Ef b i=r.off:=by unfold Ef;rw [h];rfl
theorem Eg {R:HP} {A:Option Addr} {c:Nat} {b:Bt} (hR:Reads R A b.rv) (hl:b.recs.length<=1073741824):Spec Tryz.prog 159 #[.agg (b.v (.slice A b.recs.length c)).toArray] [R] fun F v M=>v=.bool (ia b)/\M=R :: F:=by
 refine Spec.intro Tryz.func159 rfl rfl fun B F=>?_
 simp only [Tryz.ntmps159,List.cons_append,List.nil_append,env0,Nat.reduceAdd]
 refine .sr ?_
 refine .box fun b1=>?_
 refine .assign (.z (.seq (.sr ?_)))
 refine .fa ?_ qa
 refine .ld ?_ sc3
 refine .lss ?_
 refine .move ?_
 refine .split (t:=8) rfl (fun h1=>?_) (fun h1=>?_)
 ·refine .gF (.gF (.gF (.pickT (.move (.gF ?_)))))
  refine .gF (.gF (.pickT (.move (.gF (.gF ?_)))))
  refine .gF (.pickT (.move (.gF (.gF (.gF ?_)))))
  refine .pickT (.move (.gF (.gF (.gF (.pickT ?_)))))
  refine .move (.gF (.gF (.gF (.gF (.pickT ?_)))))
  refine .z ?_
  refine .condT rfl rfl ?_
  refine .sr (.assign (.z ?_))
  refine .ret (.thenRet (?_))
  exact .ret1 (h1:=.tmp (t:=2) rfl) ⟨_,⟨cB9 (ib (by simp only [ef,show _=true from h1,Bool.or_true,Bool.true_or])),rfl⟩,Am.auto⟩
 ·refine .gT ?_
  refine .fa ?_ qa
  refine .gT ?_
  refine .ld ?_ sc3
  refine .gT ?_
  refine .gtr ?_
  refine .pickF (.move ?_)
  refine .split (t:=13) rfl (fun h2=>?_) (fun h2=>?_)
  ·refine .gF (.gF (.gF (.pickT (.move (.gF ?_)))))
   refine .gF (.gF (.pickT (.move (.gF (.gF ?_)))))
   refine .gF (.pickT (.move (.gF (.gF (.gF ?_)))))
   refine .pickT (.move (.gF (.gF (.gF (.gF ?_)))))
   refine .pickT (.z ?_)
   refine .condT rfl rfl ?_
   refine .sr (.assign (.z ?_))
   refine .ret (.thenRet (?_))
   exact .ret1 (h1:=.tmp (t:=2) rfl) ⟨_,⟨cB9 (ib (by simp only [ef,show _=true from h2,Bool.or_true,Bool.true_or])),rfl⟩,Am.auto⟩
  ·refine .gT ?_
   refine .fa ?_ ow
   refine .gT ?_
   refine .ld ?_ sc3
   refine .gT ?_
   refine .lss ?_
   refine .pickF (.move ?_)
   refine .split (t:=18) rfl (fun h3=>?_) (fun h3=>?_)
   ·refine .gF (.gF (.gF (.pickT (.move (.gF ?_)))))
    refine .gF (.gF (.pickT (.move (.gF (.gF ?_)))))
    refine .gF (.pickT (.move (.gF (.gF (.gF ?_)))))
    refine .gF (.pickT (.z ?_))
    refine .condT rfl rfl ?_
    refine .sr (.assign (.z ?_))
    refine .ret (.thenRet (?_))
    exact .ret1 (h1:=.tmp (t:=2) rfl) ⟨_,⟨cB9 (ib (by simp only [ef,show _=true from h3,Bool.or_true,Bool.true_or])),rfl⟩,Am.auto⟩
   ·refine .gT ?_
    refine .fa ?_ ow
    refine .gT ?_
    refine .ld ?_ sc3
    refine .gT ?_
    refine .gtr ?_
    refine .pickF (.move ?_)
    refine .split (t:=23) rfl (fun h4=>?_) (fun h4=>?_)
    ·refine .gF (.gF (.gF (.pickT (.move (.gF ?_)))))
     refine .gF (.gF (.pickT (.move (.gF (.gF ?_)))))
     refine .gF (.gF (.pickT (.z ?_)))
     refine .condT rfl rfl ?_
     refine .sr (.assign (.z ?_))
     refine .ret (.thenRet (?_))
     exact .ret1 (h1:=.tmp (t:=2) rfl) ⟨_,⟨cB9 (ib (by simp only [ef,show _=true from h4,Bool.or_true,Bool.true_or])),rfl⟩,Am.auto⟩
    ·refine .gT ?_
     refine .fa ?_ M8
     refine .gT ?_
     refine .ld ?_ sc3
     refine .gT ?_
     refine .lss ?_
     refine .pickF (.move ?_)
     refine .split (t:=28) rfl (fun h5=>?_) (fun h5=>?_)
     ·refine .gF (.gF (.gF (.pickT (.move (.gF ?_)))))
      refine .gF (.gF (.gF (.pickT (.z ?_))))
      refine .condT rfl rfl ?_
      refine .sr (.assign (.z ?_))
      refine .ret (.thenRet (?_))
      exact .ret1 (h1:=.tmp (t:=2) rfl) ⟨_,⟨cB9 (ib (by simp only [ef,show _=true from h5,Bool.or_true,Bool.true_or])),rfl⟩,Am.auto⟩
     ·refine .gT ?_
      refine .fa ?_ M9
      refine .gT ?_
      refine .ld ?_ sc3
      refine .gT ?_
      refine .lss ?_
      refine .pickF (.move ?_)
      refine .split (t:=33) rfl (fun h6=>?_) (fun h6=>?_)
      ·refine .gF (.gF (.gF (.gF (.pickT (.z ?_)))))
       refine .condT rfl rfl ?_
       refine .sr (.assign (.z ?_))
       refine .ret (.thenRet (?_))
       exact .ret1 (h1:=.tmp (t:=2) rfl) ⟨_,⟨cB9 (ib (by simp only [ef,show _=true from h6,Bool.or_true,Bool.true_or])),rfl⟩,Am.auto⟩
      ·refine .gT ?_
       refine .fa ?_ mi
       refine .gT ?_
       refine .ld ?_ sc37
       refine .gT ?_
       refine .lenS ?_ sl37
       refine .gT ?_
       refine .eqi ?_
       refine .pickF (.z ?_)
       refine .cond rfl (fun h7=>?_) (fun h7=>?_)
       ·refine .sr (.assign (.z ?_))
        refine .ret (.thenRet (?_))
        exact .ret1 (h1:=.tmp (t:=2) rfl) ⟨_,⟨cB9 (ib (by simp only [ef,show _=true from h7,Bool.or_true])),rfl⟩,Am.auto⟩
       ·have hhead:ef b=false:=by simp only [ef,show decide (b.base < 0)=false from h1,show decide (1125899906842624 < b.base)=false from h2,show decide (b.span < 1)=false from h3,show decide (100 < b.span)=false from h4,show decide (b.prod < 0)=false from h5,show decide (b.seq < 0)=false from h6,show decide (((b.recs.length:Nat):Int)=0)=false from h7,Bool.or_false]
        have hpos:0 < b.recs.length:=by have h:¬ ((b.recs.length:Nat):Int)=0:=of_decide_eq_false h7;omega
        obtain ⟨ab,ao,rfl⟩:∃ ab ao,A=some ⟨ab,ao,none⟩:=by
         cases A with
         | none =>
          have h0:b.rv=[]:=hR
          have h1:=a7 Rc.v_len b.recs
          rw [show b.recs.flatMap Rc.v=[] from h0] at h1
          simp at h1
          omega
         | some a =>
          obtain ⟨x,y,z⟩:=a
          have:z=none:=hR.1
          subst this
          exact ⟨x,y,rfl⟩
        refine .skip (.next (.seq (.sr ?_)))
        refine .fa ?_ mi
        refine .ld ?_ sc37
        refine .lenS ?_ sl37
        refine .move (.z (.block ?_))
        refine .loopA (σ:=Nat) (fun i=>[(1,.pointer (some ⟨b1,0,none⟩)),(40,.slice (some ⟨ab,ao,none⟩) b.recs.length c),(41,.int .i64 ((b.recs.length:Nat):Int)),(42,.int .i64 ((i:Nat):Int))]) (fun _=>[pt b1 (.cells #[.int .i64 b.base,.int .i64 b.span,.int .i64 b.prod,.int .i64 b.seq,.slice (some ⟨ab,ao,none⟩) b.recs.length c] 44 (0,0)),R]++F) (fun i=>i<=b.recs.length/\∀ j,j < i->ml b j=true) (fun i=>b.recs.length - i) 0 ⟨Nat.zero_le _,fun j hj=>absurd hj (Nat.not_lt_zero _)⟩ ?_
        rintro i hp
        refine .sr ?_
        refine .lss ?_
        refine .z (.seq ?_)
        refine .cond rfl (fun hd=>?_) (fun hd=>?_)
        ·have hil:i < b.recs.length:=by have h:(i:Int) < ((b.recs.length:Nat):Int):=of_decide_eq_true hd;omega
         obtain ⟨r,hr⟩:∃ r,b.recs[i]?=some r:=⟨_,List.getElem?_eq_getElem hil⟩
         have hoi:=xo hr
         refine .skip (.next (.seq (.block (.sr (.move ?_)))))
         refine .idx ?_ so37
         refine .ldAR (i:=i * 6) (us:=r.v) ?_ ti hR (g8 Rc.v_len _ _ _ hr) (jx Rc.v_len hil)
         refine .alloc z95 fun b4=>?_
         refine .assign ?_
         refine .stV ?_ ti
         refine .z (.seq ?_)
         cases h8:decide (b.span<=r.off) with
         | false =>
          cases h9:decide ((0:Int) < ((i:Nat):Int)) with
          | false =>
           refine .dr ([pt b1 (.cells #[.int .i64 b.base,.int .i64 b.span,.int .i64 b.prod,.int .i64 b.seq,.slice (some ⟨ab,ao,none⟩) b.recs.length c] 44 (0,0)),pt b4 (.cells r.v.toArray 95 (0,0)),R]) [] 21 mixed .autoJ ?_
           refine .tk 0 rfl (.fa ou) ?_
           refine .tk 1 rfl (.ld sc3) ?_
           refine .tk 2 rfl (.fa ow) ?_
           refine .tk 3 rfl (.ld sc3) ?_
           refine .tk 4 rfl ((Qt.geq).eq (cB9 h8)) ?_
           refine .tk 5 rfl .move ?_
           refine .tn 6 rfl .move ?_
           refine .tn 7 rfl ((Qt.gtr).eq (cB9 h9)) ?_
           refine .tn 8 rfl .move ?_
           refine .tf 9 rfl ?_
           refine .tf 10 rfl ?_
           refine .tf 11 rfl ?_
           refine .tf 12 rfl ?_
           refine .tf 13 rfl ?_
           refine .tf 14 rfl ?_
           refine .tf 15 rfl ?_
           refine .tf 16 rfl ?_
           refine .tf 17 rfl ?_
           refine .tf 18 rfl ?_
           refine .tn 19 rfl .pickF ?_
           refine .tk 20 rfl .pickF ?_
           refine .fin ?_
           refine .next ?_
           refine .condF rfl rfl ?_
           refine .skip (.blockNormal (.next (.region ?_)))
           refine .add ?_
           refine .move (.nil ?_)
           exact .back (i+1) ⟨hil,fun j hj=>if h:j < i then hp.2 j h else (by rw [show j=i from by omega];simp only [ml,hoi,h8,h9,Bool.false_and,Bool.and_false,Bool.or_false,Bool.false_or,Bool.true_and,Bool.not_false])⟩ (by omega)
          | true =>
           obtain ⟨q,hq⟩:∃ q,b.recs[i - 1]?=some q:=⟨_,List.getElem?_eq_getElem (by omega)⟩
           have hoq:=xo hq
           have hi0:0 < i:=by have h:(0:Int) < (i:Int):=of_decide_eq_true h9;omega
           have hcell:b.rv[(i - 1) * 6+5]?=some (.int .i64 q.off):=by
            have h1:=g8 Rc.v_len _ _ _ hq
            have h2:(((b.recs.flatMap Rc.v).drop ((i - 1) * 6)).take 6)[5]?=some (.int .i64 q.off):=by rw [h1];rfl
            rw [List.getElem?_take,if_pos (by decide),List.getElem?_drop] at h2
            exact h2
           refine .dr ([pt b1 (.cells #[.int .i64 b.base,.int .i64 b.span,.int .i64 b.prod,.int .i64 b.seq,.slice (some ⟨ab,ao,none⟩) b.recs.length c] 44 (0,0)),pt b4 (.cells r.v.toArray 95 (0,0)),R]) [] 21 mixed .autoJ ?_
           refine .tk 0 rfl (.fa ou) ?_
           refine .tk 1 rfl (.ld sc3) ?_
           refine .tk 2 rfl (.fa ow) ?_
           refine .tk 3 rfl (.ld sc3) ?_
           refine .tk 4 rfl ((Qt.geq).eq (cB9 h8)) ?_
           refine .tk 5 rfl .move ?_
           refine .tn 6 rfl .move ?_
           refine .tn 7 rfl ((Qt.gtr).eq (cB9 h9)) ?_
           refine .tn 8 rfl .move ?_
           refine .tn 9 rfl (.fa ou) ?_
           refine .tn 10 rfl (.ld sc3) ?_
           refine .tn 11 rfl (.fa mi) ?_
           refine .tn 12 rfl (.ld sc37) ?_
           refine .tn 13 rfl .move ?_
           refine .tn 14 rfl .sub ?_
           refine .tn 15 rfl (.idx so37) ?_
           refine .tn 16 rfl ((Qt.fa ou).eq (congrArg (fun z=>Value.pointer (some ⟨ab,z,none⟩)) (show ao+(((i:Nat):Int) - 1).toNat * 6+5=ao+((i - 1) * 6+5) by omega))) ?_
           refine .tn 17 rfl (Qt.ldR sc3 hR hcell) ?_
           refine .tn 18 rfl .leq ?_
           refine .tn 19 rfl .pickT ?_
           refine .tk 20 rfl .pickF ?_
           refine .fin ?_
           refine .next ?_
           refine .cond rfl (fun h10=>?_) (fun h10=>?_)
           ·refine .sr (.assign (.z ?_))
            refine .ret (.blockRet (.thenRet (.thenRet (.blockRet (.thenRet (?_))))))
            exact .ret1 (h1:=.tmp (t:=2) rfl) ⟨_,⟨cB9 (Cw hil (by simp only [ml,hoi,h8,h9,hoq,show decide (r.off<=q.off)=true from h10,Bool.true_or,Bool.or_true,Bool.and_true,Bool.true_and,Bool.false_or,Bool.not_true])),rfl⟩,Am.auto⟩
           ·refine .skip (.blockNormal (.next (.region ?_)))
            refine .add ?_
            refine .move (.nil ?_)
            exact .back (i+1) ⟨hil,fun j hj=>if h:j < i then hp.2 j h else (by rw [show j=i from by omega];simp only [ml,hoi,h8,h9,hoq,show decide (r.off<=q.off)=false from h10,Bool.false_and,Bool.and_false,Bool.or_false,Bool.false_or,Bool.true_and,Bool.not_false])⟩ (by omega)
         | true =>
          refine .dr ([pt b1 (.cells #[.int .i64 b.base,.int .i64 b.span,.int .i64 b.prod,.int .i64 b.seq,.slice (some ⟨ab,ao,none⟩) b.recs.length c] 44 (0,0)),pt b4 (.cells r.v.toArray 95 (0,0)),R]) [] 21 mixed .autoJ ?_
          refine .tk 0 rfl (.fa ou) ?_
          refine .tk 1 rfl (.ld sc3) ?_
          refine .tk 2 rfl (.fa ow) ?_
          refine .tk 3 rfl (.ld sc3) ?_
          refine .tk 4 rfl ((Qt.geq).eq (cB9 h8)) ?_
          refine .tk 5 rfl .move ?_
          refine .tf 6 rfl ?_
          refine .tf 7 rfl ?_
          refine .tf 8 rfl ?_
          refine .tu 9 rfl ?_
          refine .tu 10 rfl ?_
          refine .tu 11 rfl ?_
          refine .tu 12 rfl ?_
          refine .tu 13 rfl ?_
          refine .tu 14 rfl ?_
          refine .tu 15 rfl ?_
          refine .tu 16 rfl ?_
          refine .tu 17 rfl ?_
          refine .tu 18 rfl ?_
          refine .tf 19 rfl ?_
          refine .tk 20 rfl .pickT ?_
          refine .fin ?_
          refine .next ?_
          refine .condT rfl rfl ?_
          refine .sr (.assign (.z ?_))
          refine .ret (.blockRet (.thenRet (.thenRet (.blockRet (.thenRet (?_))))))
          exact .ret1 (h1:=.tmp (t:=2) rfl) ⟨_,⟨cB9 (Cw hil (by simp only [ml,hoi,h8,Bool.true_or,Bool.or_true,Bool.and_true,Bool.true_and,Bool.false_or,Bool.not_true])),rfl⟩,Am.auto⟩
        ·have hge:i=b.recs.length:=by have h:¬ (i:Int) < ((b.recs.length:Nat):Int):=of_decide_eq_false hd;omega
         subst hge
         refine .exit (.thenExit (.thenExit (.blockExit (?_))))
         refine .next (.sr (.assign (.z (.ret (?_)))))
         exact .ret1 (h1:=.tmp (t:=2) rfl) ⟨_,⟨cB9 (Cy hhead hp.2),rfl⟩,Am.auto⟩
def ba (b:Bt):Int:=((b.recs[0]?).map Rc.time).getD 0
def ck (b:Bt):aa:=put (put (put (put (put (put (List.replicate 48 0) 0 8 true (u64N b.base)) 16 8 true (u64N b.prod)) 24 8 true (u64N b.seq)) 32 4 true (u64N b.span)) 36 4 true (u64N ((b.recs.length:Nat):Int))) 40 8 true (u64N (ba b))
theorem fh (b:Bt):(ck b).length=48:=by simp only [ck,bi];rfl
def io :List Rc->Int
 | []=>0
 | r :: l=>if ckE r=0 then io l else ckE r
theorem tp {l:List Rc} (h:∀ r∈l,ckE r=0):io l=0:=by
 induction l with
 | nil=>rfl
 | cons r l ih=>rw [io,if_pos (h r (List.mem_cons_self ..))];exact ih fun x hx=>h x (List.mem_cons_of_mem _ hx)
theorem Bb :∀ {l:List Rc} {i:Nat} {r:Rc},l[i]?=some r->(∀ j x,j < i->l[j]?=some x->ckE x=0)->ckE r≠0->io l=ckE r:=by
 intro l
 induction l with
 | nil=>intro i r h;cases h
 | cons y l ih =>
  intro i r h hb hr
  cases i with
  | zero =>
   simp only [List.getElem?_cons_zero,Option.some.injEq] at h
   subst h
   rw [io,if_neg hr]
  | succ i =>
   rw [io,if_pos (hb 0 y (Nat.succ_pos _) rfl)]
   exact ih (by simpa using h) (fun j x hj hx=>hb (j+1) x (Nat.succ_lt_succ hj) (by simpa using hx)) hr
def ox (b:Bt):Int:=if ia b then io b.recs else 1
def gi (b:Bt):aa:=ck b++b.recs.flatMap fun r=>encB r (ba b)
def ip (b:Bt):aa:=put (gi b) 8 4 true (u64N (((gi b).length:Int) - 12))
def batB (b:Bt):aa:=put (ip b) 12 4 true (crcI ((ip b).drop 16)).toNat
def batE (b:Bt):Int:=if ox b=0 then (if 6000 < (batB b).length then 2 else 0) else ox b
theorem Cz (b:Bt):(batB b).length=(gi b).length:=by unfold batB ip;rw [bi,bi]
theorem C0 {f:Int} {l:List Rc} (h:∀ r∈l,ckE r=0):(l.flatMap fun r=>encB r f).length<=4100 * l.length:=by
 induction l with
 | nil=>simp
 | cons r l ih =>
  rw [List.flatMap_cons,List.length_append,List.length_cons]
  have h1:=xn (first:=f) (h r (List.mem_cons_self ..))
  have h2:=ih fun x hx=>h x (List.mem_cons_of_mem _ hx)
  omega
theorem Pj {r:Rc} {f:Int} (h:ckE r=0) (hf:0<=f/\f<=1125899906842624):encE r f=0:=by unfold encE;rw [if_pos h,if_neg (by omega)]
theorem Lw (r:Rc) (f:Int):1<=(encB r f).length:=by unfold encB flB;simp
theorem zf {a:Nat} (h:a < 2 ^ 63):IntKind.i64.wrap ((a:Nat):Int)=(a:Int):=by
 simp only [IntKind.wrap,IntKind.bits,IntKind.signed]
 simp
 omega
theorem bsI5 (v0 v1 v2 v3 v4:Int):az Tryz.prog 26 5 [(0,.int .i64 v0),(1,.int .i64 v1),(2,.int .i64 v2),(3,.int .i64 v3),(4,.int .i64 v4)] 3 #[.int .i64 v0,.int .i64 v1,.int .i64 v2,.int .i64 v3,.int .i64 v4]:=fun w=>by kernel_rfl
theorem Pk {R:HP} {A:Option Addr} {c:Nat} {b:Bt} (hR:Reads R A b.rv) (hl:b.recs.length<=10000):Spec Tryz.prog 88 #[.agg (b.v (.slice A b.recs.length c)).toArray] [R]
  fun F v M=>(ox b≠0/\v=.tuple #[.slice none 0 0,.int .i64 (ox b)]/\M=R :: F) ∨
   (ox b=0/\∃ g q,(v=.tuple #[.slice (some ⟨g,0,none⟩) (batB b).length q,.int .i64 0]/\(batB b).length<=q/\q<=maxLen)/\M=buf g 5 q (bvs (batB b)) :: R :: F):=by
 refine Spec.intro Tryz.func88 rfl rfl fun B F=>?_
 simp only [Tryz.ntmps88,List.cons_append,List.nil_append,env0,Nat.reduceAdd]
 refine .sr ?_
 refine .box fun b1=>?_
 refine .assign (.assign (.z (.seq (.sr ?_))))
 refine .ldA ?_ ex
 refine .call (hc:=Tryz.call159) (sp:=Eg hR (by omega)) (h:=?_)
 rintro _ _ ⟨rfl,rfl⟩
 refine .not ?_
 refine .z ?_
 refine .cond rfl (fun he=>?_) (fun he=>?_)
 ·have ho:ia b=false:=by simpa using he
  have hE:ox b=1:=by unfold ox;rw [if_neg (by simp [ho])]
  refine .sr (.assign (.assign (.z ?_)))
  refine .ret (.thenRet (?_))
  exact .ret2 (h1:=.tmp (t:=2) rfl) (h2:=.tmp (t:=3) rfl) ⟨_,.inl ⟨by rw [hE];decide,by rw [hE],rfl⟩,Am.auto⟩
 ·have ho:ia b=true:=by simpa using he
  have hE:ox b=io b.recs:=by unfold ox;rw [if_pos ho]
  have hpos:0 < b.recs.length:=by
   rcases Nat.eq_zero_or_pos b.recs.length with h | h
   ·unfold ia ef at ho
    rw [h] at ho
    simp at ho
   ·exact h
  obtain ⟨ab,ao,rfl⟩:∃ ab ao,A=some ⟨ab,ao,none⟩:=by
   cases A with
   | none =>
    have h0:b.rv=[]:=hR
    have h1:=a7 Rc.v_len b.recs
    rw [show b.recs.flatMap Rc.v=[] from h0] at h1
    simp at h1
    omega
   | some a =>
    obtain ⟨x,y,z⟩:=a
    have:z=none:=hR.1
    subst this
    exact ⟨x,y,rfl⟩
  obtain ⟨r0,hr0⟩:∃ r,b.recs[0]?=some r:=⟨_,List.getElem?_eq_getElem hpos⟩
  have hft:ba b=r0.time:=by unfold ba;rw [hr0];rfl
  have hcell:b.rv[4]?=some (.int .i64 (ba b)):=by
   have h1:=g8 Rc.v_len _ _ _ hr0
   rw [hft]
   have h2:(((b.recs.flatMap Rc.v).drop (0 * 6)).take 6)[4]?=some (.int .i64 r0.time):=by rw [h1];rfl
   rw [List.getElem?_take,if_pos (by decide),List.getElem?_drop] at h2
   exact h2
  refine .skip (.next (.sr ?_))
  refine .fa ?_ mi
  refine .ld ?_ sc37
  refine .idx ?_ so37
  refine .fa ?_ zd
  refine .ldR (i:=4) ?_ sc3 hR hcell
  refine .assign (.z (.seq ?_))
  refine .dr ([pt b1 (.cells #[.int .i64 b.base,.int .i64 b.span,.int .i64 b.prod,.int .i64 b.seq,.slice (some ⟨ab,ao,none⟩) b.recs.length c] 44 (0,0))]) [] 5 mixed .autoJ ?_
  refine .tk 1 rfl (.fa qa) ?_
  refine .tk 2 rfl (.ld sc3) ?_
  refine .on 0 rfl fun hnp=>?_
  refine .mkSN 48 z5 so79 (by decide) (by decide) fun b24=>?_
  refine .to (A':=buf b24 5 48 (bvs (List.replicate 48 0))) (fun h hh=>by rw [show bvs (List.replicate 48 0)=List.replicate 48 (.int .u8 0) by simp [bvs,bv]];exact hh) ?_
  refine .nil (.wa hnp ?_)
  refine .on 3 rfl fun hnp=>?_
  refine .call (hc:=Tryz.call160) (sp:=qc (xs:=List.replicate 48 0) (v:=b.base) Reads.buf rfl (by decide) (by decide) (by decide) (by decide)) (h:=?_)
  rintro _ _ ⟨g0,q0,⟨rfl,h0a,h0b⟩,rfl⟩
  refine .nil (.wa hnp ?_)
  refine .tk 4 rfl .assign ?_
  refine .fin ?_
  refine .next (.seq (.sr ?_))
  refine .fa ?_ M8
  refine .ld ?_ sc3
  refine .fa ?_ M9
  refine .ld ?_ sc3
  refine .fa ?_ ow
  refine .ld ?_ sc3
  refine .fa ?_ mi
  refine .ld ?_ sc37
  refine .lenS ?_ sl37
  refine .move ?_
  refine .buildS (fun b38=>?_) (bsI5 _ _ _ _ _)
  refine .lenS ?_ sl26
  refine .move (.z (.block ?_))
  refine .loopN 6 (RC.succ ?_)
  refine .sr ?_
  refine .lss ?_
  refine .z (.seq ?_)
  refine .condT rfl rfl ?_
  refine .skip (.next (.seq (.block (.sr (.move ?_)))))
  refine .idx1 ?_ so26
  refine .ld ?_ sc3
  refine .assign (.assign (.x ?_))
  refine .call (hc:=Tryz.call161) (sp:=jh) (h:=?_)
  rintro _ _ ⟨rfl,rfl⟩
  refine .move ?_
  refine .ixF ?_ R6
  refine .alloc z242 fun b8_0=>?_
  refine .stV ?_ ze
  refine .y (.move ?_)
  refine .fa ?_ tl
  refine .ld ?_ sc3
  refine .fa ?_ tm
  refine .ld ?_ sc3
  refine .move ?_
  refine .call (hc:=Tryz.call160) (sp:=qc (xs:=put (List.replicate 48 0) 0 8 true (u64N (b.base))) (v:=b.prod) Reads.buf (by simp only [bi,List.length_replicate]) (by decide) (by decide) (by decide) (by decide)) (h:=?_)
  rintro _ _ ⟨g1,q1,⟨rfl,h1a,h1b⟩,rfl⟩
  refine .assign (.nil (.blockNormal (.next (.region ?_))))
  refine .add ?_
  refine .move (.nil ?_)
  refine .again (RC.succ ?_)
  refine .sr ?_
  refine .lss ?_
  refine .z (.seq ?_)
  refine .condT rfl rfl ?_
  refine .skip (.next (.seq (.block (.sr (.move ?_)))))
  refine .idx1 ?_ so26
  refine .ld ?_ sc3
  refine .assign (.assign (.x ?_))
  refine .call (hc:=Tryz.call161) (sp:=jh) (h:=?_)
  rintro _ _ ⟨rfl,rfl⟩
  refine .move ?_
  refine .ixF ?_ R7
  refine .alloc z242 fun b8_1=>?_
  refine .stV ?_ ze
  refine .y (.move ?_)
  refine .fa ?_ tl
  refine .ld ?_ sc3
  refine .fa ?_ tm
  refine .ld ?_ sc3
  refine .move ?_
  refine .call (hc:=Tryz.call160) (sp:=qc (xs:=put (put (List.replicate 48 0) 0 8 true (u64N (b.base))) 16 8 true (u64N (b.prod))) (v:=b.seq) Reads.buf (by simp only [bi,List.length_replicate]) (by decide) (by decide) (by decide) (by decide)) (h:=?_)
  rintro _ _ ⟨g2,q2,⟨rfl,h2a,h2b⟩,rfl⟩
  refine .assign (.nil (.blockNormal (.next (.region ?_))))
  refine .add ?_
  refine .move (.nil ?_)
  refine .again (RC.succ ?_)
  refine .sr ?_
  refine .lss ?_
  refine .z (.seq ?_)
  refine .condT rfl rfl ?_
  refine .skip (.next (.seq (.block (.sr (.move ?_)))))
  refine .idx1 ?_ so26
  refine .ld ?_ sc3
  refine .assign (.assign (.x ?_))
  refine .call (hc:=Tryz.call161) (sp:=jh) (h:=?_)
  rintro _ _ ⟨rfl,rfl⟩
  refine .move ?_
  refine .ixF ?_ R8
  refine .alloc z242 fun b8_2=>?_
  refine .stV ?_ ze
  refine .y (.move ?_)
  refine .fa ?_ tl
  refine .ld ?_ sc3
  refine .fa ?_ tm
  refine .ld ?_ sc3
  refine .move ?_
  refine .call (hc:=Tryz.call160) (sp:=qc (xs:=put (put (put (List.replicate 48 0) 0 8 true (u64N (b.base))) 16 8 true (u64N (b.prod))) 24 8 true (u64N (b.seq))) (v:=b.span) Reads.buf (by simp only [bi,List.length_replicate]) (by decide) (by decide) (by decide) (by decide)) (h:=?_)
  rintro _ _ ⟨g3,q3,⟨rfl,h3a,h3b⟩,rfl⟩
  refine .assign (.nil (.blockNormal (.next (.region ?_))))
  refine .add ?_
  refine .move (.nil ?_)
  refine .again (RC.succ ?_)
  refine .sr ?_
  refine .lss ?_
  refine .z (.seq ?_)
  refine .condT rfl rfl ?_
  refine .skip (.next (.seq (.block (.sr (.move ?_)))))
  refine .idx1 ?_ so26
  refine .ld ?_ sc3
  refine .assign (.assign (.x ?_))
  refine .call (hc:=Tryz.call161) (sp:=jh) (h:=?_)
  rintro _ _ ⟨rfl,rfl⟩
  refine .move ?_
  refine .ixF ?_ R9
  refine .alloc z242 fun b8_3=>?_
  refine .stV ?_ ze
  refine .y (.move ?_)
  refine .fa ?_ tl
  refine .ld ?_ sc3
  refine .fa ?_ tm
  refine .ld ?_ sc3
  refine .move ?_
  refine .call (hc:=Tryz.call160) (sp:=qc (xs:=put (put (put (put (List.replicate 48 0) 0 8 true (u64N (b.base))) 16 8 true (u64N (b.prod))) 24 8 true (u64N (b.seq))) 32 4 true (u64N (b.span))) (v:=((b.recs.length:Nat):Int)) Reads.buf (by simp only [bi,List.length_replicate]) (by decide) (by decide) (by decide) (by decide)) (h:=?_)
  rintro _ _ ⟨g4,q4,⟨rfl,h4a,h4b⟩,rfl⟩
  refine .assign (.nil (.blockNormal (.next (.region ?_))))
  refine .add ?_
  refine .move (.nil ?_)
  refine .again (RC.succ ?_)
  refine .sr ?_
  refine .lss ?_
  refine .z (.seq ?_)
  refine .condT rfl rfl ?_
  refine .skip (.next (.seq (.block (.sr (.move ?_)))))
  refine .idx1 ?_ so26
  refine .ld ?_ sc3
  refine .assign (.assign (.x ?_))
  refine .call (hc:=Tryz.call161) (sp:=jh) (h:=?_)
  rintro _ _ ⟨rfl,rfl⟩
  refine .move ?_
  refine .ixF ?_ Sa
  refine .alloc z242 fun b8_4=>?_
  refine .stV ?_ ze
  refine .y (.move ?_)
  refine .fa ?_ tl
  refine .ld ?_ sc3
  refine .fa ?_ tm
  refine .ld ?_ sc3
  refine .move ?_
  refine .call (hc:=Tryz.call160) (sp:=qc (xs:=put (put (put (put (put (List.replicate 48 0) 0 8 true (u64N (b.base))) 16 8 true (u64N (b.prod))) 24 8 true (u64N (b.seq))) 32 4 true (u64N (b.span))) 36 4 true (u64N (((b.recs.length:Nat):Int)))) (v:=ba b) Reads.buf (by simp only [bi,List.length_replicate]) (by decide) (by decide) (by decide) (by decide)) (h:=?_)
  rintro _ _ ⟨g5,q5,⟨rfl,h5a,h5b⟩,rfl⟩
  refine .assign (.nil (.blockNormal (.next (.region ?_))))
  refine .add ?_
  refine .move (.nil ?_)
  refine .again (RC.succ ?_)
  refine .sr ?_
  refine .lss ?_
  refine .z (.seq ?_)
  refine .condF rfl rfl ?_
  refine .exit (.thenExit (.thenExit (.blockExit (?_))))
  refine .next (.seq (.sr ?_))
  refine .fa ?_ mi
  refine .ld ?_ sc37
  refine .lenS ?_ sl37
  refine .move (.z (.block ?_))
  refine .to (A:=buf g5 5 q5 (bvs (put (put (put (put (put (put (List.replicate 48 0) 0 8 true (u64N (b.base))) 16 8 true (u64N (b.prod))) 24 8 true (u64N (b.seq))) 32 4 true (u64N (b.span))) 36 4 true (u64N (((b.recs.length:Nat):Int)))) 40 8 true (u64N (ba b))))) (A':=buf g5 5 q5 (bvs (ck b))) (fun h hh=>hh) ?_
  refine .loopA (σ:=Nat) (fun i=>[(1,.pointer (some ⟨b1,0,none⟩)),(4,.int .i64 (ba b)),(5,.slice (some ⟨g5,0,none⟩) 48 q5),(57,.slice (some ⟨ab,ao,none⟩) b.recs.length c),(58,.int .i64 ((b.recs.length:Nat):Int)),(59,.int .i64 ((i:Nat):Int))]) (fun _=>[pt b1 (.cells #[.int .i64 b.base,.int .i64 b.span,.int .i64 b.prod,.int .i64 b.seq,.slice (some ⟨ab,ao,none⟩) b.recs.length c] 44 (0,0)),buf g5 5 q5 (bvs (ck b)),R]++F) (fun i=>i<=b.recs.length/\∀ j x,j < i->b.recs[j]?=some x->ckE x=0) (fun i=>b.recs.length - i) 0 ⟨Nat.zero_le _,fun j x hj=>absurd hj (Nat.not_lt_zero _)⟩ ?_
  rintro i hp
  refine .sr ?_
  refine .lss ?_
  refine .z (.seq ?_)
  refine .cond rfl (fun hd=>?_) (fun hd=>?_)
  ·have hil:i < b.recs.length:=by have h:(i:Int) < ((b.recs.length:Nat):Int):=of_decide_eq_true hd;omega
   obtain ⟨r,hr⟩:∃ r,b.recs[i]?=some r:=⟨_,List.getElem?_eq_getElem hil⟩
   refine .skip (.next (.seq (.block (.sr ?_))))
   refine .idx ?_ so37
   refine .ldAR (i:=i * 6) (us:=r.v) ?_ ti hR (g8 Rc.v_len _ _ _ hr) (jx Rc.v_len hil)
   refine .alloc z95 fun b10_5=>?_
   refine .stV ?_ ti
   refine .x ?_
   refine .ldA ?_ ti
   refine .call (hc:=Tryz.call162) (sp:=Cv (r:=r)) (h:=?_)
   rintro _ _ ⟨rfl,rfl⟩
   refine .assign (.x (.move ?_))
   refine .nei ?_
   refine .z ?_
   refine .cond rfl (fun hq=>?_) (fun hq=>?_)
   ·have hne:ckE r≠0:=by simpa using hq
    have hfb:=Bb hr (fun j x hj hx=>hp.2 j x hj hx) hne
    refine .sr (.move (.assign (.assign (.z ?_))))
    refine .ret (.blockRet (.thenRet (.thenRet (.blockRet (.thenRet (?_))))))
    exact .ret2 (h1:=.tmp (t:=2) rfl) (h2:=.tmp (t:=3) rfl) ⟨_,.inl ⟨by rw [hE,hfb];exact hne,by rw [hE,hfb],rfl⟩,Am.auto⟩
   ·have h0:ckE r=0:=by simpa using hq
    refine .skip (.blockNormal (.next (.region ?_)))
    refine .add ?_
    refine .move (.nil ?_)
    exact .back (i+1) ⟨hil,fun j x hj hx=>if h:j < i then hp.2 j x h hx else (by rw [show j=i from by omega,hr] at hx;injection hx with hx;rw [<- hx];exact h0)⟩ (by omega)
  ·have hge:i=b.recs.length:=by have h:¬ (i:Int) < ((b.recs.length:Nat):Int):=of_decide_eq_false hd;omega
   subst hge
   have hall:∀ x∈b.recs,ckE x=0:=fun x hx=>by
    obtain ⟨j,hj,hjx⟩:=List.getElem_of_mem hx
    exact hp.2 j x hj (by rw [List.getElem?_eq_getElem hj,hjx])
   have hE0:ox b=0:=by rw [hE];exact tp hall
   have hfr:0<=ba b/\ba b<=1125899906842624:=by
    have:=(H9 (hall r0 (List.mem_of_getElem? hr0))).2.1
    rw [hft];exact this
   have hrl:(gi b).length<=48+4100 * b.recs.length:=by
    unfold gi
    rw [List.length_append,fh]
    have:=C0 (f:=ba b) hall
    omega
   have h00:(ck b++(b.recs.take 0).flatMap fun r=>encB r (ba b))=ck b:=by rw [List.take_zero];exact List.append_nil _
   refine .exit (.thenExit (.thenExit (.blockExit (?_))))
   refine .next (.seq (.sr ?_))
   refine .fa ?_ mi
   refine .ld ?_ sc37
   refine .lenS ?_ sl37
   refine .move ?_
   refine .to (A:=buf g5 5 q5 (bvs (ck b))) (A':=buf g5 5 q5 (bvs (ck b++(b.recs.take 0).flatMap fun r=>encB r (ba b)))) (fun h hh=>by rw [h00];exact hh) ?_
   refine .cast (d:=5) (u:=.slice (some ⟨g5,0,none⟩) (ck b++(b.recs.take 0).flatMap fun r=>encB r (ba b)).length q5) rfl (by rw [h00,fh]) ?_
   refine .z (.block ?_)
   refine .loopA (σ:=Nat×Nat×Nat) (fun s=>[(1,.pointer (some ⟨b1,0,none⟩)),(4,.int .i64 (ba b)),(5,.slice (some ⟨s.2.1,0,none⟩) (ck b++(b.recs.take s.1).flatMap fun r=>encB r (ba b)).length s.2.2),(70,.slice (some ⟨ab,ao,none⟩) b.recs.length c),(71,.int .i64 ((b.recs.length:Nat):Int)),(72,.int .i64 ((s.1:Nat):Int))]) (fun s=>[pt b1 (.cells #[.int .i64 b.base,.int .i64 b.span,.int .i64 b.prod,.int .i64 b.seq,.slice (some ⟨ab,ao,none⟩) b.recs.length c] 44 (0,0)),buf s.2.1 5 s.2.2 (bvs (ck b++(b.recs.take s.1).flatMap fun r=>encB r (ba b))),R]++F) (fun s=>s.1<=b.recs.length/\(ck b++(b.recs.take s.1).flatMap fun r=>encB r (ba b)).length<=s.2.2/\s.2.2<=maxLen) (fun s=>b.recs.length - s.1) (0,g5,q5) ⟨Nat.zero_le _,by show (ck b++[]).length<=q5;rw [List.append_nil,fh];exact h5a,h5b⟩ ?_
   rintro s hs
   obtain ⟨i,g,q⟩:=s
   obtain ⟨hi,hq1,hq2⟩:=hs
   simp only at hi hq1 hq2
   refine .sr ?_
   refine .lss ?_
   refine .z (.seq ?_)
   refine .cond rfl (fun hd2=>?_) (fun hd2=>?_)
   ·have hil:i < b.recs.length:=by have h:(i:Int) < ((b.recs.length:Nat):Int):=of_decide_eq_true hd2;omega
    obtain ⟨r,hr⟩:∃ r,b.recs[i]?=some r:=⟨_,List.getElem?_eq_getElem hil⟩
    have hck:ckE r=0:=hall r (List.mem_of_getElem? hr)
    have hel:=xn (first:=ba b) hck
    have hstep:ck b++(b.recs.take (i+1)).flatMap (fun r=>encB r (ba b))=(ck b++(b.recs.take i).flatMap fun r=>encB r (ba b))++encB r (ba b):=by
     rw [List.take_add_one,hr]
     simp
    have hol:(ck b++(b.recs.take i).flatMap fun r=>encB r (ba b)).length<=48+4100 * b.recs.length:=by
     rw [List.length_append,fh]
     have:=C0 (f:=ba b) (l:=b.recs.take i) fun x hx=>hall x (List.mem_of_mem_take hx)
     rw [List.length_take] at this
     omega
    refine .skip (.next (.seq (.block (.sr ?_))))
    refine .idx ?_ so37
    refine .ldAR (i:=i * 6) (us:=r.v) ?_ ti hR (g8 Rc.v_len _ _ _ hr) (jx Rc.v_len hil)
    refine .alloc z95 fun b13_5=>?_
    refine .stV ?_ ti
    refine .x ?_
    refine .ldA ?_ ti
    refine .move ?_
    refine .call (hc:=Tryz.call163) (sp:=Ia (r:=r) (first:=ba b)) (h:=?_)
    rintro _ _ (⟨h0,_,_⟩ | ⟨_,_,u,rfl,rfl⟩)
    ·exact absurd (Pj hck hfr) h0
    refine .rowOpen (v:=u) (hx:=fun h=>by have:=congrArg List.length h;rw [ae] at this;have:=Lw r (ba b);simp only [List.length_nil] at *;omega) fun A4 c4 hv4 hR4 h41 h42=>?_
    subst hv4
    refine .move ?_
    refine .extract (.extract ?_)
    refine .assign (.assign (.z (.seq (.sr (.move ?_)))))
    refine .nei ?_
    refine .z ?_
    refine .condF rfl rfl ?_
    refine .skip (.next (.region (.move (.move ?_))))
    refine .to (A:=buf g 5 q (bvs (ck b++(b.recs.take i).flatMap fun r=>encB r (ba b)))) (dj hq2) ?_
    rw [ae]
    refine .appendAny (m:=(encB r (ba b)).length) (news:=bvs (encB r (ba b))) (R:=rowR 5 1 (.slice (some A4) (encB r (ba b)).length c4) (encB r (ba b)).length (bvs (encB r (ba b)))) so79 (by decide) (by repeat (first | exact .here | apply Rem.there | apply Repl.there | apply Mem.there)) hR4 (by repeat (first | exact .here | apply Rem.there | apply Repl.there | apply Mem.there)) (by rw [ae,Nat.mul_one]) (be _) (by unfold maxLen;omega) (by omega) ⟨_,z5,rfl⟩ (fun v' hv'=>?_)
    refine .toE (A:=rowR 5 1 v' ((ck b++(b.recs.take i).flatMap fun r=>encB r (ba b)).length+(encB r (ba b)).length) (bvs (ck b++(b.recs.take i).flatMap fun r=>encB r (ba b))++bvs (encB r (ba b)))) (bw (fun h=>by have:=(hv'.1 h).1;cases this)) ?_
    rintro ⟨g2,q2⟩ ⟨rfl,h2a,h2b,_⟩
    rw [<- bc,<-List.length_append,<-hstep]
    refine .assign (.nil (.blockNormal (.next (.region ?_))))
    refine .add ?_
    refine .move (.nil ?_)
    exact .back (i+1,g2,q2) ⟨hil,by rw [hstep,List.length_append];exact h2a,h2b⟩ (show b.recs.length - (i+1) < b.recs.length - i by omega)
   ·have hge:i=b.recs.length:=by have h:¬ (i:Int) < ((b.recs.length:Nat):Int):=of_decide_eq_false hd2;omega
    subst hge
    have hraw:(ck b++(b.recs.take b.recs.length).flatMap fun r=>encB r (ba b))=gi b:=by rw [List.take_length];rfl
    rw [hraw] at hq1
    have hge48:48<=(gi b).length:=by unfold gi;rw [List.length_append,fh];omega
    have hll:(ip b).length=(gi b).length:=by unfold ip;rw [bi]
    have hcr:=vd ((ip b).drop 16)
    rw [hraw]
    refine .exit (.thenExit (.thenExit (.blockExit (?_))))
    refine .next (.sr (.move (.move ?_)))
    refine .lenS ?_ sl79
    refine .sub ?_
    refine .call (hc:=Tryz.call160) (sp:=qc (xs:=gi b) (v:=((gi b).length:Int) - 12) Reads.buf rfl (by omega) (by decide) (by decide) (by omega)) (h:=?_)
    rintro _ _ ⟨g6,q6,⟨rfl,h6a,h6b⟩,rfl⟩
    refine .assign (.x ?_)
    refine .to (A:=buf g6 5 q6 (bvs (put (gi b) 8 4 true (u64N (((gi b).length:Int) - 12))))) (A':=buf g6 5 q6 (bvs (ip b))) (fun h hh=>hh) ?_
    refine .move (.move ?_)
    refine .slcL ?_ so79
    refine .cast (d:=96) (u:=.slice (some ⟨g6,0+16,none⟩) ((gi b).length - 16) (q6 - 16)) rfl (by rw [if_neg (by show ¬ q6=16;omega)];rfl) ?_
    refine .call (hc:=Tryz.call134) (sp:=M6 (R:=buf g6 5 q6 (bvs (ip b))) (xs:=(ip b).drop 16) (by rw [fk];exact Reads.buf.drop 16) (by rw [List.length_drop,hll]) (by omega)) (h:=?_)
    rintro _ _ ⟨rfl,rfl⟩
    refine .cvt ?_ O8 un3
    refine .cast (d:=98) (u:=.int .i64 (((crcI ((ip b).drop 16)).toNat:Nat):Int)) rfl (cI9 (by rw [show crcI ((ip b).drop 16)=(((crcI ((ip b).drop 16)).toNat:Nat):Int) by omega,zf (by omega)];rfl)) ?_
    refine .call (hc:=Tryz.call160) (sp:=qc (xs:=ip b) (v:=(((crcI ((ip b).drop 16)).toNat:Nat):Int)) Reads.buf hll (by omega) (by decide) (by decide) (by omega)) (h:=?_)
    rintro _ _ ⟨g7,q7,⟨rfl,h7a,h7b⟩,rfl⟩
    refine .assign (.assign (.z (.ret (?_))))
    rw [Lv (by omega)]
    have hBl:(batB b).length=(gi b).length:=Cz b
    exact .ret2 (h1:=.tmp (t:=2) rfl) (h2:=.tmp (t:=3) rfl) ⟨_,.inr ⟨hE0,g7,q7,⟨by rw [hBl],by rw [hBl];exact h7a,h7b⟩,rfl⟩,Am.auto⟩
theorem tq {R:HP} {A:Option Addr} {c:Nat} {b:Bt} (hR:Reads R A b.rv) (hl:b.recs.length<=10000):Spec Tryz.prog 40 #[.agg (b.v (.slice A b.recs.length c)).toArray] [R]
  fun F v M=>(batE b≠0/\v=.tuple #[.slice none 0 0,.int .i64 (batE b)]/\M=R :: F) ∨
   (batE b=0/\∃ g q,(v=.tuple #[.slice (some ⟨g,0,none⟩) (batB b).length q,.int .i64 0]/\(batB b).length<=q/\q<=maxLen)/\M=buf g 5 q (bvs (batB b)) :: R :: F):=by
 refine Spec.intro Tryz.func40 rfl rfl fun B F=>?_
 simp only [Tryz.ntmps40,List.cons_append,List.nil_append,env0,Nat.reduceAdd]
 refine .sr ?_
 refine .box fun b1=>?_
 refine .assign (.assign (.x ?_))
 refine .ldA ?_ ex
 refine .call (hc:=Tryz.call88) (sp:=Pk hR hl) (h:=?_)
 rintro _ _ (⟨hE,rfl,rfl⟩ | ⟨hE,g,q,⟨rfl,h1,h2⟩,rfl⟩)
 ·have hB:batE b=ox b:=by unfold batE;rw [if_neg hE]
  refine .move ?_
  refine .extract (.extract ?_)
  refine .assign (.assign (.z (.seq (.sr (.move ?_)))))
  refine .nei ?_
  refine .z ?_
  refine .condT rfl (cB9 (by simp [hE])) ?_
  refine .sr (.move (.assign (.assign (.z ?_))))
  refine .ret (.thenRet (?_))
  exact .ret2 (h1:=.tmp (t:=2) rfl) (h2:=.tmp (t:=3) rfl) ⟨_,.inl ⟨by rw [hB];exact hE,by rw [hB];rfl,rfl⟩,Am.auto⟩
 ·refine .move ?_
  refine .extract (.extract ?_)
  refine .assign (.assign (.z (.seq (.sr (.move ?_)))))
  refine .nei ?_
  refine .z ?_
  refine .condF rfl rfl ?_
  refine .skip (.next (.seq (.sr (.move ?_))))
  refine .lenS ?_ sl79
  refine .gtr ?_
  refine .z ?_
  refine .cond rfl (fun hb=>?_) (fun hb=>?_)
  ·have hlt:6000 < (batB b).length:=by have h:(6000:Int) < (((batB b).length:Nat):Int):=of_decide_eq_true hb;omega
   have hB:batE b=2:=by unfold batE;rw [if_pos hE,if_pos hlt]
   refine .sr (.assign (.assign (.z ?_)))
   refine .ret (.thenRet (?_))
   exact .ret2 (h1:=.tmp (t:=2) rfl) (h2:=.tmp (t:=3) rfl) ⟨_,.inl ⟨by rw [hB];decide,by rw [hB],rfl⟩,Am.auto⟩
  ·have hlt:¬ 6000 < (batB b).length:=by have h:¬ (6000:Int) < (((batB b).length:Nat):Int):=of_decide_eq_false hb;omega
   have hB:batE b=0:=by unfold batE;rw [if_pos hE,if_neg hlt]
   refine .skip (.next (.sr (.move (.assign (.assign (.z ?_))))))
   refine .ret (?_)
   exact .ret2 (h1:=.tmp (t:=2) rfl) (h2:=.tmp (t:=3) rfl) ⟨_,.inr ⟨hB,g,q,⟨rfl,h1,h2⟩,rfl⟩,Am.auto⟩
def fw :Nat->List Rc->List Rc
 | _,[]=>[]
 | k,r :: l=>{ r with off:=((k:Nat):Int) } :: fw (k+1) l
theorem ji :∀ (l:List Rc) (k:Nat),(fw k l).length=l.length
 | [],_=>rfl
 | r :: l,k=>by simp only [fw,List.length_cons,ji l]
theorem qd :∀ (l m:List Rc) (k:Nat),fw k (l++m)=fw k l++fw (k+l.length) m
 | [],_,_=>by simp [fw]
 | r :: l,m,k=>by
  simp only [List.cons_append,fw,qd l m,List.length_cons]
  rw [show k+1+l.length=k+(l.length+1) by omega]
theorem Eh {l:List Rc} {i:Nat} {r:Rc} (h:l[i]?=some r):fw 0 (l.take (i+1))=fw 0 (l.take i)++[{ r with off:=((i:Nat):Int) }]:=by
 have hi:i < l.length:=(List.getElem?_eq_some_iff.1 h).1
 rw [List.take_add_one,h,Option.toList_some,qd,List.length_take,show 0+min i l.length=i by omega]
 rfl
def aq (base prod seq:Int) (l:List Rc):Bt:=⟨base,max ((l.length:Nat):Int) 1,prod,seq,fw 0 l⟩
theorem Sb :bg Tryz.prog 44 [] #[.int .i64 0,.int .i64 0,.int .i64 0,.int .i64 0,.slice none 0 0]:=fun w=>by kernel_rfl
theorem Sc (a b:Bool) (s t:ByteArray) (x y:Int):az Tryz.prog 37 1 [(0,.agg #[.bool a,.string s,.bool b,.string t,.int .i64 x,.int .i64 y])] 95 #[.bool a,.string s,.bool b,.string t,.int .i64 x,.int .i64 y]:=fun w=>by kernel_rfl
section
variable {p:Pl} {dn:aa} {N:Nat} {T:FT} {sl:List Slot} {fl:List PF}
theorem DirF.up (h:DirF p dn N T sl fl) {N':Nat} (hN:N<=N'):DirF p dn N' T sl fl :=
 ⟨h.dnm,h.root,h.dir,h.ok,Nat.le_trans h.len hN,h.slot,h.file,h.none',fun x hx=>by have:=h.top x hx;omega,h.inj,h.tot'⟩
theorem DirF.removed {pre post:List PF} {x:PF} (h:DirF p dn N T sl (pre++x :: post)) (hino:N+2<=p.ino):DirF p dn N (rmT T 1 sl x.q x.i) (setS sl x.q none) (pre++post):=by
 have hxm:x∈pre++x :: post:=List.mem_append_right _ (List.mem_cons_self ..)
 have hfx:=h.file x hxm
 have hsx:=(h.slot x.q x.nm x.i).2 ⟨x,hxm,rfl,rfl,rfl⟩
 have hq:x.q < sl.length:=(List.getElem?_eq_some_iff.1 hsx).1
 have hinj:=h.inj
 rw [List.pairwise_append,List.pairwise_cons] at hinj
 obtain ⟨hp1,⟨hp2,hp3⟩,hp4⟩:=hinj
 have hoth:∀ y∈pre++post,y.i≠x.i/\y.nm≠x.nm:=fun y hy=>by
  rcases List.mem_append.1 hy with hy | hy
  ·exact hp4 y hy x (List.mem_cons_self ..)
  ·exact ⟨fun e=>(hp2 y hy).1 e.symm,fun e=>(hp2 y hy).2 e.symm⟩
 have hmem:∀ y∈pre++post,y∈pre++x :: post:=fun y hy=>by
  rcases List.mem_append.1 hy with hy | hy
  ·exact List.mem_append_left _ hy
  ·exact List.mem_append_right _ (List.mem_cons_of_mem _ hy)
 have hback:∀ y∈pre++x :: post,y=x ∨ y∈pre++post:=fun y hy=>by
  rcases List.mem_append.1 hy with hy | hy
  ·exact .inr (List.mem_append_left _ hy)
  ·rcases List.mem_cons.1 hy with rfl | hy
   ·exact .inl rfl
   ·exact .inr (List.mem_append_right _ hy)
 have hat:∀ j,rmT T 1 sl x.q x.i j=if j=x.i then none else if j=1 then some (.dir (setS sl x.q none)) else T j:=fun j=>by unfold rmT updT;rfl
 have hlen:(setS sl x.q none).length=sl.length:=by rw [s7 (by omega)];omega
 refine ⟨h.dnm,by rw [hat,if_neg (by omega),if_neg (by decide)];exact h.root,by rw [hat,if_neg (by omega),if_pos rfl],h.ok.gone (by omega),by rw [hlen];exact h.len,fun q nm i=>?_,fun y hy=>?_,fun j hj hjx=>?_,fun y hy=>h.top y (hmem y hy),?_,?_⟩
 ·by_cases hqx:q=x.q
  ·subst hqx
   rw [oh (by omega)]
   constructor
   ·intro hh;injection hh with hh;cases hh
   ·rintro ⟨y,hy,h1,h2,h3⟩
    have hsy:=(h.slot y.q y.nm y.i).2 ⟨y,hmem y hy,rfl,rfl,rfl⟩
    rw [h1,hsx] at hsy
    injection hsy with hsy;injection hsy with hsy;injection hsy with hsy _
    exact absurd hsy.symm (hoth y hy).2
  ·rw [lq (by omega) hqx,h.slot]
   constructor
   ·rintro ⟨y,hy,h1,h2⟩
    rcases hback y hy with rfl | hy
    ·exact absurd h1.symm hqx
    ·exact ⟨y,hy,h1,h2⟩
   ·rintro ⟨y,hy,h1⟩;exact ⟨y,hmem y hy,h1⟩
 ·have hf:=h.file y (hmem y hy)
  rw [hat,if_neg (hoth y hy).1,if_neg (by omega)]
  exact hf
 ·rw [hat]
  split
  ·rfl
  ·rename_i hji
   rw [if_neg (by omega)]
   refine h.none' j hj fun y hy=>?_
   rcases hback y hy with rfl | hy
   ·exact fun e=>hji e.symm
   ·exact hjx y hy
 ·rw [List.pairwise_append]
  exact ⟨hp1,hp3,fun y hy z hz=>hp4 y hy z (List.mem_cons_of_mem _ hz)⟩
 ·have htop:=h.top x hxm
  have h1:=eo (fmT T) (show 1 < p.ino by omega) (some (NodeT.dir (setS sl x.q none)).f)
  rw [fm,bx h.dir] at h1
  have h2:=eo (fmT (updT T 1 (some (.dir (setS sl x.q none))))) (show x.i < p.ino by omega) none
  rw [bx (T:=updT T 1 (some (.dir (setS sl x.q none)))) (i:=x.i) (x:=.file x.c) (by rw [d7 _ _ (by omega)];exact hfx.1)] at h2
  have e3:updM (fmT (updT T 1 (some (.dir (setS sl x.q none))))) x.i none=fmT (rmT T 1 sl x.q x.i):=by
   funext j
   rw [rmT]
   unfold updM fmT updT
   by_cases hj:j=x.i
   ·simp only [if_pos hj];rfl
   ·simp only [if_neg hj]
  rw [e3] at h2
  have e0:hasO none=0:=rfl
  have e1:hasO (some (NodeT.file x.c).f)=has x.c.length:=rfl
  have e4:hasO (some (NodeT.dir sl).f)=has (64 * sl.length):=by show has (dirB sl).length=_;rw [a8]
  have e5:hasO (some (NodeT.dir (setS sl x.q none)).f)=has (64 * sl.length):=by show has (dirB _).length=_;rw [a8,hlen]
  have e6:=h.tot'
  rw [Cr] at e6
  have e7:hasF (pre++post)=hasF pre+hasF post:=by unfold hasF;rw [List.map_append,List.sum_append]
  rw [hlen,e7]
  omega
end
theorem Lx {f:Nat} {p:Pl} {dn:aa} {N:Nat} {pre post:List PF} {x:PF} (ho:PlOk p) (hN:N<=900) (hino:N+2<=p.ino) (hl:x.nm.length<=1000) (hw:Rw p 0 13) (hfit:1+has (64 * N)+hasF (pre++x :: post)<=p.dc) :
  Spec Tryz.prog 61 #[.pointer (some ⟨f,0,none⟩),sv (d3 dn x.nm)] [DR f p dn N (pre++x :: post)] fun F v M=>v=okV/\M=DR f p dn N (pre++post) :: F:=by
 refine Spec.opens (DR.opens f p dn N _) fun y hd=>?_
 obtain ⟨T,sl⟩:=y
 have hd:DirF p dn N T sl (pre++x :: post):=hd
 have hxm:x∈pre++x :: post:=List.mem_append_right _ (List.mem_cons_self ..)
 have hf:=hd.file x hxm
 have hlen:=hd.len
 have h1:=oo (show 64 * sl.length<=64 * N by omega)
 have h2:=hd.tot'
 refine Spec.post' (Ll (f:=f) (p:=p) (T:=T) (path:=d3 dn x.nm) (d:=1) (i:=x.i) (q:=x.q) (nm:=x.nm) (sl:=sl) (x:=.file x.c) ho (hd.tok (by omega)) (by rw [lh];have:=an hd.dnm;omega) (hd.parent hf.2.2) hd.dir hf.2.2 (hd.look hxm) hf.1 trivial (by omega) (by omega) hw (by omega)) ?_
 rintro F v M B w ⟨rfl,rfl⟩ hs
 exact ⟨_,⟨rfl,rfl⟩,Sat.shuts (DR.opens f p dn N (pre++post)) (x:=(_,_)) (hd.removed hino) hs⟩
abbrev SegA :=Nat×List Bt
def byt (x:SegA):aa:=x.2.flatMap batB
def bytT (ss:List SegA):Nat:=(ss.map fun x=>(byt x).length).sum
def FilesOf (fl:List PF) (ss:List SegA):Prop:=fl.map (fun x=>(x.nm,x.c))=ss.map (fun y=>(aw y.1,byt y))
theorem FilesOf.split {fl:List PF} {pre post:List SegA} {y:SegA} (h:FilesOf fl (pre++y :: post)):∃ a x b,fl=a++x :: b/\FilesOf a pre/\(x.nm=aw y.1/\x.c=byt y)/\FilesOf b post:=by
 unfold FilesOf at h
 rw [List.map_append,List.map_cons,List.map_eq_append_iff] at h
 obtain ⟨a,l,rfl,h1,h2⟩:=h
 rw [List.map_eq_cons_iff] at h2
 obtain ⟨x,b,rfl,h3,h4⟩:=h2
 injection h3 with h3 h5
 exact ⟨a,x,b,rfl,h1,⟨h3,h5⟩,h4⟩
theorem FilesOf.join {a b:List PF} {x:PF} {pre post:List SegA} {y:SegA} (h1:FilesOf a pre) (h2:x.nm=aw y.1/\x.c=byt y) (h3:FilesOf b post):FilesOf (a++x :: b) (pre++y :: post):=by
 unfold FilesOf at *
 rw [List.map_append,List.map_append,List.map_cons,List.map_cons,h1,h3,h2.1,h2.2]
theorem FilesOf.app {a b:List PF} {pre post:List SegA} (h1:FilesOf a pre) (h3:FilesOf b post):FilesOf (a++b) (pre++post):=by
 unfold FilesOf at *
 rw [List.map_append,List.map_append,h1,h3]
theorem FilesOf.nm {fl:List PF} {ss:List SegA} (h:FilesOf fl ss) {x:PF} (hx:x∈fl):∃ y∈ss,x.nm=aw y.1/\x.c=byt y:=by
 have h1:(x.nm,x.c)∈ss.map (fun y=>(aw y.1,byt y)):=by
  rw [<- h]
  exact List.mem_map.2 ⟨x,hx,rfl⟩
 obtain ⟨y,hy,h2⟩:=List.mem_map.1 h1
 injection h2 with h2 h3
 exact ⟨y,hy,h2.symm,h3.symm⟩
theorem Na (n:Nat):has n * 512<=n+1023:=by
 unfold has dat
 split<;>omega
theorem FilesOf.hasB {fl:List PF} {ss:List SegA} (h:FilesOf fl ss):hasF fl * 512<=bytT ss+1023 * ss.length:=by
 induction fl generalizing ss with
 | nil=>show 0 * 512<=_;omega
 | cons x fl ih =>
  cases ss with
  | nil=>exact absurd h (by unfold FilesOf;simp)
  | cons y ss =>
   unfold FilesOf at h
   rw [List.map_cons,List.map_cons] at h
   injection h with h1 h2
   injection h1 with h1 h3
   have h4:=ih (ss:=ss) h2
   have h5:=Na x.c.length
   rw [h3] at h5
   have e1:hasF (x :: fl)=has (byt y).length+hasF fl:=by unfold hasF;rw [List.map_cons,List.sum_cons,h3]
   have e2:bytT (y :: ss)=(byt y).length+bytT ss:=by unfold bytT;rw [List.map_cons,List.sum_cons]
   have e3:(y :: ss).length=ss.length+1:=rfl
   rw [e1,e2,e3]
   generalize has (byt y).length=a at *
   generalize (byt y).length=b at *
   generalize hasF fl=c at *
   generalize bytT ss=d at *
   generalize ss.length=n at *
   clear ih h1 h2 h3 e1 e2 e3
   rw [Nat.add_mul,Nat.mul_add,Nat.mul_one]
   refine Nat.le_trans (Nat.add_le_add h5 h4) (Nat.le_of_eq ?_)
   ac_rfl
theorem qv (a b:List SegA):bytT (a++b)=bytT a+bytT b:=by
 unfold bytT
 rw [List.map_append,List.sum_append]
structure PlP (p:Pl):Prop where
 ok:PlOk p
 dc:400<=p.dc
 rw:Rw p 0 57
theorem PlP.w {p:Pl} (h:PlP p) {W c:Nat} (hc:W+c<=57):Rw p W c:=by
 have h1:=h.rw
 unfold Rw at h1 ⊢
 omega
structure FitsP (p:Pl) (N:Nat) (ss:List SegA):Prop where
 n:N<=200
 i:N+3<=p.ino
 len:ss.length<=60
 byt:bytT ss<=90000
theorem FitsP.fit {p:Pl} {N:Nat} {ss:List SegA} {fl:List PF} (h:FitsP p N ss) (hp:PlP p) (hf:FilesOf fl ss):1+has (64 * (N+1))+hasF fl+14<=p.dc:=by
 have h1:=h.n;have h2:=h.len;have h3:=h.byt;have h4:=hf.hasB;have h5:=Na (64 * (N+1));have h6:=hp.dc
 omega
def DBF (f:Nat) (p:Pl) (dn:aa) (N:Nat) (F0:FM) (ss:List SegA) (W:Nat):HP:=exH (fun fl:List PF=>FilesOf fl ss) (fun fl=>[DB f p dn N F0 fl W])
theorem DBF.opens (f:Nat) (p:Pl) (dn:aa) (N:Nat) (F0:FM) (ss:List SegA) (W:Nat):Opens (DBF f p dn N F0 ss W) (fun fl:List PF=>FilesOf fl ss) (fun fl=>[DB f p dn N F0 fl W]):=exH.opens
def DRF (f:Nat) (p:Pl) (dn:aa) (N:Nat) (ss:List SegA):HP:=exH (fun fl:List PF=>FilesOf fl ss) (fun fl=>[DR f p dn N fl])
theorem DRF.opens (f:Nat) (p:Pl) (dn:aa) (N:Nat) (ss:List SegA):Opens (DRF f p dn N ss) (fun fl:List PF=>FilesOf fl ss) (fun fl=>[DR f p dn N fl]):=exH.opens
theorem DB.up {f:Nat} {p:Pl} {dn:aa} {N N' W:Nat} {F0:FM} {fl:List PF} {B:Base} {w:World} {M:List HP} (hN:N<=N') (hs:Sat B w (DB f p dn N F0 fl W :: M)):Sat B w (DB f p dn N' F0 fl W :: M):=by
 obtain ⟨x,hx,h1⟩:=Sat.opens hs (DB.opens f p dn N F0 fl W)
 exact Sat.shuts (DB.opens f p dn N' F0 fl W) (x:=x) (hx.up hN) h1
theorem DBF.up {f:Nat} {p:Pl} {dn:aa} {N N' W:Nat} {F0:FM} {ss:List SegA} {B:Base} {w:World} {M:List HP} (hN:N<=N') (hs:Sat B w (DBF f p dn N F0 ss W :: M)):Sat B w (DBF f p dn N' F0 ss W :: M):=by
 obtain ⟨x,hx,h1⟩:=Sat.opens hs (DBF.opens f p dn N F0 ss W)
 exact Sat.shuts (DBF.opens f p dn N' F0 ss W) (x:=x) hx (DB.up hN h1)
theorem DB.wkn {f:Nat} {p:Pl} {dn:aa} {N W W':Nat} {F0:FM} {fl:List PF} {B:Base} {w:World} {M:List HP} (hW:W<=W') (hs:Sat B w (DB f p dn N F0 fl W :: M)):Sat B w (DB f p dn N F0 fl W' :: M):=by
 obtain ⟨x,hx,h1⟩:=Sat.opens hs (DB.opens f p dn N F0 fl W)
 exact Sat.shuts (DB.opens f p dn N F0 fl W') (x:=x) hx (FSB.wkn hW h1)
theorem DBF.wkn {f:Nat} {p:Pl} {dn:aa} {N W W':Nat} {F0:FM} {ss:List SegA} {B:Base} {w:World} {M:List HP} (hW:W<=W') (hs:Sat B w (DBF f p dn N F0 ss W :: M)):Sat B w (DBF f p dn N F0 ss W' :: M):=by
 obtain ⟨x,hx,h1⟩:=Sat.opens hs (DBF.opens f p dn N F0 ss W)
 exact Sat.shuts (DBF.opens f p dn N F0 ss W') (x:=x) hx (DB.wkn hW h1)
theorem C1 {f:Nat} {p:Pl} {dn:aa} {N W b:Nat} {F0:FM} {ss:List SegA} (hp:PlP p) (hf:FitsP p N ss) (hw:W+14<=57) (hb:b<=1125899906842624) (hx:∀ y∈ss,y.1≠b/\y.1<=1125899906842624) :
  Spec Tryz.prog 100 #[.pointer (some ⟨f,0,none⟩),sv (d3 dn (aw b))] [DBF f p dn N F0 ss W] fun F v M=>v=okV/\M=DBF f p dn (N+1) F0 (ss++[(b,[])]) (W+9) :: F:=by
 refine Spec.opens (DBF.opens f p dn N F0 ss W) fun fl hfl=>?_
 have h1:=hf.n;have h2:=hf.i;have h3:=hf.fit hp hfl
 refine Spec.post' (Lh (f:=f) (p:=p) (dn:=dn) (N:=N) (W:=W) (F0:=F0) (fl:=fl) (nm:=aw b) hp.ok (by omega) (by omega) (Lj b) (fun x hx'=>?_) (by rw [dt];decide) (hp.w hw) (by omega)) ?_
 ·obtain ⟨y,hy,h4,_⟩:=hfl.nm hx'
  rw [h4]
  intro h5
  have h6:=hx y hy
  exact h6.1 (Hv (by omega) (by omega) h5)
 ·rintro F v M B w ⟨i,q,rfl,rfl⟩ hs
  exact ⟨_,⟨rfl,rfl⟩,Sat.shuts (DBF.opens f p dn (N+1) F0 (ss++[(b,[])]) (W+9)) (hfl.join (b:=[]) (x:=⟨i,q,aw b,[]⟩) (post:=[]) (y:=(b,[])) ⟨rfl,rfl⟩ (show FilesOf [] [] from rfl)) hs⟩
theorem xp {f m cc:Nat} {p:Pl} {dn:aa} {N W b:Nat} {F0:FM} {bs:List Bt} {bt:Bt} {pre post:List SegA} {R:HP} {A:Option Addr} (hp:PlP p) (hf:FitsP p N (pre++(b,bs) :: post)) (hw:W+40<=57) (hR:Reads R A (bvs (batB bt))) (hm:(batB bt).length=m) (hcc:m<=cc) (hcb:cc<=maxLen) (hm6:m<=6000) (hbg:(bs.flatMap batB).length+m<=70656) :
  Spec Tryz.prog 96 #[.pointer (some ⟨f,0,none⟩),sv (d3 dn (aw b)),.slice A m cc] [DBF f p dn N F0 (pre++(b,bs) :: post) W,R] fun F v M=>v=okV/\M=DBF f p dn N F0 (pre++(b,bs++[bt]) :: post) (W+40) :: R :: F:=by
 refine Spec.opens (DBF.opens f p dn N F0 _ W) fun fl hfl=>?_
 have h1:=hf.n;have h2:=hf.i;have h3:=hf.fit hp hfl
 obtain ⟨fa,x,fb,rfl,ha,⟨hxn,hxc⟩,hb⟩:=hfl.split
 simp only at hxn hxc
 have h4:=oo (show 64 * N<=64 * (N+1) by omega)
 have h5:=Li (f:=f) (p:=p) (dn:=dn) (N:=N) (W:=W) (F0:=F0) (pre:=fa) (post:=fb) (x:=x) (bs:=batB bt) (R:=R) (A:=A) (m:=m) (cc:=cc) hp.ok (by omega) (by omega) (by rw [hxn,dt];decide) (.inr hR) hm hcc hcb hm6 (by rw [hxc];exact hbg) (hp.w hw) (by omega)
 rw [hxn] at h5
 refine Spec.post' h5 ?_
 rintro F v M B w ⟨rfl,rfl⟩ hs
 refine ⟨_,⟨rfl,rfl⟩,Sat.shuts (DBF.opens f p dn N F0 (pre++(b,bs++[bt]) :: post) (W+40)) (ha.join (y:=(b,bs++[bt])) ⟨rfl,?_⟩ hb) hs⟩
 show x.c++batB bt=byt (b,bs++[bt])
 rw [hxc]
 unfold byt
 rw [List.flatMap_append,List.flatMap_singleton]
theorem xq {f:Nat} {p:Pl} {dn:aa} {N:Nat} {pre post:List SegA} {y:SegA} (hp:PlP p) (hf:FitsP p N (pre++y :: post)) :
  Spec Tryz.prog 61 #[.pointer (some ⟨f,0,none⟩),sv (d3 dn (aw y.1))] [DRF f p dn N (pre++y :: post)] fun F v M=>v=okV/\M=DRF f p dn N (pre++post) :: F:=by
 refine Spec.opens (DRF.opens f p dn N _) fun fl hfl=>?_
 have h1:=hf.n;have h2:=hf.i;have h3:=hf.fit hp hfl
 obtain ⟨fa,x,fb,rfl,ha,⟨hxn,hxc⟩,hb⟩:=hfl.split
 have h4:=oo (show 64 * N<=64 * (N+1) by omega)
 have h5:=Lx (f:=f) (p:=p) (dn:=dn) (N:=N) (pre:=fa) (post:=fb) (x:=x) hp.ok (by omega) (by omega) (by rw [hxn,dt];decide) (hp.w (by omega)) (by omega)
 rw [hxn] at h5
 refine Spec.post' h5 ?_
 rintro F v M B w ⟨rfl,rfl⟩ hs
 exact ⟨_,⟨rfl,rfl⟩,Sat.shuts (DRF.opens f p dn N (pre++post)) (ha.app hb) hs⟩
theorem Ei {f:Nat} {p:Pl} {dn:aa} {N N' W:Nat} {ss ss':List SegA} {X0 X':HP} {k:FuncId} {cap:Array Value} (ho:PlOk p) (hc:∀ args w,(callFunc k args).run Tryz.prog w=.ok (.enter k args) w)
  (sp:∀ F0,Spec Tryz.prog k cap [DBF f p dn N F0 ss 0,X0] fun F v M=>v=okV/\M=DBF f p dn N' F0 ss' W :: X' :: F):Spec Tryz.prog 41 #[.pointer (some ⟨f,0,none⟩),.func (.func k) #[] cap] [DRF f p dn N ss,X0] fun F v M=>v=okV/\M=DRF f p dn N' ss' :: X' :: F:=by
 refine Spec.opens (DRF.opens f p dn N ss) fun fl hfl=>?_
 refine Spec.post' (Ee (f:=f) (p:=p) (dn:=dn) (N:=N) (N':=N') (fl:=fl) (β:=List PF) (qb:=fun y=>FilesOf y ss') (fl':=fun y=>y) (W':=fun _=>W) (X0:=X0) (X':=fun _=>X') ho hc fun F0=>?_) ?_
 ·refine Spec.post' (Spec.pre' (sp F0) (pre':=[DB f p dn N F0 fl 0,X0]) fun B w F hs=>Sat.shuts (DBF.opens f p dn N F0 ss 0) hfl hs) ?_
  rintro F v M B w ⟨rfl,rfl⟩ hs
  obtain ⟨y,hy,h1⟩:=Sat.opens hs (DBF.opens f p dn N' F0 ss' W)
  exact ⟨_,⟨y,hy,rfl,rfl⟩,h1⟩
 ·rintro F v M B w ⟨y,hy,rfl,rfl⟩ hs
  exact ⟨_,⟨rfl,rfl⟩,Sat.shuts (DRF.opens f p dn N' ss') hy hs⟩
section
variable {P:Program} {B:Base} {n:Fr} {Q Q':Exit->Act->World->Prop} {e:Env} {L:List HP} {ops:Array Oper} {l:List Oper}
variable {d:Nat} {ty:TypeId} {pos:String} {af:Array Edge} {x y z:Operand} {gd:Option (Nat×Bool)}
theorem Bc (xs ys:aa):bstr xs++bstr ys=bstr (xs++ys):=by
 apply ByteArray.ext
 simp [bstr]
theorem Qt.catS {t u:TypeId} (xs ys:aa) (hl:xs.length+ys.length<=9223372036854775807) (hx:evo e x=some (sv xs):=by rfl) (hy:evo e y=some (sv ys):=by rfl) :
  Qt P B n e L ⟨some d,.binOp .add t x y u,ty,pos,af,gd⟩ (sv (xs++ys)) :=
 Qt.strs (xs:=bstr xs) (ys:=bstr ys) (fun w=>by
  rw [binOp_string_add,run_string_add_sum w _ _ (by rw [cf,cf];exact hl),Bc];rfl) hx hy
theorem WL.catS {t u:TypeId} (xs ys:aa) (h:WL P B n ops l Q ((d,sv (xs++ys)) :: e) L) (hl:xs.length+ys.length<=9223372036854775807) (hx:evo e x=some (sv xs):=by rfl) (hy:evo e y=some (sv ys):=by rfl) (hd:Nat.ble (d+1) n.k=true:=by rfl) :
  WL P B n ops (⟨some d,.binOp .add t x y u,ty,pos,af,none⟩ :: l) Q e L:=WL.pure h hd (Qt.catS xs ys hl hx hy)
end
theorem ar149 :my Tryz.prog 149 5 20 1=true:=by kernel_rfl
theorem ve :ad Tryz.prog 23 0 0=true:=by kernel_rfl
theorem jj :ad Tryz.prog 23 1 1=true:=by kernel_rfl
theorem jk :ad Tryz.prog 23 2 2=true:=by kernel_rfl
theorem Nb :ad Tryz.prog 23 4 4=true:=by kernel_rfl
theorem z149 :ax Tryz.prog 149=some (#[.int .u8 0,.int .u8 0,.int .u8 0,.int .u8 0,.int .u8 0,.int .u8 0,.int .u8 0,.int .u8 0,.int .u8 0,.int .u8 0,.int .u8 0,.int .u8 0,.int .u8 0,.int .u8 0,.int .u8 0,.int .u8 0,.int .u8 0,.int .u8 0,.int .u8 0,.int .u8 0]):=by kernel_rfl
theorem un149 :Tryz.prog.underlying 149=some (.array 20 5):=by kernel_rfl
section
variable {P:Program} {B:Base} {n:Fr} {Q:Exit->Act->World->Prop} {e:Env} {L:List HP} {ops:Array Oper} {l:List Oper} {d:Nat} {ty:TypeId} {pos:String} {af:Array Edge} {x:Operand}
theorem WL.cvtSB {s t:Nat} (xs:aa) (h:∀ b c cs el fr,cs.toList.take xs.length=bvs xs->xs.length<=c->WL P B n ops l Q ((d,.slice (some ⟨b,0,none⟩) xs.length c) :: e) (pt b (.cells cs el fr) :: L)) (hs:km P s=true) (ht:pb P t=true)
  (hx:evo e x=some (sv xs):=by rfl) (hd:Nat.ble (d+1) n.k=true:=by rfl):WL P B n ops (⟨some d,.convert s t x,ty,pos,af,none⟩ :: l) Q e L :=
 WL.step rfl fun a w ha hsat=>by
  obtain ⟨el,h1,h2⟩:=Bq ht
  have hsz:(bstr xs).size=xs.length:=by unfold bstr;rfl
  have hrun:=run_bytes_of_string w s t el (bstr xs) (kf hs) h1 h2
  rw [hsz] at hrun
  have hcap:xs.length<=grownCap w xs.length 0 el:=grownCap_ge w xs.length 0 el
  refine ⟨.slice (some ⟨w.heap.size,0,none⟩) xs.length (grownCap w xs.length 0 el),w.drew.alloc (.cells (bytesRow (bstr xs) (grownCap w xs.length 0 el)) el ((bytesRow (bstr xs) (grownCap w xs.length 0 el)).size,(bytesRow (bstr xs) (grownCap w xs.length 0 el)).size+1)),_,_,?_,ha.put hd _,(hsat.drew).new _,h w.heap.size (grownCap w xs.length 0 el) (bytesRow (bstr xs) (grownCap w xs.length 0 el)) el ((bytesRow (bstr xs) (grownCap w xs.length 0 el)).size,(bytesRow (bstr xs) (grownCap w xs.length 0 el)).size+1) ?_ hcap⟩
  ·simp only [execOp,ha.eval hx]
   rw [Sem.run_bind,show sv xs=.string (bstr xs) from rfl,hrun]
   rfl
  ·unfold bytesRow bvs bv bstr
   simp
end
structure Sts where
 seg:Int
 bytes:Int
 age:Int
 comp:Bool
 delay:Int
def Sts.v (s:Sts):List Value:=[.int .i64 s.seg,.int .i64 s.bytes,.int .i64 s.age,.bool s.comp,.int .i64 s.delay]
def er (s:Sts):Bool:=decide (512<=s.seg) && (decide (s.seg<=8192) && (decide (-1<=s.bytes) && (decide (s.bytes<=1099511627776) && (decide (-1<=s.age) && (decide (s.age<=1125899906842624) && (decide (0<=s.delay) && decide (s.delay<=1125899906842624)))))))
theorem Ly :bg Tryz.prog 23 [(0,.int .i64 600),(1,.int .i64 (-1)),(2,.int .i64 (-1))] #[.int .i64 600,.int .i64 (-1),.int .i64 (-1),.bool false,.int .i64 0]:=fun w=>by kernel_rfl
theorem Ic {a:Nat} (h:a < 2 ^ 63):IntKind.i64.wrap ((a:Nat):Int)=(a:Int):=by
 simp only [IntKind.wrap,IntKind.bits,IntKind.signed]
 simp
 omega
theorem Lz {b el:Nat} {xs:List Value}:Reads (row b el xs) (some ⟨b,0,none⟩) xs:=by
 unfold row
 exact Reads.pt
theorem C2 {s:Sts}:Spec Tryz.prog 10 #[.agg s.v.toArray] [] fun F v M=>v=.bool (er s)/\M=F:=by
 refine Spec.intro Tryz.func10 rfl rfl fun B F=>?_
 simp only [Tryz.ntmps10,List.cons_append,List.nil_append,env0,Nat.reduceAdd]
 obtain ⟨seg,bytes,age,comp,delay⟩:=s
 refine .sr ?_
 refine .box fun b1=>?_
 refine .assign (.x ?_)
 refine .fa ?_ ve
 refine .ld ?_ sc3
 refine .geq ?_
 refine .move ?_
 refine .split (t:=6) rfl (fun g0=>?_) (fun g0=>?_)
 ·refine .gT ?_
  refine .fa ?_ ve
  refine .gT ?_
  refine .ld ?_ sc3
  refine .gT ?_
  refine .leq ?_
  refine .pickT (.move ?_)
  refine .split (t:=11) rfl (fun g1=>?_) (fun g1=>?_)
  ·refine .gT ?_
   refine .fa ?_ jj
   refine .gT ?_
   refine .ld ?_ sc3
   refine .gT ?_
   refine .geq ?_
   refine .pickT (.move ?_)
   refine .split (t:=16) rfl (fun g2=>?_) (fun g2=>?_)
   ·refine .gT ?_
    refine .fa ?_ jj
    refine .gT ?_
    refine .ld ?_ sc3
    refine .gT ?_
    refine .leq ?_
    refine .pickT (.move ?_)
    refine .split (t:=21) rfl (fun g3=>?_) (fun g3=>?_)
    ·refine .gT ?_
     refine .fa ?_ jk
     refine .gT ?_
     refine .ld ?_ sc3
     refine .gT ?_
     refine .geq ?_
     refine .pickT (.move ?_)
     refine .split (t:=26) rfl (fun g4=>?_) (fun g4=>?_)
     ·refine .gT ?_
      refine .fa ?_ jk
      refine .gT ?_
      refine .ld ?_ sc3
      refine .gT ?_
      refine .leq ?_
      refine .pickT (.move ?_)
      refine .split (t:=31) rfl (fun g5=>?_) (fun g5=>?_)
      ·refine .gT ?_
       refine .fa ?_ Nb
       refine .gT ?_
       refine .ld ?_ sc3
       refine .gT ?_
       refine .geq ?_
       refine .pickT (.move ?_)
       refine .split (t:=36) rfl (fun g6=>?_) (fun g6=>?_)
       ·refine .gT ?_
        refine .fa ?_ Nb
        refine .gT ?_
        refine .ld ?_ sc3
        refine .gT ?_
        refine .leq ?_
        refine .pickT (.assign (.z (.ret (?_))))
        exact .ret1 (h1:=.tmp (t:=2) rfl) ⟨_,⟨cB9 (by unfold er;simp only [show decide (512<=seg)=true from g0,show decide (seg<=8192)=true from g1,show decide (-1<=bytes)=true from g2,show decide (bytes<=1099511627776)=true from g3,show decide (-1<=age)=true from g4,show decide (age<=1125899906842624)=true from g5,show decide (0<=delay)=true from g6,Bool.true_and]),rfl⟩,Am.auto⟩
       ·refine .gF (.gF (.gF (.pickF (.assign (.z ?_)))))
        refine .ret (?_)
        exact .ret1 (h1:=.tmp (t:=2) rfl) ⟨_,⟨cB9 (by unfold er;simp only [show decide (512<=seg)=true from g0,show decide (seg<=8192)=true from g1,show decide (-1<=bytes)=true from g2,show decide (bytes<=1099511627776)=true from g3,show decide (-1<=age)=true from g4,show decide (age<=1125899906842624)=true from g5,show decide (0<=delay)=false from g6,Bool.true_and,Bool.false_and]),rfl⟩,Am.auto⟩
      ·refine .gF (.gF (.gF (.pickF (.move (.gF ?_)))))
       refine .gF (.gF (.pickF (.assign (.z (.ret (?_))))))
       exact .ret1 (h1:=.tmp (t:=2) rfl) ⟨_,⟨cB9 (by unfold er;simp only [show decide (512<=seg)=true from g0,show decide (seg<=8192)=true from g1,show decide (-1<=bytes)=true from g2,show decide (bytes<=1099511627776)=true from g3,show decide (-1<=age)=true from g4,show decide (age<=1125899906842624)=false from g5,Bool.true_and,Bool.false_and]),rfl⟩,Am.auto⟩
     ·refine .gF (.gF (.gF (.pickF (.move (.gF ?_)))))
      refine .gF (.gF (.pickF (.move (.gF (.gF ?_)))))
      refine .gF (.pickF (.assign (.z (.ret (?_)))))
      exact .ret1 (h1:=.tmp (t:=2) rfl) ⟨_,⟨cB9 (by unfold er;simp only [show decide (512<=seg)=true from g0,show decide (seg<=8192)=true from g1,show decide (-1<=bytes)=true from g2,show decide (bytes<=1099511627776)=true from g3,show decide (-1<=age)=false from g4,Bool.true_and,Bool.false_and]),rfl⟩,Am.auto⟩
    ·refine .gF (.gF (.gF (.pickF (.move (.gF ?_)))))
     refine .gF (.gF (.pickF (.move (.gF (.gF ?_)))))
     refine .gF (.pickF (.move (.gF (.gF (.gF ?_)))))
     refine .pickF (.assign (.z (.ret (?_))))
     exact .ret1 (h1:=.tmp (t:=2) rfl) ⟨_,⟨cB9 (by unfold er;simp only [show decide (512<=seg)=true from g0,show decide (seg<=8192)=true from g1,show decide (-1<=bytes)=true from g2,show decide (bytes<=1099511627776)=false from g3,Bool.true_and,Bool.false_and]),rfl⟩,Am.auto⟩
   ·refine .gF (.gF (.gF (.pickF (.move (.gF ?_)))))
    refine .gF (.gF (.pickF (.move (.gF (.gF ?_)))))
    refine .gF (.pickF (.move (.gF (.gF (.gF ?_)))))
    refine .pickF (.move (.gF (.gF (.gF (.pickF ?_)))))
    refine .assign (.z (.ret (?_)))
    exact .ret1 (h1:=.tmp (t:=2) rfl) ⟨_,⟨cB9 (by unfold er;simp only [show decide (512<=seg)=true from g0,show decide (seg<=8192)=true from g1,show decide (-1<=bytes)=false from g2,Bool.true_and,Bool.false_and]),rfl⟩,Am.auto⟩
  ·refine .gF (.gF (.gF (.pickF (.move (.gF ?_)))))
   refine .gF (.gF (.pickF (.move (.gF (.gF ?_)))))
   refine .gF (.pickF (.move (.gF (.gF (.gF ?_)))))
   refine .pickF (.move (.gF (.gF (.gF (.pickF ?_)))))
   refine .move (.gF (.gF (.gF (.pickF ?_))))
   refine .assign (.z (.ret (?_)))
   exact .ret1 (h1:=.tmp (t:=2) rfl) ⟨_,⟨cB9 (by unfold er;simp only [show decide (512<=seg)=true from g0,show decide (seg<=8192)=false from g1,Bool.true_and,Bool.false_and]),rfl⟩,Am.auto⟩
 ·refine .gF (.gF (.gF (.pickF (.move (.gF ?_)))))
  refine .gF (.gF (.pickF (.move (.gF (.gF ?_)))))
  refine .gF (.pickF (.move (.gF (.gF (.gF ?_)))))
  refine .pickF (.move (.gF (.gF (.gF (.pickF ?_)))))
  refine .move (.gF (.gF (.gF (.pickF (.move ?_)))))
  refine .gF (.gF (.gF (.pickF (.assign (.z ?_)))))
  refine .ret (?_)
  exact .ret1 (h1:=.tmp (t:=2) rfl) ⟨_,⟨cB9 (by unfold er;simp only [show decide (512<=seg)=false from g0,Bool.true_and,Bool.false_and]),rfl⟩,Am.auto⟩
theorem Sd {xs ps:aa} (hl:ps.length<=xs.length) (hx:xs.length<=1000000):Spec Tryz.prog 109 #[sv xs,sv ps] [] fun F v M=>v=.bool (decide (xs.drop (xs.length - ps.length)=ps))/\M=F:=by
 refine Spec.intro Tryz.func109 rfl rfl fun B F=>?_
 simp only [Tryz.ntmps109,List.cons_append,List.nil_append,env0,Nat.reduceAdd]
 refine .sr (.assign (.x (.move ?_)))
 refine .lenT _ ?_ st9
 refine .move ?_
 refine .lenT _ ?_ st9
 refine .geq ?_
 refine .move ?_
 refine .cast (d:=10) (u:=.bool true) rfl (cB9 (decide_eq_true (by omega))) ?_
 refine .gT (.move (.gT (.move (.gT ?_))))
 refine .lenT _ ?_ st9
 refine .gT (.move (.gT ?_))
 refine .lenT _ ?_ st9
 refine .gT ?_
 refine .sub ?_
 refine .gT ?_
 refine .subT (p:=((xs.length:Nat):Int) - ((ps.length:Nat):Int)) xs ?_ st9
 refine .cast (d:=17) (u:=sv (xs.drop (xs.length - ps.length))) rfl (congrArg (fun z=>sv (xs.drop z)) (by omega)) ?_
 refine .gT (.move (.gT ?_))
 refine .eqS (xs.drop (xs.length - ps.length)) ps ?_
 refine .pickT (.assign (.z (.ret (?_))))
 exact .ret1 (h1:=.tmp (t:=4) rfl) ⟨_,⟨rfl,rfl⟩,Am.auto⟩
theorem Pm {xs ps:aa} (hl:ps.length<=xs.length) (hx:xs.length<=1000000):Spec Tryz.prog 60 #[sv xs,sv ps] [] fun F v M=>v=.bool (decide (xs.drop (xs.length - ps.length)=ps))/\M=F:=by
 refine Spec.intro Tryz.func60 rfl rfl fun B F=>?_
 simp only [Tryz.ntmps60,List.cons_append,List.nil_append,env0,Nat.reduceAdd]
 refine .sr (.assign (.x (.move (.move ?_))))
 refine .call (hc:=Tryz.call109) (sp:=Sd hl hx) (h:=?_)
 rintro _ _ ⟨rfl,rfl⟩
 refine .assign (.z (.ret (?_)))
 exact .ret1 (h1:=.tmp (t:=4) rfl) ⟨_,⟨rfl,rfl⟩,Am.auto⟩
theorem lx {dir:aa} {b:Nat} (hd:dir.length<=1000) (hb:b<=1125899906842624):Spec Tryz.prog 47 #[sv dir,.int .i64 ((b:Nat):Int)] [] fun F v M=>v=sv (dir++[47]++aw b)/\M=F:=by
 refine Spec.intro Tryz.func47 rfl rfl fun B F=>?_
 simp only [Tryz.ntmps47,List.cons_append,List.nil_append,env0,Nat.reduceAdd]
 refine .sr (.assign (.x ?_))
 refine .allocL (us:=bvs (qj b 0)) z149 rfl fun b5=>?_
 refine .z (.seq (.sr (.assign (.z (.block ?_)))))
 refine .cast (d:=1) (u:=.int .i64 ((b / 10 ^ 0:Nat):Int)) rfl (by rw [Nat.pow_zero,Nat.div_one]) ?_
 refine .loopA (σ:=Nat) (fun k=>[(0,sv dir),(1,.int .i64 ((b / 10 ^ k:Nat):Int)),(5,.pointer (some ⟨b5,0,none⟩)),(6,.int .i64 ((19:Int) - ((k:Nat):Int)))]) (fun k=>[row b5 149 (bvs (qj b k))]++F) (fun k=>k<=20) (fun k=>20 - k) 0 (Nat.zero_le _) ?_
 rintro k hk
 refine .seq (.sr (.move ?_))
 refine .geq ?_
 refine .z ?_
 refine .cond rfl (fun hd2=>?_) (fun hd2=>?_)
 ·have hk20:k < 20:=by have h:(19:Int) - ((k:Nat):Int) ≥ 0:=of_decide_eq_true hd2;omega
  have hdg:=oq b k
  have hdn:=ot b k
  have hle:b / 10 ^ k<=b:=Nat.div_le_self _ _
  have hdl:=Hw (b:=b) (k:=k) (by omega)
  have hz1:b / 10 ^ (k+1)=b / 10 ^ k / 10:=by rw [Nat.pow_succ,<-Nat.div_div_eq_div_mul]
  have hdd:digP b k=48+b / 10 ^ k % 10:=rfl
  have hset:=Hx (b:=b) hk20
  generalize hz:b / 10 ^ k=z at *
  have hix:0+((19:Int) - ((k:Nat):Int)).toNat * 1=19 - k:=by omega
  refine .skip (.next (.seq (.block (.sr (.move (.move ?_))))))
  refine .rem ?_
  refine .add ?_
  refine .cvt ?_ un3 un5
  refine .cast (d:=15) (u:=bv (UInt8.ofNat (digP b k))) rfl (cI9 (by rw [hdn,show (48:Int)+((z:Nat):Int) % 10=((digP b k:Nat):Int) by omega];exact IntWalk.u8_in _ (by omega))) ?_
  refine .idxA ?_ ar149
  refine .cast (d:=16) (u:=.pointer (some ⟨b5,19 - k,none⟩)) rfl (congrArg (fun z=>Value.pointer (some ⟨b5,z,none⟩)) hix) ?_
  refine .stL (xs:=bvs (qj b k)) (i:=19 - k) ?_ sc5 (by rw [ae,hdl];omega)
  refine .to (A:=row b5 149 ((bvs (qj b k)).set (19 - k) (bv (UInt8.ofNat (digP b k))))) (A':=row b5 149 (bvs (qj b (k+1)))) (fun h hh=>by rw [<- hset,pa];exact hh) ?_
  refine .y (.move ?_)
  refine .quo ?_
  refine .cast (d:=18) (u:=.int .i64 ((b / 10 ^ (k+1):Nat):Int)) rfl (cI9 (by rw [hz1];omega)) ?_
  refine .assign (.nil (.blockNormal (.next (.region (.move ?_)))))
  refine .sub ?_
  refine .cast (d:=10) (u:=.int .i64 ((19:Int) - ((k+1:Nat):Int))) rfl (cI9 (by omega)) ?_
  refine .assign (.nil ?_)
  exact .back (k+1) (show k+1<=20 by omega) (show 20 - (k+1) < 20 - k by omega)
 ·have hk20:k=20:=by have h:¬ (19:Int) - ((k:Nat):Int) ≥ 0:=of_decide_eq_false hd2;have h2:k<=20:=hk;omega
  subst hk20
  rw [Ed]
  refine .exit (.thenExit (.thenExit (.blockExit (?_))))
  refine .next (.sr (.move ?_))
  refine .catS dir [47] ?_ (by simp only [List.length_cons,List.length_nil];omega)
  refine .slcArr ?_ un149 (by kernel_rfl)
  refine .cvtBS (xs:=aw b) ?_ by79 st9 Lz (dt b)
  refine .catS (dir++[47]) (aw b) ?_ (by rw [List.length_append,dt];simp only [List.length_cons,List.length_nil];omega)
  refine .assign (.z (.ret (?_)))
  exact .ret1 (h1:=.tmp (t:=4) rfl) ⟨_,⟨rfl,rfl⟩,Am.auto⟩
theorem L2 {b:Nat} (hb:b<=1125899906842624):Spec Tryz.prog 62 #[sv (aw b)] [] fun F v M=>v=.tuple #[.int .i64 ((b:Nat):Int),.bool true]/\M=F:=by
 refine Spec.intro Tryz.func62 rfl rfl fun B F=>?_
 simp only [Tryz.ntmps62,List.cons_append,List.nil_append,env0,Nat.reduceAdd]
 have hnl:=dt b
 refine .sr (.assign (.assign (.z (.seq (.sr (.move ?_))))))
 refine .lenT _ ?_ st9
 refine .nei ?_
 refine .z ?_
 refine .condF rfl (cB9 (by first | (exact decide_eq_true (by omega)) | (exact decide_eq_false (by omega)) | (simp;done) | (simp;omega) | omega)) ?_
 refine .skip (.next (.seq (.sr (.move ?_))))
 refine .cvtSB (aw b) (fun b10 c10 cs10 el10 fr10 htk hc10=>?_) st9 by79
 have hR:Reads (pt b10 (.cells cs10 el10 fr10)) (some ⟨b10,0,none⟩) (bvs (aw b)):=by
  have h:=(Reads.pt (g:=b10) (e:=el10) (cs:=cs10) (fr:=fr10)).take (aw b).length
  rwa [htk] at h
 refine .lenS ?_ sl79
 refine .move (.z (.block ?_))
 refine .cast (d:=2) (u:=.int .i64 ((b / 10 ^ (20 - 0):Nat):Int)) rfl (by rw [Nat.sub_zero,Nat.div_eq_of_lt (by omega)];rfl) ?_
 refine .loopA (σ:=Nat) (fun k=>[(2,.int .i64 ((b / 10 ^ (20 - k):Nat):Int)),(10,.slice (some ⟨b10,0,none⟩) (aw b).length c10),(11,.int .i64 (((aw b).length:Nat):Int)),(12,.int .i64 ((k:Nat):Int))]) (fun k=>[pt b10 (.cells cs10 el10 fr10)]++F) (fun k=>k<=20) (fun k=>20 - k) 0 (Nat.zero_le _) ?_
 rintro k hk
 refine .sr ?_
 refine .lss ?_
 refine .z (.seq ?_)
 refine .cond rfl (fun hd2=>?_) (fun hd2=>?_)
 ·have hk20:k < 20:=by have h:((k:Nat):Int) < (((aw b).length:Nat):Int):=of_decide_eq_true hd2;omega
  have hcell:(bvs (aw b))[k]?=some (.int .u8 ((digP b (19 - k):Nat):Int)):=by
   unfold bvs
   rw [List.getElem?_map,xj hk20]
   show some (Value.int .u8 ((UInt8.ofNat (digP b (19 - k))).toNat:Int))=_
   rw [ot]
  have hdg:=oq b (19 - k)
  have hle:b / 10 ^ (20 - k)<=b:=Nat.div_le_self _ _
  have hle2:b / 10 ^ (19 - k)<=b:=Nat.div_le_self _ _
  have hst:b / 10 ^ (20 - k)=b / 10 ^ (19 - k) / 10:=by rw [show 20 - k=(19 - k)+1 by omega,Nat.pow_succ,Nat.div_div_eq_div_mul]
  have hdd:digP b (19 - k)=48+b / 10 ^ (19 - k) % 10:=rfl
  generalize hz:b / 10 ^ (19 - k)=z at *
  generalize b / 10 ^ (20 - k)=y at *
  generalize digP b (19 - k)=dg at *
  refine .skip (.next (.seq (.block (.sr ?_))))
  refine .idx1 ?_ so79
  refine .ldR (i:=k) ?_ sc5 hR hcell
  refine .assign (.z (.seq (.sr (.move ?_))))
  refine .lss ?_
  refine .move ?_
  refine .cast (d:=18) (u:=.bool false) rfl (cB9 (by first | (exact decide_eq_true (by omega)) | (exact decide_eq_false (by omega)) | (simp;done) | (simp;omega) | omega)) ?_
  refine .gT (.move (.gT ?_))
  refine .gtr ?_
  refine .pickF (.move ?_)
  refine .cast (d:=22) (u:=.bool false) rfl (cB9 (by first | (exact decide_eq_true (by omega)) | (exact decide_eq_false (by omega)) | (simp;done) | (simp;omega) | omega)) ?_
  refine .gT (.move (.gT ?_))
  refine .gtr ?_
  refine .pickF (.z ?_)
  refine .condF rfl (cB9 (by first | (exact decide_eq_true (by omega)) | (exact decide_eq_false (by omega)) | (simp;done) | (simp;omega) | omega)) ?_
  refine .skip (.next (.region (.move ?_)))
  refine .mul ?_
  refine .move ?_
  refine .subw ?_
  refine .cast (d:=29) (u:=.int .u8 ((dg - 48:Nat):Int)) rfl (cI9 (by rw [show ((dg:Nat):Int) - 48=((dg - 48:Nat):Int) by omega];exact IntWalk.u8_in _ (by omega))) ?_
  refine .cvt ?_ un5 un3
  refine .cast (d:=30) (u:=.int .i64 ((dg - 48:Nat):Int)) rfl (cI9 (Ic (by omega))) ?_
  refine .add ?_
  refine .cast (d:=31) (u:=.int .i64 ((b / 10 ^ (20 - (k+1)):Nat):Int)) rfl (cI9 (by rw [show 20 - (k+1)=19 - k by omega,hz];omega)) ?_
  refine .assign (.nil (.blockNormal (.next (.region ?_))))
  refine .add ?_
  refine .move (.nil ?_)
  exact .back (k+1) (show k+1<=20 by omega) (show 20 - (k+1) < 20 - k by omega)
 ·have hk20:k=20:=by have h:¬ ((k:Nat):Int) < (((aw b).length:Nat):Int):=of_decide_eq_false hd2;have h2:k<=20:=hk;omega
  subst hk20
  rw [Nat.sub_self,Nat.pow_zero,Nat.div_one]
  refine .exit (.thenExit (.thenExit (.blockExit (?_))))
  refine .next (.sr (.move (.move ?_)))
  refine .leq ?_
  refine .cast (d:=35) (u:=.bool true) rfl (cB9 (decide_eq_true (by omega))) ?_
  refine .assign (.assign (.z (.ret (?_))))
  exact .ret2 (h1:=.tmp (t:=2) rfl) (h2:=.tmp (t:=3) rfl) ⟨_,⟨rfl,rfl⟩,Am.auto⟩
theorem Ej :nq Tryz.prog 86=true:=by kernel_rfl
theorem Pn :ad Tryz.prog 145 2 2=true:=by kernel_rfl
theorem tr :ad Tryz.prog 145 3 3=true:=by kernel_rfl
theorem ic :ad Tryz.prog 145 4 4=true:=by kernel_rfl
theorem ts :ah Tryz.prog 143=true:=by kernel_rfl
theorem Ek :Tryz.prog.underlying 143=some (.slice 151):=by kernel_rfl
theorem xr :ad Tryz.prog 151 0 0=true:=by kernel_rfl
theorem Bd :ar Tryz.prog 143 151 6 64=true:=by kernel_rfl
theorem z44 :ax Tryz.prog 44=some (#[.int .i64 0,.int .i64 0,.int .i64 0,.int .i64 0,.slice none 0 0]):=by kernel_rfl
theorem z151 :ax Tryz.prog 151=some (#[.int .i64 0,.int .i64 0,.int .i64 0,.int .i64 0,.slice none 0 0,.int .i64 0]):=by kernel_rfl
structure SRow where
 b:Bt
 s:Value
 k:Nat
def SRow.v (x:SRow):List Value:=x.b.v x.s++[.int .i64 ((x.k:Nat):Int)]
theorem SRow.v_len (x:SRow):x.v.length=6:=rfl
structure SRowOk (os:List (Nat×Obj)) (x:SRow):Prop where
 at':∃ A c,x.s=.slice (some A) x.b.recs.length c/\Reads (frz os) (some A) x.b.rv
 pos:0 < x.b.recs.length
 len:x.b.recs.length<=10000
 rng:(0<=x.b.base/\x.b.base<=1125899906842624)/\1<=x.b.span/\x.b.span<=100
def sizR :List SRow->Nat
 | []=>0
 | x :: l=>x.k+sizR l
theorem Be (l m:List SRow):sizR (l++m)=sizR l+sizR m:=by
 induction l with
 | nil=>simp [sizR]
 | cons r l ih=>simp only [List.cons_append,sizR,ih];omega
def xu (base:Int) (l:List SRow):Int:=match l.getLast? with
 | some x=>x.b.base+x.b.span
 | none=>base
def sgO (f:Nat) (path:aa) (base:Int) (rows:List SRow) (u:Value):Obj:=.cells #[.pointer (some ⟨f,0,none⟩),sv path,.int .i64 base,.int .i64 ((sizR rows:Nat):Int),u] 145 (0,0)
theorem Nc {base:Int}:Spec Tryz.prog 99 #[.int .i64 base] [] fun F v M=>v=.bool (decide (0<=base) && decide (base<=1125899906842624))/\M=F:=by
 refine Spec.intro Tryz.func99 rfl rfl fun B F=>?_
 simp only [Tryz.ntmps99,List.cons_append,List.nil_append,env0,Nat.reduceAdd]
 refine .sr (.assign (.x (.move ?_)))
 refine .geq ?_
 refine .move ?_
 refine .split (t:=5) rfl (fun hb=>?_) (fun hb=>?_)
 ·refine .gT (.move (.gT ?_))
  refine .leq ?_
  refine .pickT (.assign (.z (.ret (?_))))
  exact .ret1 (h1:=.tmp (t:=2) rfl) ⟨_,⟨by rw [show decide (0<=base)=true from hb,Bool.true_and],rfl⟩,Am.auto⟩
 ·refine .gF (.gF (.pickF (.assign (.z (.ret (?_))))))
  exact .ret1 (h1:=.tmp (t:=2) rfl) ⟨_,⟨by rw [show decide (0<=base)=false from hb,Bool.false_and],rfl⟩,Am.auto⟩
theorem Ie {s f:Nat} {path:aa} {base:Int} {rows:List SRow} {u:Value}:Spec Tryz.prog 50 #[.pointer (some ⟨s,0,none⟩)] [pt s (sgO f path base rows u),rowR 151 6 u rows.length (rows.flatMap SRow.v)] fun F v M=>v=.int .i64 base/\M=pt s (sgO f path base rows u) :: rowR 151 6 u rows.length (rows.flatMap SRow.v) :: F:=by
 refine Spec.intro Tryz.func50 rfl rfl fun B F=>?_
 simp only [Tryz.ntmps50,List.cons_append,List.nil_append,env0,Nat.reduceAdd]
 refine .sr (.assign (.z (.seq (.sr (.move ?_)))))
 refine .eqNil ?_ Ej
 refine .z ?_
 refine .condF rfl rfl ?_
 refine .skip (.next (.sr (.move (.nilCheck ?_))))
 refine .fa ?_ Pn
 refine .ld ?_ sc3
 refine .assign (.z (.ret (?_)))
 exact .ret1 (h1:=.tmp (t:=2) rfl) ⟨_,⟨rfl,rfl⟩,Am.auto⟩
theorem Po {s f:Nat} {path:aa} {base:Int} {rows:List SRow} {u:Value}:Spec Tryz.prog 44 #[.pointer (some ⟨s,0,none⟩)] [pt s (sgO f path base rows u),rowR 151 6 u rows.length (rows.flatMap SRow.v)] fun F v M=>v=.int .i64 ((sizR rows:Nat):Int)/\M=pt s (sgO f path base rows u) :: rowR 151 6 u rows.length (rows.flatMap SRow.v) :: F:=by
 refine Spec.intro Tryz.func44 rfl rfl fun B F=>?_
 simp only [Tryz.ntmps44,List.cons_append,List.nil_append,env0,Nat.reduceAdd]
 refine .sr (.assign (.z (.seq (.sr (.move ?_)))))
 refine .eqNil ?_ Ej
 refine .z ?_
 refine .condF rfl rfl ?_
 refine .skip (.next (.sr (.move (.nilCheck ?_))))
 refine .fa ?_ tr
 refine .ld ?_ sc3
 refine .assign (.z (.ret (?_)))
 exact .ret1 (h1:=.tmp (t:=2) rfl) ⟨_,⟨rfl,rfl⟩,Am.auto⟩
theorem If {s f:Nat} {path:aa} {base:Int} {rows:List SRow} {u:Value} {os:List (Nat×Obj)} (hok:∀ x∈rows,SRowOk os x) (hl:rows.length<=100000):Spec Tryz.prog 49 #[.pointer (some ⟨s,0,none⟩)] [pt s (sgO f path base rows u),rowR 151 6 u rows.length (rows.flatMap SRow.v)] fun F v M=>v=.int .i64 (xu base rows)/\M=pt s (sgO f path base rows u) :: rowR 151 6 u rows.length (rows.flatMap SRow.v) :: F:=by
 refine Spec.intro Tryz.func49 rfl rfl fun B F=>?_
 simp only [Tryz.ntmps49,List.cons_append,List.nil_append,env0,Nat.reduceAdd]
 refine .fact (ag (el:=151) (size:=6) (k:=rows.length) (v:=u) (xs:=rows.flatMap SRow.v)) fun ⟨A,c,hu,hR,_,_,_⟩=>?_
 subst hu
 refine .sr (.assign (.z (.seq (.sr (.move ?_)))))
 refine .eqNil ?_ Ej
 refine .move (.gT (.move (.gT (.nilCheck (.gT ?_)))))
 refine .fa ?_ ic
 refine .gT ?_
 refine .ld ?_ ts
 refine .gT ?_
 refine .lenS ?_ Ek
 refine .gT ?_
 refine .eqi ?_
 refine .pickF (.z ?_)
 refine .cond rfl (fun hb=>?_) (fun hb=>?_)
 ·have h0:rows=[]:=List.eq_nil_of_length_eq_zero (by have h:((rows.length:Nat):Int)=0:=of_decide_eq_true hb;omega)
  refine .sr (.move ?_)
  refine .call (hc:=Tryz.call50) (sp:=Ie) (h:=?_)
  rintro _ _ ⟨rfl,rfl⟩
  refine .assign (.z ?_)
  refine .ret (.thenRet (?_))
  exact .ret1 (h1:=.tmp (t:=2) rfl) ⟨_,⟨by rw [h0];rfl,rfl⟩,Am.auto⟩
 ·have hpos:0 < rows.length:=by have h:¬ ((rows.length:Nat):Int)=0:=of_decide_eq_false hb;omega
  obtain ⟨ab,ao,rfl⟩:∃ ab ao,A=some ⟨ab,ao,none⟩:=by
   cases A with
   | none =>
    have h0:rows.flatMap SRow.v=[]:=hR
    have h1:=a7 SRow.v_len rows
    rw [h0] at h1
    simp at h1
    omega
   | some a =>
    obtain ⟨x,y,z⟩:=a
    have:z=none:=hR.1
    subst this
    exact ⟨x,y,rfl⟩
  obtain ⟨x,hx⟩:∃ x,rows[rows.length - 1]?=some x:=⟨_,List.getElem?_eq_getElem (by omega)⟩
  have hxok:=hok x (List.mem_of_getElem? hx)
  obtain ⟨A1,c1,hxs,_⟩:=hxok.at'
  have hrng:=hxok.rng
  have hnx:xu base rows=x.b.base+x.b.span:=by unfold xu;rw [List.getLast?_eq_getElem?,hx]
  have hus:((rows.flatMap SRow.v).drop ((rows.length - 1) * 6)).take 5=x.b.v (.slice (some A1) x.b.recs.length c1):=by
   have h1:=congrArg (List.take 5) (g8 SRow.v_len _ _ _ hx)
   rw [List.take_take] at h1
   rw [<- hxs]
   exact h1
  have hfit:(rows.length - 1) * 6+5<=(rows.flatMap SRow.v).length:=by
   have:=jx SRow.v_len (l:=rows) (i:=rows.length - 1) (by omega)
   omega
  refine .skip (.next (.seq ?_))
  refine .dr ([pt s (sgO f path base rows (.slice (some ⟨ab,ao,none⟩) rows.length c)),rowR 151 6 (.slice (some ⟨ab,ao,none⟩) rows.length c) rows.length (rows.flatMap SRow.v)]) [14] 15 mixed .autoJ ?_
  refine .tk 0 rfl .move ?_
  refine .tk 1 rfl .nilCheck ?_
  refine .tk 2 rfl (.fa ic) ?_
  refine .tk 3 rfl (.ld ts) ?_
  refine .tk 4 rfl .move ?_
  refine .tk 5 rfl .nilCheck ?_
  refine .tk 6 rfl (.fa ic) ?_
  refine .tk 7 rfl (.ld ts) ?_
  refine .tk 8 rfl (.lenS Ek) ?_
  refine .tk 9 rfl .sub ?_
  refine .tk 10 rfl (.idx Bd) ?_
  refine .tk 11 rfl ((Qt.fa xr).eq (congrArg (fun z=>Value.pointer (some ⟨ab,z,none⟩)) (show ao+(((rows.length:Nat):Int) - 1).toNat * 6+0=ao+(rows.length - 1) * 6 by omega))) ?_
  refine .tk 12 rfl (Qt.ldAR (i:=(rows.length - 1) * 6) ex hR hus hfit) ?_
  refine .on 13 rfl fun hnp=>?_
  refine .alloc z44 fun b3=>?_
  refine .nil (.wa hnp ?_)
  refine .on 14 rfl fun hnp=>?_
  refine .stV ?_ ex
  refine .nil (.wb hnp ?_)
  refine .fin ?_
  refine .next (.sr ?_)
  refine .fa ?_ qa
  refine .ld ?_ sc3
  refine .fa ?_ ow
  refine .ld ?_ sc3
  refine .add ?_
  refine .assign (.z (.ret (?_)))
  exact .ret1 (h1:=.tmp (t:=2) rfl) ⟨_,⟨by rw [hnx],rfl⟩,Am.auto⟩
theorem Se :az Tryz.prog 37 0 [] 95 #[]:=fun w=>by kernel_rfl
theorem Bf {g el size:Nat}:∀ h,pt g (.cells #[] el (0,0)) h->rowR el size (.slice (some ⟨g,0,none⟩) 0 0) 0 [] h:=by
 intro h hh
 unfold pt at hh
 unfold rowR
 exact ⟨by simp,.inr ⟨g,0,#[],rfl,hh,Nat.le_refl _,Nat.zero_le _,by simp,by simp⟩⟩
theorem jl {el size k:Nat} {v:Value} {xs:List Value} (hk:0 < k):∀ h,rowR el size v k xs h->∃ x:Nat×Nat×Array Value,(v=.slice (some ⟨x.1,0,none⟩) k x.2.1/\x.2.2.toList.take xs.length=xs)/\pt x.1 (.cells x.2.2 el (0,0)) h:=by
 intro h hh
 unfold rowR at hh
 obtain ⟨h1,h2⟩:=hh
 rcases h2 with ⟨_,h0⟩ | ⟨g,cap,cur,hv,h3,h4,h5,h6,h7⟩
 ·omega
 ·refine ⟨(g,cap,cur),⟨hv,?_⟩,?_⟩
  ·rw [h1];exact h7
  ·unfold pt;exact h3
theorem Ig (l:List Rc):∀ u∈l.flatMap Rc.v,Value.single u=true:=by
 intro u hu
 obtain ⟨r,_,hu⟩:=List.mem_flatMap.1 hu
 unfold Rc.v at hu
 simp only [List.mem_cons,List.not_mem_nil,or_false] at hu
 rcases hu with rfl | rfl | rfl | rfl | rfl | rfl<;>rfl
theorem zg {R:HP} {A:Addr} {c:Nat} {l:List Rc} (hR:Reads R (some A) (l.flatMap Rc.v)) (hpos:0 < l.length) (hl:l.length<=100000):Spec Tryz.prog 86 #[.slice (some A) l.length c] [R]
  fun F v M=>∃ A2 c2,v=.slice (some A2) l.length c2/\M=rowR 95 6 v l.length (l.flatMap Rc.v) :: R :: F:=by
 refine Spec.intro Tryz.func86 rfl rfl fun B F=>?_
 simp only [Tryz.ntmps86,List.cons_append,List.nil_append,env0,Nat.reduceAdd]
 obtain ⟨ab,ao,asp⟩:=A
 have hsp:asp=none:=hR.1
 subst hsp
 refine .sr (.assign (.z (.seq (.sr (.move ?_)))))
 refine .eqSl ?_ sl37
 refine .z ?_
 refine .condF rfl rfl ?_
 refine .skip (.next (.sr ?_))
 refine .buildS (fun b5=>?_) Se
 refine .move ?_
 refine .to (A:=pt b5 (.cells #[] 95 (0,0))) (A':=rowR 95 6 (.slice (some ⟨b5,0,none⟩) 0 0) 0 []) Bf ?_
 refine .append (v:=.slice (some ⟨b5,0,none⟩) 0 0) (m:=l.length) (k:=0) (xs:=[]) (news:=l.flatMap Rc.v) (R:=R) so37 (by decide) (by repeat (first | exact .here | apply Rem.there | apply Repl.there | apply Mem.there)) hR (by repeat (first | exact .here | apply Rem.there | apply Repl.there | apply Mem.there)) (a7 Rc.v_len l) (Ig l) (by unfold maxLen;omega) (by omega) ⟨_,z95,rfl⟩ (fun v' hv'=>?_)
 rw [Nat.zero_add,List.nil_append]
 refine .rowOpen (v:=v') (hx:=fun h=>by have h1:=congrArg List.length h;rw [a7 Rc.v_len] at h1;simp only [List.length_nil] at h1;omega) fun A4 c4 hv4 hR4 _ _=>?_
 subst hv4
 refine .assign (.z (.ret (?_)))
 exact .ret1 (h1:=.tmp (t:=2) rfl) ⟨_,⟨A4,c4,rfl,rfl⟩,Am.auto⟩
theorem Nf {R:HP} {A:Addr} {c:Nat} {b:Bt} (hR:Reads R (some A) b.rv) (hpos:0 < b.recs.length) (hl:b.recs.length<=100000):Spec Tryz.prog 98 #[.agg (b.v (.slice (some A) b.recs.length c)).toArray] [R]
  fun F v M=>∃ A2 c2,v=.agg (b.v (.slice (some A2) b.recs.length c2)).toArray/\M=rowR 95 6 (.slice (some A2) b.recs.length c2) b.recs.length b.rv :: R :: F:=by
 refine Spec.intro Tryz.func98 rfl rfl fun B F=>?_
 simp only [Tryz.ntmps98,List.cons_append,List.nil_append,env0,Nat.reduceAdd]
 refine .sr ?_
 refine .box fun b1=>?_
 refine .alloc z44 fun b2=>?_
 refine .x ?_
 refine .fa ?_ mi
 refine .ld ?_ sc37
 refine .call (hc:=Tryz.call86) (sp:=zg (l:=b.recs) hR hpos hl) (h:=?_)
 rintro _ _ ⟨A2,c2,rfl,rfl⟩
 refine .fa ?_ mi
 refine .st ?_ sc37
 refine .x ?_
 refine .ldA ?_ ex
 refine .stV ?_ ex
 refine .z (.ret (?_))
 exact .ret1 ⟨_,⟨A2,c2,rfl,rfl⟩,Am.auto⟩
theorem bdRow (a s p q:Int) (A:Option Addr) (m c:Nat) (k:Int):bg Tryz.prog 151 [(0,.agg #[.int .i64 a,.int .i64 s,.int .i64 p,.int .i64 q,.slice A m c]),(1,.int .i64 k)] #[.int .i64 a,.int .i64 s,.int .i64 p,.int .i64 q,.slice A m c,.int .i64 k]:=fun w=>by kernel_rfl
theorem Sf (a s p q:Int) (A:Option Addr) (m c:Nat) (k:Int):az Tryz.prog 143 1 [(0,.agg #[.int .i64 a,.int .i64 s,.int .i64 p,.int .i64 q,.slice A m c,.int .i64 k])] 151 #[.int .i64 a,.int .i64 s,.int .i64 p,.int .i64 q,.slice A m c,.int .i64 k]:=fun w=>by kernel_rfl
theorem El {b:Bt} {A:Option Addr} {m c k:Nat}:∀ u∈(SRow.v ⟨b,.slice A m c,k⟩),Value.single u=true:=by
 intro u hu
 unfold SRow.v Bt.v at hu
 simp only [List.cons_append,List.nil_append,List.mem_cons,List.not_mem_nil,or_false] at hu
 rcases hu with rfl | rfl | rfl | rfl | rfl | rfl<;>rfl
theorem Sg {s f:Nat} {path:aa} {base:Int} {rows:List SRow} {u:Value} {b:Bt} {A:Option Addr} {m c k:Nat} (hl:rows.length<=100000) (hk:sizR rows<=1152921504606846976) (hk2:k<=1152921504606846976):Spec Tryz.prog 97 #[.pointer (some ⟨s,0,none⟩),.agg (b.v (.slice A m c)).toArray,.int .i64 (k:Int)] [pt s (sgO f path base rows u),rowR 151 6 u rows.length (rows.flatMap SRow.v)]
  fun F v M=>v=.tuple #[]/\∃ u2,M=pt s (sgO f path base (rows++[(⟨b,.slice A m c,k⟩:SRow)]) u2) :: rowR 151 6 u2 (rows++[(⟨b,.slice A m c,k⟩:SRow)]).length ((rows++[(⟨b,.slice A m c,k⟩:SRow)]).flatMap SRow.v) :: F:=by
 refine Spec.intro Tryz.func97 rfl rfl fun B F=>?_
 simp only [Tryz.ntmps97,List.cons_append,List.nil_append,env0,Nat.reduceAdd]
 have hsz:sizR (rows++[(⟨b,.slice A m c,k⟩:SRow)])=sizR rows+k:=by rw [Be];rfl
 refine .sr ?_
 refine .box fun b4=>?_
 refine .z (.seq ?_)
 refine .dr ([pt s (sgO f path base rows u),pt b4 (.cells (b.v (.slice A m c)).toArray 44 (0,0))]) [12] 13 mixed .autoJ ?_
 refine .tk 0 rfl .move ?_
 refine .tk 1 rfl .move ?_
 refine .tk 2 rfl .nilCheck ?_
 refine .tk 3 rfl (.fa ic) ?_
 refine .tk 4 rfl (.ld ts) ?_
 refine .tk 5 rfl (.ldA ex) ?_
 refine .tk 6 rfl .move ?_
 refine .tk 7 rfl (.build (bdRow _ _ _ _ _ _ _ _)) ?_
 refine .on 8 rfl fun hnp=>?_
 refine .buildS (fun b14=>?_) (Sf _ _ _ _ _ _ _ _)
 refine .nil (.wa hnp ?_)
 refine .on 9 rfl fun hnp=>?_
 refine .append (v:=u) (m:=1) (k:=rows.length) (xs:=rows.flatMap SRow.v) (news:=SRow.v (⟨b,.slice A m c,k⟩:SRow)) Bd (by decide) (by repeat (first | exact .here | apply Rem.there | apply Repl.there | apply Mem.there)) (Reads.pt (cs:=(SRow.v (⟨b,.slice A m c,k⟩:SRow)).toArray)) (by repeat (first | exact .here | apply Rem.there | apply Repl.there | apply Mem.there)) rfl El (by unfold maxLen;omega) (by omega) ⟨_,z151,rfl⟩ (fun u2 hu2=>?_)
 rw [show rows.flatMap SRow.v++SRow.v (⟨b,.slice A m c,k⟩:SRow)=(rows++[(⟨b,.slice A m c,k⟩:SRow)]).flatMap SRow.v by rw [List.flatMap_append,List.flatMap_singleton],show rows.length+1=(rows++[(⟨b,.slice A m c,k⟩:SRow)]).length by simp]
 refine .rowOpen (v:=u2) (hx:=fun h=>by have h1:=congrArg List.length h;rw [a7 SRow.v_len] at h1;simp at h1) fun A4 c4 hv4 hR4 _ _=>?_
 subst hv4
 refine .nil (.wa hnp ?_)
 refine .on 10 rfl fun hnp=>?_
 refine .nilCheck ?_
 refine .nil (.wa hnp ?_)
 refine .tk 11 rfl (.fa ic) ?_
 refine .on 12 rfl fun hnp=>?_
 refine .st ?_ ts
 refine .nil (.wb hnp ?_)
 refine .fin ?_
 refine .next (.region (.move (.nilCheck ?_)))
 refine .fa ?_ tr
 refine .ld ?_ sc3
 refine .move ?_
 refine .add ?_
 refine .cast (d:=23) (u:=.int .i64 ((sizR (rows++[(⟨b,.slice A m c,k⟩:SRow)]):Nat):Int)) rfl (cI9 (by rw [hsz];omega)) ?_
 refine .nilCheck ?_
 refine .fa ?_ tr
 refine .st ?_ sc3
 refine .nil ?_
 exact .ret0 ⟨_,⟨rfl,.slice (some A4) (rows++[(⟨b,.slice A m c,k⟩:SRow)]).length c4,rfl⟩,Am.auto⟩
theorem Ih :ad Tryz.prog 145 0 0=true:=by kernel_rfl
theorem Pp :ad Tryz.prog 145 1 1=true:=by kernel_rfl
theorem Sh (f:Nat) (s:ByteArray) (x:Int):bg Tryz.prog 145 [(0,.pointer (some ⟨f,0,none⟩)),(1,.string s),(2,.int .i64 x)] #[.pointer (some ⟨f,0,none⟩),.string s,.int .i64 x,.int .i64 0,.slice none 0 0]:=fun w=>by kernel_rfl
theorem Pq {f:Nat} {base:Int} {path:aa} {H H':HP} (hb:0<=base/\base<=1125899906842624) (hC:Spec Tryz.prog 100 #[.pointer (some ⟨f,0,none⟩),sv path] [H] fun F v M=>v=okV/\M=H' :: F):Spec Tryz.prog 46 #[.pointer (some ⟨f,0,none⟩),sv path,.int .i64 base] [H]
  fun F v M=>∃ s,v=.tuple #[.pointer (some ⟨s,0,none⟩),.int .i64 0]/\M=pt s (sgO f path base [] (.slice none 0 0)) :: rowR 151 6 (.slice none 0 0) ([]:List SRow).length (([]:List SRow).flatMap SRow.v) :: H' :: F:=by
 refine Spec.intro Tryz.func46 rfl rfl fun B F=>?_
 simp only [Tryz.ntmps46,List.cons_append,List.nil_append,env0,Nat.reduceAdd]
 refine .sr (.assign (.assign (.z (.seq (.sr (.move ?_))))))
 refine .call (hc:=Tryz.call99) (sp:=Nc) (h:=?_)
 rintro _ _ ⟨rfl,rfl⟩
 refine .cast (d:=10) (u:=.bool true) rfl (cB9 (by simp [hb.1,hb.2])) ?_
 refine .not ?_
 refine .z ?_
 refine .condF rfl rfl ?_
 refine .skip (.next (.seq (.sr (.move (.move ?_)))))
 refine .call (hc:=Tryz.call100) (sp:=hC) (h:=?_)
 rintro _ _ ⟨rfl,rfl⟩
 refine .assign (.x (.move ?_))
 refine .nei ?_
 refine .z ?_
 refine .condF rfl rfl ?_
 refine .skip (.next (.sr (.move (.move (.move ?_)))))
 refine .build ?_ (Sh _ _ _)
 refine .box fun b22=>?_
 refine .assign (.assign (.z (.ret (?_))))
 refine .emp (A:=rowR 151 6 (.slice none 0 0) 0 []) (rowR.nil _) ?_
 exact .ret2 (h1:=.tmp (t:=6) rfl) (h2:=.tmp (t:=7) rfl) ⟨_,⟨_,rfl,rfl⟩,Am.auto⟩
theorem qw {b:Bt} (h:batE b=0):(batB b).length<=6000/\ia b=true:=by
 unfold batE at h
 by_cases h1:ox b=0
 ·rw [if_pos h1] at h
  by_cases h2:6000 < (batB b).length
  ·rw [if_pos h2] at h;cases h
  ·refine ⟨by omega,?_⟩
   unfold ox at h1
   by_cases h3:ia b=true
   ·exact h3
   ·rw [if_neg h3] at h1;cases h1
 ·rw [if_neg h1] at h;exact absurd h h1
theorem xv {b:Bt} (h:batE b=0):(0<=b.base/\b.base<=1125899906842624)/\(1<=b.span/\b.span<=100)/\0 < b.recs.length:=by
 have h1:=(qw h).2
 unfold ia ef at h1
 simp only [Bool.and_eq_true,Bool.not_eq_true',Bool.or_eq_false_iff,decide_eq_false_iff_not] at h1
 omega
theorem SRowOk.mono {os os2:List (Nat×Obj)} {x:SRow} (h:SRowOk os x) (hs:∀ y∈os,y∈os2):SRowOk os2 x:=by
 obtain ⟨⟨A,c,h1,h2,h3⟩,h4,h5,h6⟩:=h
 refine ⟨⟨A,c,h1,h2,fun hh hf=>h3 hh ?_⟩,h4,h5,h6⟩
 unfold frz at hf ⊢
 exact fun p hp=>hf p (hs p hp)
theorem Ii {s f c:Nat} {base:Int} {rows:List SRow} {u:Value} {os:List (Nat×Obj)} {b:Bt} {A:Addr} {R:HP} {path:aa} {H H':HP} (hok:∀ x∈rows,SRowOk os x) (hR:Reads R (some A) b.rv) (hE:batE b=0) (hl:b.recs.length<=10000) (hx:xu base rows<=b.base) (hrows:rows.length<=99999) (hsz:sizR rows<=1000000000)
  (hA:∀ (R:HP) (A:Option Addr) (cc:Nat),Reads R A (bvs (batB b))->(batB b).length<=cc->cc<=maxLen->Spec Tryz.prog 96 #[.pointer (some ⟨f,0,none⟩),sv path,.slice A (batB b).length cc] [H,R] fun F v M=>v=okV/\M=H' :: R :: F) :
  Spec Tryz.prog 45 #[.pointer (some ⟨s,0,none⟩),.agg (b.v (.slice (some A) b.recs.length c)).toArray] [pt s (sgO f path base rows u),rowR 151 6 u rows.length (rows.flatMap SRow.v),frz os,H,R] fun F v M=>v=.int .i64 0/\∃ u2 os2 s2,(SRowOk os2 (⟨b,s2,(batB b).length⟩:SRow)/\∀ x∈os,x∈os2)/\M=pt s (sgO f path base (rows++[(⟨b,s2,(batB b).length⟩:SRow)]) u2) :: rowR 151 6 u2 (rows++[(⟨b,s2,(batB b).length⟩:SRow)]).length ((rows++[(⟨b,s2,(batB b).length⟩:SRow)]).flatMap SRow.v) :: frz os2 :: H' :: R :: F:=by
 refine Spec.intro Tryz.func45 rfl rfl fun B F=>?_
 simp only [Tryz.ntmps45,List.cons_append,List.nil_append,env0,Nat.reduceAdd]
 obtain ⟨hfit,_⟩:=qw hE
 obtain ⟨hb,hsp,hpos⟩:=xv hE
 obtain ⟨ab,ao,asp⟩:=A
 have hasp:asp=none:=hR.1
 subst hasp
 refine .sr ?_
 refine .box fun b3=>?_
 refine .assign (.z (.seq (.sr (.move ?_))))
 refine .eqNil ?_ Ej
 refine .move (.gT (.move (.gT (.nilCheck (.gT ?_)))))
 refine .fa ?_ Ih
 refine .gT ?_
 refine .ld ?_ sc29
 refine .gT ?_
 refine .eqNil ?_ ui
 refine .pickF (.z ?_)
 refine .condF rfl rfl ?_
 refine .skip (.next (.sr ?_))
 refine .ldA ?_ ex
 refine .call (hc:=Tryz.call40) (sp:=tq hR hl) (h:=?_)
 rintro _ _ (⟨h0,_,_⟩ | ⟨_,g,q,⟨rfl,hq1,hq2⟩,rfl⟩)
 ·exact absurd hE h0
 refine .move ?_
 refine .extract (.extract ?_)
 refine .assign (.assign (.z (.seq (.sr (.move ?_)))))
 refine .nei ?_
 refine .z ?_
 refine .condF rfl rfl ?_
 refine .skip (.next (.seq (.seq ?_)))
 refine .dr ([pt b3 (.cells (b.v (.slice (some ⟨ab,ao,none⟩) b.recs.length c)).toArray 44 (0,0))]) [] 5 mixed .autoJ ?_
 refine .tk 0 rfl (.fa qa) ?_
 refine .tk 1 rfl (.ld sc3) ?_
 refine .tk 2 rfl .move ?_
 refine .on 3 rfl fun hnp=>?_
 refine .call (hc:=Tryz.call49) (sp:=If (os:=os) hok (by omega)) (h:=?_)
 rintro _ _ ⟨rfl,rfl⟩
 refine .nil (.wa hnp ?_)
 refine .tk 4 rfl .lss ?_
 refine .fin ?_
 refine .next ?_
 refine .condF rfl (cB9 (decide_eq_false (by omega))) ?_
 refine .skip (.next (.seq (.seq ?_)))
 refine .dr ([pt s (sgO f path base rows u)]) [] 11 mixed .autoJ ?_
 refine .tk 0 rfl .move ?_
 refine .tk 1 rfl .nilCheck ?_
 refine .tk 2 rfl (.fa Ih) ?_
 refine .tk 3 rfl (.ld sc29) ?_
 refine .tk 4 rfl .move ?_
 refine .tk 5 rfl .nilCheck ?_
 refine .tk 6 rfl (.fa Pp) ?_
 refine .tk 7 rfl (.ld sc9) ?_
 refine .tk 8 rfl .move ?_
 refine .on 9 rfl fun hnp=>?_
 refine .call (hc:=Tryz.call96) (sp:=hA (buf g 5 q (bvs (batB b))) (some ⟨g,0,none⟩) q Reads.buf hq1 hq2) (h:=?_)
 rintro _ _ ⟨rfl,rfl⟩
 refine .nil (.wa hnp ?_)
 refine .tk 10 rfl .assign ?_
 refine .fin ?_
 refine .next (.sr (.move ?_))
 refine .nei ?_
 refine .z ?_
 refine .condF rfl rfl ?_
 refine .skip (.next (.sr (.move ?_)))
 refine .ldA ?_ ex
 refine .call (hc:=Tryz.call98) (sp:=Nf (b:=b) hR hpos (by omega)) (h:=?_)
 rintro _ _ ⟨A2,c2,rfl,rfl⟩
 refine .toE (A:=rowR 95 6 (.slice (some A2) b.recs.length c2) b.recs.length b.rv) (jl hpos) ?_
 rintro ⟨g2,q2,cur⟩ ⟨hv2,htk⟩
 injection hv2 with hA2 _ hc2
 injection hA2 with hA2
 simp only at hA2 hc2 htk
 subst hA2
 subst hc2
 refine .frzAdd ?_
 have hnew:SRowOk ((g2,.cells cur 95 (0,0)) :: os) (⟨b,.slice (some ⟨g2,0,none⟩) b.recs.length c2,(batB b).length⟩:SRow):=⟨⟨_,c2,rfl,by
  have:=(Reads.frz (os:=(g2,.cells cur 95 (0,0)) :: os) (b:=g2) (cs:=cur) (List.mem_cons_self ..)).take b.rv.length
  rwa [htk] at this⟩,hpos,hl,hb,hsp⟩
 refine .move ?_
 refine .lenS ?_ sl79
 refine .call (hc:=Tryz.call97) (sp:=Sg (rows:=rows) (u:=u) (base:=base) (path:=path) (f:=f) (s:=s) (b:=b) (A:=some ⟨g2,0,none⟩) (m:=b.recs.length) (c:=c2) (k:=(batB b).length) (by omega) (by omega) (by omega)) (h:=?_)
 rintro _ _ ⟨rfl,u2,rfl⟩
 refine .x (.assign (.z (.ret (?_))))
 exact .ret1 (h1:=.tmp (t:=4) rfl) ⟨_,⟨rfl,u2,_,_,⟨hnew,fun x hx=>List.mem_cons_of_mem _ hx⟩,rfl⟩,Am.auto⟩
end Go.Proofs.YtmihjfcbofejoaaGreatDoor
end
