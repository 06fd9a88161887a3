/- A part of the proof of ev: texts of this work put together. -/
import Derived.Test.YtmihjfcbofejoaaGreatDoorQg6
import Derived.KernelRfl
set_option linter.unusedVariables false
set_option linter.unusedSimpArgs false
set_option linter.unusedSectionVars false
section
namespace Go.Proofs.YtmihjfcbofejoaaGreatDoor
open Go
theorem Jp {rs:List Slot} {nm' nm:ad} {i:Nat} (ho:DirOk rs) (hn:ef nm' rs=none) (ho':DirOk (setS rs (bj rs) (some (nm',i)))):(ef nm (setS rs (bj rs) (some (nm',i)))).map (·.2)=if nm=nm' then some i else (ef nm rs).map (·.2):=by
 have hfl:=ej rs
 have hfree:∀ n j,rs[bj rs]?≠some (some (n,j)):=by
  intro n j hh
  unfold bj at hh
  cases hf:iw rs rs.length with
  | some r =>
   rw [hf] at hh
   rw [Option.getD_some,(l7 hf).2.1] at hh
   cases hh
  | none =>
   rw [hf] at hh
   simp at hh
 by_cases e:nm=nm'
 ·subst e
  rw [if_pos rfl,qv ho' (jo hfl _)]
  rfl
 ·rw [if_neg e]
  cases h1:ef nm (setS rs (bj rs) (some (nm',i))) with
  | some x =>
   obtain ⟨q,j⟩:=x
   have h2:=eg h1
   have hq:q≠bj rs:=fun hq=>by
    rw [hq,jo hfl] at h2
    injection h2 with h2;injection h2 with h2;injection h2 with h2 _
    exact e h2.symm
   rw [gw hfl hq] at h2
   rw [qv ho h2]
  | none =>
   cases h2:ef nm rs with
   | none=>rfl
   | some x =>
    obtain ⟨q,j⟩:=x
    have h3:=eg h2
    have hq:q≠bj rs:=fun hq=>hfree _ _ (hq ▸ h3)
    exact absurd (by rw [gw hfl hq];exact h3) (eu h1 q j)
structure RtI (p:Pl) (T:FT) (kv:List (ad×Nat)) (m t:Nat):Prop where
 tok:TOk T
 root:∃ rs,T 0=some (.dir rs)/\rs.length<=kv.length/\∀ nm,(ef nm rs).map (·.2)=kget kv nm
 top:∀ j,m<=j->T j=none
 tot:tot (fmT T) p.ino<=t
theorem Jq {κ α:Type} [DecidableEq κ] {l:List (κ×α)} {k:κ} {v:α} (h:kget l k=none):(kput l k v).length=l.length+1:=by
 rw [m0,h]
 rfl
section
variable {p:Pl} {T:FT} {kv:List (ad×Nat)} {m t:Nat} {nm:ad}
theorem RtI.findNo (h:RtI p T kv m t) (hn:am nm=true) (hk:kget kv nm=none):cg T 0 nm=(0,4):=by
 obtain ⟨rs,h1,_,h3⟩:=h.root
 have h4:=h3 nm
 rw [hk] at h4
 unfold cg
 rw [if_pos hn,h1]
 show (match ef nm rs with | some (_,i)=>(i,0) | none=>(0,4))=_
 cases hl:ef nm rs with
 | none=>rfl
 | some x=>rw [hl] at h4;cases h4
theorem RtI.findIs {i:Nat} (h:RtI p T kv m t) (hn:am nm=true) (hk:kget kv nm=some i):cg T 0 nm=(i,0):=by
 obtain ⟨rs,h1,_,h3⟩:=h.root
 have h4:=h3 nm
 rw [hk] at h4
 unfold cg
 rw [if_pos hn,h1]
 show (match ef nm rs with | some (_,i)=>(i,0) | none=>(0,4))=_
 cases hl:ef nm rs with
 | none=>rw [hl] at h4;cases h4
 | some x =>
  obtain ⟨q,j⟩:=x
  rw [hl] at h4
  injection h4 with h4
  have h4:j=i:=h4
  rw [h4]
theorem RtI.parent (h:RtI p T kv m t) (hn:am nm=true):ax T (47 :: nm)=(0,nm,0):=by
 obtain ⟨rs,h1,_,_⟩:=h.root
 unfold ax
 rw [q8 hn]
 show (if [nm]=[] then _ else if (bw T 0 []).2=0 then (match T (bw T 0 []).1 with | some (.dir _)=>((bw T 0 []).1,nm,0) | _=>(0,[],6)) else _)=_
 rw [if_neg (by simp)]
 show (if (0:Nat)=0 then (match T 0 with | some (.dir _)=>(0,nm,0) | _=>(0,[],6)) else _)=_
 rw [if_pos rfl,h1]
theorem RtI.leadsNo (h:RtI p T kv m t) (hn:am nm=true) (hk:kget kv nm=none):(d4 T (47 :: nm)).2.2.2=4:=by
 unfold d4
 rw [q8 hn]
 have hw:bw T 0 [nm]=(0,4):=by
  unfold bw
  rw [h.findNo hn hk]
  rfl
 show (if (bw T 0 [nm]).2=0 then _ else _:Nat×Nat×Nat×Nat).2.2.2=_
 rw [hw]
 rfl
theorem RtI.leadsDir {i:Nat} {sl:List Slot} (h:RtI p T kv m t) (hn:am nm=true) (hk:kget kv nm=some i) (hd:T i=some (.dir sl)):d4 T (47 :: nm)=(i,2,(NodeT.dir sl).size,0):=by
 unfold d4
 rw [q8 hn]
 have hw:bw T 0 [nm]=(i,0):=by
  unfold bw
  rw [h.findIs hn hk]
  rfl
 show (if (bw T 0 [nm]).2=0 then _ else _)=_
 rw [hw,if_pos rfl]
 show (match T i with | some y=>(i,y.kind,y.size,0) | none=>(i,0,0,4))=_
 rw [hd]
 rfl
theorem lz {k:Nat} (h:k<=8):has (64 * k)<=1:=by
 have h1:has (64 * k)<=has (64 * 8):=gu (by omega)
 have h2:has (64 * 8)=1:=rfl
 omega
theorem Tv {d n:Nat} {sl:List Slot} {i:Nat} {x:NodeT} (hx:x.empty) (hd:T d=some (.dir sl)) (hi:T i=none) (hdn:d < n) (hin:i < n) (hne:d≠i) :
  tot (fmT (mkT T d sl nm i x)) n+has (64 * sl.length)=tot (fmT T) n+has (64 * (setS sl (bj sl) (some (nm,i))).length):=by
 have h1:=d2 (fmT T) hin (some x.f)
 rw [d3,gr hi] at h1
 have h2:=d2 (fmT (updT T i (some x))) hdn (some (NodeT.dir (setS sl (bj sl) (some (nm,i)))).f)
 rw [d3,bx (x:=.dir sl) (by rw [cr _ _ hne];exact hd)] at h2
 have e0:hasO none=0:=rfl
 have e1:hasO (some x.f)=0:=by rw [NodeT.empty_f hx];show has 0=0;rfl
 have e2:hasO (some (NodeT.dir sl).f)=has (64 * sl.length):=by show has (dirB sl).length=_;rw [av]
 have e3:hasO (some (NodeT.dir (setS sl (bj sl) (some (nm,i)))).f)=has (64 * (setS sl (bj sl) (some (nm,i))).length):=by show has (dirB _).length=_;rw [av]
 unfold mkT
 omega
theorem RtI.mkd (h:RtI p T kv m t) (hn:am nm=true) (hk:kget kv nm=none) (hl:kv.length<=7) (hm:m < p.ino) (hi2:p.ino<=4294967296) :
  ∃ i rs,T 0=some (.dir rs)/\rs.length<=kv.length/\(1<=i/\i<=m)/\T i=none/\(∀ j < i,T j≠none)/\mkT T 0 rs nm i (.dir []) i=some (.dir [])/\RtI p (mkT T 0 rs nm i (.dir [])) (kput kv nm i) (m+1) (t+1):=by
 obtain ⟨rs,h1,h2,h3⟩:=h.root
 obtain ⟨i,hi,hT,hb⟩:=pu m (h.top m (Nat.le_refl _))
 have hi0:i≠0:=fun e=>by rw [e,h1] at hT;cases hT
 have hfl:=ej rs
 have hnl:=ap hn
 have hlk:ef nm rs=none:=by
  have h4:=h3 nm
  rw [hk] at h4
  cases hl:ef nm rs with
  | none=>rfl
  | some x=>rw [hl] at h4;cases h4
 have hok:DirOk (setS rs (bj rs) (some (nm,i))):=(h.tok 0 rs h1).1.set hfl hnl (by omega) fun r j _ hh=>eu hlk r j hh
 have hsl:=ig hfl (some (nm,i))
 refine ⟨i,rs,h1,h2,⟨by omega,hi⟩,hT,hb,by rw [lx,if_neg hi0,if_pos rfl],?_,⟨_,by rw [lx,if_pos rfl],?_,fun n=>?_⟩,fun j hj=>?_,?_⟩
 ·unfold mkT
  refine (h.tok.upd i fun sl hs=>?_).upd 0 fun sl hs=>?_
  ·injection hs with hs;injection hs with hs;subst hs;exact ⟨DirOk.nil,Nat.zero_le _⟩
  ·injection hs with hs;injection hs with hs;subst hs;exact ⟨hok,by omega⟩
 ·rw [Jq hk]
  omega
 ·rw [Jp (h.tok 0 rs h1).1 hlk hok,ay,h3]
 ·rw [lx,if_neg (by omega),if_neg (by omega)]
  exact h.top j (by omega)
 ·have h5:=Tv (nm:=nm) (x:=.dir []) rfl h1 hT (n:=p.ino) (by omega) (by omega) (fun e=>hi0 e.symm)
  have h6:=lz (k:=(setS rs (bj rs) (some (nm,i))).length) (by omega)
  have h7:=h.tot
  omega
theorem RtI.file {d:Nat} (h:RtI p T kv m t) (hd0:d≠0) (hd:T d=some (.dir [])) (hn:am nm=true) (hm:m < p.ino) (hdm:d < m) (hi2:p.ino<=4294967296) :
  ∃ i,i<=m/\T i=none/\(∀ j < i,T j≠none)/\RtI p (mkT T d [] nm i (.file [])) kv (m+1) (t+1):=by
 obtain ⟨rs,h1,h2,h3⟩:=h.root
 obtain ⟨i,hi,hT,hb⟩:=pu m (h.top m (Nat.le_refl _))
 have hi0:i≠0:=fun e=>by rw [e,h1] at hT;cases hT
 have hid:d≠i:=fun e=>by rw [e,hT] at hd;cases hd
 have hnl:=ap hn
 have hs:setS ([]:List Slot) (bj []) (some (nm,i))=[some (nm,i)]:=rfl
 have hok:DirOk (setS [] (bj []) (some (nm,i))):=DirOk.nil.set (Nat.le_refl _) hnl (by omega) fun r j _ hh=>by simp at hh
 refine ⟨i,hi,hT,hb,?_,⟨rs,by rw [lx,if_neg (fun e=>hd0 e.symm),if_neg (fun e=>hi0 e.symm)];exact h1,h2,h3⟩,fun j hj=>?_,?_⟩
 ·unfold mkT
  refine (h.tok.upd i fun sl hs=>?_).upd d fun sl hs=>?_
  ·injection hs with hs;cases hs
  ·injection hs with hs;injection hs with hs;subst hs;exact ⟨hok,by rw [ig (ej [])];decide⟩
 ·rw [lx,if_neg (by omega),if_neg (by omega)]
  exact h.top j (by omega)
 ·have h5:=Tv (nm:=nm) (x:=.file []) rfl hd hT (n:=p.ino) (by omega) (by omega) hid
  have h6:has (64 * (setS ([]:List Slot) (bj []) (some (nm,i))).length)=1:=by rw [ig (ej [])];rfl
  have h7:has (64 * ([]:List Slot).length)=0:=rfl
  have h8:=h.tot
  omega
end
theorem Qn {f:Nat} {p:Pl} {T:FT} {path:ad} (ho:PlOk p) (hT:TOk T) (hpl:path.length<=1000000) {e:Nat} (hl:(d4 T path).2.2.2=e) (he:e≠0):Spec Tryz.prog 59 #[.pointer (some ⟨f,0,none⟩),sv path] [FSR f p T] fun F v M=>v=.tuple #[.slice none 0 0,nI e]/\M=FSR f p T :: F:=by
 refine Spec.intro Tryz.func59 rfl rfl fun B F=>?_
 simp only [Tryz.ntmps59,List.cons_append,List.nil_append,env0,Nat.reduceAdd]
 refine .openR (FSR.opens f p T) fun y _=>?_
 obtain ⟨c,a,s,mp⟩:=y
 simp only [fsLs,List.cons_append,List.nil_append]
 refine .sr (.assign (.assign (.x (.move (.move ?_)))))
 refine .call (hc:=Tryz.call107) (sp:=td (f:=f) (s:=s) (a:=a) (c:=c) (mp:=mp) (b:=false) (ov:=false) (dead:=false) (p:=p) (T:=T) (F0:=fmT T) (W:=0) (op:=false) (path:=path) ho hT hpl) (h:=?_)
 rintro _ _ ⟨rfl,rfl⟩
 rw [hl]
 refine .move ?_
 refine .extract (.extract (.extract ?_))
 refine .alloc z159 fun b7=>?_
 refine .assign ?_
 refine .stV ?_ cw
 refine .assign (.z (.seq (.sr (.move ?_))))
 refine .nei ?_
 refine .z ?_
 refine .condT rfl (cB9 (by simp;omega)) ?_
 refine .sr (.move (.assign (.assign (.z ?_))))
 refine .ret (.thenRet (?_))
 refine .shutR (FSR.opens f p T) (c,a,s,mp) trivial ?_
 exact .ret2 (h1:=.tmp (t:=4) rfl) (h2:=.tmp (t:=5) rfl) ⟨_,⟨rfl,rfl⟩,Am.auto⟩
theorem Fd {f bf bd m t:Nat} {p:Pl} {T:FT} {kv:List (ad×Nat)} {dn:ad} (hp:PlP p) (hR:RtI p T kv m t) (hdn:am dn=true) (hk:kget kv dn=none) (hl:kv.length<=7) (hm:m+1 < p.ino) (ht:t<=300):Spec Tryz.prog 58 #[.pointer (some ⟨bf,0,none⟩),.pointer (some ⟨bd,0,none⟩)] [FSB f p (fmT T) T 0,bun [pt bf (.cells #[.pointer (some ⟨f,0,none⟩)] 29 (0,0)),pt bd (.cells #[sv (47 :: dn)] 9 (0,0))]] fun F v M=>∃ y:FT×Nat,(RtI p y.1 (kput kv dn y.2) (m+2) (t+2))/\v=okV/\M=FSB f p (fmT T) y.1 18 :: bun [pt bf (.cells #[.pointer (some ⟨f,0,none⟩)] 29 (0,0)),pt bd (.cells #[sv (47 :: dn)] 9 (0,0))] :: F:=by
 refine Spec.intro Tryz.func58 rfl rfl fun B F=>?_
 simp only [Tryz.ntmps58,List.cons_append,List.nil_append,env0,Nat.reduceAdd]
 refine .openR (bun.opens _) fun _ _=>?_
 simp only [List.cons_append,List.nil_append]
 have hdl:=ap hdn
 have hdc:=hp.dc
 have hi2:=hp.ok.i2
 have htt:=hR.tot
 obtain ⟨i,rs,hrs,hrl,hi,hTi,hb,hTd,hR1⟩:=hR.mkd hdn hk hl (by omega) (by omega)
 obtain ⟨T1,hT1⟩:∃ T1,T1=mkT T 0 rs dn i (.dir []):=⟨_,rfl⟩
 rw [<- hT1] at hTd hR1
 obtain ⟨j,hj,hTj,hbj,hR2⟩:=hR1.file (nm:=aw 0) (d:=i) (by omega) hTd (qw 0) (by omega) (by omega) (by omega)
 have htt1:=hR1.tot
 have hw1:bw T1 0 [dn]=(i,0):=by
  unfold bw
  rw [hR1.findIs hdn (i:=i) (by rw [ay,if_pos rfl])]
  rfl
 have hpar:ax T1 (em dn (aw 0))=(i,aw 0,0):=by
  unfold ax
  rw [H8 hdn (qw 0)]
  show (if [dn,aw 0]=[] then _ else if (bw T1 0 [dn]).2=0 then (match T1 (bw T1 0 [dn]).1 with | some (.dir _)=>((bw T1 0 [dn]).1,aw 0,0) | _=>(0,[],6)) else _)=_
  rw [if_neg (by simp),hw1,if_pos rfl,hTd]
 have hfi:cg T1 i (aw 0)=(0,4):=by
  unfold cg
  rw [if_pos (qw 0),hTd]
  rfl
 have hh1:=lz (k:=rs.length+1) (by omega)
 have hfr:=ej rs
 have hh2:has (max (64 * rs.length) (64 * bj rs+64))<=has (64 * (rs.length+1)):=gu (by omega)
 have hh3:has (max (64 * ([]:List Slot).length) (64 * bj []+64))=1:=rfl
 refine .sr (.assign (.z (.seq (.sr ?_))))
 refine .ld ?_ sc29
 refine .ld ?_ sc9
 refine .call (hc:=Tryz.call31) (sp:=C8 (f:=f) (p:=p) (T:=T) (F0:=fmT T) (W0:=0) (path:=47 :: dn) (d:=0) (i:=i) (nm:=dn) (sl:=rs) (x:=.dir []) hp.ok hR.tok (by simp only [List.length_cons];omega) (by intro h;injection h with _ h;rw [h] at hdl;simp at hdl) (hR.parent hdn) (hR.findNo hdn hk) hrs (by omega) hTi hb rfl rfl (hp.w (by decide)) (by omega)) (h:=?_)
 rintro _ _ ⟨rfl,rfl⟩
 rw [<- hT1]
 refine .assign (.x (.move ?_))
 refine .nei ?_
 refine .z ?_
 refine .condF rfl rfl ?_
 refine .skip (.next (.seq ?_))
 refine .dr ([pt bf (.cells #[.pointer (some ⟨f,0,none⟩)] 29 (0,0)),pt bd (.cells #[sv (47 :: dn)] 9 (0,0))]) [] 9 mixed .autoJ ?_
 refine .tk 0 rfl (.ld sc29) ?_
 refine .tk 1 rfl (.ld sc9) ?_
 refine .on 2 rfl fun hnp=>?_
 refine .call (hc:=Tryz.call47) (sp:=kn (dir:=47 :: dn) (b:=0) (by simp only [List.length_cons];omega) (by decide)) (h:=?_)
 rintro _ _ ⟨rfl,rfl⟩
 rw [ko]
 refine .nil (.wa hnp ?_)
 refine .on 3 rfl fun hnp=>?_
 refine .call (hc:=Tryz.call46) (sp:=Br (f:=f) (base:=((0:Nat):Int)) (path:=em dn (aw 0)) (H:=FSB f p (fmT T) T1 (0+1+8)) (H':=FSB f p (fmT T) (mkT T1 i [] (aw 0) j (.file [])) (0+1+8+1+8)) (by decide) (zi (sl:=[]) (x:=.file []) hp.ok hR1.tok (by rw [ij,cz];omega) (by intro h;have h2:=congrArg List.length h;rw [ij,cz] at h2;simp at h2) hpar hfi hTd (by omega) hTj hbj rfl rfl (hp.w (by decide)) (by omega))) (h:=?_)
 rintro _ _ ⟨s,rfl,rfl⟩
 refine .nil (.wa hnp ?_)
 refine .tk 4 rfl .move ?_
 refine .tk 5 rfl .extract ?_
 refine .tk 6 rfl .extract ?_
 refine .tk 7 rfl .assign ?_
 refine .tk 8 rfl .assign ?_
 refine .fin ?_
 refine .next (.sr (.move (.assign (.z (.ret (?_))))))
 refine .shutR (bun.opens [pt bf (.cells #[.pointer (some ⟨f,0,none⟩)] 29 (0,0)),pt bd (.cells #[sv (47 :: dn)] 9 (0,0))]) () trivial ?_
 exact .ret1 (h1:=.tmp (t:=2) rfl) ⟨_,⟨(mkT T1 i [] (aw 0) j (.file []),i),hR2,rfl,rfl⟩,Am.auto⟩
theorem Jr {f m t:Nat} {p:Pl} {T:FT} {kv:List (ad×Nat)} {dn:ad} {st:Sts} (hp:PlP p) (hR:RtI p T kv m t) (hdn:am dn=true) (hk:kget kv dn=none) (hl:kv.length<=7) (hm:m+1 < p.ino) (ht:t<=300) (hst:cf st=true):Spec Tryz.prog 29 #[.pointer (some ⟨f,0,none⟩),sv (47 :: dn),.agg st.v.toArray] [FSR f p T] fun F v M=>∃ y:FT×Nat,(RtI p y.1 (kput kv dn y.2) (m+2) (t+2))/\v=okV/\M=FSR f p y.1 :: F:=by
 refine Spec.intro Tryz.func29 rfl rfl fun B F=>?_
 simp only [Tryz.ntmps29,List.cons_append,List.nil_append,env0,Nat.reduceAdd]
 refine .sr ?_
 refine .box fun b3=>?_
 refine .box fun b4=>?_
 refine .box fun b5=>?_
 refine .assign (.z (.seq (.sr ?_)))
 refine .ldA ?_ lc
 refine .call (hc:=Tryz.call10) (sp:=km (s:=st)) (h:=?_)
 rintro _ _ ⟨rfl,rfl⟩
 rw [hst]
 refine .not ?_
 refine .z ?_
 refine .condF rfl rfl ?_
 refine .skip (.next (.sr ?_))
 refine .ld ?_ sc29
 refine .makeFuncB ?_
 refine .shutR (bun.opens [pt b3 (.cells #[.pointer (some ⟨f,0,none⟩)] 29 (0,0)),pt b4 (.cells #[sv (47 :: dn)] 9 (0,0))]) () trivial ?_
 refine .call (hc:=Tryz.call41) (sp:=pw (f:=f) (p:=p) (α:=FT×Nat) (q:=fun y=>(RtI p y.1 (kput kv dn y.2) (m+2) (t+2))) (T:=T) (T':=fun y=>y.1) (W':=fun _=>18) (X0:=bun [pt b3 (.cells #[.pointer (some ⟨f,0,none⟩)] 29 (0,0)),pt b4 (.cells #[sv (47 :: dn)] 9 (0,0))]) (X':=fun _=>bun [pt b3 (.cells #[.pointer (some ⟨f,0,none⟩)] 29 (0,0)),pt b4 (.cells #[sv (47 :: dn)] 9 (0,0))]) hp.ok (hc:=Tryz.call58) (Fd hp hR hdn hk hl hm ht)) (h:=?_)
 rintro _ _ ⟨y,hy,rfl,rfl⟩
 refine .assign (.z (.ret (?_)))
 exact .ret1 (h1:=.tmp (t:=6) rfl) ⟨_,⟨y,hy,rfl,rfl⟩,Am.auto⟩
theorem Bz {f:Nat} {dn:ad} {st:Sts} (hst:cf st=false):Spec Tryz.prog 29 #[.pointer (some ⟨f,0,none⟩),sv (47 :: dn),.agg st.v.toArray] [] fun F v M=>v=.int .i64 1/\M=F:=by
 refine Spec.intro Tryz.func29 rfl rfl fun B F=>?_
 simp only [Tryz.ntmps29,List.cons_append,List.nil_append,env0,Nat.reduceAdd]
 refine .sr ?_
 refine .box fun b3=>?_
 refine .box fun b4=>?_
 refine .box fun b5=>?_
 refine .assign (.z (.seq (.sr ?_)))
 refine .ldA ?_ lc
 refine .call (hc:=Tryz.call10) (sp:=km (s:=st)) (h:=?_)
 rintro _ _ ⟨rfl,rfl⟩
 rw [hst]
 refine .not ?_
 refine .z ?_
 refine .condT rfl rfl ?_
 refine .sr (.assign (.z ?_))
 refine .ret (.thenRet (?_))
 exact .ret1 (h1:=.tmp (t:=6) rfl) ⟨_,⟨rfl,rfl⟩,Am.auto⟩
theorem Fe {f bf bd m t i:Nat} {p:Pl} {T:FT} {kv:List (ad×Nat)} {dn:ad} (ho:PlOk p) (hR:RtI p T kv m t) (hdn:am dn=true) (hk:kget kv dn=some i):Spec Tryz.prog 58 #[.pointer (some ⟨bf,0,none⟩),.pointer (some ⟨bd,0,none⟩)] [FSB f p (fmT T) T 0,bun [pt bf (.cells #[.pointer (some ⟨f,0,none⟩)] 29 (0,0)),pt bd (.cells #[sv (47 :: dn)] 9 (0,0))]] fun F v M=>v=nI 5/\M=FSX f p (fmT T) :: bun [pt bf (.cells #[.pointer (some ⟨f,0,none⟩)] 29 (0,0)),pt bd (.cells #[sv (47 :: dn)] 9 (0,0))] :: F:=by
 refine Spec.intro Tryz.func58 rfl rfl fun B F=>?_
 simp only [Tryz.ntmps58,List.cons_append,List.nil_append,env0,Nat.reduceAdd]
 refine .openR (bun.opens _) fun _ _=>?_
 simp only [List.cons_append,List.nil_append]
 have hdl:=ap hdn
 refine .sr (.assign (.z (.seq (.sr ?_))))
 refine .ld ?_ sc29
 refine .ld ?_ sc9
 refine .call (hc:=Tryz.call31) (sp:=Mz (f:=f) (p:=p) (T:=T) (F0:=fmT T) (W0:=0) (path:=47 :: dn) (d:=0) (i:=i) (nm:=dn) ho hR.tok (by simp only [List.length_cons];omega) (by intro h;injection h with _ h;rw [h] at hdl;simp at hdl) (hR.parent hdn) (hR.findIs hdn hk)) (h:=?_)
 rintro _ _ ⟨rfl,rfl⟩
 refine .assign (.x (.move ?_))
 refine .nei ?_
 refine .z ?_
 refine .condT rfl rfl ?_
 refine .sr (.move (.assign (.z ?_)))
 refine .ret (.thenRet (?_))
 refine .shutR (bun.opens [pt bf (.cells #[.pointer (some ⟨f,0,none⟩)] 29 (0,0)),pt bd (.cells #[sv (47 :: dn)] 9 (0,0))]) () trivial ?_
 exact .ret1 (h1:=.tmp (t:=2) rfl) ⟨_,⟨rfl,rfl⟩,Am.auto⟩
theorem zy {f m t i:Nat} {p:Pl} {T:FT} {kv:List (ad×Nat)} {dn:ad} {st:Sts} (ho:PlOk p) (hR:RtI p T kv m t) (hdn:am dn=true) (hk:kget kv dn=some i) (hst:cf st=true):Spec Tryz.prog 29 #[.pointer (some ⟨f,0,none⟩),sv (47 :: dn),.agg st.v.toArray] [FSR f p T] fun F v M=>v=nI 5/\M=FSR f p T :: F:=by
 refine Spec.intro Tryz.func29 rfl rfl fun B F=>?_
 simp only [Tryz.ntmps29,List.cons_append,List.nil_append,env0,Nat.reduceAdd]
 refine .sr ?_
 refine .box fun b3=>?_
 refine .box fun b4=>?_
 refine .box fun b5=>?_
 refine .assign (.z (.seq (.sr ?_)))
 refine .ldA ?_ lc
 refine .call (hc:=Tryz.call10) (sp:=km (s:=st)) (h:=?_)
 rintro _ _ ⟨rfl,rfl⟩
 rw [hst]
 refine .not ?_
 refine .z ?_
 refine .condF rfl rfl ?_
 refine .skip (.next (.sr ?_))
 refine .ld ?_ sc29
 refine .makeFuncB ?_
 refine .shutR (bun.opens [pt b3 (.cells #[.pointer (some ⟨f,0,none⟩)] 29 (0,0)),pt b4 (.cells #[sv (47 :: dn)] 9 (0,0))]) () trivial ?_
 refine .call (hc:=Tryz.call41) (sp:=By (f:=f) (p:=p) (e:=5) (T:=T) (X0:=bun [pt b3 (.cells #[.pointer (some ⟨f,0,none⟩)] 29 (0,0)),pt b4 (.cells #[sv (47 :: dn)] 9 (0,0))]) (X1:=bun [pt b3 (.cells #[.pointer (some ⟨f,0,none⟩)] 29 (0,0)),pt b4 (.cells #[sv (47 :: dn)] 9 (0,0))]) (by decide) (hc:=Tryz.call58) (Fe ho hR hdn hk)) (h:=?_)
 rintro _ _ ⟨rfl,rfl⟩
 refine .assign (.z (.ret (?_)))
 exact .ret1 (h1:=.tmp (t:=6) rfl) ⟨_,⟨rfl,rfl⟩,Am.auto⟩
theorem z6 {f e:Nat} {p:Pl} {T:FT} {dn:ad} {st:Sts} (ho:PlOk p) (hT:TOk T) (hdl:dn.length<=900) (hst:cf st=true) (hl:(d4 T (47 :: dn)).2.2.2=e) (he:e≠0):Spec Tryz.prog 30 #[.pointer (some ⟨f,0,none⟩),sv (47 :: dn),.agg st.v.toArray] [FSR f p T] fun F v M=>v=.tuple #[.pointer none,nI e]/\M=FSR f p T :: F:=by
 refine Spec.intro Tryz.func30 rfl rfl fun B F=>?_
 simp only [Tryz.ntmps30,List.cons_append,List.nil_append,env0,Nat.reduceAdd]
 refine .sr ?_
 refine .box fun b5=>?_
 refine .assign (.assign (.z (.seq (.sr ?_))))
 refine .ldA ?_ lc
 refine .call (hc:=Tryz.call10) (sp:=km (s:=st)) (h:=?_)
 rintro _ _ ⟨rfl,rfl⟩
 rw [hst]
 refine .not ?_
 refine .z ?_
 refine .condF rfl rfl ?_
 refine .skip (.next (.sr (.move (.move ?_))))
 refine .call (hc:=Tryz.call59) (sp:=Qn (f:=f) (p:=p) (T:=T) (path:=47 :: dn) ho hT (by simp only [List.length_cons];omega) hl he) (h:=?_)
 rintro _ _ ⟨rfl,rfl⟩
 refine .move ?_
 refine .extract (.extract ?_)
 refine .assign (.assign (.z (.seq (.sr (.move ?_)))))
 refine .nei ?_
 refine .z ?_
 refine .condT rfl (cB9 (by simp;omega)) ?_
 refine .sr (.move (.assign (.assign (.z ?_))))
 refine .ret (.thenRet (?_))
 exact .ret2 (h1:=.tmp (t:=6) rfl) (h2:=.tmp (t:=7) rfl) ⟨_,⟨rfl,rfl⟩,Am.auto⟩
theorem ue {f i z:Nat} {p:Pl} {T:FT} {dn:ad} {st:Sts} (ho:PlOk p) (hT:TOk T) (hdl:dn.length<=900) (hst:cf st=true) (hl:d4 T (47 :: dn)=(i,2,z,0)) (hd:T i=some (.dir [])):Spec Tryz.prog 30 #[.pointer (some ⟨f,0,none⟩),sv (47 :: dn),.agg st.v.toArray] [FSR f p T] fun F v M=>v=.tuple #[.pointer none,.int .i64 10]/\M=FSR f p T :: F:=by
 refine Spec.intro Tryz.func30 rfl rfl fun B F=>?_
 simp only [Tryz.ntmps30,List.cons_append,List.nil_append,env0,Nat.reduceAdd]
 refine .sr ?_
 refine .box fun b5=>?_
 refine .assign (.assign (.z (.seq (.sr ?_))))
 refine .ldA ?_ lc
 refine .call (hc:=Tryz.call10) (sp:=km (s:=st)) (h:=?_)
 rintro _ _ ⟨rfl,rfl⟩
 rw [hst]
 refine .not ?_
 refine .z ?_
 refine .condF rfl rfl ?_
 refine .skip (.next (.sr (.move (.move ?_))))
 refine .call (hc:=Tryz.call59) (sp:=Nw (f:=f) (p:=p) (T:=T) (path:=47 :: dn) (i:=i) (z:=z) (sl:=[]) ho hT (by simp only [List.length_cons];omega) hl hd) (h:=?_)
 rintro _ _ ⟨u,l,rfl,⟨hlp,_⟩,rfl⟩
 have hl0:l=[]:=List.perm_nil.1 hlp
 subst hl0
 refine .fact (ah (el:=9) (size:=1) (k:=(([]:List Ent).map (·.1)).length) (v:=u) (xs:=svs (([]:List Ent).map (·.1)))) fun ⟨A,c,hv,hR,_,_,_⟩=>?_
 subst hv
 refine .move ?_
 refine .extract (.extract ?_)
 refine .assign (.assign (.z (.seq (.sr (.move ?_)))))
 refine .nei ?_
 refine .z ?_
 refine .condF rfl rfl ?_
 refine .skip (.next (.sr (.move (.move ?_))))
 refine .ldA ?_ lc
 refine .build ?_ (Nx f (bstr (47 :: dn)) st.seg st.bytes st.age st.comp st.delay)
 refine .box fun b34=>?_
 refine .assign (.z (.seq (.sr (.move ?_))))
 refine .lenS ?_ sl62
 refine .move (.z (.block ?_))
 refine .loopN 1 (RC.succ ?_)
 refine .sr ?_
 refine .lss ?_
 refine .z (.seq ?_)
 refine .condF rfl rfl ?_
 refine .exit (.thenExit (.thenExit (.blockExit (?_))))
 refine .next (.seq (.sr (.move (.nilCheck ?_))))
 refine .fa ?_ e8
 refine .ld ?_ sc82
 refine .lenS ?_ sl82
 refine .eqi ?_
 refine .z ?_
 refine .condT rfl rfl ?_
 refine .sr (.assign (.assign (.z ?_)))
 refine .ret (.thenRet (?_))
 exact .ret2 (h1:=.tmp (t:=6) rfl) (h2:=.tmp (t:=7) rfl) ⟨_,⟨rfl,rfl⟩,Am.auto⟩
theorem jv :Spec Tryz.prog 38 #[.pointer none] [] fun F v M=>v=.bool false/\M=F:=by
 refine Spec.intro Tryz.func38 rfl rfl fun B F=>?_
 simp only [Tryz.ntmps38,List.cons_append,List.nil_append,env0,Nat.reduceAdd]
 refine .sr (.assign (.x (.move ?_)))
 refine .neNil ?_ Qa
 refine .move (.gF (.gF (.gF (.gF (.gF ?_)))))
 refine .pickF (.move (.gF (.gF (.gF (.gF ?_)))))
 refine .gF (.gF (.pickF (.assign (.z (.ret (?_))))))
 exact .ret1 (h1:=.tmp (t:=2) rfl) ⟨_,⟨rfl,rfl⟩,Am.auto⟩
theorem uf {a b c:Value}:Spec Tryz.prog 16 #[.pointer none,a,b,c] [] fun F v M=>v=.tuple #[.int .i64 0,.int .i64 9]/\M=F:=by
 refine Spec.intro Tryz.func16 rfl rfl fun B F=>?_
 simp only [Tryz.ntmps16,List.cons_append,List.nil_append,env0,Nat.reduceAdd]
 refine .sr ?_
 refine .box fun b4=>?_
 refine .assign (.assign (.z (.seq (.sr ?_))))
 refine .ld ?_ sc30
 refine .call (hc:=Tryz.call38) (sp:=jv) (h:=?_)
 rintro _ _ ⟨rfl,rfl⟩
 refine .not ?_
 refine .z ?_
 refine .condT rfl rfl ?_
 refine .sr (.assign (.assign (.z ?_)))
 refine .ret (.thenRet (?_))
 exact .ret2 (h1:=.tmp (t:=8) rfl) (h2:=.tmp (t:=9) rfl) ⟨_,⟨rfl,rfl⟩,Am.auto⟩
theorem ug {a:Value}:Spec Tryz.prog 32 #[.pointer none,a] [] fun F v M=>v=.tuple #[.bool false,.int .i64 9]/\M=F:=by
 refine Spec.intro Tryz.func32 rfl rfl fun B F=>?_
 simp only [Tryz.ntmps32,List.cons_append,List.nil_append,env0,Nat.reduceAdd]
 refine .sr (.assign (.assign (.z (.seq (.sr (.move ?_))))))
 refine .call (hc:=Tryz.call38) (sp:=jv) (h:=?_)
 rintro _ _ ⟨rfl,rfl⟩
 refine .not ?_
 refine .z ?_
 refine .condT rfl rfl ?_
 refine .sr (.assign (.assign (.z ?_)))
 refine .ret (.thenRet (?_))
 exact .ret2 (h1:=.tmp (t:=4) rfl) (h2:=.tmp (t:=5) rfl) ⟨_,⟨rfl,rfl⟩,Am.auto⟩
theorem qg {a:Value}:Spec Tryz.prog 33 #[.pointer none,a] [] fun F v M=>v=.tuple #[.bool false,.int .i64 9]/\M=F:=by
 refine Spec.intro Tryz.func33 rfl rfl fun B F=>?_
 simp only [Tryz.ntmps33,List.cons_append,List.nil_append,env0,Nat.reduceAdd]
 refine .sr (.assign (.assign (.z (.seq (.sr (.move ?_))))))
 refine .call (hc:=Tryz.call38) (sp:=jv) (h:=?_)
 rintro _ _ ⟨rfl,rfl⟩
 refine .not ?_
 refine .z ?_
 refine .condT rfl rfl ?_
 refine .sr (.assign (.assign (.z ?_)))
 refine .ret (.thenRet (?_))
 exact .ret2 (h1:=.tmp (t:=4) rfl) (h2:=.tmp (t:=5) rfl) ⟨_,⟨rfl,rfl⟩,Am.auto⟩
theorem z7 :Spec Tryz.prog 18 #[.pointer none] [] fun F v M=>v=.int .i64 0/\M=F:=by
 refine Spec.intro Tryz.func18 rfl rfl fun B F=>?_
 simp only [Tryz.ntmps18,List.cons_append,List.nil_append,env0,Nat.reduceAdd]
 refine .sr (.assign (.z (.seq (.sr (.move ?_)))))
 refine .call (hc:=Tryz.call38) (sp:=jv) (h:=?_)
 rintro _ _ ⟨rfl,rfl⟩
 refine .not ?_
 refine .z ?_
 refine .condT rfl rfl ?_
 refine .sr (.assign (.z ?_))
 refine .ret (.thenRet (?_))
 exact .ret1 (h1:=.tmp (t:=2) rfl) ⟨_,⟨rfl,rfl⟩,Am.auto⟩
theorem z8 {a b:Value}:Spec Tryz.prog 20 #[.pointer none,a,b] [] fun F v M=>v=.tuple #[.slice none 0 0,.int .i64 12]/\M=F:=by
 refine Spec.introM Tryz.func20 rfl rfl fun B F=>?_
 simp only [Tryz.ntmps20,List.cons_append,List.nil_append,env0,Nat.reduceAdd]
 refine .sr ?_
 refine .box fun b5=>?_
 refine .alloc z40 fun b6=>?_
 refine .alloc z34 fun b7=>?_
 refine .z (.seq (.block (.sr (.move ?_))))
 refine .call (hc:=Tryz.call38) (sp:=jv) (h:=?_)
 rintro _ _ ⟨rfl,rfl⟩
 refine .not ?_
 refine .assign (.z ?_)
 refine .condT rfl rfl ?_
 refine .sr ?_
 refine .st ?_ sc40
 refine .st ?_ sc34
 refine .z ?_
 refine .ret (.blockRet (.thenRet (?_)))
 refine .emp (A:=marksH []) marksH.nil ?_
 refine .retMs2 (Ds:=[]) (r:=.cell 6 40) (s:=.cell 7 34) ⟨_,⟨rfl,rfl⟩,Am.auto⟩ .here (.cell rfl (by kernel_rfl) (by repeat (first | exact .here | apply Rem.there | apply Repl.there | apply Mem.there)) rfl) (.cell rfl (by kernel_rfl) (by repeat (first | exact .here | apply Rem.there | apply Repl.there | apply Mem.there)) rfl)
theorem bk4 :uu Tryz.prog 4=true:=by kernel_rfl
theorem DirF.rt {p:Pl} {T:FT} {sl:List Slot} {fl:List PF} (h:DirF p [112] 1 T sl fl) (hfl:FilesOf fl [(0,[])]):RtI p T [([112],1)] 3 3:=by
 refine ⟨h.tok (by decide),⟨[some ([112],1)],h.root,Nat.le_refl _,fun nm=>?_⟩,fun j hj=>h.none' j (by omega) fun x hx=>by have:=h.top x hx;omega,?_⟩
 ·unfold ef kget
  by_cases e:nm=[112]
  ·rw [if_pos e,if_pos e.symm]
   rfl
  ·rw [if_neg e,if_neg (fun h=>e h.symm)]
   rfl
 ·have h1:=h.tot'
  have h2:=lz (k:=sl.length) (by have:=h.len;omega)
  have h3:=hfl.hasB
  have h4:bytT [(0,[])]+1023 * ([(0,[])]:List SegA).length=1023:=rfl
  omega
theorem RtI.up {p:Pl} {T:FT} {kv:List (ad×Nat)} {m t m' t':Nat} (h:RtI p T kv m t) (hm:m<=m') (ht:t<=t'):RtI p T kv m' t':=⟨h.tok,h.root,fun j hj=>h.top j (by omega),Nat.le_trans h.tot ht⟩
theorem ev {s:Sts} {now:Int} (hn64:-9223372036854775808<=now/\now<=9223372036854775807):Spec Tryz.prog 8 #[.agg s.v.toArray,.int .i64 now] [] fun F v M=>v=.bool true/\M=F:=by
 refine Spec.intro Tryz.func8 rfl rfl fun B F=>?_
 simp only [Tryz.ntmps8,List.cons_append,List.nil_append,env0,Nat.reduceAdd]
 obtain ⟨bb,hbb⟩:∃ bb,cf s=bb:=⟨_,rfl⟩
 refine .sr ?_
 refine .box fun b2=>?_
 refine .assign (.x ?_)
 refine .call (hc:=Tryz.call13) (sp:=i7) (h:=?_)
 rintro _ _ ⟨rfl,rfl⟩
 refine .call (hc:=Tryz.call14) (sp:=Dq (st:=stPlain) (by decide)) (h:=?_)
 rintro _ _ ⟨d,f,pp,rfl,rfl⟩
 refine .move ?_
 refine .extract (.extract (.extract (.extract ?_)))
 refine .assign (.assign (.assign (.assign (.z (.seq (.sr (.move ?_)))))))
 refine .not ?_
 refine .z ?_
 refine .condF rfl rfl ?_
 refine .skip (.next (.sr ?_))
 refine .openR (DRF.opens f (pE 1500 250) [112] 1 [(0,[])]) fun fl hfl=>?_
 simp only [List.cons_append,List.nil_append]
 refine .openR (DR.opens f (pE 1500 250) [112] 1 fl) fun z hd=>?_
 obtain ⟨T,sl⟩:=z
 simp only [List.cons_append,List.nil_append] at hd ⊢
 have hR0:RtI (pE 1500 250) T [([112],1)] 3 3:=DirF.rt hd hfl
 cases bb
 ·refine .move ?_
  refine .ldA ?_ lc
  refine .call (hc:=Tryz.call29) (sp:=Bz (f:=f) (dn:=[113]) (st:=s) hbb) (h:=?_)
  rintro _ _ ⟨rfl,rfl⟩
  refine .assign (.x ?_)
  obtain ⟨T1,hTT⟩:∃ T1,T1=T:=⟨_,rfl⟩
  rw [<- hTT] at hR0
  rw [<- hTT]
  obtain ⟨kv1,hkv⟩:∃ kv1:List (ad×Nat),kv1=[([112],1)]:=⟨_,rfl⟩
  rw [<- hkv] at hR0
  have hR1:=hR0.up (show 3<=5 by decide) (show 3<=5 by decide)
  have hn1:kget kv1 [110,111,110,101]=none:=by rw [hkv];rfl
  have hn2:kget kv1 [101,109,112,116,121]=none:=by rw [hkv];rfl
  have hn3:kget kv1 [112]=some 1:=by rw [hkv];rfl
  have hkl:kv1.length<=3:=by rw [hkv];decide
  refine .move ?_
  refine .call (hc:=Tryz.call13) (sp:=i7) (h:=?_)
  rintro _ _ ⟨rfl,rfl⟩
  refine .call (hc:=Tryz.call30) (sp:=z6 (f:=f) (p:=(pE 1500 250)) (T:=T1) (dn:=[110,111,110,101]) (st:=stPlain) (e:=4) p15_is.ok hR1.tok (by decide) (by decide) (hR1.leadsNo (by decide) hn1) (by decide)) (h:=?_)
  rintro _ _ ⟨rfl,rfl⟩
  refine .move ?_
  refine .extract (.extract ?_)
  refine .assign (.assign (.z (.seq (.sr ?_))))
  obtain ⟨i,rs,hrs,hrl,hi,hTi,hb,hTd,hR2⟩:=hR1.mkd (nm:=[101,109,112,116,121]) (by decide) hn2 (by omega) (by decide) (by decide)
  obtain ⟨T2,hT2⟩:∃ T2,T2=mkT T1 0 rs [101,109,112,116,121] i (.dir []):=⟨_,rfl⟩
  rw [<- hT2] at hTd hR2
  have hn4:kget (kput kv1 [101,109,112,116,121] i) [101,109,112,116,121]=some i:=by rw [ay,if_pos rfl]
  have hn5:kget (kput kv1 [101,109,112,116,121] i) [112]=some 1:=by rw [ay,if_neg (by decide)];exact hn3
  have hfr:=ej rs
  have hh1:=lz (k:=rs.length+1) (by omega)
  have hh2:has (max (64 * rs.length) (64 * bj rs+64))<=has (64 * (rs.length+1)):=gu (by omega)
  have htt:=hR1.tot
  have hdc:(pE 1500 250).dc=1220:=rfl
  have hino:(pE 1500 250).ino=250:=rfl
  refine .move ?_
  refine .call (hc:=Tryz.call31) (sp:=H5 (f:=f) (p:=(pE 1500 250)) (T:=T1) (path:=47 :: [101,109,112,116,121]) (d:=0) (i:=i) (nm:=[101,109,112,116,121]) (sl:=rs) (x:=.dir []) p15_is.ok hR1.tok (by decide) (by decide) (hR1.parent (by decide)) (hR1.findNo (by decide) hn2) hrs (by omega) hTi hb rfl rfl (p15_P.w (by decide)) (by omega)) (h:=?_)
  rintro _ _ ⟨rfl,rfl⟩
  rw [<- hT2]
  refine .nei ?_
  refine .z ?_
  refine .condF rfl rfl ?_
  refine .skip (.next (.sr (.move ?_)))
  refine .call (hc:=Tryz.call13) (sp:=i7) (h:=?_)
  rintro _ _ ⟨rfl,rfl⟩
  refine .call (hc:=Tryz.call30) (sp:=ue (f:=f) (p:=(pE 1500 250)) (T:=T2) (dn:=[101,109,112,116,121]) (st:=stPlain) (i:=i) (z:=(NodeT.dir []).size) p15_is.ok hR2.tok (by decide) (by decide) (hR2.leadsDir (by decide) hn4 hTd) hTd) (h:=?_)
  rintro _ _ ⟨rfl,rfl⟩
  refine .move ?_
  refine .extract (.extract ?_)
  refine .assign (.assign (.x (.assign (.x (.move ?_)))))
  refine .call (hc:=Tryz.call17) (sp:=Bw (n:=1) (size:=1) (key:=[]) (t:=0) (by decide) (by decide)) (h:=?_)
  rintro _ _ ⟨A1,c1,rfl,rfl⟩
  refine .call (hc:=Tryz.call16) (sp:=uf) (h:=?_)
  rintro _ _ ⟨rfl,rfl⟩
  refine .move ?_
  refine .extract (.extract ?_)
  refine .assign (.assign (.x (.move (.move ?_))))
  refine .call (hc:=Tryz.call32) (sp:=ug) (h:=?_)
  rintro _ _ ⟨rfl,rfl⟩
  refine .move ?_
  refine .extract (.extract ?_)
  refine .assign (.assign (.x (.move (.move ?_))))
  refine .call (hc:=Tryz.call33) (sp:=qg) (h:=?_)
  rintro _ _ ⟨rfl,rfl⟩
  refine .move ?_
  refine .extract (.extract (.assign (.assign (.x (.move ?_)))))
  refine .call (hc:=Tryz.call20) (sp:=z8) (h:=?_)
  rintro _ _ ⟨rfl,rfl⟩
  refine .move ?_
  refine .extract (.extract (.assign (.assign (.x (.move ?_)))))
  refine .eqi ?_
  refine .ldA ?_ lc
  refine .call (hc:=Tryz.call11) (sp:=Iv (s:=s)) (h:=?_)
  rintro _ _ ⟨rfl,rfl⟩
  rw [hbb]
  refine .eqB ?_ bk4
  refine .move (.gT (.move (.gT ?_)))
  refine .eqi ?_
  refine .gT (.move (.gT (.move (.gT ?_))))
  refine .eqi ?_
  refine .gT (.pickF (.pickT (.move (.gT (.move ?_)))))
  refine .gT ?_
  refine .eqi ?_
  refine .pickT (.move (.gT (.move (.gT ?_))))
  refine .eqi ?_
  refine .pickT (.move (.gT (.move (.gT ?_))))
  refine .call (hc:=Tryz.call13) (sp:=i7) (h:=?_)
  rintro _ _ ⟨rfl,rfl⟩
  refine .gT ?_
  refine .call (hc:=Tryz.call29) (sp:=zy (f:=f) (p:=(pE 1500 250)) (T:=T2) (dn:=[112]) (i:=1) (st:=stPlain) p15_is.ok hR2 (by decide) hn5 (by decide)) (h:=?_)
  rintro _ _ ⟨rfl,rfl⟩
  refine .gT ?_
  refine .eqi ?_
  refine .pickT (.move (.gT (.move (.gT ?_))))
  refine .eqi ?_
  refine .pickT (.move (.gT (.move (.gT ?_))))
  refine .eqi ?_
  refine .pickT (.move (.gT (.move (.gT ?_))))
  refine .eqi ?_
  refine .pickT (.move (.gT (.move (.gT ?_))))
  refine .eqi ?_
  refine .pickT (.move (.gT (.move (.gT ?_))))
  refine .call (hc:=Tryz.call18) (sp:=z7) (h:=?_)
  rintro _ _ ⟨rfl,rfl⟩
  refine .gT ?_
  refine .eqi ?_
  refine .pickT (.move (.gT ?_))
  refine .call (hc:=Tryz.call12) (sp:=Dr) (h:=?_)
  rintro _ _ ⟨rfl,rfl⟩
  refine .pickT (.assign (.z (.ret (?_))))
  exact .ret1 (h1:=.tmp (t:=4) rfl) ⟨_,⟨rfl,rfl⟩,Am.auto⟩
 ·refine .move ?_
  refine .ldA ?_ lc
  refine .call (hc:=Tryz.call29) (sp:=Jr (f:=f) (dn:=[113]) (st:=s) (m:=3) (t:=3) (kv:=[([112],1)]) p15_P hR0 (by decide) (by decide) (by decide) (by decide) (by decide) hbb) (h:=?_)
  rintro _ _ ⟨⟨T1,i1⟩,hR1,rfl,rfl⟩
  refine .assign (.x ?_)
  simp only at hR1 ⊢
  obtain ⟨kv1,hkv⟩:∃ kv1:List (ad×Nat),kv1=kput [([112],1)] [113] i1:=⟨_,rfl⟩
  rw [<- hkv] at hR1
  have hn1:kget kv1 [110,111,110,101]=none:=by rw [hkv];rw [ay];rfl
  have hn2:kget kv1 [101,109,112,116,121]=none:=by rw [hkv];rw [ay];rfl
  have hn3:kget kv1 [112]=some 1:=by rw [hkv];rw [ay];rfl
  have hkl:kv1.length<=3:=by rw [hkv];rw [m0];split<;>decide
  refine .move ?_
  refine .call (hc:=Tryz.call13) (sp:=i7) (h:=?_)
  rintro _ _ ⟨rfl,rfl⟩
  refine .call (hc:=Tryz.call30) (sp:=z6 (f:=f) (p:=(pE 1500 250)) (T:=T1) (dn:=[110,111,110,101]) (st:=stPlain) (e:=4) p15_is.ok hR1.tok (by decide) (by decide) (hR1.leadsNo (by decide) hn1) (by decide)) (h:=?_)
  rintro _ _ ⟨rfl,rfl⟩
  refine .move ?_
  refine .extract (.extract ?_)
  refine .assign (.assign (.z (.seq (.sr ?_))))
  obtain ⟨i,rs,hrs,hrl,hi,hTi,hb,hTd,hR2⟩:=hR1.mkd (nm:=[101,109,112,116,121]) (by decide) hn2 (by omega) (by decide) (by decide)
  obtain ⟨T2,hT2⟩:∃ T2,T2=mkT T1 0 rs [101,109,112,116,121] i (.dir []):=⟨_,rfl⟩
  rw [<- hT2] at hTd hR2
  have hn4:kget (kput kv1 [101,109,112,116,121] i) [101,109,112,116,121]=some i:=by rw [ay,if_pos rfl]
  have hn5:kget (kput kv1 [101,109,112,116,121] i) [112]=some 1:=by rw [ay,if_neg (by decide)];exact hn3
  have hfr:=ej rs
  have hh1:=lz (k:=rs.length+1) (by omega)
  have hh2:has (max (64 * rs.length) (64 * bj rs+64))<=has (64 * (rs.length+1)):=gu (by omega)
  have htt:=hR1.tot
  have hdc:(pE 1500 250).dc=1220:=rfl
  have hino:(pE 1500 250).ino=250:=rfl
  refine .move ?_
  refine .call (hc:=Tryz.call31) (sp:=H5 (f:=f) (p:=(pE 1500 250)) (T:=T1) (path:=47 :: [101,109,112,116,121]) (d:=0) (i:=i) (nm:=[101,109,112,116,121]) (sl:=rs) (x:=.dir []) p15_is.ok hR1.tok (by decide) (by decide) (hR1.parent (by decide)) (hR1.findNo (by decide) hn2) hrs (by omega) hTi hb rfl rfl (p15_P.w (by decide)) (by omega)) (h:=?_)
  rintro _ _ ⟨rfl,rfl⟩
  rw [<- hT2]
  refine .nei ?_
  refine .z ?_
  refine .condF rfl rfl ?_
  refine .skip (.next (.sr (.move ?_)))
  refine .call (hc:=Tryz.call13) (sp:=i7) (h:=?_)
  rintro _ _ ⟨rfl,rfl⟩
  refine .call (hc:=Tryz.call30) (sp:=ue (f:=f) (p:=(pE 1500 250)) (T:=T2) (dn:=[101,109,112,116,121]) (st:=stPlain) (i:=i) (z:=(NodeT.dir []).size) p15_is.ok hR2.tok (by decide) (by decide) (hR2.leadsDir (by decide) hn4 hTd) hTd) (h:=?_)
  rintro _ _ ⟨rfl,rfl⟩
  refine .move ?_
  refine .extract (.extract ?_)
  refine .assign (.assign (.x (.assign (.x (.move ?_)))))
  refine .call (hc:=Tryz.call17) (sp:=Bw (n:=1) (size:=1) (key:=[]) (t:=0) (by decide) (by decide)) (h:=?_)
  rintro _ _ ⟨A1,c1,rfl,rfl⟩
  refine .call (hc:=Tryz.call16) (sp:=uf) (h:=?_)
  rintro _ _ ⟨rfl,rfl⟩
  refine .move ?_
  refine .extract (.extract ?_)
  refine .assign (.assign (.x (.move (.move ?_))))
  refine .call (hc:=Tryz.call32) (sp:=ug) (h:=?_)
  rintro _ _ ⟨rfl,rfl⟩
  refine .move ?_
  refine .extract (.extract ?_)
  refine .assign (.assign (.x (.move (.move ?_))))
  refine .call (hc:=Tryz.call33) (sp:=qg) (h:=?_)
  rintro _ _ ⟨rfl,rfl⟩
  refine .move ?_
  refine .extract (.extract (.assign (.assign (.x (.move ?_)))))
  refine .call (hc:=Tryz.call20) (sp:=z8) (h:=?_)
  rintro _ _ ⟨rfl,rfl⟩
  refine .move ?_
  refine .extract (.extract (.assign (.assign (.x (.move ?_)))))
  refine .eqi ?_
  refine .ldA ?_ lc
  refine .call (hc:=Tryz.call11) (sp:=Iv (s:=s)) (h:=?_)
  rintro _ _ ⟨rfl,rfl⟩
  rw [hbb]
  refine .eqB ?_ bk4
  refine .move (.gT (.move (.gT ?_)))
  refine .eqi ?_
  refine .gT (.move (.gF (.gF (.gT (.pickT ?_)))))
  refine .pickT (.move (.gT (.move (.gT ?_))))
  refine .eqi ?_
  refine .pickT (.move (.gT (.move (.gT ?_))))
  refine .eqi ?_
  refine .pickT (.move (.gT (.move (.gT ?_))))
  refine .call (hc:=Tryz.call13) (sp:=i7) (h:=?_)
  rintro _ _ ⟨rfl,rfl⟩
  refine .gT ?_
  refine .call (hc:=Tryz.call29) (sp:=zy (f:=f) (p:=(pE 1500 250)) (T:=T2) (dn:=[112]) (i:=1) (st:=stPlain) p15_is.ok hR2 (by decide) hn5 (by decide)) (h:=?_)
  rintro _ _ ⟨rfl,rfl⟩
  refine .gT ?_
  refine .eqi ?_
  refine .pickT (.move (.gT (.move (.gT ?_))))
  refine .eqi ?_
  refine .pickT (.move (.gT (.move (.gT ?_))))
  refine .eqi ?_
  refine .pickT (.move (.gT (.move (.gT ?_))))
  refine .eqi ?_
  refine .pickT (.move (.gT (.move (.gT ?_))))
  refine .eqi ?_
  refine .pickT (.move (.gT (.move (.gT ?_))))
  refine .call (hc:=Tryz.call18) (sp:=z7) (h:=?_)
  rintro _ _ ⟨rfl,rfl⟩
  refine .gT ?_
  refine .eqi ?_
  refine .pickT (.move (.gT ?_))
  refine .call (hc:=Tryz.call12) (sp:=Dr) (h:=?_)
  rintro _ _ ⟨rfl,rfl⟩
  refine .pickT (.assign (.z (.ret (?_))))
  exact .ret1 (h1:=.tmp (t:=4) rfl) ⟨_,⟨rfl,rfl⟩,Am.auto⟩
end Go.Proofs.YtmihjfcbofejoaaGreatDoor
end
