/- A part of the proof of gk: texts of this work put together. -/
import Derived.Test.YtmihjfcbofejoaaGreatDoorQf5
import Derived.KernelRfl
set_option linter.unusedVariables false
set_option linter.unusedSimpArgs false
set_option linter.unusedSectionVars false
section
namespace Go.Proofs.YtmihjfcbofejoaaGreatDoor
open Go
theorem sc30 :ai Tryz.prog 30=true:=by kernel_rfl
theorem Mj :ae Tryz.prog 84 2 2=true:=by kernel_rfl
theorem Rk :ae Tryz.prog 84 1 1=true:=by kernel_rfl
theorem z86 :aw Tryz.prog 86=some (#[.pointer none]):=by kernel_rfl
theorem bsPS (s:Nat):ax Tryz.prog 82 1 [(0,.pointer (some ⟨s,0,none⟩))] 86 #[.pointer (some ⟨s,0,none⟩)]:=fun w=>by kernel_rfl
def addP (seg:Int) (pre:List SegA) (base:Nat) (bs:List Bt) (b:Bt):List SegA :=
 if (bs.flatMap batB).length=0 ∨ (((bs.flatMap batB).length:Nat):Int)+(((batB b).length:Nat):Int)<=seg then pre++[(base,bs++[b])] else pre++[(base,bs)]++[(b.base.toNat,[b])]
def addN (seg:Int) (bs:List Bt) (b:Bt) (N:Nat):Nat:=if (bs.flatMap batB).length=0 ∨ (((bs.flatMap batB).length:Nat):Int)+(((batB b).length:Nat):Int)<=seg then N else N+1
theorem xy {l0:List Seg} {s base:Nat} {bs bs':List Bt}:(l0++[(⟨s,base,bs⟩:Seg)]).length=(l0++[(⟨s,base,bs'⟩:Seg)]).length/\(l0++[(⟨s,base,bs⟩:Seg)]).map Seg.ptr=(l0++[(⟨s,base,bs'⟩:Seg)]).map Seg.ptr:=by
 refine ⟨by simp,?_⟩
 rw [List.map_append,List.map_append]
 rfl
theorem tx (l:List Value) (h:∀ v∈l,∃ s:Nat,v=.pointer (some ⟨s,0,none⟩)):∀ u∈l,Value.single u=true:=fun u hu=>by
 obtain ⟨s,rfl⟩:=h u hu
 rfl
theorem Ky {pp f N base nb:Nat} {dn:ad} {st:Sts} {p:Pl} {pre:List SegA} {bs:List Bt} {b:Bt} {A:Addr} {R:HP} {bp bX bb bn gx qx cb:Nat} {F0:FM} (hp:PlP p) (hf:FitsP p N (pre++[(base,bs)])) (hN1:N+1<=200) (hN2:N+4<=p.ino) (hN3:pre.length<=55) (hdn:dn.length<=900) (hR:Reads R (some A) b.rv) (hE:batE b=0) (hl:b.recs.length<=10000) (hnb:b.base=((nb:Nat):Int)) (hnx:b.base=na ((base:Nat):Int) bs) (hbs:∀ y∈(pre++[(base,bs)]),y.1<=1125899906842624/\(bs≠[]->((y.1:Nat):Int) < b.base)) (hrows:bs.length<=9999) (hsz:(bs.flatMap batB).length<=60000):Spec Tryz.prog 42 #[.pointer (some ⟨bp,0,none⟩),.pointer (some ⟨bX,0,none⟩),.pointer (some ⟨bb,0,none⟩),.pointer (some ⟨bn,0,none⟩)] [DBF f p dn N F0 (pre++[(base,bs)]) 0,bun [pt bp (.cells #[.pointer (some ⟨pp,0,none⟩)] 30 (0,0)),pt bX (.cells #[.slice (some ⟨gx,0,none⟩) (batB b).length qx] 79 (0,0)),pt bb (.cells (b.v (.slice (some A) b.recs.length cb)).toArray 44 (0,0)),pt bn (.cells #[.int .i64 ((nb:Nat):Int)] 3 (0,0)),PT pp f dn st [] (pre++[(base,bs)]),R]] fun F v M=>v=okV/\M=DBF f p dn (addN st.seg bs b N) F0 (addP st.seg pre base bs b) 49 :: bun [pt bp (.cells #[.pointer (some ⟨pp,0,none⟩)] 30 (0,0)),pt bX (.cells #[.slice (some ⟨gx,0,none⟩) (batB b).length qx] 79 (0,0)),pt bb (.cells (b.v (.slice (some A) b.recs.length cb)).toArray 44 (0,0)),pt bn (.cells #[.int .i64 ((nb:Nat):Int)] 3 (0,0)),PT pp f dn st [] (addP st.seg pre base bs b),R] :: F:=by
 refine Spec.intro Tryz.func42 rfl rfl fun B F=>?_
 simp only [Tryz.ntmps42,List.cons_append,List.nil_append,env0,Nat.reduceAdd]
 refine .openR (bun.opens _) fun _ _=>?_
 simp only [List.cons_append,List.nil_append]
 refine .openR (PT.opens pp f dn st [] (pre++[(base,bs)])) fun x hx=>?_
 obtain ⟨g0,c0,l⟩:=x
 obtain ⟨hls,hc1,hc2,hn2⟩:=hx
 simp only [ptLs,List.cons_append,List.nil_append] at hls hc1 hc2 hn2 ⊢
 obtain ⟨l0,z,rfl,hl0,hz⟩:=xv hls
 obtain ⟨s,zb,zbs⟩:=z
 obtain ⟨rfl,rfl⟩:base=zb/\bs=zbs:=by injection hz with h1 h2;exact ⟨h1.symm,h2.symm⟩
 have hn:0 < (l0++[(⟨s,base,bs⟩:Seg)]).length:=by simp
 have hlen:(l0++[(⟨s,base,bs⟩:Seg)]).length=(pre++[(base,bs)]).length:=by rw [<- hls,List.length_map]
 have hflen:=hf.len
 obtain ⟨hb6,_⟩:=pn hE
 obtain ⟨hbr,_,_⟩:=vv hE
 refine .sr (.assign (.x ?_))
 refine .ld ?_ sc30
 refine .call (hc:=Tryz.call43) (sp:=tv (pp:=pp) (f:=f) (g:=g0) (r:=([]:List Value).length) (n:=(l0++[(⟨s,base,bs⟩:Seg)]).length) (c:=c0 - ([]:List Value).length) (dn:=dn) (st:=st) (ys:=(l0++[(⟨s,base,bs⟩:Seg)]).map Seg.ptr) (s:=s) k5 hn hn2 (by simp only [List.length_nil] at hc1 ⊢;omega) (Bx l0 _)) (h:=?_)
 rintro _ _ ⟨rfl,rfl⟩
 refine .assign (.z (.seq (.seq ?_)))
 by_cases h0:(bs.flatMap batB).length=0
 ·have hadd:(addP st.seg pre base bs b)=pre++[(base,bs++[b])]:=by unfold addP;exact if_pos (.inl h0)
  rw [hadd,show addN st.seg bs b N=N by unfold addN;exact if_pos (.inl h0)]
  refine .dr ([pt bp (.cells #[.pointer (some ⟨pp,0,none⟩)] 30 (0,0)),pt bX (.cells #[.slice (some ⟨gx,0,none⟩) (batB b).length qx] 79 (0,0)),pt pp (pf f dn st (.slice (some ⟨g0,0,none⟩) (l0++[(⟨s,base,bs⟩:Seg)]).length c0))]) [] 16 mixed .autoJ ?_
  refine .tk 0 rfl .move ?_
  refine .on 1 rfl fun hnp=>?_
  refine .call (hc:=Tryz.call44) (sp:=nc (f:=f) (dn:=dn) (pre:=l0) (post:=[]) (x:=⟨s,base,bs⟩)) (h:=?_)
  rintro _ _ ⟨rfl,rfl⟩
  rw [show (byt (Seg.a ⟨s,base,bs⟩)).length=0 from h0]
  refine .nil (.wa hnp ?_)
  refine .tk 2 rfl .eqi ?_
  refine .tk 3 rfl .move ?_
  refine .tf 4 rfl ?_
  refine .tf 5 rfl ?_
  refine .tf 6 rfl ?_
  refine .tf 7 rfl ?_
  refine .tf 8 rfl ?_
  refine .tf 9 rfl ?_
  refine .tf 10 rfl ?_
  refine .tf 11 rfl ?_
  refine .tf 12 rfl ?_
  refine .tf 13 rfl ?_
  refine .tf 14 rfl ?_
  refine .tk 15 rfl .pickT ?_
  refine .fin ?_
  refine .next ?_
  refine .condT rfl rfl ?_
  refine .sr (.move ?_)
  refine .ldA ?_ fk
  refine .segOut l0 [] ?_
  refine .call (hc:=Tryz.call45) (sp:=ru (s:=s) (f:=f) (base:=((base:Nat):Int)) (path:=dy dn (az base)) (bs:=bs) (b:=b) (H:=DBF f p dn N F0 (pre++[(base,bs)]) 0) (H':=DBF f p dn N F0 (pre++[(base,bs++[b])]) 40) hR hE hl (by rw [hnx];exact Int.le_refl _) (by omega) (by omega) (fun R A cc hR2 h1 h2=>vp hp hf (by decide) hR2 rfl h1 h2 hb6 (by omega))) (h:=?_)
  rintro _ _ ⟨rfl,rfl⟩
  refine .segIn l0 [] (⟨s,base,bs++[b]⟩:Seg) ?_
  refine .assign (.z ?_)
  refine .ret (.thenRet (?_))
  have hs1:=xy (l0:=l0) (s:=s) (base:=base) (bs:=bs) (bs':=bs++[b])
  rw [hs1.1] at hc1 hn2
  rw [hs1.1,hs1.2]
  refine .dbfUp (N:=N) (W:=40) (F0:=F0) (ss:=pre++[(base,bs++[b])]) N 49 (Nat.le_refl _) (by decide) ?_
  refine .shutR (PT.opens pp f dn st [] (pre++[(base,bs++[b])])) (g0,c0,l0++[(⟨s,base,bs++[b]⟩:Seg)]) ⟨by rw [List.map_append,hl0];rfl,hc1,hc2,hn2⟩ ?_
  refine .shutR (bun.opens [pt bp (.cells #[.pointer (some ⟨pp,0,none⟩)] 30 (0,0)),pt bX (.cells #[.slice (some ⟨gx,0,none⟩) (batB b).length qx] 79 (0,0)),pt bb (.cells (b.v (.slice (some A) b.recs.length cb)).toArray 44 (0,0)),pt bn (.cells #[.int .i64 ((nb:Nat):Int)] 3 (0,0)),PT pp f dn st [] (pre++[(base,bs++[b])]),R]) () trivial ?_
  exact .ret1 (h1:=.tmp (t:=4) rfl) ⟨_,⟨rfl,rfl⟩,Am.auto⟩
 ·obtain ⟨m,hm⟩:∃ m,(bs.flatMap batB).length=m+1:=⟨(bs.flatMap batB).length - 1,by omega⟩
  by_cases h1:(((m+1:Nat):Nat):Int)+(((batB b).length:Nat):Int)<=st.seg
  ·have hadd:(addP st.seg pre base bs b)=pre++[(base,bs++[b])]:=by unfold addP;exact if_pos (.inr (by rw [hm];exact h1))
   rw [hadd,show addN st.seg bs b N=N by unfold addN;exact if_pos (.inr (by rw [hm];exact h1))]
   refine .dr ([pt bp (.cells #[.pointer (some ⟨pp,0,none⟩)] 30 (0,0)),pt bX (.cells #[.slice (some ⟨gx,0,none⟩) (batB b).length qx] 79 (0,0)),pt pp (pf f dn st (.slice (some ⟨g0,0,none⟩) (l0++[(⟨s,base,bs⟩:Seg)]).length c0))]) [] 16 mixed .autoJ ?_
   refine .tk 0 rfl .move ?_
   refine .on 1 rfl fun hnp=>?_
   refine .call (hc:=Tryz.call44) (sp:=nc (f:=f) (dn:=dn) (pre:=l0) (post:=[]) (x:=⟨s,base,bs⟩)) (h:=?_)
   rintro _ _ ⟨rfl,rfl⟩
   rw [show (byt (Seg.a ⟨s,base,bs⟩)).length=m+1 from hm]
   refine .nil (.wa hnp ?_)
   refine .tk 2 rfl .eqi ?_
   refine .tk 3 rfl .move ?_
   refine .tn 4 rfl .move ?_
   refine .tn 6 rfl (.ld sc79) ?_
   refine .tn 7 rfl (.lenS sl79) ?_
   refine .tn 9 rfl (.ld sc30) ?_
   refine .tn 10 rfl .nilCheck ?_
   refine .tn 11 rfl (.fa Mj) ?_
   refine .tn 12 rfl (.fa Bv) ?_
   refine .tn 13 rfl (.ld sc3) ?_
   refine .on 5 rfl fun hnp=>?_
   refine .gT ?_
   refine .call (hc:=Tryz.call44) (sp:=nc (f:=f) (dn:=dn) (pre:=l0) (post:=[]) (x:=⟨s,base,bs⟩)) (h:=?_)
   rintro _ _ ⟨rfl,rfl⟩
   rw [show (byt (Seg.a ⟨s,base,bs⟩)).length=m+1 from hm]
   refine .nil (.wa hnp ?_)
   refine .tn 8 rfl .add ?_
   refine .tn 14 rfl .leq ?_
   refine .tk 15 rfl .pickF ?_
   refine .fin ?_
   refine .next ?_
   refine .condT rfl (cB9 (decide_eq_true (by omega))) ?_
   refine .sr (.move ?_)
   refine .ldA ?_ fk
   refine .segOut l0 [] ?_
   refine .call (hc:=Tryz.call45) (sp:=ru (s:=s) (f:=f) (base:=((base:Nat):Int)) (path:=dy dn (az base)) (bs:=bs) (b:=b) (H:=DBF f p dn N F0 (pre++[(base,bs)]) 0) (H':=DBF f p dn N F0 (pre++[(base,bs++[b])]) 40) hR hE hl (by rw [hnx];exact Int.le_refl _) (by omega) (by omega) (fun R A cc hR2 h1 h2=>vp hp hf (by decide) hR2 rfl h1 h2 hb6 (by omega))) (h:=?_)
   rintro _ _ ⟨rfl,rfl⟩
   refine .segIn l0 [] (⟨s,base,bs++[b]⟩:Seg) ?_
   refine .assign (.z ?_)
   refine .ret (.thenRet (?_))
   have hs1:=xy (l0:=l0) (s:=s) (base:=base) (bs:=bs) (bs':=bs++[b])
   rw [hs1.1] at hc1 hn2
   rw [hs1.1,hs1.2]
   refine .dbfUp (N:=N) (W:=40) (F0:=F0) (ss:=pre++[(base,bs++[b])]) N 49 (Nat.le_refl _) (by decide) ?_
   refine .shutR (PT.opens pp f dn st [] (pre++[(base,bs++[b])])) (g0,c0,l0++[(⟨s,base,bs++[b]⟩:Seg)]) ⟨by rw [List.map_append,hl0];rfl,hc1,hc2,hn2⟩ ?_
   refine .shutR (bun.opens [pt bp (.cells #[.pointer (some ⟨pp,0,none⟩)] 30 (0,0)),pt bX (.cells #[.slice (some ⟨gx,0,none⟩) (batB b).length qx] 79 (0,0)),pt bb (.cells (b.v (.slice (some A) b.recs.length cb)).toArray 44 (0,0)),pt bn (.cells #[.int .i64 ((nb:Nat):Int)] 3 (0,0)),PT pp f dn st [] (pre++[(base,bs++[b])]),R]) () trivial ?_
   exact .ret1 (h1:=.tmp (t:=4) rfl) ⟨_,⟨rfl,rfl⟩,Am.auto⟩
  ·have hadd:(addP st.seg pre base bs b)=pre++[(base,bs)]++[(nb,[b])]:=by unfold addP;rw [if_neg (by rw [hm];exact fun h=>h.elim (fun h=>Nat.succ_ne_zero _ h) h1),hnb];rfl
   rw [hadd,show addN st.seg bs b N=N+1 by unfold addN;exact if_neg (by rw [hm];exact fun h=>h.elim (fun h=>Nat.succ_ne_zero _ h) h1)]
   have hne:bs≠[]:=fun h=>by rw [h] at hm;cases hm
   refine .dr ([pt bp (.cells #[.pointer (some ⟨pp,0,none⟩)] 30 (0,0)),pt bX (.cells #[.slice (some ⟨gx,0,none⟩) (batB b).length qx] 79 (0,0)),pt pp (pf f dn st (.slice (some ⟨g0,0,none⟩) (l0++[(⟨s,base,bs⟩:Seg)]).length c0))]) [] 16 mixed .autoJ ?_
   refine .tk 0 rfl .move ?_
   refine .on 1 rfl fun hnp=>?_
   refine .call (hc:=Tryz.call44) (sp:=nc (f:=f) (dn:=dn) (pre:=l0) (post:=[]) (x:=⟨s,base,bs⟩)) (h:=?_)
   rintro _ _ ⟨rfl,rfl⟩
   rw [show (byt (Seg.a ⟨s,base,bs⟩)).length=m+1 from hm]
   refine .nil (.wa hnp ?_)
   refine .tk 2 rfl .eqi ?_
   refine .tk 3 rfl .move ?_
   refine .tn 4 rfl .move ?_
   refine .tn 6 rfl (.ld sc79) ?_
   refine .tn 7 rfl (.lenS sl79) ?_
   refine .tn 9 rfl (.ld sc30) ?_
   refine .tn 10 rfl .nilCheck ?_
   refine .tn 11 rfl (.fa Mj) ?_
   refine .tn 12 rfl (.fa Bv) ?_
   refine .tn 13 rfl (.ld sc3) ?_
   refine .on 5 rfl fun hnp=>?_
   refine .gT ?_
   refine .call (hc:=Tryz.call44) (sp:=nc (f:=f) (dn:=dn) (pre:=l0) (post:=[]) (x:=⟨s,base,bs⟩)) (h:=?_)
   rintro _ _ ⟨rfl,rfl⟩
   rw [show (byt (Seg.a ⟨s,base,bs⟩)).length=m+1 from hm]
   refine .nil (.wa hnp ?_)
   refine .tn 8 rfl .add ?_
   refine .tn 14 rfl .leq ?_
   refine .tk 15 rfl .pickF ?_
   refine .fin ?_
   refine .next ?_
   refine .condF rfl (cB9 (decide_eq_false (by omega))) ?_
   refine .skip (.next (.seq ?_))
   refine .dr ([pt bp (.cells #[.pointer (some ⟨pp,0,none⟩)] 30 (0,0)),pt bn (.cells #[.int .i64 ((nb:Nat):Int)] 3 (0,0)),pt pp (pf f dn st (.slice (some ⟨g0,0,none⟩) (l0++[(⟨s,base,bs⟩:Seg)]).length c0))]) [] 17 mixed .autoJ ?_
   refine .tk 0 rfl (.ld sc30) ?_
   refine .tk 1 rfl .nilCheck ?_
   refine .tk 2 rfl (.fa Hc) ?_
   refine .tk 3 rfl (.ld sc29) ?_
   refine .tk 4 rfl (.ld sc30) ?_
   refine .tk 5 rfl .nilCheck ?_
   refine .tk 6 rfl (.fa Rk) ?_
   refine .tk 7 rfl (.ld sc9) ?_
   refine .tk 8 rfl (.ld sc3) ?_
   refine .tk 10 rfl (.ld sc3) ?_
   refine .on 9 rfl fun hnp=>?_
   refine .call (hc:=Tryz.call47) (sp:=vq (dir:=47 :: dn) (b:=nb) (by simp only [List.length_cons];omega) (by omega)) (h:=?_)
   rintro _ _ ⟨rfl,rfl⟩
   rw [vw]
   refine .nil (.wa hnp ?_)
   refine .on 11 rfl fun hnp=>?_
   refine .call (hc:=Tryz.call46) (sp:=Hb (f:=f) (base:=((nb:Nat):Int)) (path:=dy dn (az nb)) (H:=DBF f p dn N F0 (pre++[(base,bs)]) 0) (H':=DBF f p dn (N+1) F0 (pre++[(base,bs)]++[(nb,[])]) 9) (by omega) (Bu hp hf (by decide) (by omega) (fun y hy=>⟨fun he=>by have:=(hbs y hy).2 hne;omega,(hbs y hy).1⟩))) (h:=?_)
   rintro _ _ ⟨s2,rfl,rfl⟩
   refine .nil (.wa hnp ?_)
   refine .tk 12 rfl .move ?_
   refine .tk 13 rfl .extract ?_
   refine .tk 14 rfl .extract ?_
   refine .tk 15 rfl .assign ?_
   refine .tk 16 rfl .assign ?_
   refine .fin ?_
   refine .next (.seq (.sr (.move ?_)))
   refine .eqi ?_
   refine .z ?_
   refine .condT rfl rfl ?_
   refine .region (.move ?_)
   refine .ldA ?_ fk
   refine .call (hc:=Tryz.call45) (sp:=ru (s:=s2) (f:=f) (base:=((nb:Nat):Int)) (path:=dy dn (az nb)) (bs:=[]) (b:=b) (H:=DBF f p dn (N+1) F0 (pre++[(base,bs)]++[(nb,[])]) 9) (H':=DBF f p dn (N+1) F0 (pre++[(base,bs)]++[(nb,[]++[b])]) 49) hR hE hl (by rw [hnb];exact Int.le_refl _) (by simp) (by simp) (fun R A cc hR2 h1 h2=>vp (pre:=pre++[(base,bs)]) (post:=[]) (b:=nb) (bs:=[]) hp ⟨hN1,hN2,by simp only [List.length_append,List.length_singleton];omega,by have:=hf.byt;rw [vo];show _+(0+0)<=_;omega⟩ (by decide) hR2 rfl h1 h2 hb6 (by show 0+_<=_;omega))) (h:=?_)
   rintro _ _ ⟨rfl,rfl⟩
   refine .assign (.z (.seq (.sr (.move ?_))))
   refine .eqi ?_
   refine .z ?_
   refine .condT rfl rfl ?_
   refine .dr ([pt bp (.cells #[.pointer (some ⟨pp,0,none⟩)] 30 (0,0)),pt pp (pf f dn st (.slice (some ⟨g0,0,none⟩) (l0++[(⟨s,base,bs⟩:Seg)]).length c0))]) [10] 11 mixed .autoJ ?_
   refine .tk 0 rfl (.ld sc30) ?_
   refine .tk 1 rfl (.ld sc30) ?_
   refine .tk 2 rfl .nilCheck ?_
   refine .tk 3 rfl (.fa li) ?_
   refine .tk 4 rfl (.ld sc82) ?_
   refine .tk 5 rfl .move ?_
   refine .on 6 rfl fun hnp=>?_
   refine .buildS (fun b56=>?_) (bsPS _)
   refine .nil (.wa hnp ?_)
   refine .on 7 rfl fun hnp=>?_
   refine .to (A:=buf g0 86 c0 ((l0++[(⟨s,base,bs⟩:Seg)]).map Seg.ptr)) (cx hc2) ?_
   rw [List.length_map]
   refine .append (v:=.slice (some ⟨g0,0,none⟩) (l0++[(⟨s,base,bs⟩:Seg)]).length c0) (m:=1) (k:=(l0++[(⟨s,base,bs⟩:Seg)]).length) (xs:=((l0++[(⟨s,base,bs⟩:Seg)]).map Seg.ptr)) (news:=[.pointer (some ⟨s2,0,none⟩)]) so82 (by decide) (by repeat (first | exact .here | apply Rem.there | apply Repl.there | apply Mem.there)) (Reads.pt (cs:=#[.pointer (some ⟨s2,0,none⟩)])) (by repeat (first | exact .here | apply Rem.there | apply Repl.there | apply Mem.there)) rfl (tx _ (fun v hv=>⟨s2,List.mem_singleton.1 hv⟩)) (by unfold maxLen;omega) (by omega) ⟨_,z86,rfl⟩ (fun v' hv'=>?_)
   refine .toE (A:=rowR 86 1 v' ((l0++[(⟨s,base,bs⟩:Seg)]).length+1) (((l0++[(⟨s,base,bs⟩:Seg)]).map Seg.ptr)++[.pointer (some ⟨s2,0,none⟩)])) (br (fun h=>by have:=(hv'.1 h).1;cases this)) ?_
   rintro ⟨g2,q2⟩ ⟨rfl,h2a,h2b,_⟩
   rw [show ((l0++[(⟨s,base,bs⟩:Seg)]).map Seg.ptr)++[.pointer (some ⟨s2,0,none⟩)]=[]++((l0++[(⟨s,base,bs⟩:Seg)])++[(⟨s2,nb,[]++[b]⟩:Seg)]).map Seg.ptr by rw [List.map_append (l₂:=[(⟨s2,nb,[]++[b]⟩:Seg)])];rfl,show (l0++[(⟨s,base,bs⟩:Seg)]).length+1=((l0++[(⟨s,base,bs⟩:Seg)])++[(⟨s2,nb,[]++[b]⟩:Seg)]).length by rw [List.length_append (bs:=[(⟨s2,nb,[]++[b]⟩:Seg)])];rfl]
   refine .nil (.wa hnp ?_)
   refine .on 8 rfl fun hnp=>?_
   refine .nilCheck ?_
   refine .nil (.wa hnp ?_)
   refine .tk 9 rfl (.fa li) ?_
   refine .on 10 rfl fun hnp=>?_
   refine .st ?_ sc82
   refine .nil (.wb hnp ?_)
   refine .fin ?_
   refine .next (.sr (.move (.assign (.z (.ret (?_))))))
   refine .to (A:=segsH f dn (l0++[(⟨s,base,bs⟩:Seg)])) (A':=segsH f dn ((l0++[(⟨s,base,bs⟩:Seg)])++[])) (fun h hh=>by rw [List.append_nil];exact hh) ?_
   refine .segIn (l0++[(⟨s,base,bs⟩:Seg)]) [] (⟨s2,nb,[]++[b]⟩:Seg) ?_
   refine .shutR (PT.opens pp f dn st [] (pre++[(base,bs)]++[(nb,[b])])) (g2,q2,(l0++[(⟨s,base,bs⟩:Seg)])++[(⟨s2,nb,[]++[b]⟩:Seg)]) ⟨by rw [List.map_append,List.map_append,hl0];rfl,by simp only [List.length_append,List.length_singleton,List.length_nil] at h2a ⊢;omega,h2b,by simp only [List.length_append,List.length_singleton] at hlen hflen ⊢;omega⟩ ?_
   refine .shutR (bun.opens [pt bp (.cells #[.pointer (some ⟨pp,0,none⟩)] 30 (0,0)),pt bX (.cells #[.slice (some ⟨gx,0,none⟩) (batB b).length qx] 79 (0,0)),pt bb (.cells (b.v (.slice (some A) b.recs.length cb)).toArray 44 (0,0)),pt bn (.cells #[.int .i64 ((nb:Nat):Int)] 3 (0,0)),PT pp f dn st [] (pre++[(base,bs)]++[(nb,[b])]),R]) () trivial ?_
   exact .ret1 (h1:=.tmp (t:=4) rfl) ⟨_,⟨rfl,rfl⟩,Am.auto⟩
theorem zo {pp f N base nb c:Nat} {dn:ad} {st:Sts} {p:Pl} {pre:List SegA} {bs:List Bt} {A:Addr} {R:HP} {prod seq:Int} {l:List Rc} (hp:PlP p) (hf:FitsP p N (pre++[(base,bs)])) (hN1:N+1<=200) (hN2:N+4<=p.ino) (hN3:pre.length<=55) (hdn:dn.length<=900) (hR:Reads R (some A) (l.flatMap Rc.v)) (hpos:0 < l.length) (hll:l.length<=10000) (hE:batE (au ((nb:Nat):Int) prod seq l)=0) (hnx:((nb:Nat):Int)=na ((base:Nat):Int) bs) (hbs:∀ y∈(pre++[(base,bs)]),y.1<=1125899906842624/\(bs≠[]->((y.1:Nat):Int) < ((nb:Nat):Int))) (hrows:bs.length<=9999) (hsz:(bs.flatMap batB).length<=60000):Spec Tryz.prog 16 #[.pointer (some ⟨pp,0,none⟩),.int .i64 prod,.int .i64 seq,.slice (some A) l.length c] [PT pp f dn st [] (pre++[(base,bs)]),DRF f p dn N (pre++[(base,bs)]),R] fun F v M=>v=.tuple #[.int .i64 ((nb:Nat):Int),.int .i64 0]/\M=PT pp f dn st [] (addP st.seg pre base bs (au ((nb:Nat):Int) prod seq l)) :: DRF f p dn (addN st.seg bs (au ((nb:Nat):Int) prod seq l) N) (addP st.seg pre base bs (au ((nb:Nat):Int) prod seq l)) :: R :: F:=by
 refine Spec.intro Tryz.func16 rfl rfl fun B F=>?_
 simp only [Tryz.ntmps16,List.cons_append,List.nil_append,env0,Nat.reduceAdd]
 have hrl:(au ((nb:Nat):Int) prod seq l).recs.length=l.length:=iz l 0
 refine .openR (PT.opens pp f dn st [] (pre++[(base,bs)])) fun x hx=>?_
 obtain ⟨g0,c0,ls⟩:=x
 obtain ⟨hls,hc1,hc2,hn2⟩:=hx
 simp only [ptLs,List.cons_append,List.nil_append] at hls hc1 hc2 hn2 ⊢
 have hn:0 < ls.length:=by have:=congrArg List.length hls;rw [List.length_map] at this;simp at this;omega
 refine .sr ?_
 refine .box fun b4=>?_
 refine .assign (.assign (.z (.seq (.sr ?_))))
 refine .ld ?_ sc30
 refine .call (hc:=Tryz.call38) (sp:=ne hn hn2) (h:=?_)
 rintro _ _ ⟨rfl,rfl⟩
 refine .not ?_
 refine .z ?_
 refine .condF rfl rfl ?_
 refine .skip (.next (.sr ?_))
 refine .ld ?_ sc30
 refine .shutR (PT.opens pp f dn st [] (pre++[(base,bs)])) (g0,c0,ls) ⟨hls,hc1,hc2,hn2⟩ ?_
 refine .call (hc:=Tryz.call18) (sp:=By (pp:=pp) (f:=f) (dn:=dn) (st:=st) (dp:=[]) (ss:=(pre++[(base,bs)])) (pre:=pre) (y:=(base,bs)) rfl (by show bs.length<=_;omega)) (h:=?_)
 rintro _ _ ⟨rfl,rfl⟩
 rw [show na (((base,bs):SegA).1:Int) ((base,bs):SegA).2=((nb:Nat):Int) from hnx.symm]
 refine .alloc z3 fun b10=>?_
 refine .st ?_ sc3
 refine .x ?_
 refine .ld ?_ sc3
 refine .move (.move (.move ?_))
 refine .call (hc:=Tryz.call39) (sp:=Kx (base:=((nb:Nat):Int)) (prod:=prod) (seq:=seq) hR hpos hll) (h:=?_)
 rintro _ _ (⟨h0,_,_⟩ | ⟨_,gb,c2,qb,rfl,rfl⟩)
 ·exact absurd hE h0
 refine .move ?_
 refine .extract (.extract ?_)
 refine .alloc z44 fun b11=>?_
 refine .stV ?_ fk
 refine .assign (.z (.seq (.sr (.move ?_))))
 refine .nei ?_
 refine .z ?_
 refine .condF rfl rfl ?_
 refine .skip (.next (.sr ?_))
 refine .ldA ?_ fk
 refine .call (hc:=Tryz.call40) (sp:=rp (b:=(au ((nb:Nat):Int) prod seq l)) (R:=buf gb 95 qb (au ((nb:Nat):Int) prod seq l).rv) (A:=some ⟨gb,0,none⟩) (c:=c2) Reads.buf (by rw [hrl];omega)) (h:=?_)
 rintro _ _ (⟨h0,_,_⟩ | ⟨_,gx,qx,⟨rfl,hx1,hx2⟩,rfl⟩)
 ·exact absurd hE h0
 refine .move ?_
 refine .extract (.extract ?_)
 refine .alloc z79 fun b13=>?_
 refine .st ?_ sc79
 refine .assign (.x ?_)
 clear hls hc1 hc2 hn hn2
 refine .openR (PT.opens pp f dn st [] (pre++[(base,bs)])) fun x hx=>?_
 obtain ⟨g0,c0,ls⟩:=x
 obtain ⟨hls,hc1,hc2,hn2⟩:=hx
 simp only [ptLs,List.cons_append,List.nil_append] at hls hc1 hc2 hn2 ⊢
 refine .ld ?_ sc30
 refine .nilCheck ?_
 refine .fa ?_ Hc
 refine .ld ?_ sc29
 refine .makeFuncB ?_
 refine .shutR (PT.opens pp f dn st [] (pre++[(base,bs)])) (g0,c0,ls) ⟨hls,hc1,hc2,hn2⟩ ?_
 refine .shutR (bun.opens [pt b4 (.cells #[.pointer (some ⟨pp,0,none⟩)] 30 (0,0)),pt b13 (.cells #[.slice (some ⟨gx,0,none⟩) (batB (au ((nb:Nat):Int) prod seq l)).length qx] 79 (0,0)),pt b11 (.cells ((au ((nb:Nat):Int) prod seq l).v (.slice (some ⟨gb,0,none⟩) (au ((nb:Nat):Int) prod seq l).recs.length c2)).toArray 44 (0,0)),pt b10 (.cells #[.int .i64 ((nb:Nat):Int)] 3 (0,0)),PT pp f dn st [] (pre++[(base,bs)]),buf gb 95 qb (au ((nb:Nat):Int) prod seq l).rv]) () trivial ?_
 refine .call (hc:=Tryz.call41) (sp:=C7 (N':=addN st.seg bs (au ((nb:Nat):Int) prod seq l) N) (W:=49) (ss:=(pre++[(base,bs)])) (ss':=(addP st.seg pre base bs (au ((nb:Nat):Int) prod seq l))) hp.ok (hc:=Tryz.call42) (fun F0=>Ky (R:=buf gb 95 qb (au ((nb:Nat):Int) prod seq l).rv) (A:=⟨gb,0,none⟩) (b:=(au ((nb:Nat):Int) prod seq l)) (cb:=c2) hp hf hN1 hN2 hN3 hdn Reads.buf hE (by rw [hrl];omega) rfl hnx hbs hrows hsz)) (h:=?_)
 rintro _ _ ⟨rfl,rfl⟩
 refine .openR (bun.opens _) fun _ _=>?_
 simp only [List.cons_append,List.nil_append]
 refine .assign (.z (.seq (.sr (.move ?_))))
 refine .nei ?_
 refine .z ?_
 refine .condF rfl rfl ?_
 refine .skip (.next (.sr ?_))
 refine .ld ?_ sc3
 refine .assign (.assign (.z (.ret (?_))))
 exact .ret2 (h1:=.tmp (t:=8) rfl) (h2:=.tmp (t:=9) rfl) ⟨_,⟨rfl,rfl⟩,Am.auto⟩
theorem Kz {f:Nat} {base:Int} {path:ad} {H:HP} (hb:0<=base/\base<=1125899906842624)
  (hRd:Spec Tryz.prog 116 #[.pointer (some ⟨f,0,none⟩),sv path,nI 0,nI 70656] [H] fun F v M=>∃ u,v=.tuple #[u,.int .i64 0]/\M=rowR 5 1 u 0 [] :: H :: F):Spec Tryz.prog 63 #[.pointer (some ⟨f,0,none⟩),sv path,.int .i64 base] [H]
  fun F v M=>∃ s,v=.tuple #[.pointer (some ⟨s,0,none⟩),.int .i64 0]/\M=SGP s f path base [] :: H :: F:=by
 refine Spec.intro Tryz.func63 rfl rfl fun B F=>?_
 simp only [Tryz.ntmps63,List.cons_append,List.nil_append,env0,Nat.reduceAdd]
 refine .sr (.assign (.assign (.z (.scope (.seq (.sr (.move ?_)))))))
 refine .call (hc:=Tryz.call99) (sp:=Mf) (h:=?_)
 rintro _ _ ⟨rfl,rfl⟩
 refine .cast (d:=16) (u:=.bool true) rfl (cB9 (by simp [hb.1,hb.2])) ?_
 refine .not ?_
 refine .z ?_
 refine .condF rfl rfl ?_
 refine .skip (.next (.sr (.move (.move ?_))))
 refine .call (hc:=Tryz.call116) (sp:=hRd) (h:=?_)
 rintro _ _ ⟨u0,rfl,rfl⟩
 refine .fact (ah (el:=5) (size:=1) (k:=0) (v:=u0) (xs:=[])) fun ⟨A0,c0,hu0,_,_,_,_⟩=>?_
 subst hu0
 refine .move ?_
 refine .extract (.extract ?_)
 refine .assign (.assign (.z (.seq (.sr (.move ?_)))))
 refine .nei ?_
 refine .z ?_
 refine .condF rfl rfl ?_
 refine .skip (.next (.sr (.move (.move (.move ?_)))))
 refine .build ?_ (Rb _ _ _)
 refine .box fun b31=>?_
 refine .assign (.z (.seq (.label (.next (.seq (.block ?_))))))
 refine .loopN 1 (RC.succ ?_)
 refine .seq (.sr (.move (.nilCheck ?_)))
 refine .fa ?_ rq
 refine .ld ?_ sc3
 refine .move ?_
 refine .lenS ?_ sl79
 refine .lss ?_
 refine .z ?_
 refine .condF rfl rfl ?_
 refine .exit (.thenExit (.thenExit (.blockExit (?_))))
 refine .next (.seq (.sr (.move (.nilCheck ?_))))
 refine .fa ?_ rq
 refine .ld ?_ sc3
 refine .move ?_
 refine .lenS ?_ sl79
 refine .lss ?_
 refine .z ?_
 refine .condF rfl rfl ?_
 refine .skip (.next (.sr (.move (.assign (.assign (.z ?_))))))
 refine .ret (.scopeRet (?_))
 refine .emp (A:=rowR 151 6 (.slice none 0 0) ([]:List SRow).length (([]:List SRow).flatMap SRow.v)) (rowR.nil _) ?_
 refine .emp (A:=frz []) ue ?_
 refine .shutR (SGP.opens b31 f path base []) ([],.slice none 0 0,[]) ⟨rfl,fun x h=>absurd h List.not_mem_nil,fun x h=>absurd h List.not_mem_nil,fun i j x y _ h=>by simp at h,fun _=>rfl⟩ ?_
 exact .ret2 (h1:=.tmp (t:=6) rfl) (h2:=.tmp (t:=7) rfl) ⟨_,⟨_,rfl,rfl⟩,Am.auto⟩
theorem z29 :aw Tryz.prog 29=some (#[.pointer none]):=by kernel_rfl
theorem O1 :ae Tryz.prog 133 1 1=true:=by kernel_rfl
theorem Hf {p:Pl} (h:PlIs p):Room (fmtB p [245]):=by
 have h1:=fx (fmtD [245] p.im ((p.ino+4095) / 4096)) p.bm ((p.dc+4095) / 4096)
 have h2:=fx [245] p.im ((p.ino+4095) / 4096)
 have h3:=h.i2
 have h4:=h.n2
 have h5:=h.dc
 have h6:=h.i1
 have h7:=h.da
 have h8:=h.m1
 have h9:=h.bm
 unfold fmtB Room
 have:([245]:List Nat).length=1:=rfl
 omega
theorem bsF5 (f0 f1 f2 f3 f4:Fn) (u0 u1 u2 u3 u4 c0 c1 c2 c3 c4:Array Value):ax Tryz.prog 136 5 [(0,.func f0 u0 c0),(1,.func f1 u1 c1),(2,.func f2 u2 c2),(3,.func f3 u3 c3),(4,.func f4 u4 c4)] 92 #[.func f0 u0 c0,.func f1 u1 c1,.func f2 u2 c2,.func f3 u3 c3,.func f4 u4 c4]:=fun w=>by kernel_rfl
def J0 :JS:=⟨bj (seg (cq eg 0) 8 8 false),0,[],cq eg⟩
theorem J0_ok {n:Nat}:HeadsOk n J0:=⟨s7,rfl,fun i _=>.inl (s9 _ i),fun _=>rfl,fun h=>absurd rfl h⟩
theorem Rn :J0.gen < 2 ^ 64:=El _ _ _
theorem Hg {k:Nat} (h:245<=k):J0.view k=zeros:=s8 (by omega)
theorem Ro {n d:Nat} (hn:n<=65536):Tagged n d d J0:=⟨rfl,J0_ok,Nat.lt_of_le_of_lt (Nat.le_refl 1) (by decide),Rn,hn⟩
theorem K0 {d n t:Nat} {cur:Nat->ad} (hn:246<=n) (hmg:(cur 0).take 8≠db):Spec Tryz.prog 83 #[.pointer (some ⟨d,0,none⟩)] [DevR d n cur t] fun F v M=>v=.tuple #[.pointer none,.int .i64 10]/\M=DevR d n cur t :: F:=by
 refine Spec.intro Tryz.func83 rfl rfl fun B F=>?_
 simp only [Tryz.ntmps83,List.cons_append,List.nil_append,env0,Nat.reduceAdd]
 refine .sr (.assign (.assign (.z (.seq (.sr (.move ?_))))))
 refine .call (hc:=Tryz.call73) (sp:=ej (n:=n) (t:=t) (cur:=cur)) (h:=?_)
 rintro _ _ ⟨rfl,rfl⟩
 refine .lss ?_
 refine .z ?_
 refine .condF rfl (cB9 (by first|simp;done|simp;omega|omega)) ?_
 refine .skip (.next (.sr (.move ?_)))
 refine .call (hc:=Tryz.call146) (sp:=Ab (n:=n) (t:=t) (cur:=cur) (by omega)) (h:=?_)
 rintro _ _ ⟨rfl,rfl⟩
 refine .move ?_
 refine .extract (.extract ?_)
 refine .cast (d:=20) (u:=.bool false) rfl (cB9 (decide_eq_false hmg)) ?_
 refine .assign (.assign (.z (.seq (.sr (.move ?_)))))
 refine .not ?_
 refine .z ?_
 refine .condT rfl rfl ?_
 refine .sr (.assign (.assign (.z ?_)))
 refine .ret (.thenRet (?_))
 exact .ret2 (h1:=.tmp (t:=2) rfl) (h2:=.tmp (t:=3) rfl) ⟨_,⟨rfl,rfl⟩,Am.auto⟩
theorem Hh :(eg 0).take 8≠db:=by
 show zeros.take 8≠db
 rw [ny];decide
theorem K1 {d n:Nat} (hn:246<=n) (hn2:n<=65536):Spec Tryz.prog 74 #[.pointer (some ⟨d,0,none⟩)] [DevR d n eg 0] fun F v M=>∃ j,v=.tuple #[.pointer (some ⟨j,0,none⟩),.int .i64 0]/\M=JR j d n J0 :: F:=by
 refine Spec.intro Tryz.func74 rfl rfl fun B F=>?_
 simp only [Tryz.ntmps74,List.cons_append,List.nil_append,env0,Nat.reduceAdd]
 refine .sr (.assign (.assign (.x (.move ?_))))
 refine .call (hc:=Tryz.call83) (sp:=K0 (n:=n) (t:=0) (cur:=eg) hn Hh) (h:=?_)
 rintro _ _ ⟨rfl,rfl⟩
 refine .move ?_
 refine .extract (.extract ?_)
 refine .assign (.assign (.z (.seq (.sr (.move ?_)))))
 refine .nei ?_
 refine .z ?_
 refine .condF rfl (cB9 (by first|simp;done|simp;omega|omega)) ?_
 refine .skip (.next (.seq (.sr (.move ?_))))
 refine .call (hc:=Tryz.call128) (sp:=Na (n:=n) (t:=0) (cur:=eg) hn (by decide)) (h:=?_)
 rintro _ _ ⟨rfl,rfl⟩
 refine .assign (.x (.move ?_))
 refine .nei ?_
 refine .z ?_
 refine .condF rfl (cB9 (by first|simp;done|simp;omega|omega)) ?_
 refine .skip (.next (.sr (.move ?_)))
 refine .call (hc:=Tryz.call83) (sp:=jOpen (n:=n) (cur:=cq eg) hn hn2 s7 (fun i _=>s9 _ i)) (h:=?_)
 rintro _ _ ⟨j,rfl,rfl⟩
 refine .extract (.extract (.assign (.assign (.z (.ret (?_))))))
 exact .ret2 (h1:=.tmp (t:=2) rfl) (h2:=.tmp (t:=3) rfl) ⟨_,⟨j,rfl,rfl⟩,Am.auto⟩
theorem fsMk1 {f s a c mp b8 b5:Nat} {p:Pl} {V0 V:Nat->ad} (h:PlIs p) (hn:246<=p.n):Spec Tryz.prog 77 #[.pointer (some ⟨b8,0,none⟩),.pointer (some ⟨b5,0,none⟩)] [pt b8 (.cells #[.pointer (some ⟨f,0,none⟩)] 29 (0,0)),pt f (fO c a s false false false mp),pt b5 (.cells p.cells 121 (0,0)),TR c p.n V0 V [] true] fun F v M=>v=okV/\M=pt b8 (.cells #[.pointer (some ⟨f,0,none⟩)] 29 (0,0)) :: pt f (fO c a s false false false mp) :: pt b5 (.cells p.cells 121 (0,0)) :: TR c p.n V0 (wr V 245 (supB p)) [245] true :: F:=by
 refine Spec.intro Tryz.func77 rfl rfl fun B F=>?_
 simp only [Tryz.ntmps77,List.cons_append,List.nil_append,env0,Nat.reduceAdd]
 refine .sr (.assign (.z (.seq ?_)))
 refine .dr ([pt b8 (.cells #[.pointer (some ⟨f,0,none⟩)] 29 (0,0)),pt f (fO c a s false false false mp),pt b5 (.cells p.cells 121 (0,0))]) [] 8 mixed .autoJ ?_
 refine .tk 0 rfl (.ld sc29) ?_
 refine .tk 1 rfl .nilCheck ?_
 refine .tk 2 rfl (.fa eu) ?_
 refine .tk 3 rfl (.ld c5) ?_
 refine .tk 4 rfl (.ldA fh) ?_
 refine .on 5 rfl fun hnp=>?_
 refine .call (hc:=Tryz.call79) (sp:=L7 h) (h:=?_)
 rintro _ _ ⟨gb,q,rfl,⟨hq1,hq2⟩,rfl⟩
 refine .nil (.wa hnp ?_)
 refine .on 6 rfl fun hnp=>?_
 refine .call (hc:=Tryz.call78) (sp:=mh (c:=c) (n:=p.n) (k:=245) (V0:=V0) (V:=V) (D:=[]) (R:=buf gb 5 q (bvs (supB p))) (xs:=supB p) (by decide) (by omega) Reads.buf (l4 p) rfl (.inr (by decide))) (h:=?_)
 rintro _ _ ⟨rfl,rfl⟩
 refine .nil (.wa hnp ?_)
 refine .tk 7 rfl .assign ?_
 refine .fin ?_
 refine .next (.ret (?_))
 exact .ret1 (h1:=.tmp (t:=2) rfl) ⟨_,⟨rfl,rfl⟩,Am.auto⟩
theorem Rp {d:Nat} {p:Pl} (h:PlIs p):Spec Tryz.prog 36 #[.pointer (some ⟨d,0,none⟩),.int .i64 (p.ino:Int)] [DevR d p.n eg 0] fun F v M=>∃ J,v=okV/\DevOk p.n (mkW p) J/\M=DevR d p.n J.cur 0 :: F:=by
 refine Spec.intro Tryz.func36 rfl rfl fun B F=>?_
 simp only [Tryz.ntmps36,List.cons_append,List.nil_append,env0,Nat.reduceAdd]
 have hn2:=h.n2
 have h246:246<=p.n:=by have:=h.bm;have:=h.m1;have:=h.da;have:=h.dc;have:=h.d1;omega
 refine .sr (.assign (.x (.move ?_)))
 refine .call (hc:=Tryz.call73) (sp:=ej (n:=p.n) (t:=0) (cur:=eg)) (h:=?_)
 rintro _ _ ⟨rfl,rfl⟩
 refine .move ?_
 refine .call (hc:=Tryz.call72) (sp:=E4 h) (h:=?_)
 rintro _ _ ⟨rfl,rfl⟩
 refine .move ?_
 refine .extract (.extract ?_)
 refine .alloc z121 fun b5=>?_
 refine .stV ?_ fh
 refine .to (A:=pt b5 (.cells p.cells 121 (0,0))) (A':=pt b5 (.cells p.cells 121 (0,0))) (fun h hh=>hh) ?_
 refine .assign (.z (.seq (.sr (.move ?_))))
 refine .nei ?_
 refine .z ?_
 refine .condF rfl (cB9 (by first|simp;done|simp;omega|omega)) ?_
 refine .skip (.next (.sr (.move ?_)))
 refine .call (hc:=Tryz.call74) (sp:=K1 (n:=p.n) h246 hn2) (h:=?_)
 rintro _ _ ⟨j,rfl,rfl⟩
 refine .move ?_
 refine .extract (.extract ?_)
 refine .assign (.assign (.z (.seq (.sr (.move ?_)))))
 refine .nei ?_
 refine .z ?_
 refine .condF rfl (cB9 (by first|simp;done|simp;omega|omega)) ?_
 refine .skip (.next (.sr (.move ?_)))
 refine .ldA ?_ fh
 refine .call (hc:=Tryz.call75) (sp:=Gt (p:=p) (T:=fun _=>none) h246 hn2) (h:=?_)
 rintro _ _ ⟨f,c,a,s,mp,rfl,rfl⟩
 simp only [List.cons_append,List.nil_append]
 refine .shutR (TR.opens c p.n (tagV d) eg [] false) (j,d,⟨J0,[],false,false⟩) ⟨rfl,(fun k h1 h2=>(Hg h1).trans (Gv h1).symm),(fun k h1 h2=>Hg h1),rfl,fun r hr=>(by rw [Bj] at hr;injection hr with hr;subst hr;exact Ro hn2),fun h=>(by cases h)⟩ ?_
 refine .alloc z29 fun b8=>?_
 refine .st ?_ sc29
 refine .z (.seq (.seq ?_))
 refine .dr ([pt b8 (.cells #[.pointer (some ⟨f,0,none⟩)] 29 (0,0)),pt f (fO c a s false false false mp)]) [] 24 mixed .autoJ ?_
 refine .tk 0 rfl (.ld sc29) ?_
 refine .tk 1 rfl .nilCheck ?_
 refine .tk 2 rfl (.fa eu) ?_
 refine .tk 3 rfl (.ld c5) ?_
 refine .tk 4 rfl .makeFuncB ?_
 refine .tk 5 rfl .makeFuncB ?_
 refine .tk 6 rfl (.ld sc29) ?_
 refine .tk 7 rfl .nilCheck ?_
 refine .tk 8 rfl (.fa O1) ?_
 refine .tk 9 rfl (.ld jv) ?_
 refine .tk 10 rfl .makeFuncB ?_
 refine .tk 11 rfl (.ld sc29) ?_
 refine .tk 12 rfl .nilCheck ?_
 refine .tk 13 rfl (.fa er) ?_
 refine .tk 14 rfl (.ld og) ?_
 refine .tk 15 rfl .makeFuncB ?_
 refine .tk 16 rfl (.ld sc29) ?_
 refine .tk 17 rfl .nilCheck ?_
 refine .tk 18 rfl (.fa eu) ?_
 refine .tk 19 rfl (.ld c5) ?_
 refine .tk 20 rfl .makeFuncB ?_
 refine .tk 23 rfl .move ?_
 refine .on 21 rfl fun hnp=>?_
 refine .buildS (fun b54=>?_) (bsF5 _ _ _ _ _ _ _ _ _ _ _ _ _ _ _)
 refine .nil (.wa hnp ?_)
 refine .tk 22 rfl (.lenS Pg) ?_
 refine .fin ?_
 refine .next (.block ?_)
 refine .loopN 6 (RC.succ ?_)
 refine .sr ?_
 refine .lss ?_
 refine .z (.seq ?_)
 refine .condT rfl (cB9 (by first|simp;done|simp;omega|omega)) ?_
 refine .skip (.next (.seq (.block (.sr ?_))))
 refine .idx1 ?_ lr
 refine .ld ?_ sc92
 refine .assign (.x (.move ?_))
 refine .callF (us:=#[.pointer (some ⟨c,0,none⟩)]) (cap:=#[]) (vs:=[]) rfl rfl Tryz.call76 (Spec.bound (Lu (n:=p.n) (V0:=tagV d) (V:=eg) (D:=[]))) ?_ (by repeat (first | exact .nil | (apply Tk.cons;focus ((repeat (first | exact .here | apply Rem.there));done))))
 rintro _ _ ⟨rfl,rfl⟩
 refine .assign (.x (.move ?_))
 refine .nei ?_
 refine .z ?_
 refine .condF rfl (cB9 (by first|simp;done|simp;omega|omega)) ?_
 refine .skip (.blockNormal (.next (.region ?_)))
 refine .add ?_
 refine .move (.nil ?_)
 refine .again (RC.succ ?_)
 refine .sr ?_
 refine .lss ?_
 refine .z (.seq ?_)
 refine .condT rfl (cB9 (by first|simp;done|simp;omega|omega)) ?_
 refine .skip (.next (.seq (.block (.sr ?_))))
 refine .idx1 ?_ lr
 refine .ld ?_ sc92
 refine .assign (.x (.move ?_))
 refine .callF (us:=#[]) (cap:=#[.pointer (some ⟨b8,0,none⟩),.pointer (some ⟨b5,0,none⟩)]) (vs:=[]) rfl rfl Tryz.call77 (Spec.capt (fsMk1 (c:=c) (f:=f) (a:=a) (s:=s) (mp:=mp) (V0:=tagV d) (V:=eg) h h246)) ?_ (by repeat (first | exact .nil | (apply Tk.cons;focus ((repeat (first | exact .here | apply Rem.there));done))))
 rintro _ _ ⟨rfl,rfl⟩
 refine .assign (.x (.move ?_))
 refine .nei ?_
 refine .z ?_
 refine .condF rfl (cB9 (by first|simp;done|simp;omega|omega)) ?_
 refine .skip (.blockNormal (.next (.region ?_)))
 refine .add ?_
 refine .move (.nil ?_)
 refine .again (RC.succ ?_)
 refine .sr ?_
 refine .lss ?_
 refine .z (.seq ?_)
 refine .condT rfl (cB9 (by first|simp;done|simp;omega|omega)) ?_
 refine .skip (.next (.seq (.block (.sr ?_))))
 refine .idx1 ?_ lr
 refine .ld ?_ sc92
 refine .assign (.x (.move ?_))
 refine .callF (us:=#[.pointer (some ⟨a,0,none⟩)]) (cap:=#[]) (vs:=[]) rfl rfl Tryz.call80 (Spec.bound (I7 (c:=c) (V0:=tagV d) (V:=wr eg 245 (supB p)) (D:=[245]) h.ok (Nat.le_refl _))) ?_ (by repeat (first | exact .nil | (apply Tk.cons;focus ((repeat (first | exact .here | apply Rem.there));done))))
 rintro _ _ ⟨rfl,rfl⟩
 simp only [List.cons_append,List.nil_append]
 refine .assign (.x (.move ?_))
 refine .nei ?_
 refine .z ?_
 refine .condF rfl (cB9 (by first|simp;done|simp;omega|omega)) ?_
 refine .skip (.blockNormal (.next (.region ?_)))
 refine .add ?_
 refine .move (.nil ?_)
 refine .again (RC.succ ?_)
 refine .sr ?_
 refine .lss ?_
 refine .z (.seq ?_)
 refine .condT rfl (cB9 (by first|simp;done|simp;omega|omega)) ?_
 refine .skip (.next (.seq (.block (.sr ?_))))
 refine .idx1 ?_ lr
 refine .ld ?_ sc92
 refine .assign (.x (.move ?_))
 refine .callF (us:=#[.pointer (some ⟨s,0,none⟩)]) (cap:=#[]) (vs:=[]) rfl rfl Tryz.call81 (Spec.bound (Ji (c:=c) (a:=a) (V0:=tagV d) (V:=(fmtA p (wr eg 245 (supB p)))) (D:=fmtB p [245]) h.ok (Hf h))) ?_ (by repeat (first | exact .nil | (apply Tk.cons;focus ((repeat (first | exact .here | apply Rem.there));done))))
 rintro _ _ ⟨rfl,rfl⟩
 simp only [List.cons_append,List.nil_append]
 refine .assign (.x (.move ?_))
 refine .nei ?_
 refine .z ?_
 refine .condF rfl (cB9 (by first|simp;done|simp;omega|omega)) ?_
 refine .skip (.blockNormal (.next (.region ?_)))
 refine .add ?_
 refine .move (.nil ?_)
 refine .again (RC.succ ?_)
 refine .sr ?_
 refine .lss ?_
 refine .z (.seq ?_)
 refine .condT rfl (cB9 (by first|simp;done|simp;omega|omega)) ?_
 refine .skip (.next (.seq (.block (.sr ?_))))
 refine .idx1 ?_ lr
 refine .ld ?_ sc92
 refine .assign (.x (.move ?_))
 refine .callF (us:=#[.pointer (some ⟨c,0,none⟩)]) (cap:=#[]) (vs:=[]) rfl rfl Tryz.call82 (Spec.bound (Kg (n:=p.n) (d:=d) (V0:=tagV d) (V:=mkW p) (D:=insD (fmtB p [245]) (p.tb+0 / 8)) (Bj d) h246)) ?_ (by repeat (first | exact .nil | (apply Tk.cons;focus ((repeat (first | exact .here | apply Rem.there));done))))
 rintro _ _ ⟨J,rfl,hJ,rfl⟩
 refine .assign (.x (.move ?_))
 refine .nei ?_
 refine .z ?_
 refine .condF rfl (cB9 (by first|simp;done|simp;omega|omega)) ?_
 refine .skip (.blockNormal (.next (.region ?_)))
 refine .add ?_
 refine .move (.nil ?_)
 refine .again (RC.succ ?_)
 refine .sr ?_
 refine .lss ?_
 refine .z (.seq ?_)
 refine .condF rfl (cB9 (by first|simp;done|simp;omega|omega)) ?_
 refine .exit (.thenExit (.thenExit (.blockExit (?_))))
 refine .next (.sr (.assign (.z (.ret (?_)))))
 exact .ret1 (h1:=.tmp (t:=4) rfl) ⟨_,⟨J,rfl,hJ,rfl⟩,Am.auto⟩
theorem O2 {d:Nat} {p:Pl} {J:JS} {V:Nat->ad} {T:FT} (h:PlIs p) (hJ:DevOk p.n V J) (hsup:V 245=supB p) (hr:Rep p (cm0 V) (fmT T)):Spec Tryz.prog 37 #[.pointer (some ⟨d,0,none⟩)] [DevR d p.n J.cur 0] fun F v M=>∃ f,v=.tuple #[.pointer (some ⟨f,0,none⟩),.int .i64 0]/\M=FSR f p T :: F:=by
 refine Spec.intro Tryz.func37 rfl rfl fun B F=>?_
 simp only [Tryz.ntmps37,List.cons_append,List.nil_append,env0,Nat.reduceAdd]
 have hS:=hJ.settled
 have hn1:=hJ.n1
 have hn2:=hJ.n2
 have hv:=(hS.home 245 (by decide) (by omega)).trans hsup
 refine .sr (.assign (.assign (.x (.move ?_))))
 refine .call (hc:=Tryz.call83) (sp:=Pw (n:=p.n) (J:=J) hn1 hn2 hJ.ok hJ.last) (h:=?_)
 rintro _ _ ⟨j,rfl,rfl⟩
 refine .move ?_
 refine .extract (.extract ?_)
 refine .assign (.assign (.z (.seq (.sr (.move ?_)))))
 refine .nei ?_
 refine .z ?_
 refine .condF rfl (cB9 (by first|simp;done|simp;omega|omega)) ?_
 refine .skip (.next (.sr (.move ?_)))
 refine .call (hc:=Tryz.call84) (sp:=Nc (d:=d) (n:=p.n) (J:=J.settled) (k:=245) (by decide) (by omega)) (h:=?_)
 rintro _ _ ⟨gb,q,rfl,⟨hq1,hq2,hq3⟩,rfl⟩
 rw [hv]
 refine .move ?_
 refine .extract (.extract ?_)
 refine .assign (.assign (.z (.seq (.sr (.move ?_)))))
 refine .nei ?_
 refine .z ?_
 refine .condF rfl (cB9 (by first|simp;done|simp;omega|omega)) ?_
 refine .skip (.next (.sr (.move ?_)))
 refine .call (hc:=Tryz.call85) (sp:=Qw (R:=buf gb 5 q (bvs (supB p))) h Reads.buf) (h:=?_)
 rintro _ _ ⟨rfl,rfl⟩
 refine .move ?_
 refine .extract (.extract ?_)
 refine .alloc z121 fun b7=>?_
 refine .stV ?_ fh
 refine .to (A:=pt b7 (.cells p.cells 121 (0,0))) (A':=pt b7 (.cells p.cells 121 (0,0))) (fun h hh=>hh) ?_
 refine .assign (.z (.seq (.seq ?_)))
 refine .openR (JR.opens j d p.n J.settled) fun x hx=>?_
 simp only [jL,List.cons_append,List.nil_append]
 refine .dr ([pt b7 (.cells p.cells 121 (0,0))]) [] 9 mixed .autoJ ?_
 refine .tk 0 rfl .move ?_
 refine .tk 1 rfl .nei ?_
 refine .tk 2 rfl .move ?_
 refine .tn 3 rfl (.fa Gs) ?_
 refine .tn 4 rfl (.ld sc3) ?_
 refine .tn 5 rfl .move ?_
 refine .on 6 rfl fun hnp=>?_
 refine .gT ?_
 refine .call (hc:=Tryz.call73) (sp:=ej (n:=p.n) (t:=0) (cur:=J.settled.cur)) (h:=?_)
 rintro _ _ ⟨rfl,rfl⟩
 refine .nil (.wa hnp ?_)
 refine .tn 7 rfl .nei ?_
 refine .tk 8 rfl .pickF ?_
 refine .fin ?_
 refine .next ?_
 refine .condF rfl (cB9 (by first|simp;done|simp;omega|omega)) ?_
 refine .skip (.next (.sr ?_))
 refine .shutR (JR.opens j d p.n J.settled) x hx ?_
 refine .move ?_
 refine .ldA ?_ fh
 refine .call (hc:=Tryz.call75) (sp:=Gt (p:=p) (T:=T) hn1 hn2) (h:=?_)
 rintro _ _ ⟨f,c,a,s,mp,rfl,rfl⟩
 simp only [List.cons_append,List.nil_append]
 refine .shutR (TR.opens c p.n (cm0 V) (cm0 V) [] false) (j,d,⟨J.settled,[],false,false⟩) ⟨rfl,(fun k h1 h2=>(hS.home k h1 h2).trans (pi V (by omega)).symm),(fun k h1 h2=>(hS.home k h1 h2).trans (pi V (by omega)).symm),rfl,fun r hr=>(by rw [Ey] at hr;cases hr),fun h=>(by cases h)⟩ ?_
 refine .shutR (IN.opens s a c p (fmT T) (fmT T) 0 false) (cm0 V,cm0 V,[]) ⟨hr,hr,Dk.nil p,Nat.zero_le _⟩ ?_
 refine .shutR (FSR.opens f p T) (c,a,s,mp) trivial ?_
 refine .assign (.assign (.z (.ret (?_))))
 exact .ret2 (h1:=.tmp (t:=2) rfl) (h2:=.tmp (t:=3) rfl) ⟨_,⟨f,rfl,rfl⟩,Am.auto⟩
theorem De {d:Nat} {p:Pl} {J:JS} (h:PlIs p) (hJ:DevOk p.n (mkW p) J):Spec Tryz.prog 37 #[.pointer (some ⟨d,0,none⟩)] [DevR d p.n J.cur 0] fun F v M=>∃ f,v=.tuple #[.pointer (some ⟨f,0,none⟩),.int .i64 0]/\M=FSR f p dx :: F :=
 O2 h hJ (Oi h) (by rw [ve];exact Ok h)
theorem Mk :ck Tryz.prog 166 2=true:=by kernel_rfl
theorem O3 :ae Tryz.prog 166 0 0=true:=by kernel_rfl
theorem rx (l:List Ent):(l.flatMap entL).length=l.length * 2:=bu (enc:=entL) (m:=2) jc l
theorem K2 {l:List Ent} {i:Nat} {x:Ent} (h:l[i]?=some x):(l.flatMap entL)[i * 2]?=some (sv x.1)/\(l.flatMap entL)[i * 2+1]?=some (nI x.2):=by
 induction l generalizing i with
 | nil=>cases h
 | cons a l ih =>
  rw [List.flatMap_cons]
  cases i with
  | zero =>
   injection h with h;subst h
   exact ⟨rfl,rfl⟩
  | succ i =>
   have:=ih (i:=i) h
   rw [show (i+1) * 2=i * 2+2 from by omega]
   constructor
   ·rw [List.getElem?_append_right (by show 2<=_;omega)]
    show (l.flatMap entL)[i * 2+2 - 2]?=_
    rw [Nat.add_sub_cancel];exact this.1
   ·rw [List.getElem?_append_right (by show 2<=_;omega)]
    show (l.flatMap entL)[i * 2+2+1 - 2]?=_
    rw [show i * 2+2+1 - 2=i * 2+1 from by omega];exact this.2
theorem Hi {l:List Ent} {i:Nat} {x:Ent} (h:l[i]?=some x):((l.flatMap entL).drop (i * 2)).take 2=entL x:=by
 have h1:=K2 h
 refine List.ext_getElem? fun j=>?_
 rw [List.getElem?_take]
 split
 ·rename_i hj
  rw [List.getElem?_drop]
  rcases j with _ | _ | j
  ·exact h1.1
  ·exact h1.2
  ·omega
 ·rename_i hj
  rw [List.getElem?_eq_none (by show 2<=j;omega)]
theorem zp {sl:List Slot} (hd:DirOk sl):((mt sl).map (·.1)).Nodup:=by
 unfold List.Nodup
 rw [List.pairwise_map]
 unfold mt
 rw [List.pairwise_filterMap]
 rw [List.pairwise_iff_getElem]
 intro i j hi hj hij x hx y hy hxy
 have hx:sl[i]=some x:=hx
 have hy:sl[j]=some y:=hy
 obtain ⟨n1,i1⟩:=x
 obtain ⟨n2,i2⟩:=y
 have hxy:n1=n2:=hxy
 subst hxy
 have:=hd.one i j n1 i1 i2 (by rw [List.getElem?_eq_getElem hi,hx]) (by rw [List.getElem?_eq_getElem hj,hy])
 omega
abbrev SortE (l:List Ent):Prop:=l.Pairwise fun x y=>¬ y.1 < x.1
theorem bsSn (a:ByteArray):ax Tryz.prog 62 1 [(0,.string a)] 9 #[.string a]:=fun w=>by kernel_rfl
theorem Df {α:Type} {l:List α} {k:Nat} (h:k < l.length):l.take (k+1)=l.take k++[l[k]]:=List.take_succ_eq_append_getElem h
theorem Rq {f:Nat} {p:Pl} {T:FT} {path:ad} (ho:PlOk p) (hT:TOk T) (hpl:path.length<=1000000) {i z:Nat} {sl:List Slot} (hl:e9 T path=(i,2,z,0)) (hd:T i=some (.dir sl)):Spec Tryz.prog 59 #[.pointer (some ⟨f,0,none⟩),sv path] [FSR f p T] fun F v M=>∃ u l,v=.tuple #[u,.int .i64 0]/\((l:List Ent).Perm (mt sl)/\SortE l)/\M=rowR 9 1 u (l.map (·.1)).length (svs (l.map (·.1))) :: FSR f p T :: F:=by
 refine Spec.intro Tryz.func59 rfl rfl fun B F=>?_
 simp only [Tryz.ntmps59,List.cons_append,List.nil_append,env0,Nat.reduceAdd]
 refine .openR (FSR.opens f p T) fun y _=>?_
 obtain ⟨c,a,s,mp⟩:=y
 simp only [fsLs,List.cons_append,List.nil_append]
 have hto:=hT i sl hd
 refine .sr (.assign (.assign (.x (.move (.move ?_)))))
 refine .call (hc:=Tryz.call107) (sp:=vf (f:=f) (s:=s) (a:=a) (c:=c) (mp:=mp) (b:=false) (ov:=false) (dead:=false) (p:=p) (T:=T) (F0:=fmT T) (W:=0) (op:=false) (path:=path) ho hT hpl) (h:=?_)
 rintro _ _ ⟨rfl,rfl⟩
 rw [hl]
 refine .move ?_
 refine .extract (.extract (.extract ?_))
 refine .alloc z159 fun b7=>?_
 refine .assign ?_
 refine .stV ?_ ci
 refine .assign (.z (.seq (.sr (.move ?_))))
 refine .nei ?_
 refine .z ?_
 refine .condF rfl (cB9 (by first|simp;done|simp;omega|omega)) ?_
 refine .skip (.next (.sr (.move (.nilCheck ?_))))
 refine .fa ?_ er
 refine .ld ?_ og
 refine .move ?_
 refine .call (hc:=Tryz.call108) (sp:=dList (s:=s) (a:=a) (c:=c) (p:=p) (F0:=fmT T) (Fm:=fmT T) (W:=0) (d:=i) (op:=false) (sl:=sl) ho (ee hd) hto.1 (by omega)) (h:=?_)
 rintro _ _ ⟨u,l,rfl,⟨hlp,hls⟩,rfl⟩
 have hll:=hlp.length_eq
 have hle:=o0 (sl:=sl)
 refine .fact (ah (el:=166) (size:=2) (v:=u) (k:=l.length) (xs:=l.flatMap entL)) (fun ⟨A,cc,hu,hR0,hc1,hc2,hlen⟩=>?_)
 subst hu
 refine .move ?_
 refine .extract (.extract ?_)
 refine .assign (.assign (.z (.seq (.sr (.move ?_)))))
 refine .nei ?_
 refine .z ?_
 refine .condF rfl (cB9 (by first|simp;done|simp;omega|omega)) ?_
 refine .skip (.next (.sr (.assign ?_)))
 refine .emp (rowR.nil (e:=9) (size:=1) _) ?_
 refine .z (.seq (.sr (.move ?_)))
 refine .lenS ?_ sl162
 refine .move (.z (.block ?_))
 refine .loopA (σ:=Nat×Value) (fun y=>[(10,y.2),(35,.slice A l.length cc),(36,.int .i64 (l.length:Int)),(37,.int .i64 ((y.1:Nat):Int))]) (fun y=>[rowR 9 1 y.2 y.1 (svs ((l.map (·.1)).take y.1)),rowR 166 2 (.slice A l.length cc) l.length (l.flatMap entL),pt f (fO c a s false false false mp),LD mp T,IN s a c p (fmT T) (fmT T) 0 false]++F) (fun y=>y.1<=l.length) (fun y=>l.length - y.1) (0,.slice none 0 0) (Nat.zero_le _) ?_
 rintro y hk
 obtain ⟨k,o⟩:=y
 simp only at hk ⊢
 refine .sr ?_
 refine .lss ?_
 refine .z (.seq ?_)
 refine .cond rfl (fun hb=>?_) (fun hb=>?_)
 ·have hlt:k < l.length:=by have h:(k:Int) < (l.length:Int):=of_decide_eq_true hb;omega
  rcases A with _ | ⟨ab,ao,asp⟩
  ·exact absurd (congrArg List.length (show l.flatMap entL=[] from hR0)) (by rw [rx,List.length_nil];omega)
  have hsp:asp=none:=hR0.1
  subst hsp
  have hlk:l[k]?=some l[k]:=List.getElem?_eq_getElem hlt
  have hml:(l.map (·.1)).length=l.length:=List.length_map ..
  refine .skip (.next (.seq (.block (.sr ?_))))
  refine .idx ?_ Qn
  refine .ldAR (i:=((k:Nat):Int).toNat * 2) (us:=entL l[k]) ?_ Mk hR0 (by rw [Int.toNat_natCast];exact Hi hlk) (by rw [rx,Int.toNat_natCast];omega)
  refine .alloc z166 fun b12=>?_
  refine .stV ?_ Mk
  refine .y (.move ?_)
  refine .fa ?_ O3
  refine .ld ?_ sc9
  refine .buildS (fun b44=>?_) (bsSn _)
  refine .append (m:=1) (news:=[sv l[k].1]) so62 (by decide) (by repeat (first | exact .here | apply Rem.there | apply Repl.there | apply Mem.there)) Reads.pt (by repeat (first | exact .here | apply Rem.there | apply Repl.there | apply Mem.there)) rfl (by intro x hx;simp only [List.mem_cons,List.not_mem_nil,or_false] at hx;subst hx;rfl) (by show k+1<=maxLen;unfold maxLen;omega) (by show (k+1) * _<=_;omega) ⟨_,z9,rfl⟩ (fun u2 hu2=>?_)
  refine .assign (.nil (.blockNormal (.next (.region ?_))))
  refine .add ?_
  refine .move (.nil ?_)
  refine .to (A:=rowR 9 1 u2 (k+1) (svs ((l.map (·.1)).take k)++[sv l[k].1])) (A':=rowR 9 1 u2 (k+1) (svs ((l.map (·.1)).take (k+1)))) (fun h hh=>by rw [Df (by omega),List.getElem_map];unfold svs at hh ⊢;rw [List.map_append];exact hh) ?_
  refine .cast (d:=37) (u:=.int .i64 ((k+1:Nat):Int)) rfl (cI9 (by omega)) ?_
  exact .back (k+1,u2) (by show k+1<=l.length;omega) (by show l.length - (k+1) < l.length - k;omega)
 ·have hge:k=l.length:=by have h:¬ (k:Int) < (l.length:Int):=of_decide_eq_false hb;omega
  subst hge
  have hml:(l.map (·.1)).length=l.length:=List.length_map ..
  rw [List.take_of_length_le (Nat.le_of_eq hml)]
  refine .exit (.thenExit (.thenExit (.blockExit (?_))))
  refine .next (.sr (.move (.assign (.assign (.z ?_)))))
  refine .ret (?_)
  refine .shutR (FSR.opens f p T) (c,a,s,mp) trivial ?_
  exact .ret2 (h1:=.tmp (t:=4) rfl) (h2:=.tmp (t:=5) rfl) ⟨_,⟨o,l,rfl,⟨hlp,hls⟩,by rw [hml]⟩,Am.auto⟩
theorem K3 :ck Tryz.prog 23 5=true:=by kernel_rfl
theorem Rr {p:Pl} {dn:ad} (hdn:ak dn=true) (hi:2<=p.ino):DirF p dn 0 (mkT dx 0 [] dn 1 (.dir [])) [] []:=by
 have hs:setS ([]:List Slot) (dv []) (some (dn,1))=[some (dn,1)]:=rfl
 have hat:∀ j,mkT dx 0 [] dn 1 (.dir []) j=if j=0 then some (.dir [some (dn,1)]) else if j=1 then some (.dir []) else none:=fun j=>by
  rw [tl,hs]
  by_cases h0:j=0
  ·rw [if_pos h0,if_pos h0]
  ·rw [if_neg h0,if_neg h0]
   by_cases h1:j=1
   ·rw [if_pos h1,if_pos h1]
   ·rw [if_neg h1,if_neg h1]
    unfold dx
    rw [if_neg h0]
 refine ⟨hdn,by rw [hat];rfl,by rw [hat];rfl,DirOk.nil,Nat.le_refl _,fun q nm i=>⟨fun h=>by simp at h,fun ⟨x,hx,_⟩=>by simp at hx⟩,fun x hx=>by simp at hx,fun j hj _=>by rw [hat,if_neg (by omega),if_neg (by omega)],fun x hx=>by simp at hx,List.Pairwise.nil,?_⟩
 have h1:=gy (fmT dx) (show 1 < p.ino by omega) (some (NodeT.dir []).f)
 rw [gz,kx (show dx 1=none from rfl)] at h1
 have h2:=gy (fmT (updT dx 1 (some (.dir [])))) (show 0 < p.ino by omega) (some (NodeT.dir [some (dn,1)]).f)
 rw [gz,ee (T:=updT dx 1 (some (.dir []))) (i:=0) (x:=.dir []) rfl] at h2
 have e0:hasO none=0:=rfl
 have e1:hasO (some (NodeT.dir []).f)=0:=by show has (dirB []).length=0;rw [bw];rfl
 have e2:hasO (some (NodeT.dir [some (dn,1)]).f)=1:=by
  have h64:has 64=1:=rfl
  show has (dirB [some (dn,1)]).length=1
  rw [bw]
  exact h64
 have e3:tot (fmT dx) p.ino=0:=by rw [ve];exact Ax _
 have e4:mkT dx 0 [] dn 1 (.dir [])=updT (updT dx 1 (some (.dir []))) 0 (some (.dir [some (dn,1)])):=by unfold mkT;rw [hs]
 have e5:has (64 * 0)=0:=rfl
 show tot (fmT (mkT dx 0 [] dn 1 (.dir []))) p.ino=1+has (64 * 0)+0
 rw [e4]
 omega
theorem O4 {dn:ad} (hdn:ak dn=true):di dx (47 :: dn)=(0,dn,0):=by
 have hl:=aq hdn
 unfold di
 have hp:eh (47 :: dn)=some [dn]:=by
  unfold eh
  simp only [if_true]
  rw [if_neg (by intro h;rw [h] at hl;simp at hl),km hdn,if_neg (by simp)]
  rw [show [dn].all ak=true from by rw [List.all_cons,List.all_nil,hdn];rfl]
  rfl
 rw [hp]
 rfl
theorem K4 {dn:ad} (hdn:ak dn=true):eh (47 :: dn)=some [dn]:=by
 have hl:=aq hdn
 unfold eh
 simp only [if_true]
 rw [if_neg (by intro h;rw [h] at hl;simp at hl),km hdn,if_neg (by simp)]
 rw [show [dn].all ak=true from by rw [List.all_cons,List.all_nil,hdn];rfl]
 rfl
theorem DirF.leadsD {p:Pl} {dn:ad} {N:Nat} {T:FT} {sl:List Slot} {fl:List PF} (h:DirF p dn N T sl fl):e9 T (47 :: dn)=(1,2,(NodeT.dir sl).size,0):=by
 unfold e9
 rw [K4 h.dnm]
 have hw:cr T 0 [dn]=(1,0):=by
  unfold cr
  rw [h.findD]
  rfl
 show (if (cr T 0 [dn]).2=0 then _ else _)=_
 rw [hw,if_pos rfl]
 show (match T 1 with | some y=>(1,y.kind,y.size,0) | none=>(1,0,0,4))=_
 rw [h.dir]
 rfl
theorem K5 {α:Type} {l:List α} {a:α} (h1:a∈l) (h2:∀ x∈l,x=a) (h3:l.Nodup):l=[a]:=by
 match l,h1 with
 | [x],_=>rw [h2 x (List.mem_singleton.2 rfl)]
 | x :: y :: l,_ =>
  have e1:=h2 x (List.mem_cons_self ..)
  have e2:=h2 y (List.mem_cons_of_mem _ (List.mem_cons_self ..))
  rw [List.nodup_cons] at h3
  exact absurd (by rw [e1,e2];exact List.mem_cons_self ..) h3.1
theorem Hj {f:Nat} {p:Pl} {dn:ad} {N:Nat} {y:SegA} (hp:PlP p) (hf:FitsP p N [y]) :
  Spec Tryz.prog 59 #[.pointer (some ⟨f,0,none⟩),sv (47 :: dn)] [DRF f p dn N [y]] fun F v M=>∃ u,v=.tuple #[u,.int .i64 0]/\M=rowR 9 1 u 1 (svs [az y.1]) :: DRF f p dn N [y] :: F:=by
 refine Spec.opens (DRF.opens f p dn N [y]) fun fl hfl=>?_
 refine Spec.opens (DR.opens f p dn N fl) fun z hd=>?_
 obtain ⟨T,sl⟩:=z
 have hd:DirF p dn N T sl fl:=hd
 have hN:=hf.n
 refine Spec.post' (Rq (f:=f) (p:=p) (T:=T) (path:=47 :: dn) (i:=1) (z:=(NodeT.dir sl).size) (sl:=sl) hp.ok (hd.tok (by omega)) (by have:=aq hd.dnm;simp only [List.length_cons];omega) hd.leadsD hd.dir) ?_
 rintro F v M B w ⟨u,l,rfl,⟨hlp,_⟩,rfl⟩ hs
 obtain ⟨fa,x,fb,rfl,ha,⟨hxn,hxc⟩,hb⟩:=hfl.split (pre:=[]) (post:=[])
 have ha0:fa=[]:=by unfold FilesOf at ha;exact List.map_eq_nil_iff.1 ha
 have hb0:fb=[]:=by unfold FilesOf at hb;exact List.map_eq_nil_iff.1 hb
 subst ha0
 subst hb0
 have hnm:l.map (·.1)=[az y.1]:=by
  refine K5 ?_ ?_ ?_
  ·refine List.mem_map.2 ⟨(x.nm,x.i),hlp.mem_iff.2 (entsS_mem.2 ⟨x.q,(hd.slot _ _ _).2 ⟨x,List.mem_singleton.2 rfl,rfl,rfl,rfl⟩⟩),hxn⟩
  ·intro n hn
   obtain ⟨⟨nm,i⟩,hm,rfl⟩:=List.mem_map.1 hn
   obtain ⟨q,hq⟩:=entsS_mem.1 (hlp.mem_iff.1 hm)
   obtain ⟨x',hx',h1,h2,h3⟩:=(hd.slot _ _ _).1 hq
   rw [List.mem_singleton.1 hx'] at h2
   rw [<- hxn,h2]
  ·exact (hlp.map _).nodup_iff.2 (zp hd.ok)
 rw [hnm] at hs
 refine ⟨_,⟨u,rfl,rfl⟩,Sat.front (.there .here) ?_⟩
 refine Sat.shuts (M:=rowR _ 1 u 1 (svs [az y.1]) :: F) (DRF.opens f p dn N [y]) hfl ?_
 exact Sat.shuts (DR.opens f p dn N _) (x:=(T,sl)) hd (Sat.front (.there .here) hs)
theorem Rs {f:Nat} {p:Pl} {dn:ad} {N:Nat} {pre post:List SegA} {y:SegA} (hp:PlP p) (hf:FitsP p N (pre++y :: post)) (hc:(byt y).length<=70656) :
  Spec Tryz.prog 116 #[.pointer (some ⟨f,0,none⟩),sv (dy dn (az y.1)),nI 0,nI 70656] [DRF f p dn N (pre++y :: post)] fun F v M=>∃ u,v=.tuple #[u,.int .i64 0]/\M=rowR 5 1 u (byt y).length (bvs (byt y)) :: DRF f p dn N (pre++y :: post) :: F:=by
 refine Spec.opens (DRF.opens f p dn N _) fun fl hfl=>?_
 have hN:=hf.n
 obtain ⟨fa,x,fb,rfl,ha,⟨hxn,hxc⟩,hb⟩:=hfl.split
 have h:=Qs (f:=f) (p:=p) (dn:=dn) (N:=N) (fl:=fa++x :: fb) (x:=x) hp.ok (by omega) (List.mem_append_right _ (List.mem_cons_self ..)) (by rw [hxn,dj];decide) (by rw [hxc];exact hc)
 rw [hxn,hxc] at h
 refine Spec.post' h ?_
 rintro F v M B w ⟨u,rfl,rfl⟩ hs
 exact ⟨_,⟨u,rfl,rfl⟩,Sat.front (.there .here) (Sat.shuts (M:=rowR _ _ _ _ _ :: F) (DRF.opens f p dn N _) hfl (Sat.front (.there .here) hs))⟩
theorem Rt (f:Nat) (s:ByteArray) (a b c:Int) (d:Bool) (e:Int):ay Tryz.prog 84 [(0,.pointer (some ⟨f,0,none⟩)),(1,.string s),(2,.agg #[.int .i64 a,.int .i64 b,.int .i64 c,.bool d,.int .i64 e])] #[.pointer (some ⟨f,0,none⟩),.string s,.int .i64 a,.int .i64 b,.int .i64 c,.bool d,.int .i64 e,.slice none 0 0]:=fun w=>by kernel_rfl
theorem sufP (b:Nat):decide ((az b).drop ((az b).length - ([46,110,101,119]:ad).length)=([46,110,101,119]:ad))=false:=by
 refine decide_eq_false fun h=>?_
 have hd:(az b).length - ([46,110,101,119]:ad).length=16:=by rw [dj];rfl
 rw [hd] at h
 have h1:((az b).drop 16)[0]?=some 46:=by rw [h];rfl
 rw [List.getElem?_drop,vh (by decide)] at h1
 injection h1 with h1
 have h2:=mw b (19 - (16+0))
 have h3:=mv b (19 - (16+0))
 rw [h1] at h2
 have:(46:UInt8).toNat=46:=rfl
 omega
theorem Hk {f bf bd:Nat} {p:Pl} {dn:ad} (hp:PlP p) (hdn:ak dn=true) (hi:6<=p.ino):Spec Tryz.prog 58 #[.pointer (some ⟨bf,0,none⟩),.pointer (some ⟨bd,0,none⟩)] [FSB f p (fmT dx) dx 0,bun [pt bf (.cells #[.pointer (some ⟨f,0,none⟩)] 29 (0,0)),pt bd (.cells #[sv (47 :: dn)] 9 (0,0))]] fun F v M=>∃ y:FT×List Slot×List PF,(DirF p dn 1 y.1 y.2.1 y.2.2/\FilesOf y.2.2 [(0,[])])/\v=okV/\M=FSB f p (fmT dx) y.1 18 :: bun [pt bf (.cells #[.pointer (some ⟨f,0,none⟩)] 29 (0,0)),pt bd (.cells #[sv (47 :: dn)] 9 (0,0))] :: F:=by
 refine Spec.intro Tryz.func58 rfl rfl fun B F=>?_
 simp only [Tryz.ntmps58,List.cons_append,List.nil_append,env0,Nat.reduceAdd]
 refine .openR (bun.opens _) fun _ _=>?_
 simp only [List.cons_append,List.nil_append]
 have hdl:=aq hdn
 have hdc:=hp.dc
 refine .sr (.assign (.z (.seq (.sr ?_))))
 refine .ld ?_ sc29
 refine .ld ?_ sc9
 refine .call (hc:=Tryz.call31) (sp:=J8 (f:=f) (p:=p) (T:=dx) (F0:=fmT dx) (W0:=0) (path:=47 :: dn) (d:=0) (i:=1) (nm:=dn) (sl:=[]) (x:=.dir []) hp.ok J2 (by simp only [List.length_cons];omega) (by intro h;injection h with _ h;rw [h] at hdl;simp at hdl) (O4 hdn) (by unfold dw;rw [if_pos hdn];rfl) rfl (by omega) rfl (fun j hj=>by rw [show j=0 by omega];simp [dx]) rfl rfl (hp.w (by decide)) (by
  have h1:tot (fmT dx) p.ino=0:=by rw [ve];exact Ax _
  have h2:has (max (64 * ([]:List Slot).length) (64 * dv []+64))=1:=rfl
  rw [h1,h2]
  omega)) (h:=?_)
 rintro _ _ ⟨rfl,rfl⟩
 refine .assign (.x (.move ?_))
 refine .nei ?_
 refine .z ?_
 refine .condF rfl rfl ?_
 refine .skip (.next (.seq ?_))
 refine .dr ([pt bf (.cells #[.pointer (some ⟨f,0,none⟩)] 29 (0,0)),pt bd (.cells #[sv (47 :: dn)] 9 (0,0))]) [] 9 mixed .autoJ ?_
 refine .tk 0 rfl (.ld sc29) ?_
 refine .tk 1 rfl (.ld sc9) ?_
 refine .on 2 rfl fun hnp=>?_
 refine .call (hc:=Tryz.call47) (sp:=vq (dir:=47 :: dn) (b:=0) (by simp only [List.length_cons];omega) (by decide)) (h:=?_)
 rintro _ _ ⟨rfl,rfl⟩
 rw [vw]
 refine .nil (.wa hnp ?_)
 refine .on 3 rfl fun hnp=>?_
 refine .shutR (DB.opens f p dn 0 (fmT dx) [] 9) (_,[]) (Rr hdn (by omega)) ?_
 refine .shutR (DBF.opens f p dn 0 (fmT dx) [] 9) [] rfl ?_
 refine .call (hc:=Tryz.call46) (sp:=Hb (f:=f) (base:=((0:Nat):Int)) (path:=dy dn (az 0)) (H:=DBF f p dn 0 (fmT dx) [] 9) (H':=DBF f p dn 1 (fmT dx) [(0,[])] 18) (by decide) (Bu (ss:=[]) hp ⟨by decide,by omega,by decide,by decide⟩ (by decide) (by decide) (fun y hy=>absurd hy List.not_mem_nil))) (h:=?_)
 rintro _ _ ⟨s,rfl,rfl⟩
 refine .nil (.wa hnp ?_)
 refine .tk 4 rfl .move ?_
 refine .tk 5 rfl .extract ?_
 refine .tk 6 rfl .extract ?_
 refine .tk 7 rfl .assign ?_
 refine .tk 8 rfl .assign ?_
 refine .fin ?_
 refine .next (.sr (.move (.assign (.z (.ret (?_))))))
 refine .openR (DBF.opens f p dn 1 (fmT dx) [(0,[])] 18) fun fl hfl=>?_
 simp only [List.cons_append,List.nil_append]
 refine .openR (DB.opens f p dn 1 (fmT dx) fl 18) fun z hd=>?_
 simp only [List.cons_append,List.nil_append]
 refine .shutR (bun.opens [pt bf (.cells #[.pointer (some ⟨f,0,none⟩)] 29 (0,0)),pt bd (.cells #[sv (47 :: dn)] 9 (0,0))]) () trivial ?_
 exact .ret1 (h1:=.tmp (t:=2) rfl) ⟨_,⟨(z.1,z.2,fl),⟨hd,hfl⟩,rfl,rfl⟩,Am.auto⟩
theorem K6 {f:Nat} {p:Pl} {dn:ad} {st:Sts} (hp:PlP p) (hdn:ak dn=true) (hi:6<=p.ino) (hst:kn st=true):Spec Tryz.prog 29 #[.pointer (some ⟨f,0,none⟩),sv (47 :: dn),.agg st.v.toArray] [FSR f p dx] fun F v M=>v=okV/\M=DRF f p dn 1 [(0,[])] :: F:=by
 refine Spec.intro Tryz.func29 rfl rfl fun B F=>?_
 simp only [Tryz.ntmps29,List.cons_append,List.nil_append,env0,Nat.reduceAdd]
 refine .sr ?_
 refine .box fun b3=>?_
 refine .box fun b4=>?_
 refine .box fun b5=>?_
 refine .assign (.z (.seq (.sr ?_)))
 refine .ldA ?_ K3
 refine .call (hc:=Tryz.call10) (sp:=Bw (s:=st)) (h:=?_)
 rintro _ _ ⟨rfl,rfl⟩
 rw [hst]
 refine .not ?_
 refine .z ?_
 refine .condF rfl rfl ?_
 refine .skip (.next (.sr ?_))
 refine .ld ?_ sc29
 refine .makeFuncB ?_
 refine .shutR (bun.opens [pt b3 (.cells #[.pointer (some ⟨f,0,none⟩)] 29 (0,0)),pt b4 (.cells #[sv (47 :: dn)] 9 (0,0))]) () trivial ?_
 refine .call (hc:=Tryz.call41) (sp:=tm (f:=f) (p:=p) (α:=FT×List Slot×List PF) (q:=fun y=>(DirF p dn 1 y.1 y.2.1 y.2.2/\FilesOf y.2.2 [(0,[])])) (T:=dx) (T':=fun y=>y.1) (W':=fun _=>18) (X0:=bun [pt b3 (.cells #[.pointer (some ⟨f,0,none⟩)] 29 (0,0)),pt b4 (.cells #[sv (47 :: dn)] 9 (0,0))]) (X':=fun _=>bun [pt b3 (.cells #[.pointer (some ⟨f,0,none⟩)] 29 (0,0)),pt b4 (.cells #[sv (47 :: dn)] 9 (0,0))]) hp.ok (hc:=Tryz.call58) (Hk hp hdn hi)) (h:=?_)
 rintro _ _ ⟨y,hy,rfl,rfl⟩
 refine .shutR (DR.opens f p dn 1 y.2.2) (y.1,y.2.1) hy.1 ?_
 refine .shutR (DRF.opens f p dn 1 [(0,[])]) y.2.2 hy.2 ?_
 refine .assign (.z (.ret (?_)))
 exact .ret1 (h1:=.tmp (t:=6) rfl) ⟨_,⟨rfl,rfl⟩,Am.auto⟩
theorem zq {f N:Nat} {p:Pl} {dn:ad} {st:Sts} (hp:PlP p) (hdn:ak dn=true) (hf:FitsP p N [(0,[])]) (hst:kn st=true):Spec Tryz.prog 30 #[.pointer (some ⟨f,0,none⟩),sv (47 :: dn),.agg st.v.toArray] [DRF f p dn N [(0,[])]] fun F v M=>∃ pp,v=.tuple #[.pointer (some ⟨pp,0,none⟩),.int .i64 0]/\M=PT pp f dn st [] [(0,[])] :: DRF f p dn N [(0,[])] :: F:=by
 refine Spec.intro Tryz.func30 rfl rfl fun B F=>?_
 simp only [Tryz.ntmps30,List.cons_append,List.nil_append,env0,Nat.reduceAdd]
 have hdl:=aq hdn
 refine .sr ?_
 refine .box fun b5=>?_
 refine .assign (.assign (.z (.seq (.sr ?_))))
 refine .ldA ?_ K3
 refine .call (hc:=Tryz.call10) (sp:=Bw (s:=st)) (h:=?_)
 rintro _ _ ⟨rfl,rfl⟩
 rw [hst]
 refine .not ?_
 refine .z ?_
 refine .condF rfl rfl ?_
 refine .skip (.next (.sr (.move (.move ?_))))
 refine .call (hc:=Tryz.call59) (sp:=Hj (y:=(0,[])) hp hf) (h:=?_)
 rintro _ _ ⟨u,rfl,rfl⟩
 refine .rowOpen (v:=u) (xs:=svs [az 0]) (hx:=fun h=>by cases h) fun A c hv hR hc1 hc2=>?_
 subst hv
 refine .move ?_
 refine .extract (.extract ?_)
 refine .assign (.assign (.z (.seq (.sr (.move ?_)))))
 refine .nei ?_
 refine .z ?_
 refine .condF rfl rfl ?_
 refine .skip (.next (.sr (.move (.move ?_))))
 refine .ldA ?_ K3
 refine .build ?_ (Rt f (bstr (47 :: dn)) st.seg st.bytes st.age st.comp st.delay)
 refine .box fun b34=>?_
 refine .assign (.z (.seq (.sr (.move ?_))))
 refine .lenS ?_ sl62
 refine .move (.z (.block ?_))
 obtain ⟨ab,ao,asp⟩:=A
 have hasp:asp=none:=hR.1
 subst hasp
 refine .loopN 2 (RC.succ ?_)
 refine .sr ?_
 refine .lss ?_
 refine .z (.seq ?_)
 refine .condT rfl rfl ?_
 refine .skip (.next (.seq (.block (.sr ?_))))
 refine .idx1 ?_ so62
 rw [show ao+((0:Int)).toNat=ao+0 from rfl]
 refine .ldR (i:=0) (v:=sv (az 0)) ?_ sc9 hR rfl
 refine .assign (.z (.seq (.sr (.move ?_))))
 refine .call (hc:=Tryz.call60) (sp:=Ov (xs:=az 0) (ps:=[46,110,101,119]) (by rw [dj];decide) (by rw [dj];decide)) (h:=?_)
 rintro _ _ ⟨rfl,rfl⟩
 rw [sufP 0]
 refine .z ?_
 refine .condF rfl rfl ?_
 refine .skip (.next (.sr (.move ?_)))
 refine .call (hc:=Tryz.call62) (sp:=Kq (b:=0) (by decide)) (h:=?_)
 rintro _ _ ⟨rfl,rfl⟩
 refine .move ?_
 refine .extract (.extract ?_)
 refine .assign (.assign (.z (.seq (.sr (.move ?_)))))
 refine .not ?_
 refine .z ?_
 refine .condF rfl rfl ?_
 refine .skip (.next (.sr (.move (.move (.move ?_)))))
 refine .call (hc:=Tryz.call47) (sp:=vq (dir:=47 :: dn) (b:=0) (by simp only [List.length_cons];omega) (by decide)) (h:=?_)
 rintro _ _ ⟨rfl,rfl⟩
 rw [vw]
 refine .move ?_
 refine .call (hc:=Tryz.call63) (sp:=Kz (f:=f) (base:=((0:Nat):Int)) (path:=dy dn (az 0)) (H:=DRF f p dn N [(0,[])]) (by decide) (Rs (pre:=[]) (post:=[]) (y:=(0,[])) hp hf (by decide))) (h:=?_)
 rintro _ _ ⟨s,rfl,rfl⟩
 refine .move ?_
 refine .extract (.extract ?_)
 refine .assign (.assign (.z (.seq (.sr (.move ?_)))))
 refine .nei ?_
 refine .z ?_
 refine .condF rfl rfl ?_
 refine .skip (.next (.region (.move (.move (.nilCheck ?_)))))
 refine .fa ?_ li
 refine .ld ?_ sc82
 refine .move ?_
 refine .buildS (fun b77=>?_) (bsPS _)
 refine .emp (A:=rowR 86 1 (.slice none 0 0) 0 []) (rowR.nil _) ?_
 refine .append (v:=.slice none 0 0) (m:=1) (k:=0) (xs:=[]) (news:=[.pointer (some ⟨s,0,none⟩)]) so82 (by decide) (by repeat (first | exact .here | apply Rem.there | apply Repl.there | apply Mem.there)) (Reads.pt (cs:=#[.pointer (some ⟨s,0,none⟩)])) (by repeat (first | exact .here | apply Rem.there | apply Repl.there | apply Mem.there)) rfl (tx _ (fun v hv=>⟨s,List.mem_singleton.1 hv⟩)) (by decide) (by decide) ⟨_,z86,rfl⟩ (fun v' hv'=>?_)
 refine .toE (A:=rowR 86 1 v' (0+1) ([]++[.pointer (some ⟨s,0,none⟩)])) (br (fun h=>by have:=(hv'.1 h).2;cases this)) ?_
 rintro ⟨g2,q2⟩ ⟨rfl,h2a,h2b,_⟩
 refine .nilCheck ?_
 refine .fa ?_ li
 refine .st ?_ sc82
 refine .nil (.blockNormal (.next (.region ?_)))
 refine .add ?_
 refine .move (.nil ?_)
 refine .again (RC.succ ?_)
 refine .sr ?_
 refine .lss ?_
 refine .z (.seq ?_)
 refine .condF rfl rfl ?_
 refine .exit (.thenExit (.thenExit (.blockExit (?_))))
 refine .next (.seq (.sr (.move (.nilCheck ?_))))
 refine .fa ?_ li
 refine .ld ?_ sc82
 refine .lenS ?_ sl82
 refine .eqi ?_
 refine .z ?_
 refine .condF rfl rfl ?_
 refine .skip (.next (.sr (.move (.assign (.assign (.z ?_))))))
 refine .ret (?_)
 refine .to (A:=SGP s f (dy dn (az 0)) ((0:Nat):Int) []) (A':=SGA f dn ⟨s,0,[]⟩) (fun h hh=>hh) ?_
 refine .emp (A:=segsH f dn ([]++[])) (by unfold segsH;exact bun.nil) ?_
 refine .segIn [] [] (⟨s,0,[]⟩:Seg) ?_
 refine .shutR (PT.opens b34 f dn st [] [(0,[])]) (g2,q2,[(⟨s,0,[]⟩:Seg)]) ⟨rfl,h2a,h2b,by show 1<=_;decide⟩ ?_
 exact .ret2 (h1:=.tmp (t:=6) rfl) (h2:=.tmp (t:=7) rfl) ⟨_,⟨b34,rfl,rfl⟩,Am.auto⟩
theorem sl40 :Tryz.prog.underlying 40=some (.slice 44):=by kernel_rfl
theorem vz :∀ (l:List Rc) (k i:Nat),(fc k l)[i]?=(l[i]?).map fun r=>{ r with off:=((k+i:Nat):Int) }
 | [],_,_=>by simp [fc]
 | r :: l,k,0=>by simp [fc]
 | r :: l,k,i+1=>by
  simp only [fc,List.getElem?_cons_succ]
  rw [vz l (k+1) i,show k+1+i=k+(i+1) by omega]
theorem K7 (b:Bt):(batB b).length=48+(b.recs.flatMap fun r=>encB r (a8 b)).length:=by
 rw [Br]
 unfold fi
 rw [List.length_append,ew]
theorem K8 {base prod seq:Int} {l:List Rc} (hn:1<=l.length/\l.length<=100) (hb:0<=base/\base<=1125899906842624) (hp:0<=prod) (hs:0<=seq) (hck:∀ r∈l,∀ j:Nat,j < 100->ckE { r with off:=((j:Nat):Int) }=0) (hfit:(batB (au base prod seq l)).length<=6000):batE (au base prod seq l)=0:=by
 have hl:(au base prod seq l).recs.length=l.length:=iz l 0
 have hsp:(au base prod seq l).span=((l.length:Nat):Int):=by show max ((l.length:Nat):Int) 1=_;omega
 have hat:∀ j r,l[j]?=some r->C4 (au base prod seq l) j=((j:Nat):Int):=fun j r hr=>by
  have h1:(au base prod seq l).recs[j]?=some { r with off:=((0+j:Nat):Int) }:=by
   show (fc 0 l)[j]?=_
   rw [vz,hr]
   rfl
  rw [vn h1]
  show ((0+j:Nat):Int)=_
  omega
 have ho:ga (au base prod seq l)=true:=by
  refine (Bq ?_ fun j hj=>?_).symm
  ·unfold d2
   have e1:(au base prod seq l).base=base:=rfl
   have e2:(au base prod seq l).prod=prod:=rfl
   have e3:(au base prod seq l).seq=seq:=rfl
   rw [hl,hsp,e1,e2,e3,decide_eq_false (by omega),decide_eq_false (by omega),decide_eq_false (by omega),decide_eq_false (by omega),decide_eq_false (by omega),decide_eq_false (by omega),decide_eq_false (by omega)]
   rfl
  ·rw [hl] at hj
   obtain ⟨r,hr⟩:∃ r,l[j]?=some r:=⟨_,List.getElem?_eq_getElem hj⟩
   unfold lh
   rw [hat j r hr,hsp,decide_eq_false (by omega),Bool.false_or]
   by_cases h0:j=0
   ·subst h0
    rfl
   ·obtain ⟨r2,hr2⟩:∃ r2,l[j - 1]?=some r2:=⟨_,List.getElem?_eq_getElem (by omega)⟩
    rw [hat (j - 1) r2 hr2,decide_eq_false (p:=((j:Nat):Int)<=((j - 1:Nat):Int)) (by omega),Bool.and_false]
    rfl
 have hall:∀ r∈(au base prod seq l).recs,ckE r=0:=fun r hr=>by
  obtain ⟨j,hj⟩:=List.getElem?_of_mem hr
  have h1:(fc 0 l)[j]?=some r:=hj
  rw [vz] at h1
  cases h2:l[j]? with
  | none=>rw [h2] at h1;cases h1
  | some r0 =>
   rw [h2] at h1
   injection h1 with h1
   rw [<- h1]
   have hj2:=(List.getElem?_eq_some_iff.1 h2).1
   exact hck r0 (List.mem_of_getElem? h2) (0+j) (by omega)
 unfold batE
 rw [if_pos (by unfold m9;rw [if_pos ho];exact rn hall),if_neg (by omega)]
theorem Hl {r:Rc} {t:Int} {K:Nat} (hK:∀ j:Nat,j < 100->(encB { r with off:=((j:Nat):Int) } t).length=K):∀ (n k:Nat),k+n<=100->((fc k (List.replicate n r)).flatMap fun r=>encB r t).length=n * K
 | 0,_,_=>by simp [fc]
 | n+1,k,h=>by
  rw [List.replicate_succ,fc,List.flatMap_cons,List.length_append,hK k (by omega),Hl hK n (k+1) (by omega),Nat.succ_mul]
  omega
def repB (base:Int) (n:Nat) (r:Rc):Bt:=au base 0 0 (List.replicate n r)
theorem Dg {base:Int} {n:Nat} {r:Rc} (hn:1<=n):a8 (repB base n r)=r.time:=by
 obtain ⟨m,rfl⟩:∃ m,n=m+1:=⟨n - 1,by omega⟩
 rfl
theorem Hm {base:Int} {n:Nat} {r:Rc} (hn:1<=n):(repB base n r).span=((n:Nat):Int):=by
 show max (((List.replicate n r).length:Nat):Int) 1=_
 rw [List.length_replicate]
 omega
theorem v8 {base:Int} {n K:Nat} {r:Rc} (hn:1<=n/\n<=100) (hK:∀ j:Nat,j < 100->(encB { r with off:=((j:Nat):Int) } r.time).length=K):(batB (repB base n r)).length=48+n * K:=by
 rw [K7,Dg hn.1]
 show 48+((fc 0 (List.replicate n r)).flatMap fun x=>encB x r.time).length=_
 rw [Hl hK n 0 (by omega)]
theorem Hn {base:Int} {n K:Nat} {r:Rc} (hn:1<=n/\n<=100) (hb:0<=base/\base<=1125899906842624) (hck:∀ j:Nat,j < 100->ckE { r with off:=((j:Nat):Int) }=0) (hK:∀ j:Nat,j < 100->(encB { r with off:=((j:Nat):Int) } r.time).length=K) (hfit:48+n * K<=6000):batE (repB base n r)=0:=by
 have hl:(List.replicate n r).length=n:=List.length_replicate
 refine K8 (by rw [hl];exact hn) hb (by decide) (by decide) (fun x hx j hj=>by rw [List.eq_of_mem_replicate hx];exact hck j hj) ?_
 have h:=v8 (base:=base) hn hK
 unfold repB at h
 rw [h]
 exact hfit
theorem Bz {n:Nat} (h:n<=127):(vint n).length=1:=by rw [m0 (by omega)];rfl
theorem zig_0 :zigN 0=0:=by decide +kernel
def recS (key val:ad) (t:Int):Rc:=⟨!decide (key=[]),key,true,val,t,0⟩
theorem Ho {key val:ad} {t:Int} (ht:0<=t/\t<=1125899906842624) (hk:key.length<=2000) (hv:val.length<=2000):∀ j:Nat,j < 100->ckE { recS key val t with off:=((j:Nat):Int) }=0:=fun j hj=>by
 refine (ck0 ?_ ?_).symm
 ·show ((!(!decide (key=[])) && !decide (key=[])) || (!true && !decide (val=[])) || decide (t < 0) || decide (1125899906842624 < t) || decide (((j:Nat):Int) < 0) || decide (100<=((j:Nat):Int)))=false
  rw [decide_eq_false (p:=t < 0) (by omega),decide_eq_false (p:=1125899906842624 < t) (by omega),decide_eq_false (p:=((j:Nat):Int) < 0) (by omega),decide_eq_false (p:=100<=((j:Nat):Int)) (by omega)]
  cases decide (key=[])<;>rfl
 ·show (decide ((2000:Int) < ((key.length:Nat):Int)) || decide ((2000:Int) < ((val.length:Nat):Int)))=false
  rw [decide_eq_false (by omega),decide_eq_false (by omega)]
  rfl
theorem B0 {key val:ad} {t:Int} (j:Nat) (hj:j < 100):(encB { recS key val t with off:=((j:Nat):Int) } t).length=3+(if key=[] then 0 else (vint key.length).length+key.length)+((vint val.length).length+val.length):=by
 have h1:(vint (((j:Nat):Int)).toNat).length=1:=Bz (by omega)
 have h2:(vint (zigN (t - t))).length=1:=by rw [Int.sub_self,zig_0];exact Bz (by decide)
 unfold encB flB txtB
 show ((_:ad)++(vint (((j:Nat):Int)).toNat++(vint (zigN (t - t))++((if (!decide (key=[]))=true then vint key.length++key else [])++(if true=true then vint val.length++val else []))))).length=_
 rw [List.length_append,List.length_append,List.length_append,List.length_append,h1,h2,if_pos rfl,List.length_append]
 by_cases hk:key=[]
 ·subst hk
  simp
  omega
 ·rw [if_neg hk,if_pos (by simp [hk]),List.length_append]
  simp
  omega
theorem z23 :aw Tryz.prog 23=some (#[.int .i64 0,.int .i64 0,.int .i64 0,.bool false,.int .i64 0]):=by kernel_rfl
def pE (n ino:Nat):Pl:=⟨n,ino,246,247,248,248+(ino+7) / 8,n - (248+(ino+7) / 8)⟩
theorem pE_is {n ino:Nat} (h1:1<=ino) (h2:ino<=4096) (hn:249+(ino+7) / 8<=n) (hn2:n<=4000):PlIs (pE n ino):=by
 refine ⟨?_,?_,?_,?_,?_,?_,?_,?_,?_,?_,?_⟩
 all_goals (simp only [pE];try first | omega | (left;omega))
structure OwnR (r:Nat->Rc) (m:Nat):Prop where
 len:∀ j:Nat,(batB (repB ((j:Nat):Int) 1 (r j))).length=m
 ok:∀ j:Nat,j<=1000->batE (repB ((j:Nat):Int) 1 (r j))=0
 big:512 < m+m/\m<=1400
 t:∀ j:Nat,j<=1000->0<=(r j).time/\(r j).time<=1125899906842624
theorem OwnR.of {key val:Nat->ad} {t:Nat->Int} {K:Nat} (hk:∀ j,(key j).length<=100) (hK:∀ j,3+(if key j=[] then 0 else (vint (key j).length).length+(key j).length)+((vint (val j).length).length+(val j).length)=K) (ht:∀ j:Nat,j<=1000->0<=t j/\t j<=1125899906842624) (hb:512 < (48+K)+(48+K)/\48+K<=1400):OwnR (fun j=>recS (key j) (val j) (t j)) (48+K):=by
 have hv:∀ j,(val j).length<=2000:=fun j=>by have:=hK j;omega
 have hKK:∀ i j:Nat,j < 100->(encB { recS (key i) (val i) (t i) with off:=((j:Nat):Int) } (recS (key i) (val i) (t i)).time).length=K:=fun i j hj=>by
  rw [<- hK i]
  exact B0 j hj
 refine ⟨fun j=>?_,fun j hj=>?_,hb,ht⟩
 ·rw [v8 ⟨by decide,by decide⟩ (hKK j),Nat.one_mul]
 ·exact Hn ⟨by decide,by decide⟩ ⟨by omega,by omega⟩ (Ho (ht j hj) (by have:=hk j;omega) (hv j)) (hKK j) (by omega)
section
variable {P:Program} {B:Base} {n:Fr} {Q:Exit->Act->World->Prop} {e:Env} {L:List HP}
def Ru (B:Base) (k:Nat) {σ:Type} (ds:σ->List Deferred) (E:σ->Env) (I:σ->List HP) (p:σ->Prop) (μ:σ->Nat) (s:σ):Act->World->Prop :=
 fun a w=>∃ s',p s'/\μ s' < μ s/\Ag ⟨k,ds s'⟩ (E s') a/\Sat B w (I s')
theorem WC.loopD {c:Code} {σ:Type} {k:Nat} {d0:List Deferred} (ds:σ->List Deferred) (E:σ->Env) (I:σ->List HP) (p:σ->Prop) (μ:σ->Nat) (s0:σ) (hp:p s0) (hds:d0=ds s0)
  (round:∀ s,p s->WC P B ⟨k,ds s⟩ c (Exit.then (Ru B k ds E I p μ s) Q) (E s) (I s)) (he:Env.le (E s0) e:=by repeat (first | exact Env.le_nil _ | refine Env.le_cons rfl ?_)) (hI:Am L (I s0):=by repeat (first | exact .refl | exact .nil | (apply Am.take;focus ((repeat (first | exact .here | apply Rem.there));done)) | refine .skip ?_)):WC P B ⟨k,d0⟩ (.loop c) Q e L:=by
 intro a w ha hs
 refine wp_loop_ghost (fun m a w=>∃ s,μ s=m/\p s/\Ag ⟨k,ds s⟩ (E s) a/\Sat B w (I s)) (μ s0) ⟨s0,rfl,hp,by rw [<- hds];exact ha.weak he,hI.wk B w hs⟩ ?_
 rintro m a w ⟨s,rfl,hp,ha,hs⟩
 refine wp_mono (round s hp a w ha hs) ?_
 intro x a' w' hq
 cases x with
 | normal =>
  obtain ⟨s',hp',hlt,ha',hs'⟩:=hq
  exact ⟨μ s',hlt,s',rfl,hp',ha',hs'⟩
 | exit id=>exact hq
 | goto l=>exact hq
 | ret=>exact hq
 | panic ch=>exact hq
 | outgrown=>exact hq
theorem WQ.backD {σ:Type} {k:Nat} {ds:σ->List Deferred} {E:σ->Env} {I:σ->List HP} {p:σ->Prop} {μ:σ->Nat} {s:σ} {d1:List Deferred} (s':σ) (hp:p s') (hlt:μ s' < μ s) (hds:d1=ds s') (he:Env.le (E s') e:=by repeat (first | exact Env.le_nil _ | refine Env.le_cons rfl ?_)) (hI:Am L (I s'):=by repeat (first | exact .refl | exact .nil | (apply Am.take;focus ((repeat (first | exact .here | apply Rem.there));done)) | refine .skip ?_)) :
  WQ B ⟨k,d1⟩ (Exit.then (Ru B k ds E I p μ s) Q) .normal e L:=fun a w ha hs=>⟨s',hp,hlt,by rw [<- hds];exact ha.weak he,hI.wk B w hs⟩
def marksH (Ds:List Nat):HP:=exH (fun _:Unit=>True) (fun _=>Ds.map fun D=>pt D (.deferred (some [])))
theorem marksH.nil :marksH [] (fun _=>none):=exH.opens.of () trivial _ (by unfold star;exact ⟨[],trivial⟩)
theorem marksH.cons {D:Nat} {Ds:List Nat} {w:World} {M:List HP} (h:Sat B w (pt D (.deferred (some [])) :: marksH Ds :: M)):Sat B w (marksH (D :: Ds) :: M):=by
 obtain ⟨_,_,h1⟩:=Sat.opens (Sat.front (.there .here) h) exH.opens
 have h2:=Sat.front (ts _ M) h1
 exact Sat.shuts (A:=marksH (D :: Ds)) (exH.opens (p:=fun _:Unit=>True) (Ls:=fun _=>(D :: Ds).map fun D=>pt D (.deferred (some [])))) (x:=()) trivial h2
theorem WQ.markIn {xt:Exit} {D:Nat} {Ds:List Nat} {M:List HP} (h:WQ B n Q xt e (marksH (D :: Ds) :: M)) (t:Tk L [pt D (.deferred (some [])),marksH Ds] M:=by repeat (first | exact .nil | (apply Tk.cons;focus ((repeat (first | exact .here | apply Rem.there));done)))):WQ B n Q xt e L :=
 fun a w ha hs=>h a w ha (marksH.cons (hs.take t))
theorem WC.markIn {c:Code} {D:Nat} {Ds:List Nat} {M:List HP} (h:WC P B n c Q e (marksH (D :: Ds) :: M)) (t:Tk L [pt D (.deferred (some [])),marksH Ds] M:=by repeat (first | exact .nil | (apply Tk.cons;focus ((repeat (first | exact .here | apply Rem.there));done)))):WC P B n c Q e L :=
 fun a w ha hs=>h a w ha (marksH.cons (hs.take t))
variable {fn:Func} {F:List HP} {R:List HP->Value->List HP->Prop}
theorem o8 {tmps:Array Value} {S:Ending->World->Prop} {M:List HP}:∀ (Ds:List Nat) (w:World),Sat B w ((Ds.map fun D=>pt D (.deferred (some [])))++M)->(∀ w',Sat B w' M->LeavesInM Fence.wide 0 P fn tmps S [] .returning w')->LeavesInM Fence.wide 0 P fn tmps S (Ds.map r6) .returning w
 | [],w,hs,h=>h w hs
 | D :: Ds,w,hs,h=>⟨by simp,.inl ⟨D,_,rfl,run_takeDeferred (Sat.get hs Mem.here),o8 Ds _ (Sat.set hs Repl.here).tail h⟩⟩
theorem WQ.retMs2 {xt:Exit} {Ds:List Nat} {r s:ResultVar} {v u:Value} {L':List HP} (h:∃ M,R F (.tuple #[v,u]) M/\Am L' M) (rm:Rem L (marksH Ds) L') (h1:RV P e L' r v) (h2:RV P e L' s u)
  (hres:fn.results=#[r,s]:=by rfl) (hD:n.ds=Ds.map r6:=by rfl) (hx:(xt=.ret ∨ xt=.normal):=by first | exact .inl rfl | exact .inr rfl) :
  WQ B n (bodyPostM Fence.wide 0 P fn (Post B F R)) xt e L:=by
 obtain ⟨M,hR,hAm⟩:=h
 intro a w ha hs
 obtain ⟨_,_,hs1⟩:=Sat.opens (Sat.front rm hs) exH.opens
 have key:LeavesInM Fence.wide 0 P fn a.tmps (Post B F R) a.defers .returning w:=by
  rw [ha.defers,hD]
  exact o8 Ds w hs1 fun w' hs'=>⟨_,z1 hres ha hs' h1 h2,_,M,rfl,hR,hAm.wk B _ hs'⟩
 rcases hx with rfl | rfl<;>exact key
variable {ll D:Nat} {mk:LoopState->Option Code->Loop} {fnn:Nat} {tmps:Array Value}
theorem WQ.rndRetK {F:List HP} {R:List HP->Bool->List HP->Prop} {ps:Array Nat} {asg body:Code} {L':List HP} (hmk:LRec mk fnn tmps ps asg body D)
  (h:∃ M,R F false M/\Am L' M) (r:Repl L (pt ll (.loop (mk .busy none))) (pt ll (.loop (mk .done (some .ret)))) L'):WQ B n (roundPost P ll (Ce B F R)) .ret e L:=by
 rw [hmk,hmk] at r
 exact WQ.rndRet h r
end
def wc (off:Int) (bs:List Bt):List Bt:=bs.filter fun b=>decide (off < b.base+b.span)
def ry (off:Int) (ss:List SegA):List Bt:=ss.flatMap fun y=>wc off y.2
theorem SegOrd.tail {x:SRow} {l:List SRow} (h:SegOrd (x :: l)):SegOrd l:=fun i j y z hij hi hj=>h (i+1) (j+1) y z (by omega) (by simpa using hi) (by simpa using hj)
theorem K9 {off:Int}:∀ l:List Bt,(∀ b∈l,off < b.base+b.span)->wc off l=l:=fun l h=>by
 unfold wc
 exact List.filter_eq_self.2 fun b hb=>decide_eq_true (h b hb)
theorem hitK {off:Int}:∀ {rows:List SRow},SegOrd rows->∃ k,k<=rows.length/\(∀ i,i < k->hitR off rows i=false)/\(∀ i,k<=i->i < rows.length->hitR off rows i=true)/\(rows.drop k).map SRow.b=wc off (rows.map SRow.b)
 | [],_=>⟨0,Nat.le_refl _,fun i h=>absurd h (Nat.not_lt_zero i),fun i _ h=>absurd h (Nat.not_lt_zero i),rfl⟩
 | x :: l,h=>by
  by_cases hx:off < x.b.base+x.b.span
  ·refine ⟨0,Nat.zero_le _,fun i h=>absurd h (Nat.not_lt_zero i),fun i _ hi=>xu h 0 i (Nat.zero_le _) (by rw [zl (x:=x) rfl];exact decide_eq_true hx),?_⟩
   rw [List.drop_zero,K9]
   intro b hb
   obtain ⟨y,hy,rfl⟩:=List.mem_map.1 hb
   obtain ⟨j,hj⟩:=List.getElem?_of_mem hy
   have:=h 0 j x y (Nat.zero_le _) rfl hj
   omega
  ·obtain ⟨k,h1,h2,h3,h4⟩:=hitK (off:=off) h.tail
   refine ⟨k+1,by simpa using h1,fun i hi=>?_,fun i hi hl=>?_,?_⟩
   ·cases i with
    | zero=>rw [zl (x:=x) rfl];exact decide_eq_false hx
    | succ i=>exact h2 i (by omega)
   ·cases i with
    | zero=>omega
    | succ i=>exact h3 i (by omega) (by simpa using hl)
   ·rw [List.drop_succ_cons,h4,List.map_cons]
    unfold wc
    rw [List.filter_cons_of_neg (by simpa using hx)]
structure PS where
 pre:List SegA
 base:Nat
 bs:List Bt
def PS.ss (x:PS):List SegA:=x.pre++[(x.base,x.bs)]
def PS.add (seg:Int) (x:PS) (b:Bt):PS:=if (x.bs.flatMap batB).length=0 ∨ (((x.bs.flatMap batB).length:Nat):Int)+(((batB b).length:Nat):Int)<=seg then ⟨x.pre,x.base,x.bs++[b]⟩ else ⟨x.ss,b.base.toNat,[b]⟩
theorem PS.add_ss {seg:Int} {x:PS} {b:Bt}:addP seg x.pre x.base x.bs b=(x.add seg b).ss:=by
 unfold addP PS.add PS.ss
 split<;>rfl
theorem PS.add_n {seg:Int} {x:PS} {b:Bt}:addN seg x.bs b x.ss.length=(x.add seg b).ss.length:=by
 unfold addN PS.add PS.ss
 split
 ·simp
 ·simp
theorem PS.len (x:PS):x.ss.length=x.pre.length+1:=by unfold PS.ss;rw [List.length_append,List.length_singleton]
structure PSI (x:PS) (next:Nat) (l:List Bt) (m:Nat):Prop where
 all:x.ss.flatMap (fun y=>y.2)=l
 nx:na ((x.base:Nat):Int) x.bs=((next:Nat):Int)
 le:∀ y∈x.ss,y.1<=x.base
 lt:x.base<=next/\(x.bs≠[]->x.base < next)
 cnt:x.pre.length+x.bs.length<=l.length
 size:∀ b∈l,(batB b).length<=m
 fst:∃ bs0 post,x.ss=(0,bs0) :: post
theorem O5 {l:List Bt} {m:Nat} (h:∀ b∈l,(batB b).length<=m):(l.flatMap batB).length<=l.length * m:=by
 induction l with
 | nil=>simp
 | cons x l ih =>
  have h1:=h x (List.mem_cons_self ..)
  have h2:=ih fun b hb=>h b (List.mem_cons_of_mem _ hb)
  rw [List.flatMap_cons,List.length_append,List.length_cons,Nat.succ_mul]
  omega
theorem xz :∀ ss:List SegA,bytT ss=((ss.flatMap fun y=>y.2).flatMap batB).length
 | []=>rfl
 | y :: ss=>by
  have h:=xz ss
  unfold bytT at h ⊢
  rw [List.map_cons,List.sum_cons,h,List.flatMap_cons,List.flatMap_append,List.length_append]
  rfl
theorem PSI.byt {x:PS} {next m:Nat} {l:List Bt} (h:PSI x next l m):bytT x.ss<=l.length * m:=by
 rw [xz,h.all]
 exact O5 h.size
theorem Dh {base:Int} {bs:List Bt} {b:Bt}:na base (bs++[b])=b.base+b.span:=by
 unfold na
 rw [List.getLast?_concat]
theorem PSI.zero (m:Nat):PSI ⟨[],0,[]⟩ 0 [] m:=⟨rfl,rfl,fun y hy=>by rw [List.mem_singleton.1 hy];exact Nat.le_refl _,⟨Nat.le_refl _,fun h=>absurd rfl h⟩,Nat.le_refl _,fun b hb=>absurd hb List.not_mem_nil,⟨[],[],rfl⟩⟩
theorem PSI.add {x:PS} {next m k:Nat} {l:List Bt} {seg:Int} {b:Bt} (h:PSI x next l m) (hb:b.base=((next:Nat):Int)) (hs:b.span=((k:Nat):Int)) (hk:1<=k) (hm:(batB b).length<=m):PSI (x.add seg b) (next+k) (l++[b]) m:=by
 have hlt:=h.lt
 have hcnt:=h.cnt
 have hsz:∀ c∈l++[b],(batB c).length<=m:=fun c hc=>(List.mem_append.1 hc).elim (h.size c) (fun hc=>by rw [List.mem_singleton.1 hc];exact hm)
 obtain ⟨bs0,post,hfst⟩:=h.fst
 unfold PS.add
 split
 ·refine ⟨?_,?_,fun y hy=>?_,⟨?_,fun _=>?_⟩,?_,hsz,?_⟩
  ·show (x.pre++[(x.base,x.bs++[b])]).flatMap (fun y=>y.2)=_
   rw [<- h.all]
   unfold PS.ss
   rw [List.flatMap_append,List.flatMap_append,List.flatMap_singleton,List.flatMap_singleton,List.append_assoc]
  ·show na _ (x.bs++[b])=_
   rw [Dh,hb,hs]
   omega
  ·rcases List.mem_append.1 hy with hy | hy
   ·exact h.le y (List.mem_append_left _ hy)
   ·rw [List.mem_singleton.1 hy];exact Nat.le_refl _
  ·show x.base<=next+k
   omega
  ·show x.base < next+k
   omega
  ·show x.pre.length+(x.bs++[b]).length<=(l++[b]).length
   rw [List.length_append,List.length_append,List.length_singleton]
   omega
  ·show ∃ bs0 post,x.pre++[(x.base,x.bs++[b])]=(0,bs0) :: post
   have hfst:x.pre++[(x.base,x.bs)]=(0,bs0) :: post:=hfst
   cases hp:x.pre with
   | nil =>
    rw [hp] at hfst
    injection hfst with h1 _
    injection h1 with h1 _
    rw [h1]
    exact ⟨_,[],rfl⟩
   | cons y l =>
    rw [hp] at hfst
    injection hfst with h1 _
    rw [h1]
    exact ⟨_,_,rfl⟩
 ·rename_i hc
  have hne:x.bs≠[]:=fun h0=>hc (.inl (by rw [h0];rfl))
  have hbl:0 < x.bs.length:=List.length_pos_iff.2 hne
  have hn:b.base.toNat=next:=by rw [hb,Int.toNat_natCast]
  rw [hn]
  refine ⟨?_,?_,fun y hy=>?_,⟨?_,fun _=>?_⟩,?_,hsz,⟨bs0,post++[(next,[b])],by show x.ss++[(next,[b])]=_;rw [hfst];rfl⟩⟩
  ·show (x.ss++[(next,[b])]).flatMap (fun y=>y.2)=_
   rw [List.flatMap_append,List.flatMap_singleton,h.all]
  ·show b.base+b.span=_
   rw [hb,hs]
   omega
  ·show y.1<=next
   rcases List.mem_append.1 hy with hy | hy
   ·have:=h.le y hy
    omega
   ·rw [List.mem_singleton.1 hy];exact Nat.le_refl _
  ·show next<=next+k
   omega
  ·show next < next+k
   omega
  ·show x.ss.length+1<=(l++[b]).length
   rw [PS.len,List.length_append,List.length_singleton]
   omega
theorem B1 {pp f next c m:Nat} {dn:ad} {st:Sts} {p:Pl} {x:PS} {all:List Bt} {A:Addr} {R:HP} {prod seq:Int} {l:List Rc} (hp:PlP p) (h:PSI x next all m) (hpre:x.pre.length<=55) (hino:x.pre.length+5<=p.ino) (hbyt:bytT x.ss<=60000) (hcnt:all.length<=9999) (hnext:next<=1125899906842624) (hdn:dn.length<=900) (hR:Reads R (some A) (l.flatMap Rc.v)) (hpos:0 < l.length) (hll:l.length<=10000) (hE:batE (au ((next:Nat):Int) prod seq l)=0) :
  Spec Tryz.prog 16 #[.pointer (some ⟨pp,0,none⟩),.int .i64 prod,.int .i64 seq,.slice (some A) l.length c] [PT pp f dn st [] x.ss,DRF f p dn x.ss.length x.ss,R] fun F v M=>v=.tuple #[.int .i64 ((next:Nat):Int),.int .i64 0]/\M=PT pp f dn st [] (x.add st.seg (au ((next:Nat):Int) prod seq l)).ss :: DRF f p dn (x.add st.seg (au ((next:Nat):Int) prod seq l)).ss.length (x.add st.seg (au ((next:Nat):Int) prod seq l)).ss :: R :: F:=by
 have hl:=x.len
 have hlt:=h.lt
 have hcn:=h.cnt
 have hb1:(x.bs.flatMap batB).length<=bytT x.ss:=by
  unfold PS.ss
  rw [vo]
  have h2:bytT [(x.base,x.bs)]=(x.bs.flatMap batB).length:=rfl
  omega
 have h1:=zo (pp:=pp) (f:=f) (N:=x.ss.length) (base:=x.base) (nb:=next) (c:=c) (dn:=dn) (st:=st) (p:=p) (pre:=x.pre) (bs:=x.bs) (A:=A) (R:=R) (prod:=prod) (seq:=seq) (l:=l) hp ⟨by omega,by omega,by show x.ss.length<=60;omega,by show bytT x.ss<=90000;omega⟩ (by omega) (by omega) hpre hdn hR hpos hll hE h.nx.symm (fun y hy=>⟨by have:=h.le y hy;omega,fun hne=>by have:=h.le y hy;have:=hlt.2 hne;omega⟩) (by omega) (by omega)
 rw [PS.add_ss,PS.add_n] at h1
 exact h1
theorem PS.add_pre {seg:Int} {x:PS} {b:Bt}:(x.add seg b).pre=x.pre ∨ ((x.add seg b).pre=x.ss/\seg < (((x.bs.flatMap batB).length:Nat):Int)+(((batB b).length:Nat):Int)):=by
 unfold PS.add
 split
 ·exact .inl rfl
 ·rename_i h
  exact .inr ⟨rfl,by omega⟩
theorem WQ.markF {B:Base} {n:Fr} {Q:Exit->Act->World->Prop} {e:Env} {L M:List HP} {xt:Exit} (Ds:List Nat) (h:WQ B n Q xt e (marksH Ds :: M)) (r:Rem L (marksH Ds) M:=by repeat (first | exact .here | apply Rem.there)):WQ B n Q xt e L :=
 fun a w ha hs=>h a w ha (Sat.front r hs)
theorem x0 {off:Int}:∀ ss:List SegA,ry off ss=wc off (ss.flatMap fun y=>y.2)
 | []=>rfl
 | y :: ss=>by
  have h:=x0 (off:=off) ss
  unfold ry wc at h ⊢
  rw [List.flatMap_cons,List.flatMap_cons,List.filter_append,h]
theorem rz {y:SegA}:∀ {ss:List SegA},y∈ss->y.2.length<=(ss.flatMap fun y=>y.2).length
 | [],h=>absurd h List.not_mem_nil
 | z :: ss,h=>by
  rw [List.flatMap_cons,List.length_append]
  rcases List.mem_cons.1 h with h | h
  ·rw [h];omega
  ·have:=rz h;omega
theorem Di {off:Int} {y:SegA} {ss:List SegA}:ry off (y :: ss)=wc off y.2++ry off ss:=rfl
theorem Hp {mx:Int}:∀ (l:List Bt) (n:Int) (h:Bool),(gotB mx n h l).length<=l.length
 | [],_,_=>Nat.le_refl _
 | x :: l,n,h=>by
  unfold gotB
  split
  ·exact Nat.zero_le _
  ·have:=Hp (mx:=mx) l (n+(((batB x).length:Nat):Int)) true
   simp only [List.length_cons]
   omega
theorem La {pp f:Nat} {dn:ad} {st:Sts} {dp:List Value} {ss:List SegA} {off mx:Int} {y z:SegA} {pre post:List SegA} (hs1:ss=y :: post) (hs2:ss=pre++[z]) (htot:(ss.flatMap fun y=>y.2).length<=90000) (hmx:1<=mx) (ho:((y.1:Nat):Int)<=off/\off<=na ((z.1:Nat):Int) z.2) :
  Spec Tryz.prog 20 #[.pointer (some ⟨pp,0,none⟩),.int .i64 off,.int .i64 mx] [PT pp f dn st dp ss] fun F v M=>∃ u,v=.tuple #[u,.int .i64 0]/\M=BL u (gotB mx 0 false (ry off ss)) :: PT pp f dn st dp ss :: F:=by
 refine Spec.introM Tryz.func20 rfl rfl fun B F=>?_
 simp only [Tryz.ntmps20,List.cons_append,List.nil_append,env0,Nat.reduceAdd]
 have hlen:∀ y∈ss,y.2.length<=100000:=fun y hy=>by have:=rz hy;omega
 refine .openR (PT.opens pp f dn st dp ss) fun x hx=>?_
 obtain ⟨g0,c0,sg⟩:=x
 obtain ⟨hls,hc1,hc2,hn2⟩:=hx
 simp only [ptLs,List.cons_append,List.nil_append] at hls hc1 hc2 hn2 ⊢
 have hn:0 < sg.length:=by have:=congrArg List.length hls;rw [List.length_map,hs1,List.length_cons] at this;omega
 refine .sr ?_
 refine .box fun b5=>?_
 refine .alloc z40 fun b6=>?_
 refine .alloc z34 fun b7=>?_
 refine .z (.seq (.block (.sr (.move ?_))))
 refine .call (hc:=Tryz.call38) (sp:=ne hn hn2) (h:=?_)
 rintro _ _ ⟨rfl,rfl⟩
 refine .not ?_
 refine .assign (.z ?_)
 refine .condF rfl rfl ?_
 refine .sr ?_
 refine .ld ?_ sc3
 refine .lss ?_
 refine .assign (.z ?_)
 refine .condF rfl (cB9 (by first|exact decide_eq_true (by omega)|exact decide_eq_false (by omega)|simp;done|simp;omega|omega)) ?_
 refine .sr (.move (.move ?_))
 refine .shutR (PT.opens pp f dn st dp ss) (g0,c0,sg) ⟨hls,hc1,hc2,hn2⟩ ?_
 refine .call (hc:=Tryz.call19) (sp:=xw (dp:=dp) (ss:=ss) (y:=y) (post:=post) hs1) (h:=?_)
 rintro _ _ ⟨rfl,rfl⟩
 refine .lss ?_
 refine .move ?_
 refine .cast (d:=26) (u:=.bool false) rfl (cB9 (by first|exact decide_eq_true (by omega)|exact decide_eq_false (by omega)|simp;done|simp;omega|omega)) ?_
 refine .gT (.move (.gT (.move (.gT ?_))))
 refine .call (hc:=Tryz.call18) (sp:=By (dp:=dp) (ss:=ss) (pre:=pre) (y:=z) hs2 (hlen z (by rw [hs2];simp))) (h:=?_)
 rintro _ _ ⟨rfl,rfl⟩
 refine .gT ?_
 refine .gtr ?_
 refine .pickF (.assign (.z ?_))
 refine .condF rfl (cB9 (by first|exact decide_eq_true (by omega)|exact decide_eq_false (by omega)|simp;done|simp;omega|omega)) ?_
 refine .skip (.blockNormal (.next (.sr ?_)))
 refine .alloc z40 fun b8=>?_
 refine .x ?_
 refine .alloc z3 fun b9=>?_
 refine .st ?_ sc3
 refine .z (.seq (.sr (.move ?_)))
 clear hls hc1 hc2 hn hn2
 refine .openR (PT.opens pp f dn st dp ss) fun x hx=>?_
 obtain ⟨g0,c0,sg⟩:=x
 obtain ⟨hls,hc1,hc2,hn2⟩:=hx
 simp only [ptLs,List.cons_append,List.nil_append] at hls hc1 hc2 hn2 ⊢
 have hn:0 < sg.length:=by have:=congrArg List.length hls;rw [List.length_map,hs1,List.length_cons] at this;omega
 refine .nilCheck ?_
 refine .fa ?_ li
 refine .ld ?_ sc82
 refine .lenS ?_ sl82
 refine .move (.z (.block ?_))
 obtain ⟨res,hres⟩:∃ res,res=gotB mx 0 false (ry off ss):=⟨_,rfl⟩
 rw [<- hres]
 have hrl:res.length<=90000:=by
  have h1:=Hp (mx:=mx) (ry off ss) 0 false
  rw [<- hres] at h1
  rw [x0] at h1
  have h2:(wc off (ss.flatMap fun y=>y.2)).length<=(ss.flatMap fun y=>y.2).length:=List.length_filter_le _ _
  omega
 refine .emp (A:=rowR 44 5 (.slice none 0 0) ([]:List BRow).length (([]:List BRow).flatMap BRow.v)) (rowR.nil _) ?_
 refine .emp (A:=frz []) ue ?_
 refine .emp (A:=marksH []) marksH.nil ?_
 refine .loopD (σ:=Nat×(Value×List BRow×List (Nat×Obj)×Int)×List Nat) (fun s=>s.2.2.map r6) (fun s=>[(0,.pointer (some ⟨pp,0,none⟩)),(1,.int .i64 off),(5,.pointer (some ⟨b5,0,none⟩)),(6,.pointer (some ⟨b6,0,none⟩)),(7,.pointer (some ⟨b7,0,none⟩)),(8,.pointer (some ⟨b8,0,none⟩)),(9,.pointer (some ⟨b9,0,none⟩)),(35,.slice (some ⟨g0,dp.length,none⟩) sg.length (c0 - dp.length)),(36,.int .i64 ((sg.length:Nat):Int)),(37,.int .i64 ((s.1:Nat):Int))]) (fun s=>[pt b5 (.cells #[.int .i64 mx] 3 (0,0)),pt b6 (.cells #[.slice none 0 0] 40 (0,0)),pt b7 (.cells #[.int .i64 0] 34 (0,0)),pt b8 (.cells #[s.2.1.1] 40 (0,0)),pt b9 (.cells #[.int .i64 s.2.1.2.2.2] 3 (0,0)),rowR 44 5 s.2.1.1 s.2.1.2.1.length (s.2.1.2.1.flatMap BRow.v),frz s.2.1.2.2.1,marksH s.2.2,pt pp (pf f dn st (.slice (some ⟨g0,dp.length,none⟩) sg.length (c0 - dp.length))),buf g0 86 c0 (dp++sg.map Seg.ptr),segsH f dn sg]++F) (fun s=>s.1<=sg.length/\s.2.1.2.1.map BRow.b++gotB mx s.2.1.2.2.2 (decide (0 < s.2.1.2.1.length)) (ry off ((sg.drop s.1).map Seg.a))=res/\(0<=s.2.1.2.2.2/\s.2.1.2.2.2<=6000 * ((s.2.1.2.1.length:Nat):Int))/\∀ y∈s.2.1.2.1,BRowOk s.2.1.2.2.1 y) (fun s=>sg.length - s.1) (0,(.slice none 0 0,[],[],0),[]) ⟨Nat.zero_le _,by rw [hres,<-hls];rfl,⟨Int.le_refl _,Int.le_refl _⟩,fun y hy=>absurd hy List.not_mem_nil⟩ rfl ?_
 rintro ⟨k,⟨v,l,os,n⟩,Ds⟩ ⟨hk,hy1,hy2,hy3⟩
 simp only at hk hy1 hy2 hy3 ⊢
 have hll:l.length<=90000:=by
  have h1:=congrArg List.length hy1
  rw [List.length_append,List.length_map] at h1
  omega
 refine .sr ?_
 refine .lss ?_
 refine .z (.seq ?_)
 refine .cond rfl (fun hd=>?_) (fun hd=>?_)
 ·have hkl:k < sg.length:=by have h:((k:Nat):Int) < ((sg.length:Nat):Int):=of_decide_eq_true hd;omega
  obtain ⟨x,hx⟩:∃ x,sg[k]?=some x:=⟨_,List.getElem?_eq_getElem hkl⟩
  have hsp:sg=sg.take k++x :: sg.drop (k+1):=by
   conv=>lhs;rw [<- List.take_append_drop k sg]
   rw [List.drop_eq_getElem_cons hkl,(List.getElem?_eq_some_iff.1 hx).2]
  have hdr:sg.drop k=x :: sg.drop (k+1):=by rw [List.drop_eq_getElem_cons hkl,(List.getElem?_eq_some_iff.1 hx).2]
  have hxm:x.a∈ss:=by rw [<- hls];exact List.mem_map.2 ⟨x,List.mem_of_getElem? hx,rfl⟩
  have hxl:x.bs.length<=100000:=hlen _ hxm
  rw [hdr,List.map_cons,Di,show x.a.2=x.bs from rfl] at hy1
  obtain ⟨rest,hrest⟩:∃ rest,rest=ry off ((sg.drop (k+1)).map Seg.a):=⟨_,rfl⟩
  rw [<- hrest] at hy1
  refine .to (A:=segsH f dn sg) (A':=segsH f dn (sg.take k++x :: sg.drop (k+1))) (fun h hh=>by rw [<- hsp];exact hh) ?_
  refine .segOut (sg.take k) (sg.drop (k+1)) ?_
  refine .openR (SGP.opens x.s f (dy dn (az x.base)) ((x.base:Nat):Int) x.bs) fun y hi=>?_
  obtain ⟨rows,u,ros⟩:=y
  simp only [Kr,List.cons_append,List.nil_append] at hi ⊢
  obtain ⟨k0,hk0,hk1,hk2,hk3⟩:=hitK (off:=off) hi.ord
  rw [hi.b] at hk3
  rw [<- hk3] at hy1
  have hrl2:=hi.len
  refine .skip (.next (.seq (.block (.sr ?_))))
  refine .idx1 ?_ so82
  refine .ldR (i:=((k:Nat):Int).toNat) (v:=x.ptr) ?_ sc86 (k5 (l:=sg)) (by rw [Int.toNat_natCast,List.getElem?_map,hx];rfl)
  refine .assign (.x (.move (.move ?_)))
  refine .call (hc:=Tryz.call51) (sp:=zn) (h:=?_)
  rintro _ _ ⟨cs,co,rfl,rfl⟩
  refine .z (.block ?_)
  refine .rangeK rfl Tryz.call101 fun fn D ll tmps mk hmk hts hget=>?_
  obtain ⟨C,hC⟩:∃ C:Nat->HP,C=fun i=>exH (fun x:Value×List BRow×List (Nat×Obj)×Int=>x.2.1.map BRow.b++gotB mx x.2.2.2 (decide (0 < x.2.1.length)) ((rows.drop i).map SRow.b++rest)=res/\(0<=x.2.2.2/\x.2.2.2<=6000 * ((x.2.1.length:Nat):Int))/\∀ y∈x.2.1,BRowOk x.2.2.1 y) (fun x=>[pt ll (.loop (mk .ready none)),pt b5 (.cells #[.int .i64 mx] 3 (0,0)),pt b6 (.cells #[.slice none 0 0] 40 (0,0)),pt b7 (.cells #[.int .i64 0] 34 (0,0)),pt b8 (.cells #[x.1] 40 (0,0)),pt b9 (.cells #[.int .i64 x.2.2.2] 3 (0,0)),rowR 44 5 x.1 x.2.1.length (x.2.1.flatMap BRow.v),frz x.2.2.1]):=⟨_,rfl⟩
  have hopen:∀ i,Opens (C i) (fun x:Value×List BRow×List (Nat×Obj)×Int=>x.2.1.map BRow.b++gotB mx x.2.2.2 (decide (0 < x.2.1.length)) ((rows.drop i).map SRow.b++rest)=res/\(0<=x.2.2.2/\x.2.2.2<=6000 * ((x.2.1.length:Nat):Int))/\∀ y∈x.2.1,BRowOk x.2.2.1 y) (fun x=>[pt ll (.loop (mk .ready none)),pt b5 (.cells #[.int .i64 mx] 3 (0,0)),pt b6 (.cells #[.slice none 0 0] 40 (0,0)),pt b7 (.cells #[.int .i64 0] 34 (0,0)),pt b8 (.cells #[x.1] 40 (0,0)),pt b9 (.cells #[.int .i64 x.2.2.2] 3 (0,0)),rowR 44 5 x.1 x.2.1.length (x.2.1.flatMap BRow.v),frz x.2.2.1]):=fun i=>by rw [hC];exact exH.opens
  obtain ⟨Cx,hCx⟩:∃ Cx:HP,Cx=exH (fun x:Value×List BRow×List (Nat×Obj)×Int=>x.2.1.map BRow.b=res/\∀ y∈x.2.1,BRowOk x.2.2.1 y) (fun x=>[pt ll (.loop (mk .done (some .ret))),pt b5 (.cells #[.int .i64 mx] 3 (0,0)),pt b6 (.cells #[x.1] 40 (0,0)),pt b7 (.cells #[.int .i64 0] 34 (0,0)),pt b8 (.cells #[x.1] 40 (0,0)),pt b9 (.cells #[.int .i64 x.2.2.2] 3 (0,0)),rowR 44 5 x.1 x.2.1.length (x.2.1.flatMap BRow.v),frz x.2.2.1]):=⟨_,rfl⟩
  have hopenx:Opens Cx (fun x:Value×List BRow×List (Nat×Obj)×Int=>x.2.1.map BRow.b=res/\∀ y∈x.2.1,BRowOk x.2.2.1 y) (fun x=>[pt ll (.loop (mk .done (some .ret))),pt b5 (.cells #[.int .i64 mx] 3 (0,0)),pt b6 (.cells #[x.1] 40 (0,0)),pt b7 (.cells #[.int .i64 0] 34 (0,0)),pt b8 (.cells #[x.1] 40 (0,0)),pt b9 (.cells #[.int .i64 x.2.2.2] 3 (0,0)),rowR 44 5 x.1 x.2.1.length (x.2.1.flatMap BRow.v),frz x.2.2.1]):=by rw [hCx];exact exH.opens
  clear hC hCx
  have hY:∀ (i:Nat) (x:SRow) (A2:Addr) (c2:Nat),rows[i]?=some x->k0<=i->RSpec Tryz.prog ll [.agg (x.b.v (.slice (some A2) x.b.recs.length c2)).toArray,.int .i64 ((x.k:Nat):Int)] [rowR 95 6 (.slice (some A2) x.b.recs.length c2) x.b.recs.length x.b.rv,C i] fun F b M=>(b=true/\M=C (i+1) :: F) ∨ (b=false/\M=Cx :: F):=by
   intro i x A2 c2 hx _
   have hxok:=hi.ok x (List.mem_of_getElem? hx)
   obtain ⟨hxk1,hxk⟩:=hi.k x (List.mem_of_getElem? hx)
   have hil:i < rows.length:=(List.getElem?_eq_some_iff.1 hx).1
   have hdr:rows.drop i=x :: rows.drop (i+1):=by
    rw [List.drop_eq_getElem_cons hil,(List.getElem?_eq_some_iff.1 hx).2]
   refine RSpec.pre' (pre:=C i :: [rowR 95 6 (.slice (some A2) x.b.recs.length c2) x.b.recs.length x.b.rv]) (RSpec.opens (hopen i) fun y hy=>?_) (fun B w F hs=>hs.take (.cons (.there .here) (.cons .here .nil)))
   obtain ⟨v,l,os2,n⟩:=y
   obtain ⟨hy1,hy2,hy4⟩:=hy
   simp only at hy1 hy2 hy4
   rw [hdr,List.map_cons,List.cons_append] at hy1
   have hy3:l.length<=90000:=by
    have h1:=congrArg List.length hy1
    rw [List.length_append,List.length_map] at h1
    omega
   simp only [List.cons_append,List.nil_append]
   refine RSpec.post' (R:=fun F b M=>(b=true/\∃ (v:Value) (l:List BRow) (os2:List (Nat×Obj)) (n:Int),(l.map BRow.b++gotB mx n (decide (0 < l.length)) ((rows.drop (i+1)).map SRow.b++rest)=res/\(0<=n/\n<=6000 * ((l.length:Nat):Int))/\∀ y∈l,BRowOk os2 y)/\M=pt ll (.loop (mk .ready none)) :: pt b5 (.cells #[.int .i64 mx] 3 (0,0)) :: pt b6 (.cells #[.slice none 0 0] 40 (0,0)) :: pt b7 (.cells #[.int .i64 0] 34 (0,0)) :: pt b8 (.cells #[v] 40 (0,0)) :: pt b9 (.cells #[.int .i64 n] 3 (0,0)) :: rowR 44 5 v l.length (l.flatMap BRow.v) :: frz os2 :: F) ∨ (b=false/\∃ (v:Value) (l:List BRow) (os2:List (Nat×Obj)) (n:Int),(l.map BRow.b=res/\∀ y∈l,BRowOk os2 y)/\M=pt ll (.loop (mk .done (some .ret))) :: pt b5 (.cells #[.int .i64 mx] 3 (0,0)) :: pt b6 (.cells #[v] 40 (0,0)) :: pt b7 (.cells #[.int .i64 0] 34 (0,0)) :: pt b8 (.cells #[v] 40 (0,0)) :: pt b9 (.cells #[.int .i64 n] 3 (0,0)) :: rowR 44 5 v l.length (l.flatMap BRow.v) :: frz os2 :: F)) (RSpec.introK (ps:=[44,45]) (k:=64) hmk hts hget rfl rfl fun B F=>?_) ?_
   ·simp only [envs,List.cons_append,List.nil_append]
    refine WJ.seq ?_
    refine WJ.region .auto ?_
    refine .alloc z44 fun b12=>?_
    refine .stV ?_ fk
    refine .nil ?_
    refine .nextI ?_
    refine WJ.region .auto ?_
    refine .assign (.nil ?_)
    refine .beginK hmk ?_ (by repeat (first | exact .here | apply Rem.there | apply Repl.there | apply Mem.there))
    by_cases h1:mx < n+((x.k:Nat):Int)
    ·by_cases h2:0 < l.length
     ·have hst:l.map BRow.b=res:=by
       have h:=hy1
       unfold gotB at h
       rw [<- hxk1] at h
       rwa [if_pos ⟨decide_eq_true h2,h1⟩,List.append_nil] at h
      refine WJ.block ?_
      refine WJ.seq ?_
      refine WJ.seq ?_
      refine WJ.region .auto ?_
      refine .ld ?_ sc3
      refine .fact (ah (el:=44) (size:=5) (k:=l.length) (v:=v) (xs:=l.flatMap BRow.v)) fun ⟨A8,c8,hv8,_⟩=>?_
      subst hv8
      refine .move ?_
      refine .add ?_
      refine .st ?_ sc3
      refine .nil ?_
      refine .nextI ?_
      refine WJ.seq ?_
      refine WJ.region .auto ?_
      refine .ld ?_ sc3
      refine .ld ?_ sc3
      refine .gtr ?_
      refine .move ?_
      refine .cast (d:=52) (u:=.bool true) rfl (cB9 (by first | (simp;done) | (exact decide_eq_true (by omega)) | (exact decide_eq_false (by omega)) | (simp;omega) | omega)) ?_
      refine .gT ?_
      refine .ld ?_ sc40
      refine .gT ?_
      refine .lenS ?_ sl40
      refine .gT ?_
      refine .gtr ?_
      refine .pickT (.nil ?_)
      refine .nextI ?_
      refine WJ.condT rfl (cB9 (by first | (simp;done) | (exact decide_eq_true (by omega)) | (exact decide_eq_false (by omega)) | (simp;omega) | omega)) ?_
      refine WJ.seq ?_
      refine WJ.region .auto ?_
      refine .ld ?_ sc40
      refine .st ?_ sc40
      refine .st ?_ sc34
      refine .nil ?_
      refine .nextI ?_
      refine WJ.ret (.thenRet (.blockRet (?_)))
      refine .rndRetK hmk ?_ (by repeat (first | exact .here | apply Rem.there | apply Repl.there | apply Mem.there))
      exact ⟨_,.inr ⟨rfl,_,l,os2,_,⟨hst,hy4⟩,rfl⟩,Am.auto⟩
     ·have hgo:l.map BRow.b++(x.b :: gotB mx (n+((x.k:Nat):Int)) true ((rows.drop (i+1)).map SRow.b++rest))=res:=by
       have h:=hy1
       unfold gotB at h
       rw [<- hxk1] at h
       rwa [if_neg (fun h=>h2 (of_decide_eq_true h.1))] at h
      refine WJ.block ?_
      refine WJ.seq ?_
      refine WJ.seq ?_
      refine WJ.region .auto ?_
      refine .ld ?_ sc3
      refine .fact (ah (el:=44) (size:=5) (k:=l.length) (v:=v) (xs:=l.flatMap BRow.v)) fun ⟨A8,c8,hv8,_⟩=>?_
      subst hv8
      refine .move ?_
      refine .add ?_
      refine .st ?_ sc3
      refine .nil ?_
      refine .nextI ?_
      refine WJ.seq ?_
      refine WJ.region .auto ?_
      refine .ld ?_ sc3
      refine .ld ?_ sc3
      refine .gtr ?_
      refine .move ?_
      refine .cast (d:=52) (u:=.bool true) rfl (cB9 (by first | (simp;done) | (exact decide_eq_true (by omega)) | (exact decide_eq_false (by omega)) | (simp;omega) | omega)) ?_
      refine .gT ?_
      refine .ld ?_ sc40
      refine .gT ?_
      refine .lenS ?_ sl40
      refine .gT ?_
      refine .gtr ?_
      refine .pickT (.nil ?_)
      refine .nextI ?_
      refine WJ.condF rfl (cB9 (by first | (simp;done) | (exact decide_eq_true (by omega)) | (exact decide_eq_false (by omega)) | (simp;omega) | omega)) ?_
      refine WJ.skip ?_
      refine .nextI ?_
      refine WJ.region .auto ?_
      refine .ld ?_ sc40
      refine .ldA ?_ fk
      refine .buildS (fun b60=>?_) (Mi _ _ _ _ _ _ _)
      refine .toE (A:=rowR 95 6 (.slice (some A2) x.b.recs.length c2) x.b.recs.length x.b.rv) (kz hxok.pos) ?_
      rintro ⟨g2,q2,cur⟩ ⟨hv2,htk⟩
      injection hv2 with hA2 _ hc2
      injection hA2 with hA2
      simp only at hA2 hc2 htk
      subst hA2
      subst hc2
      refine .frzAdd ?_
      have hnew:BRowOk ((g2,.cells cur 95 (0,0)) :: os2) (⟨x.b,.slice (some ⟨g2,0,none⟩) x.b.recs.length c2⟩:BRow):=⟨hxok.pos,hxok.len,_,c2,rfl,by
       have:=(Reads.frz (os:=(g2,.cells cur 95 (0,0)) :: os2) (b:=g2) (cs:=cur) (List.mem_cons_self ..)).take x.b.rv.length
       rwa [htk] at this⟩
      refine .append (v:=.slice A8 l.length c8) (m:=1) (k:=l.length) (xs:=l.flatMap BRow.v) (news:=BRow.v (⟨x.b,.slice (some ⟨g2,0,none⟩) x.b.recs.length c2⟩:BRow)) so40 (by decide) (by repeat (first | exact .here | apply Rem.there | apply Repl.there | apply Mem.there)) (Reads.pt (cs:=(BRow.v (⟨x.b,.slice (some ⟨g2,0,none⟩) x.b.recs.length c2⟩:BRow)).toArray)) (by repeat (first | exact .here | apply Rem.there | apply Repl.there | apply Mem.there)) rfl rt (by unfold maxLen;omega) (by omega) ⟨_,z44,rfl⟩ (fun v2 hv2=>?_)
      rw [show l.flatMap BRow.v++BRow.v (⟨x.b,.slice (some ⟨g2,0,none⟩) x.b.recs.length c2⟩:BRow)=(l++[(⟨x.b,.slice (some ⟨g2,0,none⟩) x.b.recs.length c2⟩:BRow)]).flatMap BRow.v by rw [List.flatMap_append,List.flatMap_singleton],show l.length+1=(l++[(⟨x.b,.slice (some ⟨g2,0,none⟩) x.b.recs.length c2⟩:BRow)]).length by simp]
      refine .fact (ah (el:=44) (size:=5) (k:=(l++[(⟨x.b,.slice (some ⟨g2,0,none⟩) x.b.recs.length c2⟩:BRow)]).length) (v:=v2) (xs:=(l++[(⟨x.b,.slice (some ⟨g2,0,none⟩) x.b.recs.length c2⟩:BRow)]).flatMap BRow.v)) fun ⟨A9,c9,hv9,_⟩=>?_
      subst hv9
      refine .st ?_ sc40
      refine .nil (.blockNormal ?_)
      refine .rndK hmk ?_ (by repeat (first | exact .here | apply Rem.there | apply Repl.there | apply Mem.there))
      exact ⟨_,.inl ⟨rfl,_,l++[(⟨x.b,.slice (some ⟨g2,0,none⟩) x.b.recs.length c2⟩:BRow)],(g2,.cells cur 95 (0,0)) :: os2,_,⟨by rw [<- hgo,List.map_append,List.append_assoc,show decide (0 < (l++[(⟨x.b,.slice (some ⟨g2,0,none⟩) x.b.recs.length c2⟩:BRow)]).length)=true by simp];rfl,⟨by omega,by rw [List.length_append,List.length_singleton];omega⟩,fun y hy=>(List.mem_append.1 hy).elim (fun h=>(hy4 y h).mono fun z hz=>List.mem_cons_of_mem _ hz) (fun h=>by rw [List.mem_singleton.1 h];exact hnew)⟩,rfl⟩,Am.auto⟩
    ·have hgo:l.map BRow.b++(x.b :: gotB mx (n+((x.k:Nat):Int)) true ((rows.drop (i+1)).map SRow.b++rest))=res:=by
      have h:=hy1
      unfold gotB at h
      rw [<- hxk1] at h
      rwa [if_neg (fun h=>h1 h.2)] at h
     refine WJ.block ?_
     refine WJ.seq ?_
     refine WJ.seq ?_
     refine WJ.region .auto ?_
     refine .ld ?_ sc3
     refine .fact (ah (el:=44) (size:=5) (k:=l.length) (v:=v) (xs:=l.flatMap BRow.v)) fun ⟨A8,c8,hv8,_⟩=>?_
     subst hv8
     refine .move ?_
     refine .add ?_
     refine .st ?_ sc3
     refine .nil ?_
     refine .nextI ?_
     refine WJ.seq ?_
     refine WJ.region .auto ?_
     refine .ld ?_ sc3
     refine .ld ?_ sc3
     refine .gtr ?_
     refine .move ?_
     refine .cast (d:=52) (u:=.bool false) rfl (cB9 (by first | (simp;done) | (exact decide_eq_true (by omega)) | (exact decide_eq_false (by omega)) | (simp;omega) | omega)) ?_
     refine .gF (.gF (.gF (.pickF (.nil ?_))))
     refine .nextI ?_
     refine WJ.condF rfl rfl ?_
     refine WJ.skip ?_
     refine .nextI ?_
     refine WJ.region .auto ?_
     refine .ld ?_ sc40
     refine .ldA ?_ fk
     refine .buildS (fun b60=>?_) (Mi _ _ _ _ _ _ _)
     refine .toE (A:=rowR 95 6 (.slice (some A2) x.b.recs.length c2) x.b.recs.length x.b.rv) (kz hxok.pos) ?_
     rintro ⟨g2,q2,cur⟩ ⟨hv2,htk⟩
     injection hv2 with hA2 _ hc2
     injection hA2 with hA2
     simp only at hA2 hc2 htk
     subst hA2
     subst hc2
     refine .frzAdd ?_
     have hnew:BRowOk ((g2,.cells cur 95 (0,0)) :: os2) (⟨x.b,.slice (some ⟨g2,0,none⟩) x.b.recs.length c2⟩:BRow):=⟨hxok.pos,hxok.len,_,c2,rfl,by
      have:=(Reads.frz (os:=(g2,.cells cur 95 (0,0)) :: os2) (b:=g2) (cs:=cur) (List.mem_cons_self ..)).take x.b.rv.length
      rwa [htk] at this⟩
     refine .append (v:=.slice A8 l.length c8) (m:=1) (k:=l.length) (xs:=l.flatMap BRow.v) (news:=BRow.v (⟨x.b,.slice (some ⟨g2,0,none⟩) x.b.recs.length c2⟩:BRow)) so40 (by decide) (by repeat (first | exact .here | apply Rem.there | apply Repl.there | apply Mem.there)) (Reads.pt (cs:=(BRow.v (⟨x.b,.slice (some ⟨g2,0,none⟩) x.b.recs.length c2⟩:BRow)).toArray)) (by repeat (first | exact .here | apply Rem.there | apply Repl.there | apply Mem.there)) rfl rt (by unfold maxLen;omega) (by omega) ⟨_,z44,rfl⟩ (fun v2 hv2=>?_)
     rw [show l.flatMap BRow.v++BRow.v (⟨x.b,.slice (some ⟨g2,0,none⟩) x.b.recs.length c2⟩:BRow)=(l++[(⟨x.b,.slice (some ⟨g2,0,none⟩) x.b.recs.length c2⟩:BRow)]).flatMap BRow.v by rw [List.flatMap_append,List.flatMap_singleton],show l.length+1=(l++[(⟨x.b,.slice (some ⟨g2,0,none⟩) x.b.recs.length c2⟩:BRow)]).length by simp]
     refine .fact (ah (el:=44) (size:=5) (k:=(l++[(⟨x.b,.slice (some ⟨g2,0,none⟩) x.b.recs.length c2⟩:BRow)]).length) (v:=v2) (xs:=(l++[(⟨x.b,.slice (some ⟨g2,0,none⟩) x.b.recs.length c2⟩:BRow)]).flatMap BRow.v)) fun ⟨A9,c9,hv9,_⟩=>?_
     subst hv9
     refine .st ?_ sc40
     refine .nil (.blockNormal ?_)
     refine .rndK hmk ?_ (by repeat (first | exact .here | apply Rem.there | apply Repl.there | apply Mem.there))
     exact ⟨_,.inl ⟨rfl,_,l++[(⟨x.b,.slice (some ⟨g2,0,none⟩) x.b.recs.length c2⟩:BRow)],(g2,.cells cur 95 (0,0)) :: os2,_,⟨by rw [<- hgo,List.map_append,List.append_assoc,show decide (0 < (l++[(⟨x.b,.slice (some ⟨g2,0,none⟩) x.b.recs.length c2⟩:BRow)]).length)=true by simp];rfl,⟨by omega,by rw [List.length_append,List.length_singleton];omega⟩,fun y hy=>(List.mem_append.1 hy).elim (fun h=>(hy4 y h).mono fun z hz=>List.mem_cons_of_mem _ hz) (fun h=>by rw [List.mem_singleton.1 h];exact hnew)⟩,rfl⟩,Am.auto⟩
   ·rintro F b M B w (⟨rfl,v,l,os2,n,h1,rfl⟩ | ⟨rfl,v,l,os2,n,h1,rfl⟩) hs
    ·exact ⟨_,.inl ⟨rfl,rfl⟩,Sat.shuts (hopen (i+1)) (x:=(v,l,os2,n)) h1 hs⟩
    ·exact ⟨_,.inr ⟨rfl,rfl⟩,Sat.shuts hopenx (x:=(v,l,os2,n)) h1 hs⟩
  refine ⟨pt ll (.loop (mk .ready none)) :: pt b5 (.cells #[.int .i64 mx] 3 (0,0)) :: pt b6 (.cells #[.slice none 0 0] 40 (0,0)) :: pt b7 (.cells #[.int .i64 0] 34 (0,0)) :: pt b8 (.cells #[v] 40 (0,0)) :: pt b9 (.cells #[.int .i64 n] 3 (0,0)) :: rowR 44 5 v l.length (l.flatMap BRow.v) :: frz os :: pt cs (.cells #[.pointer (some ⟨x.s,0,none⟩)] 86 (0,0)) :: pt co (.cells #[.int .i64 off] 3 (0,0)) :: pt x.s (sgO f (dy dn (az x.base)) ((x.base:Nat):Int) rows u) :: rowR 151 6 u rows.length (rows.flatMap SRow.v) :: frz ros :: [],_,fun G v M=>v=.tuple #[]/\((∃ (v2:Value) (l2:List BRow) (os2:List (Nat×Obj)) (n2:Int),(l2.map BRow.b++gotB mx n2 (decide (0 < l2.length)) (rest)=res/\(0<=n2/\n2<=6000 * ((l2.length:Nat):Int))/\∀ y∈l2,BRowOk os2 y)/\M=pt ll (.loop (mk .ready none)) :: pt b5 (.cells #[.int .i64 mx] 3 (0,0)) :: pt b6 (.cells #[.slice none 0 0] 40 (0,0)) :: pt b7 (.cells #[.int .i64 0] 34 (0,0)) :: pt b8 (.cells #[v2] 40 (0,0)) :: pt b9 (.cells #[.int .i64 n2] 3 (0,0)) :: rowR 44 5 v2 l2.length (l2.flatMap BRow.v) :: frz os2 :: pt cs (.cells #[.pointer (some ⟨x.s,0,none⟩)] 86 (0,0)) :: pt co (.cells #[.int .i64 off] 3 (0,0)) :: pt x.s (sgO f (dy dn (az x.base)) ((x.base:Nat):Int) rows u) :: rowR 151 6 u rows.length (rows.flatMap SRow.v) :: frz ros :: G) ∨ ∃ (v2:Value) (l2:List BRow) (os2:List (Nat×Obj)) (n2:Int),(l2.map BRow.b=res/\∀ y∈l2,BRowOk os2 y)/\M=pt ll (.loop (mk .done (some .ret))) :: pt b5 (.cells #[.int .i64 mx] 3 (0,0)) :: pt b6 (.cells #[v2] 40 (0,0)) :: pt b7 (.cells #[.int .i64 0] 34 (0,0)) :: pt b8 (.cells #[v2] 40 (0,0)) :: pt b9 (.cells #[.int .i64 n2] 3 (0,0)) :: rowR 44 5 v2 l2.length (l2.flatMap BRow.v) :: frz os2 :: pt cs (.cells #[.pointer (some ⟨x.s,0,none⟩)] 86 (0,0)) :: pt co (.cells #[.int .i64 off] 3 (0,0)) :: pt x.s (sgO f (dy dn (az x.base)) ((x.base:Nat):Int) rows u) :: rowR 151 6 u rows.length (rows.flatMap SRow.v) :: frz ros :: G),Spec.post' (Spec.pre' (zm (k:=k0) hi.ok hi.ord (by omega) hi.nil hk0 hk1 hk2 hY) (fun B w G hs=>Sat.shuts (hopen k0) (x:=(v,l,os,n)) ⟨hy1,hy2,hy3⟩ hs)) ?_,by repeat (first | exact .nil | (apply Tk.cons;focus ((repeat (first | exact .here | apply Rem.there));done))),?_⟩
  ·rintro G v M B w ⟨rfl,rfl | rfl⟩ hs
   ·obtain ⟨x,⟨hx1,hx2,hx4⟩,hs1⟩:=Sat.opens hs (hopen _)
    rw [List.drop_length] at hx1
    exact ⟨_,⟨rfl,.inl ⟨x.1,x.2.1,x.2.2.1,x.2.2.2,⟨hx1,hx2,hx4⟩,rfl⟩⟩,hs1⟩
   ·obtain ⟨x,hx,hs1⟩:=Sat.opens hs hopenx
    exact ⟨_,⟨rfl,.inr ⟨x.1,x.2.1,x.2.2.1,x.2.2.2,hx,rfl⟩⟩,hs1⟩
  rintro _ M ⟨rfl,⟨v2,l2,os2,n2,⟨hf1,hf2,hf3⟩,rfl⟩ | ⟨v2,l2,os2,n2,⟨hf1,hf3⟩,rfl⟩⟩
  ·refine ⟨.ready,none,_,.here,by decide,?_⟩
   show WQ _ _ _ .normal _ _
   refine .shutR (SGP.opens x.s f (dy dn (az x.base)) ((x.base:Nat):Int) x.bs) (rows,u,ros) hi ?_
   refine .segIn (sg.take k) (sg.drop (k+1)) x ?_
   refine .to (A:=segsH f dn (sg.take k++x :: sg.drop (k+1))) (A':=segsH f dn sg) (fun h hh=>by rw [hsp];exact hh) ?_
   refine .markIn ?_
   refine .blockNormal (.blockNormal (.next (.region ?_)))
   refine .add ?_
   refine .move (.nil ?_)
   exact .backD (k+1,(v2,l2,os2,n2),D :: Ds) ⟨by show k+1<=sg.length;omega,by show l2.map BRow.b++gotB mx n2 (decide (0 < l2.length)) (ry off ((sg.drop (k+1)).map Seg.a))=res;rw [<- hrest];exact hf1,hf2,hf3⟩ (by show sg.length - (k+1) < sg.length - k;omega) rfl
  ·refine ⟨.done,some .ret,_,.here,by decide,?_⟩
   show WC _ _ _ .ret _ _ _
   refine .fact (ah (el:=44) (size:=5) (k:=l2.length) (v:=v2) (xs:=l2.flatMap BRow.v)) fun ⟨A8,c8,hv8,_⟩=>?_
   subst hv8
   refine .shutR (SGP.opens x.s f (dy dn (az x.base)) ((x.base:Nat):Int) x.bs) (rows,u,ros) hi ?_
   refine .segIn (sg.take k) (sg.drop (k+1)) x ?_
   refine .to (A:=segsH f dn (sg.take k++x :: sg.drop (k+1))) (A':=segsH f dn sg) (fun h hh=>by rw [hsp];exact hh) ?_
   refine .markIn ?_
   refine .ret (.blockRet (.blockRet (.thenRet (.thenRet (.blockRet (.thenRet (?_)))))))
   refine .shutR (PT.opens pp f dn st dp ss) (g0,c0,sg) ⟨hls,hc1,hc2,hn2⟩ ?_
   refine .shutR (BL.opens (.slice A8 l2.length c8) res) (l2,os2) ⟨hf1,hf3⟩ ?_
   refine .markF (D :: Ds) ?_
   refine .retMs2 (Ds:=D :: Ds) (r:=.cell 6 40) (s:=.cell 7 34) ⟨_,⟨(.slice A8 l2.length c8),rfl,rfl⟩,Am.auto⟩ .here (.cell rfl (by kernel_rfl) (by repeat (first | exact .here | apply Rem.there | apply Repl.there | apply Mem.there)) rfl) (.cell rfl (by kernel_rfl) (by repeat (first | exact .here | apply Rem.there | apply Repl.there | apply Mem.there)) rfl)
 ·have hke:k=sg.length:=by have h:¬ ((k:Nat):Int) < ((sg.length:Nat):Int):=of_decide_eq_false hd;omega
  subst hke
  rw [List.drop_length,List.map_nil,show ry off []=[] from rfl,show gotB mx n (decide (0 < l.length)) []=[] from rfl,List.append_nil] at hy1
  refine .exit (.thenExit (.thenExit (.blockExit (?_))))
  refine .next (.sr ?_)
  refine .ld ?_ sc40
  refine .fact (ah (el:=44) (size:=5) (k:=l.length) (v:=v) (xs:=l.flatMap BRow.v)) fun ⟨A8,c8,hv8,_⟩=>?_
  subst hv8
  refine .st ?_ sc40
  refine .st ?_ sc34
  refine .z (.ret (?_))
  refine .shutR (PT.opens pp f dn st dp ss) (g0,c0,sg) ⟨hls,hc1,hc2,hn2⟩ ?_
  refine .shutR (BL.opens (.slice A8 l.length c8) res) (l,os) ⟨hy1,hy3⟩ ?_
  refine .markF (Ds) ?_
  refine .retMs2 (Ds:=Ds) (r:=.cell 6 40) (s:=.cell 7 34) ⟨_,⟨(.slice A8 l.length c8),rfl,rfl⟩,Am.auto⟩ .here (.cell rfl (by kernel_rfl) (by repeat (first | exact .here | apply Rem.there | apply Repl.there | apply Mem.there)) rfl) (.cell rfl (by kernel_rfl) (by repeat (first | exact .here | apply Rem.there | apply Repl.there | apply Mem.there)) rfl)
theorem Ml :ae Tryz.prog 54 0 0=true:=by kernel_rfl
theorem Hq :ae Tryz.prog 54 1 1=true:=by kernel_rfl
theorem Hr :ae Tryz.prog 54 2 2=true:=by kernel_rfl
abbrev KG :=ad×Nat×Nat
def encG :KG->Value:=fun k=>.agg (xvs [.inr k.1,.inl ((k.2.1:Nat):Int),.inl ((k.2.2:Nat):Int)]).toArray
theorem kgL :KeyLaw Tryz.prog 54 encG:=D8 (fun k:KG=>[.inr k.1,.inl ((k.2.1:Nat):Int),.inl ((k.2.2:Nat):Int)]) [false,true,true] (by kernel_rfl) (fun _=>rfl) (fun a b h=>by
 obtain ⟨a1,a2,a3⟩:=a
 obtain ⟨b1,b2,b3⟩:=b
 injection h with h1 h2
 injection h1 with h1
 injection h2 with h2 h3
 injection h2 with h2
 injection h3 with h3 _
 injection h3 with h3
 have h1:a1=b1:=h1
 have h2:a2=b2:=Int.ofNat.inj h2
 have h3:a3=b3:=Int.ofNat.inj h3
 rw [h1,h2,h3])
def numB (n:Nat):ad:=put (List.replicate 8 0) 0 8 true n
theorem fm (n:Nat):(numB n).length=8:=be ..
def sh (k:KG):ad:=numB k.2.1++numB k.2.2++k.1
theorem nf (k:KG):(sh k).length=16+k.1.length:=by
 unfold sh
 rw [List.length_append,List.length_append,fm,fm]
def stG :Sts:=⟨2048,-1,-1,true,0⟩
theorem Rv :ay Tryz.prog 23 [(0,.int .i64 2048),(1,.int .i64 (-1)),(2,.int .i64 (-1)),(3,.bool true)] #[.int .i64 2048,.int .i64 (-1),.int .i64 (-1),.bool true,.int .i64 0]:=fun w=>by kernel_rfl
theorem Hs :Spec Tryz.prog 56 #[] [] fun F v M=>v=.agg stG.v.toArray/\M=F:=by
 refine Spec.intro Tryz.func56 rfl rfl fun B F=>?_
 simp only [Tryz.ntmps56,List.cons_append,List.nil_append,env0,Nat.reduceAdd]
 refine .sr ?_
 refine .alloc z23 fun b0=>?_
 refine .x ?_
 refine .build ?_ Rv
 refine .stV ?_ K3
 refine .z (.ret (?_))
 exact .ret1 ⟨_,⟨rfl,rfl⟩,Am.auto⟩
theorem Rx {gn:ad} {t p:Nat} (hg:ak gn=true) (ht:1<=t/\t<=1125899906842624) (hp:p < 8):Spec Tryz.prog 53 #[.agg #[sv gn,.int .i64 ((t:Nat):Int),.int .i64 ((p:Nat):Int)]] [] fun F v M=>v=.bool true/\M=F:=by
 refine Spec.intro Tryz.func53 rfl rfl fun B F=>?_
 simp only [Tryz.ntmps53,List.cons_append,List.nil_append,env0,Nat.reduceAdd]
 refine .sr ?_
 refine .box fun b1=>?_
 refine .assign (.x ?_)
 refine .fa ?_ Ml
 refine .ld ?_ sc9
 refine .call (hc:=Tryz.call104) (sp:=y5) (h:=?_)
 rintro _ _ ⟨rfl,rfl⟩
 rw [hg]
 refine .move (.gT ?_)
 refine .fa ?_ Hq
 refine .gT ?_
 refine .ld ?_ sc3
 refine .gT ?_
 refine .geq ?_
 refine .pickT (.move ?_)
 refine .cast (d:=11) (u:=.bool true) rfl (cB9 (decide_eq_true (by omega))) ?_
 refine .gT ?_
 refine .fa ?_ Hq
 refine .gT ?_
 refine .ld ?_ sc3
 refine .gT ?_
 refine .leq ?_
 refine .pickT (.move ?_)
 refine .cast (d:=16) (u:=.bool true) rfl (cB9 (decide_eq_true (by omega))) ?_
 refine .gT ?_
 refine .fa ?_ Hr
 refine .gT ?_
 refine .ld ?_ sc3
 refine .gT ?_
 refine .geq ?_
 refine .pickT (.move ?_)
 refine .cast (d:=21) (u:=.bool true) rfl (cB9 (decide_eq_true (by omega))) ?_
 refine .gT ?_
 refine .fa ?_ Hr
 refine .gT ?_
 refine .ld ?_ sc3
 refine .gT ?_
 refine .lss ?_
 refine .pickT (.assign (.z (.ret (?_))))
 exact .ret1 (h1:=.tmp (t:=2) rfl) ⟨_,⟨cB9 (decide_eq_true (by omega)),rfl⟩,Am.auto⟩
theorem ng {n:Nat} (hn:n < 9223372036854775808):Spec Tryz.prog 55 #[.int .i64 ((n:Nat):Int)] [] fun F v M=>v=sv (numB n)/\M=F:=by
 refine Spec.intro Tryz.func55 rfl rfl fun B F=>?_
 simp only [Tryz.ntmps55,List.cons_append,List.nil_append,env0,Nat.reduceAdd]
 refine .sr (.assign (.x ?_))
 refine .mkSN 8 z5 so79 (by decide) (by decide) fun b6=>?_
 refine .move ?_
 refine .cvt ?_ un3 ff
 refine .cast (d:=8) (u:=.int .u64 ((n:Nat):Int)) rfl (cI9 (fz (by omega))) ?_
 refine .to (A:=buf b6 5 8 (List.replicate 8 (.int .u8 0))) (A':=buf b6 5 8 (bvs (List.replicate 8 0))) (fun h hh=>hh) ?_
 refine .call (hc:=Tryz.call105) (sp:=jz (xs:=List.replicate 8 0) (v:=n) Reads.buf rfl (by decide) (by decide) (by decide) (by decide) (by omega)) (h:=?_)
 rintro _ _ ⟨gq,kq,⟨rfl,h1,h2⟩,rfl⟩
 refine .move ?_
 refine .extract (.extract (.assign (.assign (.x (.move ?_)))))
 refine .cvtBS (xs:=numB n) ?_ by79 st9 Reads.buf (fm n)
 refine .assign (.z (.ret (?_)))
 exact .ret1 (h1:=.tmp (t:=2) rfl) ⟨_,⟨rfl,rfl⟩,Am.auto⟩
theorem Ht {gn:ad} {t p:Nat} (ht:t < 9223372036854775808) (hp:p < 9223372036854775808) (hl:gn.length<=1000):Spec Tryz.prog 54 #[.agg #[sv gn,.int .i64 ((t:Nat):Int),.int .i64 ((p:Nat):Int)]] [] fun F v M=>v=sv (sh (gn,t,p))/\M=F:=by
 refine Spec.intro Tryz.func54 rfl rfl fun B F=>?_
 simp only [Tryz.ntmps54,List.cons_append,List.nil_append,env0,Nat.reduceAdd]
 refine .sr ?_
 refine .box fun b1=>?_
 refine .assign (.z (.seq ?_))
 refine .dr ([pt b1 (.cells #[sv gn,.int .i64 ((t:Nat):Int),.int .i64 ((p:Nat):Int)] 54 (0,0))]) [] 11 mixed .autoJ ?_
 refine .tk 0 rfl (.fa Hq) ?_
 refine .tk 1 rfl (.ld sc3) ?_
 refine .tk 3 rfl (.fa Hr) ?_
 refine .tk 4 rfl (.ld sc3) ?_
 refine .tk 7 rfl (.fa Ml) ?_
 refine .tk 8 rfl (.ld sc9) ?_
 refine .on 2 rfl fun hnp=>?_
 refine .call (hc:=Tryz.call55) (sp:=ng (n:=t) ht) (h:=?_)
 rintro _ _ ⟨rfl,rfl⟩
 refine .nil (.wa hnp ?_)
 refine .on 5 rfl fun hnp=>?_
 refine .call (hc:=Tryz.call55) (sp:=ng (n:=p) hp) (h:=?_)
 rintro _ _ ⟨rfl,rfl⟩
 refine .nil (.wa hnp ?_)
 refine .tk 6 rfl (Qt.catS (numB t) (numB p) (by rw [fm,fm];decide)) ?_
 refine .tk 9 rfl (Qt.catS (numB t++numB p) gn (by rw [List.length_append,fm,fm];omega)) ?_
 refine .tk 10 rfl .assign ?_
 refine .fin ?_
 refine .next (.ret (?_))
 exact .ret1 (h1:=.tmp (t:=2) rfl) ⟨_,⟨rfl,rfl⟩,Am.auto⟩
theorem Lb :lj Tryz.prog 48=true:=by kernel_rfl
theorem zr :ae Tryz.prog 101 0 0=true:=by kernel_rfl
theorem ol :ck Tryz.prog 54 3=true:=by kernel_rfl
theorem mp99 :i3 Tryz.prog 99 54 3=true:=by kernel_rfl
theorem ko :ae Tryz.prog 101 1 1=true:=by kernel_rfl
theorem sc99 :ai Tryz.prog 99=true:=by kernel_rfl
theorem p18_is :PlIs (pE 900 60):=pE_is (by decide) (by decide) (by decide) (by decide)
theorem Lc :PlP (pE 900 60):=⟨p18_is.ok,by decide,.inr (by decide)⟩
def gv (kv:List (KG×Int)):List (KG×Value):=kv.map fun z=>(z.1,.int .i64 z.2)
theorem x4 (k:KG):∀ kv:List (KG×Int),kget (gv kv) k=(kget kv k).map (Value.int .i64)
 | []=>rfl
 | (k',v) :: l=>by
  have h:=x4 k l
  unfold gv at h ⊢
  rw [List.map_cons]
  unfold kget
  split
  ·rfl
  ·exact h
theorem Hu (k:KG) (v:Int):∀ kv:List (KG×Int),kput (gv kv) k (.int .i64 v)=gv (kput kv k v)
 | []=>rfl
 | (k',v') :: l=>by
  have h:=Hu k v l
  unfold gv at h ⊢
  rw [List.map_cons]
  unfold kput
  split
  ·rfl
  ·rw [h];rfl
theorem Mm (kv:List (KG×Int)):(gv kv).length=kv.length:=List.length_map ..
abbrev GrX :=Nat×Nat×Array MapEntry×Nat
def GR (gp f:Nat) (x:PS) (kv:List (KG×Int)):HP:=exH (fun y:GrX=>MapIs encG y.2.2.1 y.2.2.2 (gv kv)) (fun y=>[pt gp (.cells #[.pointer (some ⟨y.1,0,none⟩),.map (some y.2.1)] 101 (0,0)),pt y.2.1 (.map y.2.2.1 y.2.2.2),PT y.1 f [111] stG [] x.ss,DRF f (pE 900 60) [111] x.ss.length x.ss])
theorem GR.opens (gp f:Nat) (x:PS) (kv:List (KG×Int)):Opens (GR gp f x kv) (fun y:GrX=>MapIs encG y.2.2.1 y.2.2.2 (gv kv)) (fun y=>[pt gp (.cells #[.pointer (some ⟨y.1,0,none⟩),.map (some y.2.1)] 101 (0,0)),pt y.2.1 (.map y.2.2.1 y.2.2.2),PT y.1 f [111] stG [] x.ss,DRF f (pE 900 60) [111] x.ss.length x.ss]):=exH.opens
theorem bdGrp (p m:Nat):ay Tryz.prog 101 [(0,.pointer (some ⟨p,0,none⟩)),(1,.map (some m))] #[.pointer (some ⟨p,0,none⟩),.map (some m)]:=fun w=>by kernel_rfl
def recG (k:KG) (o:Nat) (now:Int):Rc:=⟨true,sh k,true,numB o,now,0⟩
theorem Hv (k:KG) (o:Nat) (now:Int):recG k o now=recS (sh k) (numB o) now:=by
 unfold recG recS
 have h:sh k≠[]:=fun h=>by
  have h2:=nf k
  rw [h] at h2
  simp at h2
  omega
 rw [decide_eq_false h]
 rfl
theorem Mn (s t:ByteArray) (x:Int):ay Tryz.prog 95 [(0,.bool true),(1,.string s),(2,.bool true),(3,.string t),(4,.int .i64 x)] #[.bool true,.string s,.bool true,.string t,.int .i64 x,.int .i64 0]:=fun w=>by kernel_rfl
theorem B2 {k:KG} {o:Nat} {now:Int} (hk:k.1.length<=3) (j:Nat) (hj:j < 100):(encB { recG k o now with off:=((j:Nat):Int) } (recG k o now).time).length=29+k.1.length:=by
 have h:=B0 (key:=sh k) (val:=numB o) (t:=now) j hj
 have hne:sh k≠[]:=fun h=>by
  have h2:=nf k
  rw [h] at h2
  simp at h2
  omega
 rw [if_neg hne,fm,nf,Bz (by omega),Bz (by decide)] at h
 rw [Hv]
 rw [show 29+k.1.length=3+(1+(16+k.1.length))+(1+8) by omega,<-h]
 rfl
def grB (n:Nat) (k:KG) (o:Nat) (now:Int):Bt:=au ((n:Nat):Int) 0 0 [recG k o now]
theorem zt {n:Nat} {k:KG} {o:Nat} {now:Int}:grB n k o now=repB ((n:Nat):Int) 1 (recG k o now):=rfl
theorem Hw {n:Nat} {k:KG} {o:Nat} {now:Int} (hk:k.1.length<=3):(batB (grB n k o now)).length=77+k.1.length:=by
 rw [zt,v8 ⟨by decide,by decide⟩ (B2 hk)]
 omega
theorem Mo {n:Nat} {k:KG} {o:Nat} {now:Int} (hk:k.1.length<=3) (hn:n<=1000) (hnow:0<=now/\now<=1125899906842624):batE (grB n k o now)=0:=by
 rw [zt]
 refine Hn ⟨by decide,by decide⟩ ⟨by omega,by omega⟩ ?_ (B2 hk) (by omega)
 rw [Hv]
 exact Ho hnow (by rw [nf];omega) (by rw [fm];decide)
theorem Ld {n:Nat} {k:KG} {o:Nat} {now:Int}:(grB n k o now).span=((1:Nat):Int):=by
 rw [zt]
 exact Hm (by decide)
structure GkI (n:Nat) (x:PS) (all:List Bt):Prop where
 psi:PSI x n all 80
 len:all.length=n
 full:∀ y∈x.pre,1968 < (byt y).length
theorem GkI.zero :GkI 0 ⟨[],0,[]⟩ []:=⟨PSI.zero 80,rfl,fun y hy=>absurd hy List.not_mem_nil⟩
theorem GkI.add {n:Nat} {x:PS} {all:List Bt} {k:KG} {o:Nat} {now:Int} (h:GkI n x all) (hk:k.1.length<=3):GkI (n+1) (x.add 2048 (grB n k o now)) (all++[grB n k o now]):=by
 refine ⟨h.psi.add (k:=1) rfl Ld (Nat.le_refl _) (by rw [Hw hk];omega),by rw [List.length_append,List.length_singleton,h.len],fun y hy=>?_⟩
 rcases PS.add_pre (seg:=2048) (x:=x) (b:=grB n k o now) with h1 | ⟨h1,h2⟩
 ·rw [h1] at hy
  exact h.full y hy
 ·rw [h1] at hy
  rcases List.mem_append.1 hy with hy | hy
  ·exact h.full y hy
  ·rw [List.mem_singleton.1 hy]
   rw [Hw hk] at h2
   show 1968 < (x.bs.flatMap batB).length
   omega
theorem Hx :∀ {l:List SegA},(∀ y∈l,1968 < (byt y).length)->l.length * 1968<=bytT l
 | [],_=>Nat.zero_le _
 | y :: l,h=>by
  have h1:=h y (List.mem_cons_self ..)
  have h2:=Hx fun z hz=>h z (List.mem_cons_of_mem _ hz)
  unfold bytT at h2 ⊢
  rw [List.map_cons,List.sum_cons,List.length_cons]
  exact Nat.le_trans (Nat.le_of_eq (by rw [Nat.add_mul,Nat.one_mul,Nat.add_comm])) (Nat.add_le_add (Nat.le_of_lt h1) h2)
theorem GkI.pre {n:Nat} {x:PS} {all:List Bt} (h:GkI n x all):x.pre.length * 1968<=n * 80:=by
 have h1:=Hx h.full
 have h2:=h.psi.byt
 unfold PS.ss at h2
 rw [vo,h.len] at h2
 omega
theorem O6 {f:Nat}:Spec Tryz.prog 52 #[.pointer (some ⟨f,0,none⟩),sv [47,111]] [FSR f (pE 900 60) dx] fun F v M=>v=okV/\M=DRF f (pE 900 60) [111] 1 [(0,[])] :: F:=by
 refine Spec.intro Tryz.func52 rfl rfl fun B F=>?_
 simp only [Tryz.ntmps52,List.cons_append,List.nil_append,env0,Nat.reduceAdd]
 refine .sr (.assign (.x (.move (.move ?_))))
 refine .call (hc:=Tryz.call56) (sp:=Hs) (h:=?_)
 rintro _ _ ⟨rfl,rfl⟩
 refine .call (hc:=Tryz.call29) (sp:=K6 (f:=f) (dn:=[111]) (st:=stG) Lc (by decide) (by decide) (by decide)) (h:=?_)
 rintro _ _ ⟨rfl,rfl⟩
 refine .assign (.z (.ret (?_)))
 exact .ret1 (h1:=.tmp (t:=4) rfl) ⟨_,⟨rfl,rfl⟩,Am.auto⟩
theorem Dl {f:Nat}:Spec Tryz.prog 26 #[.pointer (some ⟨f,0,none⟩),sv [47,111]] [DRF f (pE 900 60) [111] 1 [(0,[])]] fun F v M=>∃ gp,v=.tuple #[.pointer (some ⟨gp,0,none⟩),.int .i64 0]/\M=GR gp f ⟨[],0,[]⟩ [] :: F:=by
 refine Spec.intro Tryz.func26 rfl rfl fun B F=>?_
 simp only [Tryz.ntmps26,List.cons_append,List.nil_append,env0,Nat.reduceAdd]
 refine .sr (.assign (.assign (.x (.move (.move ?_)))))
 refine .call (hc:=Tryz.call56) (sp:=Hs) (h:=?_)
 rintro _ _ ⟨rfl,rfl⟩
 refine .call (hc:=Tryz.call30) (sp:=zq (f:=f) (N:=1) (dn:=[111]) (st:=stG) Lc (by decide) ⟨by decide,by decide,by decide,by decide⟩ (by decide)) (h:=?_)
 rintro _ _ ⟨pp,rfl,rfl⟩
 refine .move ?_
 refine .extract (.extract ?_)
 refine .assign (.assign (.z (.seq (.sr (.move ?_)))))
 refine .nei ?_
 refine .z ?_
 refine .condF rfl rfl ?_
 refine .skip (.next (.sr (.move ?_)))
 refine .mkMap fun m28=>?_
 refine .build ?_ (bdGrp pp m28)
 refine .box fun b30=>?_
 refine .assign (.x (.move (.move ?_)))
 refine .call (hc:=Tryz.call19) (sp:=xw (post:=[]) (y:=(0,[])) rfl) (h:=?_)
 rintro _ _ ⟨rfl,rfl⟩
 refine .call (hc:=Tryz.call20) (sp:=La (off:=((0:Nat):Int)) (mx:=1099511627776) (y:=(0,[])) (post:=[]) (pre:=[]) (z:=(0,[])) rfl rfl (by decide) (by decide) ⟨by decide,by decide⟩) (h:=?_)
 rintro _ _ ⟨u,rfl,rfl⟩
 refine .openR (BL.opens _ _) fun y hy=>?_
 obtain ⟨l,os2⟩:=y
 obtain ⟨hl1,_⟩:=hy
 simp only [List.cons_append,List.nil_append] at hl1 ⊢
 refine .fact (ah (el:=44) (size:=5) (k:=l.length) (v:=u) (xs:=l.flatMap BRow.v)) fun ⟨A,c,hv,hR,_,_,_⟩=>?_
 subst hv
 have hl0:l=[]:=List.map_eq_nil_iff.1 hl1
 subst hl0
 refine .move ?_
 refine .extract (.extract ?_)
 refine .assign (.assign (.z (.seq (.sr (.move ?_)))))
 refine .nei ?_
 refine .z ?_
 refine .condF rfl rfl ?_
 refine .skip (.next (.seq (.sr (.move ?_))))
 refine .lenS ?_ sl40
 refine .move (.z (.block ?_))
 refine .loopN 1 (RC.succ ?_)
 refine .sr ?_
 refine .lss ?_
 refine .z (.seq ?_)
 refine .condF rfl rfl ?_
 refine .exit (.thenExit (.thenExit (.blockExit (?_))))
 refine .next (.sr (.move (.assign (.assign (.z ?_)))))
 refine .ret (?_)
 refine .to (A:=PT pp f [111] stG [] [(0,[])]) (A':=PT pp f [111] stG [] (PS.ss ⟨[],0,[]⟩)) (fun h hh=>hh) ?_
 refine .to (A:=DRF f (pE 900 60) [111] 1 [(0,[])]) (A':=DRF f (pE 900 60) [111] (PS.ss ⟨[],0,[]⟩).length (PS.ss ⟨[],0,[]⟩)) (fun h hh=>hh) ?_
 refine .shutR (GR.opens b30 f ⟨[],0,[]⟩ []) (pp,m28,#[],0) (MapIs.empty _ _) ?_
 exact .ret2 (h1:=.tmp (t:=4) rfl) (h2:=.tmp (t:=5) rfl) ⟨_,⟨b30,rfl,rfl⟩,Am.auto⟩
theorem r3 {gp f n o:Nat} {x:PS} {all:List Bt} {kv:List (KG×Int)} {gn:ad} {t p:Nat} {now:Int} (hI:GkI n x all) (hn:n<=500) (hg:ak gn=true) (hgl:gn.length<=3) (ht:1<=t/\t<=1125899906842624) (hp:p < 8) (ho:o<=1125899906842624) (hnow:0<=now/\now<=1125899906842624) (hroom:(kget kv (gn,t,p)).isSome=true ∨ kv.length < 200):Spec Tryz.prog 24 #[.pointer (some ⟨gp,0,none⟩),.agg #[sv gn,.int .i64 ((t:Nat):Int),.int .i64 ((p:Nat):Int)],.int .i64 ((o:Nat):Int),.int .i64 now] [GR gp f x kv] fun F v M=>v=.int .i64 0/\M=GR gp f (x.add 2048 (grB n (gn,t,p) o now)) (kput kv (gn,t,p) ((o:Nat):Int)) :: F:=by
 refine Spec.intro Tryz.func24 rfl rfl fun B F=>?_
 simp only [Tryz.ntmps24,List.cons_append,List.nil_append,env0,Nat.reduceAdd]
 have hpre:=hI.pre
 have hbyt:=hI.psi.byt
 have hlen:=hI.len
 rw [hlen] at hbyt
 refine .openR (GR.opens gp f x kv) fun y hy=>?_
 obtain ⟨pp,m,es,cl⟩:=y
 simp only [List.cons_append,List.nil_append] at hy ⊢
 refine .sr ?_
 refine .box fun b5=>?_
 refine .assign (.z (.seq (.sr (.move ?_))))
 refine .eqNil ?_ Lb
 refine .move (.gT (.move (.gT (.nilCheck (.gT ?_)))))
 refine .fa ?_ zr
 refine .gT ?_
 refine .ld ?_ sc30
 refine .gT ?_
 refine .eqNil ?_ Ri
 refine .pickF (.z ?_)
 refine .condF rfl rfl ?_
 refine .skip (.next (.seq (.sr ?_)))
 refine .ldA ?_ ol
 refine .call (hc:=Tryz.call53) (sp:=Rx hg ht hp) (h:=?_)
 rintro _ _ ⟨rfl,rfl⟩
 refine .not ?_
 refine .move (.gT (.move (.gT ?_)))
 refine .lss ?_
 refine .pickF (.move ?_)
 refine .cast (d:=29) (u:=.bool false) rfl (cB9 (decide_eq_false (by omega))) ?_
 refine .gT (.move (.gT ?_))
 refine .gtr ?_
 refine .pickF (.move ?_)
 refine .cast (d:=33) (u:=.bool false) rfl (cB9 (decide_eq_false (by omega))) ?_
 refine .gT (.move (.gT ?_))
 refine .lss ?_
 refine .pickF (.move ?_)
 refine .cast (d:=37) (u:=.bool false) rfl (cB9 (decide_eq_false (by omega))) ?_
 refine .gT (.move (.gT ?_))
 refine .gtr ?_
 refine .pickF (.z ?_)
 refine .condF rfl (cB9 (decide_eq_false (by omega))) ?_
 refine .skip (.next (.seq (.seq ?_)))
 cases hk:kget kv (gn,t,p) with
 | none =>
  rw [hk] at hroom
  have hroom:kv.length < 200:=hroom.resolve_left (by decide)
  refine .dr ([pt gp (.cells #[.pointer (some ⟨pp,0,none⟩),.map (some m)] 101 (0,0)),pt b5 (.cells #[sv gn,.int .i64 ((t:Nat):Int),.int .i64 ((p:Nat):Int)] 54 (0,0)),pt m (.map es cl)]) [] 11 mixed .autoJ ?_
  refine .tk 0 rfl .move ?_
  refine .tk 1 rfl .nilCheck ?_
  refine .tk 2 rfl (.fa ko) ?_
  refine .tk 3 rfl (.ld sc99) ?_
  refine .tk 4 rfl (.ldA ol) ?_
  refine .tk 5 rfl ((Qt.lookOk (k:=(gn,t,p)) kgL hy mp99 zv3).eq (v':=.tuple #[.int .i64 0,.bool false]) (by rw [x4,hk];rfl)) ?_
  refine .tk 6 rfl .move ?_
  refine .tk 7 rfl .extract ?_
  refine .tk 8 rfl .extract ?_
  refine .tk 9 rfl .assign ?_
  refine .tk 10 rfl .assign ?_
  refine .fin ?_
  refine .next (.sr (.move ?_))
  refine .not ?_
  refine .move (.gT (.move (.gT (.nilCheck (.gT ?_)))))
  refine .fa ?_ ko
  refine .gT ?_
  refine .ld ?_ sc99
  refine .gT ?_
  refine .lenM ?_ mp99
  refine .cast (d:=57) (u:=.int .i64 ((kv.length:Nat):Int)) rfl (congrArg (fun z:Nat=>Value.int .i64 (z:Int)) (by rw [hy.length,Mm])) ?_
  refine .gT ?_
  refine .geq ?_
  refine .pickT (.z ?_)
  refine .condF rfl (cB9 (decide_eq_false (by omega))) ?_
  refine .skip (.next (.seq (.seq ?_)))
  refine .dr ([pt gp (.cells #[.pointer (some ⟨pp,0,none⟩),.map (some m)] 101 (0,0)),pt b5 (.cells #[sv gn,.int .i64 ((t:Nat):Int),.int .i64 ((p:Nat):Int)] 54 (0,0))]) [] 17 mixed .autoJ ?_
  refine .tk 0 rfl .move ?_
  refine .tk 1 rfl .nilCheck ?_
  refine .tk 2 rfl (.fa zr) ?_
  refine .tk 3 rfl (.ld sc30) ?_
  refine .tk 4 rfl (.ldA ol) ?_
  refine .tk 6 rfl .move ?_
  refine .tk 8 rfl .move ?_
  refine .on 5 rfl fun hnp=>?_
  refine .call (hc:=Tryz.call54) (sp:=Ht (gn:=gn) (t:=t) (p:=p) (by omega) (by omega) (by omega)) (h:=?_)
  rintro _ _ ⟨rfl,rfl⟩
  refine .nil (.wa hnp ?_)
  refine .on 7 rfl fun hnp=>?_
  refine .call (hc:=Tryz.call55) (sp:=ng (n:=o) (by omega)) (h:=?_)
  rintro _ _ ⟨rfl,rfl⟩
  refine .nil (.wa hnp ?_)
  refine .tk 9 rfl (Qt.build (Mn _ _ _)) ?_
  refine .on 10 rfl fun hnp=>?_
  refine .buildS (fun b71=>?_) (Ma _ _ _ _ _ _)
  refine .nil (.wa hnp ?_)
  refine .on 11 rfl fun hnp=>?_
  refine .call (hc:=Tryz.call16) (sp:=B1 (pp:=pp) (f:=f) (dn:=[111]) (st:=stG) (p:=(pE 900 60)) (x:=x) (all:=all) (next:=n) (m:=80) (prod:=0) (seq:=0) (l:=[recG (gn,t,p) o now]) Lc hI.psi (by omega) (by show x.pre.length+5<=60;omega) (by omega) (by omega) (by omega) (by decide) (Reads.pt (cs:=#[.bool true,sv (sh (gn,t,p)),.bool true,sv (numB o),.int .i64 now,.int .i64 0])) Nat.zero_lt_one (Nat.le_of_ble_eq_true rfl) (Mo (k:=(gn,t,p)) hgl (by omega) hnow)) (h:=?_)
  rintro _ _ ⟨rfl,rfl⟩
  refine .nil (.wa hnp ?_)
  refine .tk 12 rfl .move ?_
  refine .tk 13 rfl .extract ?_
  refine .tk 14 rfl .extract ?_
  refine .tk 15 rfl .assign ?_
  refine .tk 16 rfl .assign ?_
  refine .fin ?_
  refine .next (.sr (.move ?_))
  refine .nei ?_
  refine .z ?_
  refine .condF rfl rfl ?_
  refine .skip (.next (.seq ?_))
  refine .dr ([pt gp (.cells #[.pointer (some ⟨pp,0,none⟩),.map (some m)] 101 (0,0)),pt b5 (.cells #[sv gn,.int .i64 ((t:Nat):Int),.int .i64 ((p:Nat):Int)] 54 (0,0))]) [6] 7 mixed .autoJ ?_
  refine .tk 0 rfl .move ?_
  refine .tk 1 rfl .nilCheck ?_
  refine .tk 2 rfl (.fa ko) ?_
  refine .tk 3 rfl (.ld sc99) ?_
  refine .tk 4 rfl (.ldA ol) ?_
  refine .tk 5 rfl .move ?_
  refine .on 6 rfl fun hnp=>?_
  refine .upd (k:=(gn,t,p)) (v:=.int .i64 ((o:Nat):Int)) kgL hy mp99 fun es2 c2 hm2=>?_
  refine .nil (.wb hnp ?_)
  refine .fin ?_
  refine .next (.sr (.assign (.z (.ret (?_)))))
  rw [Hu] at hm2
  refine .shutR (GR.opens gp f (x.add 2048 (grB n (gn,t,p) o now)) (kput kv (gn,t,p) ((o:Nat):Int))) (pp,m,es2,c2) hm2 ?_
  exact .ret1 (h1:=.tmp (t:=8) rfl) ⟨_,⟨rfl,rfl⟩,Am.auto⟩
 | some ov =>
  refine .dr ([pt gp (.cells #[.pointer (some ⟨pp,0,none⟩),.map (some m)] 101 (0,0)),pt b5 (.cells #[sv gn,.int .i64 ((t:Nat):Int),.int .i64 ((p:Nat):Int)] 54 (0,0)),pt m (.map es cl)]) [] 11 mixed .autoJ ?_
  refine .tk 0 rfl .move ?_
  refine .tk 1 rfl .nilCheck ?_
  refine .tk 2 rfl (.fa ko) ?_
  refine .tk 3 rfl (.ld sc99) ?_
  refine .tk 4 rfl (.ldA ol) ?_
  refine .tk 5 rfl ((Qt.lookOk (k:=(gn,t,p)) kgL hy mp99 zv3).eq (v':=.tuple #[.int .i64 ov,.bool true]) (by rw [x4,hk];rfl)) ?_
  refine .tk 6 rfl .move ?_
  refine .tk 7 rfl .extract ?_
  refine .tk 8 rfl .extract ?_
  refine .tk 9 rfl .assign ?_
  refine .tk 10 rfl .assign ?_
  refine .fin ?_
  refine .next (.sr (.move ?_))
  refine .not ?_
  refine .move (.gF (.gF (.gF (.gF (.gF ?_)))))
  refine .gF (.pickF (.z ?_))
  refine .condF rfl rfl ?_
  refine .skip (.next (.seq (.seq ?_)))
  refine .dr ([pt gp (.cells #[.pointer (some ⟨pp,0,none⟩),.map (some m)] 101 (0,0)),pt b5 (.cells #[sv gn,.int .i64 ((t:Nat):Int),.int .i64 ((p:Nat):Int)] 54 (0,0))]) [] 17 mixed .autoJ ?_
  refine .tk 0 rfl .move ?_
  refine .tk 1 rfl .nilCheck ?_
  refine .tk 2 rfl (.fa zr) ?_
  refine .tk 3 rfl (.ld sc30) ?_
  refine .tk 4 rfl (.ldA ol) ?_
  refine .tk 6 rfl .move ?_
  refine .tk 8 rfl .move ?_
  refine .on 5 rfl fun hnp=>?_
  refine .call (hc:=Tryz.call54) (sp:=Ht (gn:=gn) (t:=t) (p:=p) (by omega) (by omega) (by omega)) (h:=?_)
  rintro _ _ ⟨rfl,rfl⟩
  refine .nil (.wa hnp ?_)
  refine .on 7 rfl fun hnp=>?_
  refine .call (hc:=Tryz.call55) (sp:=ng (n:=o) (by omega)) (h:=?_)
  rintro _ _ ⟨rfl,rfl⟩
  refine .nil (.wa hnp ?_)
  refine .tk 9 rfl (Qt.build (Mn _ _ _)) ?_
  refine .on 10 rfl fun hnp=>?_
  refine .buildS (fun b71=>?_) (Ma _ _ _ _ _ _)
  refine .nil (.wa hnp ?_)
  refine .on 11 rfl fun hnp=>?_
  refine .call (hc:=Tryz.call16) (sp:=B1 (pp:=pp) (f:=f) (dn:=[111]) (st:=stG) (p:=(pE 900 60)) (x:=x) (all:=all) (next:=n) (m:=80) (prod:=0) (seq:=0) (l:=[recG (gn,t,p) o now]) Lc hI.psi (by omega) (by show x.pre.length+5<=60;omega) (by omega) (by omega) (by omega) (by decide) (Reads.pt (cs:=#[.bool true,sv (sh (gn,t,p)),.bool true,sv (numB o),.int .i64 now,.int .i64 0])) Nat.zero_lt_one (Nat.le_of_ble_eq_true rfl) (Mo (k:=(gn,t,p)) hgl (by omega) hnow)) (h:=?_)
  rintro _ _ ⟨rfl,rfl⟩
  refine .nil (.wa hnp ?_)
  refine .tk 12 rfl .move ?_
  refine .tk 13 rfl .extract ?_
  refine .tk 14 rfl .extract ?_
  refine .tk 15 rfl .assign ?_
  refine .tk 16 rfl .assign ?_
  refine .fin ?_
  refine .next (.sr (.move ?_))
  refine .nei ?_
  refine .z ?_
  refine .condF rfl rfl ?_
  refine .skip (.next (.seq ?_))
  refine .dr ([pt gp (.cells #[.pointer (some ⟨pp,0,none⟩),.map (some m)] 101 (0,0)),pt b5 (.cells #[sv gn,.int .i64 ((t:Nat):Int),.int .i64 ((p:Nat):Int)] 54 (0,0))]) [6] 7 mixed .autoJ ?_
  refine .tk 0 rfl .move ?_
  refine .tk 1 rfl .nilCheck ?_
  refine .tk 2 rfl (.fa ko) ?_
  refine .tk 3 rfl (.ld sc99) ?_
  refine .tk 4 rfl (.ldA ol) ?_
  refine .tk 5 rfl .move ?_
  refine .on 6 rfl fun hnp=>?_
  refine .upd (k:=(gn,t,p)) (v:=.int .i64 ((o:Nat):Int)) kgL hy mp99 fun es2 c2 hm2=>?_
  refine .nil (.wb hnp ?_)
  refine .fin ?_
  refine .next (.sr (.assign (.z (.ret (?_)))))
  rw [Hu] at hm2
  refine .shutR (GR.opens gp f (x.add 2048 (grB n (gn,t,p) o now)) (kput kv (gn,t,p) ((o:Nat):Int))) (pp,m,es2,c2) hm2 ?_
  exact .ret1 (h1:=.tmp (t:=8) rfl) ⟨_,⟨rfl,rfl⟩,Am.auto⟩
theorem Hy {gp f:Nat} {x:PS} {kv:List (KG×Int)} {gn:ad} {t p:Nat}:Spec Tryz.prog 28 #[.pointer (some ⟨gp,0,none⟩),.agg #[sv gn,.int .i64 ((t:Nat):Int),.int .i64 ((p:Nat):Int)]] [GR gp f x kv] fun F v M=>v=(match kget kv (gn,t,p) with | some o=>.tuple #[.int .i64 o,.int .i64 0] | none=>.tuple #[.int .i64 0,.int .i64 4])/\M=GR gp f x kv :: F:=by
 refine Spec.intro Tryz.func28 rfl rfl fun B F=>?_
 simp only [Tryz.ntmps28,List.cons_append,List.nil_append,env0,Nat.reduceAdd]
 refine .openR (GR.opens gp f x kv) fun y hy=>?_
 obtain ⟨pp,m,es,cl⟩:=y
 simp only [List.cons_append,List.nil_append] at hy ⊢
 refine .sr ?_
 refine .box fun b3=>?_
 refine .assign (.assign (.z (.seq (.sr (.move ?_)))))
 refine .eqNil ?_ Lb
 refine .z ?_
 refine .condF rfl rfl ?_
 refine .skip (.next (.seq ?_))
 cases hk:kget kv (gn,t,p) with
 | none =>
  refine .dr ([pt gp (.cells #[.pointer (some ⟨pp,0,none⟩),.map (some m)] 101 (0,0)),pt b3 (.cells #[sv gn,.int .i64 ((t:Nat):Int),.int .i64 ((p:Nat):Int)] 54 (0,0)),pt m (.map es cl)]) [] 11 mixed .autoJ ?_
  refine .tk 0 rfl .move ?_
  refine .tk 1 rfl .nilCheck ?_
  refine .tk 2 rfl (.fa ko) ?_
  refine .tk 3 rfl (.ld sc99) ?_
  refine .tk 4 rfl (.ldA ol) ?_
  refine .tk 5 rfl ((Qt.lookOk (k:=(gn,t,p)) kgL hy mp99 zv3).eq (v':=.tuple #[.int .i64 0,.bool false]) (by rw [x4,hk];rfl)) ?_
  refine .tk 6 rfl .move ?_
  refine .tk 7 rfl .extract ?_
  refine .tk 8 rfl .extract ?_
  refine .tk 9 rfl .assign ?_
  refine .tk 10 rfl .assign ?_
  refine .fin ?_
  refine .next (.seq (.sr (.move ?_)))
  refine .not ?_
  refine .z ?_
  refine .condT rfl rfl ?_
  refine .sr (.assign (.assign (.z ?_)))
  refine .ret (.thenRet (?_))
  refine .shutR (GR.opens gp f x kv) (pp,m,es,cl) hy ?_
  exact .ret2 (h1:=.tmp (t:=4) rfl) (h2:=.tmp (t:=5) rfl) ⟨_,⟨rfl,rfl⟩,Am.auto⟩
 | some ov =>
  refine .dr ([pt gp (.cells #[.pointer (some ⟨pp,0,none⟩),.map (some m)] 101 (0,0)),pt b3 (.cells #[sv gn,.int .i64 ((t:Nat):Int),.int .i64 ((p:Nat):Int)] 54 (0,0)),pt m (.map es cl)]) [] 11 mixed .autoJ ?_
  refine .tk 0 rfl .move ?_
  refine .tk 1 rfl .nilCheck ?_
  refine .tk 2 rfl (.fa ko) ?_
  refine .tk 3 rfl (.ld sc99) ?_
  refine .tk 4 rfl (.ldA ol) ?_
  refine .tk 5 rfl ((Qt.lookOk (k:=(gn,t,p)) kgL hy mp99 zv3).eq (v':=.tuple #[.int .i64 ov,.bool true]) (by rw [x4,hk];rfl)) ?_
  refine .tk 6 rfl .move ?_
  refine .tk 7 rfl .extract ?_
  refine .tk 8 rfl .extract ?_
  refine .tk 9 rfl .assign ?_
  refine .tk 10 rfl .assign ?_
  refine .fin ?_
  refine .next (.seq (.sr (.move ?_)))
  refine .not ?_
  refine .z ?_
  refine .condF rfl rfl ?_
  refine .skip (.next (.sr (.move (.assign (.assign (.z ?_))))))
  refine .ret (?_)
  refine .shutR (GR.opens gp f x kv) (pp,m,es,cl) hy ?_
  exact .ret2 (h1:=.tmp (t:=4) rfl) (h2:=.tmp (t:=5) rfl) ⟨_,⟨rfl,rfl⟩,Am.auto⟩
theorem Ry {gp f:Nat} {x:PS} {kv:List (KG×Int)}:Spec Tryz.prog 27 #[.pointer (some ⟨gp,0,none⟩)] [GR gp f x kv] fun F v M=>v=.int .i64 ((kv.length:Nat):Int)/\M=GR gp f x kv :: F:=by
 refine Spec.intro Tryz.func27 rfl rfl fun B F=>?_
 simp only [Tryz.ntmps27,List.cons_append,List.nil_append,env0,Nat.reduceAdd]
 refine .openR (GR.opens gp f x kv) fun y hy=>?_
 obtain ⟨pp,m,es,cl⟩:=y
 simp only [List.cons_append,List.nil_append] at hy ⊢
 refine .sr (.assign (.z (.seq (.sr (.move ?_)))))
 refine .eqNil ?_ Lb
 refine .z ?_
 refine .condF rfl rfl ?_
 refine .skip (.next (.sr (.move (.nilCheck ?_))))
 refine .fa ?_ ko
 refine .ld ?_ sc99
 refine .lenM ?_ mp99
 refine .assign (.z (.ret (?_)))
 refine .shutR (GR.opens gp f x kv) (pp,m,es,cl) hy ?_
 exact .ret1 (h1:=.tmp (t:=2) rfl) ⟨_,⟨congrArg (fun z:Nat=>Value.int .i64 (z:Int)) (by rw [hy.length,Mm]),rfl⟩,Am.auto⟩
theorem z54 :aw Tryz.prog 54=some (#[.string ⟨#[]⟩,.int .i64 0,.int .i64 0]):=by kernel_rfl
theorem Mp (s:ByteArray) (t:Int):ay Tryz.prog 54 [(0,.string s),(1,.int .i64 t)] #[.string s,.int .i64 t,.int .i64 0]:=fun w=>by kernel_rfl
theorem B3 {gp f:Nat} {x:PS} {kv:List (KG×Int)} {gn:ad} {t p:Nat} {o:Int} (h:kget kv (gn,t,p)=some o):Spec Tryz.prog 28 #[.pointer (some ⟨gp,0,none⟩),.agg #[sv gn,.int .i64 ((t:Nat):Int),.int .i64 ((p:Nat):Int)]] [GR gp f x kv] fun F v M=>v=.tuple #[.int .i64 o,.int .i64 0]/\M=GR gp f x kv :: F :=
 Spec.post' Hy fun F v M B w ⟨h1,h2⟩ hs=>⟨M,⟨by rw [h1,h],h2⟩,hs⟩
theorem B4 {gp f:Nat} {x:PS} {kv:List (KG×Int)} {gn:ad} {t p:Nat} (h:kget kv (gn,t,p)=none):Spec Tryz.prog 28 #[.pointer (some ⟨gp,0,none⟩),.agg #[sv gn,.int .i64 ((t:Nat):Int),.int .i64 ((p:Nat):Int)]] [GR gp f x kv] fun F v M=>v=.tuple #[.int .i64 0,.int .i64 4]/\M=GR gp f x kv :: F :=
 Spec.post' Hy fun F v M B w ⟨h1,h2⟩ hs=>⟨M,⟨by rw [h1,h],h2⟩,hs⟩
structure KGS where
 g:ad
 t:Int
 p:Int
def KGS.v (k:KGS):List Value:=[sv k.g,.int .i64 k.t,.int .i64 k.p]
theorem tz :Spec Tryz.prog 23 #[] [] fun F v M=>∃ d f gp,v=.tuple #[.pointer (some ⟨d,0,none⟩),.pointer (some ⟨f,0,none⟩),.pointer (some ⟨gp,0,none⟩),.bool true]/\M=GR gp f ⟨[],0,[]⟩ [] :: F:=by
 refine Spec.intro Tryz.func23 rfl rfl fun B F=>?_
 simp only [Tryz.ntmps23,List.cons_append,List.nil_append,env0,Nat.reduceAdd]
 refine .sr (.assign (.assign (.assign (.assign (.x ?_)))))
 refine .call (hc:=Tryz.call35) (sp:=Pm (n:=900) (by decide) (by decide)) (h:=?_)
 rintro _ _ ⟨d,rfl,rfl⟩
 refine .move ?_
 refine .extract (.extract ?_)
 refine .assign (.assign (.z (.seq (.sr (.move ?_)))))
 refine .nei ?_
 refine .move (.gT (.move (.gT ?_)))
 refine .eqNil ?_ Dz
 refine .pickF (.move (.gT (.move (.gT ?_))))
 refine .call (hc:=Tryz.call36) (sp:=Rp p18_is) (h:=?_)
 rintro _ _ ⟨J,rfl,hJ,rfl⟩
 refine .gT ?_
 refine .nei ?_
 refine .pickF (.z ?_)
 refine .condF rfl (cB9 (by first|simp;done|simp;omega|omega)) ?_
 refine .skip (.next (.sr (.move ?_)))
 refine .call (hc:=Tryz.call37) (sp:=De p18_is hJ) (h:=?_)
 rintro _ _ ⟨f,rfl,rfl⟩
 refine .move ?_
 refine .extract (.extract ?_)
 refine .assign (.assign (.z (.seq (.sr (.move ?_)))))
 refine .nei ?_
 refine .move (.gT (.move (.gT ?_)))
 refine .eqNil ?_ se
 refine .pickF (.move (.gT (.move (.gT ?_))))
 refine .call (hc:=Tryz.call52) (sp:=O6) (h:=?_)
 rintro _ _ ⟨rfl,rfl⟩
 refine .gT ?_
 refine .nei ?_
 refine .pickF (.z ?_)
 refine .condF rfl (cB9 (by first|simp;done|simp;omega|omega)) ?_
 refine .skip (.next (.sr (.move ?_)))
 refine .call (hc:=Tryz.call26) (sp:=Dl) (h:=?_)
 rintro _ _ ⟨gp,rfl,rfl⟩
 refine .move ?_
 refine .extract (.extract ?_)
 refine .assign (.assign (.x (.move (.move (.move (.move ?_))))))
 refine .eqi ?_
 refine .move (.gT (.move (.gT ?_)))
 refine .neNil ?_ Lb
 refine .pickT (.assign (.assign (.assign (.assign (.z ?_)))))
 refine .ret (?_)
 exact .ret4 (h1:=.tmp (t:=0) rfl) (h2:=.tmp (t:=1) rfl) (h3:=.tmp (t:=2) rfl) (h4:=.tmp (t:=3) rfl) ⟨_,⟨d,f,gp,rfl,rfl⟩,Am.auto⟩
theorem t6 :Spec Tryz.prog 22 #[] [] fun F v M=>v=.bool true/\M=F:=by
 refine Spec.intro Tryz.func22 rfl rfl fun B F=>?_
 simp only [Tryz.ntmps22,List.cons_append,List.nil_append,env0,Nat.reduceAdd]
 have hk1:kget (κ:=KG) (kput (kput [] ([103],1,0) ((5:Nat):Int)) ([103],1,0) ((7:Nat):Int)) ([103],1,0)=some 7:=by decide
 have hk2:kget (κ:=KG) (kput (kput [] ([103],1,0) ((5:Nat):Int)) ([103],1,0) ((7:Nat):Int)) ([104],1,0)=none:=by decide
 have hk3:((kput (kput [] ([103],1,0) ((5:Nat):Int)) ([103],1,0) ((7:Nat):Int)):List (KG×Int)).length=1:=by decide
 refine .sr (.assign (.x ?_))
 refine .call (hc:=Tryz.call23) (sp:=tz) (h:=?_)
 rintro _ _ ⟨d,f,gp,rfl,rfl⟩
 refine .move ?_
 refine .extract (.extract (.extract (.extract ?_)))
 refine .assign (.assign (.assign (.assign (.x ?_))))
 refine .build ?_ (Mp _ _)
 refine .alloc z54 fun b5=>?_
 refine .stV ?_ ol
 refine .z (.seq (.sr (.move ?_)))
 refine .not ?_
 refine .move (.gT (.move (.gT ?_)))
 refine .ldA ?_ ol
 refine .gT ?_
 refine .call (hc:=Tryz.call24) (sp:=r3 (gp:=gp) (f:=f) (kv:=[]) (n:=0) (o:=5) (gn:=[103]) (t:=1) (p:=0) (now:=0) GkI.zero (by decide) (by decide) (by decide) (by decide) (by decide) (by decide) (by decide) (.inr (by decide))) (h:=?_)
 rintro _ _ ⟨rfl,rfl⟩
 refine .gT ?_
 refine .nei ?_
 refine .pickF (.move (.gT (.move (.gT ?_))))
 refine .ldA ?_ ol
 refine .gT ?_
 refine .call (hc:=Tryz.call24) (sp:=r3 (gp:=gp) (f:=f) (kv:=kput (κ:=KG) [] ([103],1,0) ((5:Nat):Int)) (n:=1) (o:=7) (gn:=[103]) (t:=1) (p:=0) (now:=0) (GkI.zero.add (k:=([103],1,0)) (o:=5) (now:=0) (by decide)) (by decide) (by decide) (by decide) (by decide) (by decide) (by decide) (by decide) (.inr (by decide))) (h:=?_)
 rintro _ _ ⟨rfl,rfl⟩
 refine .gT ?_
 refine .nei ?_
 refine .pickF (.z ?_)
 refine .condF rfl rfl ?_
 refine .skip (.next (.sr (.move ?_)))
 refine .ldA ?_ ol
 refine .call (hc:=Tryz.call28) (sp:=B3 (gp:=gp) (f:=f) (gn:=[103]) (t:=1) (p:=0) hk1) (h:=?_)
 rintro _ _ ⟨rfl,rfl⟩
 refine .move ?_
 refine .extract (.extract (.assign (.assign (.x (.move ?_)))))
 refine .build ?_ (Mp _ _)
 refine .call (hc:=Tryz.call28) (sp:=B4 (gp:=gp) (f:=f) (gn:=[104]) (t:=1) (p:=0) hk2) (h:=?_)
 rintro _ _ ⟨rfl,rfl⟩
 refine .move ?_
 refine .extract (.extract (.assign (.assign (.x (.move ?_)))))
 refine .eqi ?_
 refine .move (.gT (.move (.gT ?_)))
 refine .eqi ?_
 refine .pickT (.move (.gT (.move (.gT ?_))))
 refine .eqi ?_
 refine .pickT (.move (.gT (.move (.gT ?_))))
 refine .call (hc:=Tryz.call27) (sp:=Ry (gp:=gp) (f:=f)) (h:=?_)
 rintro _ _ ⟨rfl,rfl⟩
 rw [hk3]
 refine .gT ?_
 refine .eqi ?_
 refine .pickT (.assign (.z (.ret (?_))))
 exact .ret1 (h1:=.tmp (t:=0) rfl) ⟨_,⟨rfl,rfl⟩,Am.auto⟩
theorem Hz {k:Int} {n:Nat} (h0:0 < n) (h:0<=k ∨ (n:Int) ∣ k):k.tmod (n:Int)=k % (n:Int):=by
 rw [Int.tmod_eq_emod,if_pos h];omega
theorem H0 {k:Int} {n:Nat} (h0:0 < n) (h:¬ (0<=k ∨ (n:Int) ∣ k)):k.tmod (n:Int)=k % (n:Int) - n:=by
 rw [Int.tmod_eq_emod,if_neg h]
 omega
theorem O7 {k:Int} {n:Nat} (h0:0 < n) (h1:n<=1073741824) (hk:-9223372036854775808<=k/\k<=9223372036854775807):Spec Tryz.prog 15 #[.int .i64 k,nI n] [] fun F v M=>v=.int .i64 (k % (n:Int))/\M=F:=by
 refine Spec.intro Tryz.func15 rfl rfl fun B F=>?_
 simp only [Tryz.ntmps15,List.cons_append,List.nil_append,env0,Nat.reduceAdd]
 have hp:=Int.emod_nonneg k (show (n:Int)≠0 by omega)
 have hl:=Int.emod_lt_of_pos k (show (0:Int) < n by omega)
 by_cases h:0<=k ∨ (n:Int) ∣ k
 ·have ht:=Hz h0 h
  refine .sr (.assign (.x (.move (.move ?_))))
  refine .bin (r:=.int .i64 (k.tmod (n:Int))) ?_ (cj fun w=>by simp [bo,Op.intDiv,show (n:Int)≠0 by omega,show n≠0 by omega]) rfl rfl rfl
  refine .cast (d:=7) (u:=.int .i64 (k % (n:Int))) rfl (cI9 ht) ?_
  refine .assign (.z (.seq (.sr (.move ?_))))
  refine .lss ?_
  refine .z ?_
  refine .condF rfl (cB9 (by first|simp;done|simp;omega|omega)) ?_
  refine .skip (.next (.sr (.move (.assign (.z ?_)))))
  refine .ret (?_)
  exact .ret1 (h1:=.tmp (t:=4) rfl) ⟨_,⟨rfl,rfl⟩,Am.auto⟩
 ·have ht:=H0 h0 h
  refine .sr (.assign (.x (.move (.move ?_))))
  refine .bin (r:=.int .i64 (k.tmod (n:Int))) ?_ (cj fun w=>by simp [bo,Op.intDiv,show (n:Int)≠0 by omega,show n≠0 by omega]) rfl rfl rfl
  refine .cast (d:=7) (u:=.int .i64 (k % (n:Int) - n)) rfl (cI9 ht) ?_
  refine .assign (.z (.seq (.sr (.move ?_))))
  refine .lss ?_
  refine .z ?_
  refine .condT rfl (cB9 (by first|simp;done|simp;omega|omega)) ?_
  refine .region (.move (.move ?_))
  refine .add ?_
  refine .assign (.x (.move (.assign (.z (.ret (?_))))))
  exact .ret1 (h1:=.tmp (t:=4) rfl) ⟨_,⟨cI9 (by omega),rfl⟩,Am.auto⟩
theorem z61 :aw Tryz.prog 61=some (#[.int .i64 0,.int .i64 0,.int .i64 0,.int .i64 0,.int .i64 0,.int .i64 0,.int .i64 0,.int .i64 0]):=by kernel_rfl
theorem ar61 :jk Tryz.prog 61 60 2 4=true:=by kernel_rfl
theorem ar60 :jk Tryz.prog 60 59 2 2=true:=by kernel_rfl
theorem ar59 :jk Tryz.prog 59 3 2 1=true:=by kernel_rfl
theorem bk4 :sn Tryz.prog 4=true:=by kernel_rfl
theorem H1 (s:ByteArray) (t p:Int):ay Tryz.prog 54 [(0,.string s),(1,.int .i64 t),(2,.int .i64 p)] #[.string s,.int .i64 t,.int .i64 p]:=fun w=>by kernel_rfl
theorem H2 (s t:ByteArray):ax Tryz.prog 62 2 [(0,.string s),(1,.string t)] 9 #[.string s,.string t]:=fun w=>by kernel_rfl
def gnA (a:Nat):ad:=if a=0 then [97] else [98]
theorem H3 {a:Nat} (h:a < 2):([sv [97],sv [98]]:List Value)[a]?=some (sv (gnA a)):=by
 match a,h with
 | 0,_=>rfl
 | 1,_=>rfl
theorem Mq (a:Nat):ak (gnA a)=true/\(gnA a).length=1:=by
 unfold gnA
 split<;>decide
def keyA (k:Nat):KG:=(gnA (k % 2),1+k / 2 % 2,k / 4)
def posA (k:Nat):Nat:=k % 2 * 4+k / 2 % 2 * 2+k / 4
theorem zu {k:Nat} (h:k < 8):posA k < 8:=by unfold posA;omega
theorem Lf :∀ j,j < 8->∀ k,k < 8->posA j=posA k->j=k:=by decide
theorem Lg {j k:Nat} (hj:j < 8) (hk:k < 8) (h:posA j=posA k):j=k:=Lf j hj k hk h
theorem Lh {j k:Nat} (hj:j < 8) (hk:k < 8) (h:keyA j=keyA k):j=k:=by
 unfold keyA at h
 injection h with h1 h2
 injection h2 with h2 h3
 have h4:j % 2=k % 2:=by
  unfold gnA at h1
  by_cases a:j % 2=0<;>by_cases b:k % 2=0
  ·omega
  ·rw [if_pos a,if_neg b] at h1;cases h1
  ·rw [if_neg a,if_pos b] at h1;cases h1
  ·omega
 omega
structure ApI (i:Nat) (L:List Int) (kv:List (KG×Int)) (x:PS) (all:List Bt):Prop where
 gr:GkI i x all
 len:kv.length<=i
 l8:L.length=8
 at_:∀ k,k < 8->∃ v:Int,L[posA k]?=some v/\0<=v/\kget kv (keyA k)=if v=0 then none else some v
theorem ApI.zero :ApI 0 (List.replicate 8 0) [] ⟨[],0,[]⟩ []:=by
 refine ⟨GkI.zero,Nat.le_refl _,rfl,fun k hk=>⟨0,?_,Int.le_refl _,rfl⟩⟩
 rw [List.getElem?_replicate,if_pos (zu hk)]
theorem ApI.add {i k:Nat} {L:List Int} {kv:List (KG×Int)} {x:PS} {all:List Bt} {now:Int} (h:ApI i L kv x all) (hk:k < 8):ApI (i+1) (L.set (posA k) (((i+1:Nat)):Int)) (kput kv (keyA k) (((i+1:Nat)):Int)) (x.add 2048 (grB i (keyA k) (i+1) now)) (all++[grB i (keyA k) (i+1) now]):=by
 refine ⟨h.gr.add (by show (gnA (k % 2)).length<=3;rw [(Mq _).2];decide),?_,by rw [List.length_set];exact h.l8,fun j hj=>?_⟩
 ·have h1:=h.len
  rw [pu]
  split<;>omega
 ·rw [bz]
  by_cases e:j=k
  ·subst e
   refine ⟨(((i+1:Nat)):Int),?_,by omega,?_⟩
   ·rw [List.getElem?_set_self (by rw [h.l8];exact zu hj)]
   ·rw [if_pos rfl,if_neg (by omega)]
  ·obtain ⟨v,h1,h2,h3⟩:=h.at_ j hj
   refine ⟨v,?_,h2,?_⟩
   ·rw [List.getElem?_set_ne (fun hp=>e (Lg hj hk hp.symm))]
    exact h1
   ·rw [if_neg (fun hp=>e (Lh hj hk hp)),h3]
theorem apV {L:List Int} {k:Nat} {v:Int} (h:L[posA k]?=some v):(ints L)[posA k]?=some (.int .i64 v):=by
 unfold ints
 rw [List.getElem?_map,h]
 rfl
theorem Li (L:List Int) (i:Nat) (v:Int):(ints L).set i (.int .i64 v)=ints (L.set i v):=by
 unfold ints
 rw [List.map_set]
theorem gk {R:HP} {A0:Option Addr} {m c0:Nat} {xs:List Int} (hR0:xs=[] ∨ Reads R A0 (ints xs)) (hm:xs.length=m) (hxs:∀ x∈xs,-9223372036854775808<=x/\x<=9223372036854775807) (hbig:m<=9223372036854775807):Spec Tryz.prog 7 #[.slice A0 m c0] [R] fun F v M=>v=.bool true/\M=R :: F:=by
 refine Spec.intro Tryz.func7 rfl rfl fun B F=>?_
 simp only [Tryz.ntmps7,List.cons_append,List.nil_append,env0,Nat.reduceAdd]
 refine .sr (.assign (.z (.seq (.sr (.move ?_)))))
 refine .lenS ?_ sl26
 refine .gtr ?_
 refine .z ?_
 refine .cond rfl (fun hb=>?_) (fun hb=>?_)
 ·refine .sr ?_
  refine .call (hc:=Tryz.call22) (sp:=t6) (h:=?_)
  rintro _ _ ⟨rfl,rfl⟩
  refine .assign (.z ?_)
  refine .ret (.thenRet (?_))
  exact .ret1 (h1:=.tmp (t:=2) rfl) ⟨_,⟨rfl,rfl⟩,Am.auto⟩
 ·have hm60:m<=60:=by have:=of_decide_eq_false hb;omega
  refine .skip (.next (.sr ?_))
  refine .call (hc:=Tryz.call23) (sp:=tz) (h:=?_)
  rintro _ _ ⟨d,f,gp,rfl,rfl⟩
  refine .move ?_
  refine .extract (.extract (.extract (.extract ?_)))
  refine .assign (.assign (.assign (.assign (.z (.seq (.sr (.move ?_)))))))
  refine .not ?_
  refine .z ?_
  refine .condF rfl rfl ?_
  refine .skip (.next (.sr ?_))
  refine .allocL (us:=ints (List.replicate 8 0)) z61 rfl fun b7=>?_
  refine .z (.seq (.sr (.assign (.z (.block ?_)))))
  refine .loopA (σ:=Nat×List Int×List (KG×Int)×PS×List Bt) (fun y=>[(0,.slice A0 m c0),(5,.pointer (some ⟨gp,0,none⟩)),(7,.pointer (some ⟨b7,0,none⟩)),(8,.int .i64 ((y.1:Nat):Int))]) (fun y=>[GR gp f y.2.2.2.1 y.2.2.1,row b7 61 (ints y.2.1),R]++F) (fun y=>y.1<=m/\ApI y.1 y.2.1 y.2.2.1 y.2.2.2.1 y.2.2.2.2) (fun y=>m - y.1) (0,List.replicate 8 0,[],⟨[],0,[]⟩,[]) ⟨Nat.zero_le _,ApI.zero⟩ ?_
  rintro y hy
  obtain ⟨i,L,kv,x,all⟩:=y
  obtain ⟨him,hx⟩:=hy
  simp only at him hx ⊢
  refine .seq (.sr (.move (.move ?_)))
  refine .lenS ?_ sl26
  refine .lss ?_
  refine .z ?_
  refine .cond rfl (fun hd=>?_) (fun hd=>?_)
  ·have hlt:i < m:=by have h:(i:Int) < (m:Int):=of_decide_eq_true hd;omega
   have hil:((i:Nat):Int).toNat < xs.length:=by omega
   have hR:=hR0.resolve_left (by intro h;subst h;simp at hil)
   rcases A0 with _ | ⟨ab,ao,asp⟩
   ·exact absurd hR (fun h=>by have h2:ints xs=[]:=h;simp [ints] at h2;subst h2;simp at hil)
   have hsp:asp=none:=hR.1
   subst hsp
   have hxr:=hxs _ (List.getElem_mem hil)
   obtain ⟨z,hz⟩:∃ z,xs[((i:Nat):Int).toNat]=z:=⟨_,rfl⟩
   rw [hz] at hxr
   have hgx:(ints xs)[((i:Nat):Int).toNat]?=some (.int .i64 z):=by unfold ints;rw [List.getElem?_map,List.getElem?_eq_getElem hil,hz];rfl
   obtain ⟨k,hkk⟩:∃ k:Nat,z % ((8:Nat):Int)=((k:Nat):Int):=⟨(z % ((8:Nat):Int)).toNat,by omega⟩
   have hk8:k < 8:=by omega
   have hkl:=hx.len
   have hL8:=hx.l8
   have hgn:=Mq (k % 2)
   refine .skip (.next (.seq (.block (.sr (.move (.move ?_))))))
   refine .idx1 ?_ so26
   refine .ldR ?_ sc3 hR hgx
   refine .call (hc:=Tryz.call15) (sp:=O7 (k:=z) (n:=8) (by decide) (by decide) hxr) (h:=?_)
   rintro _ _ ⟨rfl,rfl⟩
   rw [hkk]
   refine .assign (.z (.seq (.sr (.move ?_))))
   refine .buildS (fun b38=>?_) (H2 _ _)
   refine .move ?_
   refine .rem ?_
   refine .cast (d:=40) (u:=.int .i64 ((k % 2:Nat):Int)) rfl (cI9 (by omega)) ?_
   refine .idx1 ?_ so62
   refine .ldR (i:=k % 2) (R:=pt b38 (.cells #[sv [97],sv [98]] 9 (0,0))) (v:=sv (gnA (k % 2))) ?_ sc9 Reads.pt (H3 (by omega))
   refine .move ?_
   refine .quo ?_
   refine .rem ?_
   refine .cast (d:=45) (u:=.int .i64 ((k / 2 % 2:Nat):Int)) rfl (cI9 (by omega)) ?_
   refine .add ?_
   refine .cast (d:=46) (u:=.int .i64 ((1+k / 2 % 2:Nat):Int)) rfl (cI9 (by omega)) ?_
   refine .move ?_
   refine .quo ?_
   refine .cast (d:=48) (u:=.int .i64 ((k / 4:Nat):Int)) rfl (cI9 (by omega)) ?_
   refine .build ?_ (H1 _ _ _)
   refine .move ?_
   refine .add ?_
   refine .cast (d:=51) (u:=.int .i64 ((i+1:Nat):Int)) rfl (cI9 (by omega)) ?_
   refine .call (hc:=Tryz.call24) (sp:=r3 (gp:=gp) (f:=f) (kv:=kv) (n:=i) (o:=i+1) (gn:=gnA (k % 2)) (t:=1+k / 2 % 2) (p:=k / 4) (now:=0) hx.gr (by omega) hgn.1 (by rw [hgn.2];decide) (by omega) (by omega) (by omega) (by decide) (.inr (by omega))) (h:=?_)
   rintro _ _ ⟨rfl,rfl⟩
   refine .nei ?_
   refine .z ?_
   refine .condF rfl rfl ?_
   refine .skip (.next (.region (.move ?_)))
   refine .rem ?_
   refine .cast (d:=55) (u:=.int .i64 ((k % 2:Nat):Int)) rfl (cI9 (by omega)) ?_
   refine .move ?_
   refine .quo ?_
   refine .rem ?_
   refine .cast (d:=58) (u:=.int .i64 ((k / 2 % 2:Nat):Int)) rfl (cI9 (by omega)) ?_
   refine .move ?_
   refine .quo ?_
   refine .cast (d:=60) (u:=.int .i64 ((k / 4:Nat):Int)) rfl (cI9 (by omega)) ?_
   refine .move ?_
   refine .add ?_
   refine .cast (d:=62) (u:=.int .i64 ((i+1:Nat):Int)) rfl (cI9 (by omega)) ?_
   refine .idxA ?_ ar61
   refine .idxA ?_ ar60
   refine .idxA ?_ ar59
   refine .cast (d:=65) (u:=.pointer (some ⟨b7,posA k,none⟩)) rfl (congrArg (fun z=>Value.pointer (some ⟨b7,z,none⟩)) (by unfold posA;omega)) ?_
   refine .stL (xs:=ints L) (i:=posA k) ?_ sc3 (by unfold ints;rw [List.length_map,hL8];exact zu hk8)
   rw [Li]
   refine .nil (.blockNormal (.next (.region (.move ?_))))
   refine .add ?_
   refine .assign (.nil ?_)
   exact .back (i+1,L.set (posA k) (((i+1:Nat)):Int),kput kv (keyA k) (((i+1:Nat)):Int),x.add 2048 (grB i (keyA k) (i+1) 0),all++[grB i (keyA k) (i+1) 0]) ⟨hlt,hx.add hk8⟩ (show m - (i+1) < m - i by omega)
  ·have hge:i=m:=by have h:¬ (i:Int) < (m:Int):=of_decide_eq_false hd;omega
   subst hge
   have hL8:=hx.l8
   refine .exit (.thenExit (.thenExit (.blockExit (?_))))
   refine .next (.seq (.sr (.assign (.z (.block ?_)))))
   refine .loopA (σ:=Nat) (fun k=>[(5,.pointer (some ⟨gp,0,none⟩)),(7,.pointer (some ⟨b7,0,none⟩)),(10,.int .i64 ((k:Nat):Int))]) (fun k=>[GR gp f x kv,row b7 61 (ints L),R]++F) (fun k=>k<=8) (fun k=>8 - k) 0 (Nat.zero_le _) ?_
   rintro k hk
   refine .seq (.sr (.move ?_))
   refine .lss ?_
   refine .z ?_
   refine .cond rfl (fun hd=>?_) (fun hd=>?_)
   ·have hk8:k < 8:=by have h:((k:Nat):Int) < 8:=of_decide_eq_true hd;omega
    obtain ⟨v,hv1,hv2,hv3⟩:=hx.at_ k hk8
    by_cases hv0:v=0
    ·rw [if_pos hv0] at hv3
     refine .skip (.next (.seq (.block (.sr (.move ?_)))))
     refine .buildS (fun b72=>?_) (H2 _ _)
     refine .move ?_
     refine .rem ?_
     refine .cast (d:=74) (u:=.int .i64 ((k % 2:Nat):Int)) rfl (cI9 (by omega)) ?_
     refine .idx1 ?_ so62
     refine .ldR (i:=k % 2) (R:=pt b72 (.cells #[sv [97],sv [98]] 9 (0,0))) (v:=sv (gnA (k % 2))) ?_ sc9 Reads.pt (H3 (by omega))
     refine .move ?_
     refine .quo ?_
     refine .rem ?_
     refine .cast (d:=79) (u:=.int .i64 ((k / 2 % 2:Nat):Int)) rfl (cI9 (by omega)) ?_
     refine .add ?_
     refine .cast (d:=80) (u:=.int .i64 ((1+k / 2 % 2:Nat):Int)) rfl (cI9 (by omega)) ?_
     refine .move ?_
     refine .quo ?_
     refine .cast (d:=82) (u:=.int .i64 ((k / 4:Nat):Int)) rfl (cI9 (by omega)) ?_
     refine .build ?_ (H1 _ _ _)
     refine .call (hc:=Tryz.call28) (sp:=B4 (gp:=gp) (f:=f) (gn:=gnA (k % 2)) (t:=1+k / 2 % 2) (p:=k / 4) hv3) (h:=?_)
     rintro _ _ ⟨rfl,rfl⟩
     refine .move ?_
     refine .extract (.extract (.assign (.assign (.x (.move ?_)))))
     refine .rem ?_
     refine .cast (d:=88) (u:=.int .i64 ((k % 2:Nat):Int)) rfl (cI9 (by omega)) ?_
     refine .move ?_
     refine .quo ?_
     refine .rem ?_
     refine .cast (d:=91) (u:=.int .i64 ((k / 2 % 2:Nat):Int)) rfl (cI9 (by omega)) ?_
     refine .move ?_
     refine .quo ?_
     refine .cast (d:=93) (u:=.int .i64 ((k / 4:Nat):Int)) rfl (cI9 (by omega)) ?_
     refine .idxA ?_ ar61
     refine .idxA ?_ ar60
     refine .idxA ?_ ar59
     refine .cast (d:=96) (u:=.pointer (some ⟨b7,posA k,none⟩)) rfl (congrArg (fun z=>Value.pointer (some ⟨b7,z,none⟩)) (by unfold posA;omega)) ?_
     refine .ldL (xs:=ints L) (i:=posA k) (v:=.int .i64 v) ?_ sc3 (apV hv1)
     refine .assign (.x (.move ?_))
     refine .eqi ?_
     refine .move ?_
     refine .gtr ?_
     refine .cast (d:=101) (u:=.bool false) rfl (cB9 (decide_eq_false (by omega))) ?_
     refine .neB ?_ bk4
     refine .move (.gT (.move (.gT (.move (.gT ?_)))))
     refine .nei ?_
     refine .pickF (.z ?_)
     refine .condF rfl (cB9 (by first|exact decide_eq_true (by omega)|exact decide_eq_false (by omega)|simp;done|simp;omega|omega)) ?_
     refine .skip (.blockNormal (.next (.region (.move ?_))))
     refine .add ?_
     refine .assign (.nil ?_)
     exact .back (k+1) (show k+1<=8 from hk8) (show 8 - (k+1) < 8 - k by omega)
    ·rw [if_neg hv0] at hv3
     refine .skip (.next (.seq (.block (.sr (.move ?_)))))
     refine .buildS (fun b72=>?_) (H2 _ _)
     refine .move ?_
     refine .rem ?_
     refine .cast (d:=74) (u:=.int .i64 ((k % 2:Nat):Int)) rfl (cI9 (by omega)) ?_
     refine .idx1 ?_ so62
     refine .ldR (i:=k % 2) (R:=pt b72 (.cells #[sv [97],sv [98]] 9 (0,0))) (v:=sv (gnA (k % 2))) ?_ sc9 Reads.pt (H3 (by omega))
     refine .move ?_
     refine .quo ?_
     refine .rem ?_
     refine .cast (d:=79) (u:=.int .i64 ((k / 2 % 2:Nat):Int)) rfl (cI9 (by omega)) ?_
     refine .add ?_
     refine .cast (d:=80) (u:=.int .i64 ((1+k / 2 % 2:Nat):Int)) rfl (cI9 (by omega)) ?_
     refine .move ?_
     refine .quo ?_
     refine .cast (d:=82) (u:=.int .i64 ((k / 4:Nat):Int)) rfl (cI9 (by omega)) ?_
     refine .build ?_ (H1 _ _ _)
     refine .call (hc:=Tryz.call28) (sp:=B3 (gp:=gp) (f:=f) (gn:=gnA (k % 2)) (t:=1+k / 2 % 2) (p:=k / 4) (o:=v) hv3) (h:=?_)
     rintro _ _ ⟨rfl,rfl⟩
     refine .move ?_
     refine .extract (.extract (.assign (.assign (.x (.move ?_)))))
     refine .rem ?_
     refine .cast (d:=88) (u:=.int .i64 ((k % 2:Nat):Int)) rfl (cI9 (by omega)) ?_
     refine .move ?_
     refine .quo ?_
     refine .rem ?_
     refine .cast (d:=91) (u:=.int .i64 ((k / 2 % 2:Nat):Int)) rfl (cI9 (by omega)) ?_
     refine .move ?_
     refine .quo ?_
     refine .cast (d:=93) (u:=.int .i64 ((k / 4:Nat):Int)) rfl (cI9 (by omega)) ?_
     refine .idxA ?_ ar61
     refine .idxA ?_ ar60
     refine .idxA ?_ ar59
     refine .cast (d:=96) (u:=.pointer (some ⟨b7,posA k,none⟩)) rfl (congrArg (fun z=>Value.pointer (some ⟨b7,z,none⟩)) (by unfold posA;omega)) ?_
     refine .ldL (xs:=ints L) (i:=posA k) (v:=.int .i64 v) ?_ sc3 (apV hv1)
     refine .assign (.x (.move ?_))
     refine .eqi ?_
     refine .move ?_
     refine .gtr ?_
     refine .cast (d:=101) (u:=.bool true) rfl (cB9 (decide_eq_true (by omega))) ?_
     refine .neB ?_ bk4
     refine .move (.gT (.move (.gT (.move (.gT ?_)))))
     refine .nei ?_
     refine .pickF (.z ?_)
     refine .condF rfl (cB9 (by first|exact decide_eq_true (by omega)|exact decide_eq_false (by omega)|simp;done|simp;omega|omega)) ?_
     refine .skip (.blockNormal (.next (.region (.move ?_))))
     refine .add ?_
     refine .assign (.nil ?_)
     exact .back (k+1) (show k+1<=8 from hk8) (show 8 - (k+1) < 8 - k by omega)
   ·refine .exit (.thenExit (.thenExit (.blockExit (?_))))
    refine .next (.sr ?_)
    refine .call (hc:=Tryz.call22) (sp:=t6) (h:=?_)
    rintro _ _ ⟨rfl,rfl⟩
    refine .assign (.z (.ret (?_)))
    exact .ret1 (h1:=.tmp (t:=2) rfl) ⟨_,⟨rfl,rfl⟩,Am.auto⟩
end Go.Proofs.YtmihjfcbofejoaaGreatDoor
end
