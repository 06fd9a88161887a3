/- A part of the proof of iv: texts of this work put together. -/
import Derived.Test.YtmihjfcbofejoaaGreatDoorQh5
import Derived.KernelRfl
set_option linter.unusedVariables false
set_option linter.unusedSimpArgs false
set_option linter.unusedSectionVars false
section
namespace Go.Proofs.YtmihjfcbofejoaaGreatDoor
open Go
theorem sc30 :ai Tryz.prog 30=true:=by kernel_rfl
theorem Pe :ad Tryz.prog 84 2 2=true:=by kernel_rfl
theorem Uk :ad Tryz.prog 84 1 1=true:=by kernel_rfl
theorem z86 :ba Tryz.prog 86=some (#[.pointer none]):=by kernel_rfl
theorem bsPS (s:Nat):bc Tryz.prog 82 1 [(0,.pointer (some ⟨s,0,none⟩))] 86 #[.pointer (some ⟨s,0,none⟩)]:=fun w=>by kernel_rfl
def addP (seg:Int) (pre:List SegA) (base:Nat) (bs:List Bt) (b:Bt):List SegA :=
 if (bs.flatMap batB).length=0 ∨ (((bs.flatMap batB).length:Nat):Int)+(((batB b).length:Nat):Int)<=seg then pre++[(base,bs++[b])] else pre++[(base,bs)]++[(b.base.toNat,[b])]
def addN (seg:Int) (bs:List Bt) (b:Bt) (N:Nat):Nat:=if (bs.flatMap batB).length=0 ∨ (((bs.flatMap batB).length:Nat):Int)+(((batB b).length:Nat):Int)<=seg then N else N+1
theorem z2 {l0:List Seg} {s base:Nat} {bs bs':List Bt}:(l0++[(⟨s,base,bs⟩:Seg)]).length=(l0++[(⟨s,base,bs'⟩:Seg)]).length/\(l0++[(⟨s,base,bs⟩:Seg)]).map Seg.ptr=(l0++[(⟨s,base,bs'⟩:Seg)]).map Seg.ptr:=by
 refine ⟨by simp,?_⟩
 rw [List.map_append,List.map_append]
 rfl
theorem p6 (l:List Value) (h:∀ v∈l,∃ s:Nat,v=.pointer (some ⟨s,0,none⟩)):∀ u∈l,Value.single u=true:=fun u hu=>by
 obtain ⟨s,rfl⟩:=h u hu
 rfl
theorem Nt {pp f N base nb:Nat} {dn:aa} {st:Sts} {p:Pl} {pre:List SegA} {bs:List Bt} {b:Bt} {A:Addr} {R:HP} {bp bX bb bn gx qx cb:Nat} {F0:FM} (hp:PlP p) (hf:FitsP p N (pre++[(base,bs)])) (hN1:N+1<=200) (hN2:N+4<=p.ino) (hN3:pre.length<=55) (hdn:dn.length<=900) (hR:Reads R (some A) b.rv) (hE:batE b=0) (hl:b.recs.length<=10000) (hnb:b.base=((nb:Nat):Int)) (hnx:b.base=kz ((base:Nat):Int) bs) (hbs:∀ y∈(pre++[(base,bs)]),y.1<=1125899906842624/\(bs≠[]->((y.1:Nat):Int) < b.base)) (hrows:bs.length<=9999) (hsz:(bs.flatMap batB).length<=60000):Spec Tryz.prog 42 #[.pointer (some ⟨bp,0,none⟩),.pointer (some ⟨bX,0,none⟩),.pointer (some ⟨bb,0,none⟩),.pointer (some ⟨bn,0,none⟩)] [DBF f p dn N F0 (pre++[(base,bs)]) 0,bun [pt bp (.cells #[.pointer (some ⟨pp,0,none⟩)] 30 (0,0)),pt bX (.cells #[.slice (some ⟨gx,0,none⟩) (batB b).length qx] 79 (0,0)),pt bb (.cells (b.v (.slice (some A) b.recs.length cb)).toArray 44 (0,0)),pt bn (.cells #[.int .i64 ((nb:Nat):Int)] 3 (0,0)),PT pp f dn st [] (pre++[(base,bs)]),R]] fun F v M=>v=okV/\M=DBF f p dn (addN st.seg bs b N) F0 (addP st.seg pre base bs b) 49 :: bun [pt bp (.cells #[.pointer (some ⟨pp,0,none⟩)] 30 (0,0)),pt bX (.cells #[.slice (some ⟨gx,0,none⟩) (batB b).length qx] 79 (0,0)),pt bb (.cells (b.v (.slice (some A) b.recs.length cb)).toArray 44 (0,0)),pt bn (.cells #[.int .i64 ((nb:Nat):Int)] 3 (0,0)),PT pp f dn st [] (addP st.seg pre base bs b),R] :: F:=by
 refine Spec.intro Tryz.func42 rfl rfl fun B F=>?_
 simp only [Tryz.ntmps42,List.cons_append,List.nil_append,env0,Nat.reduceAdd]
 refine .openR (bun.opens _) fun _ _=>?_
 simp only [List.cons_append,List.nil_append]
 refine .openR (PT.opens pp f dn st [] (pre++[(base,bs)])) fun x hx=>?_
 obtain ⟨g0,c0,l⟩:=x
 obtain ⟨hls,hc1,hc2,hn2⟩:=hx
 simp only [ptLs,List.cons_append,List.nil_append] at hls hc1 hc2 hn2 ⊢
 obtain ⟨l0,z,rfl,hl0,hz⟩:=zy hls
 obtain ⟨s,zb,zbs⟩:=z
 obtain ⟨rfl,rfl⟩:base=zb/\bs=zbs:=by injection hz with h1 h2;exact ⟨h1.symm,h2.symm⟩
 have hn:0 < (l0++[(⟨s,base,bs⟩:Seg)]).length:=by simp
 have hlen:(l0++[(⟨s,base,bs⟩:Seg)]).length=(pre++[(base,bs)]).length:=by rw [<- hls,List.length_map]
 have hflen:=hf.len
 obtain ⟨hb6,_⟩:=kg hE
 obtain ⟨hbr,_,_⟩:=iu hE
 refine .sr (.assign (.x ?_))
 refine .ld ?_ sc30
 refine .call (hc:=Tryz.call43) (sp:=vv (pp:=pp) (f:=f) (g:=g0) (r:=([]:List Value).length) (n:=(l0++[(⟨s,base,bs⟩:Seg)]).length) (c:=c0 - ([]:List Value).length) (dn:=dn) (st:=st) (ys:=(l0++[(⟨s,base,bs⟩:Seg)]).map Seg.ptr) (s:=s) l8 hn hn2 (by simp only [List.length_nil] at hc1 ⊢;omega) (D3 l0 _)) (h:=?_)
 rintro _ _ ⟨rfl,rfl⟩
 refine .assign (.z (.seq (.seq ?_)))
 by_cases h0:(bs.flatMap batB).length=0
 ·have hadd:(addP st.seg pre base bs b)=pre++[(base,bs++[b])]:=by unfold addP;exact if_pos (.inl h0)
  rw [hadd,show addN st.seg bs b N=N by unfold addN;exact if_pos (.inl h0)]
  refine .dr ([pt bp (.cells #[.pointer (some ⟨pp,0,none⟩)] 30 (0,0)),pt bX (.cells #[.slice (some ⟨gx,0,none⟩) (batB b).length qx] 79 (0,0)),pt pp (p5 f dn st (.slice (some ⟨g0,0,none⟩) (l0++[(⟨s,base,bs⟩:Seg)]).length c0))]) [] 16 mixed .autoJ ?_
  refine .tk 0 rfl .move ?_
  refine .on 1 rfl fun hnp=>?_
  refine .call (hc:=Tryz.call44) (sp:=om (f:=f) (dn:=dn) (pre:=l0) (post:=[]) (x:=⟨s,base,bs⟩)) (h:=?_)
  rintro _ _ ⟨rfl,rfl⟩
  rw [show (byt (Seg.a ⟨s,base,bs⟩)).length=0 from h0]
  refine .nil (.wa hnp ?_)
  refine .tk 2 rfl .eqi ?_
  refine .tk 3 rfl .move ?_
  refine .tf 4 rfl ?_
  refine .tf 5 rfl ?_
  refine .tf 6 rfl ?_
  refine .tf 7 rfl ?_
  refine .tf 8 rfl ?_
  refine .tf 9 rfl ?_
  refine .tf 10 rfl ?_
  refine .tf 11 rfl ?_
  refine .tf 12 rfl ?_
  refine .tf 13 rfl ?_
  refine .tf 14 rfl ?_
  refine .tk 15 rfl .pickT ?_
  refine .fin ?_
  refine .next ?_
  refine .condT rfl rfl ?_
  refine .sr (.move ?_)
  refine .ldA ?_ dz
  refine .segOut l0 [] ?_
  refine .call (hc:=Tryz.call45) (sp:=t8 (s:=s) (f:=f) (base:=((base:Nat):Int)) (path:=d4 dn (al base)) (bs:=bs) (b:=b) (H:=DBF f p dn N F0 (pre++[(base,bs)]) 0) (H':=DBF f p dn N F0 (pre++[(base,bs++[b])]) 40) hR hE hl (by rw [hnx];exact Int.le_refl _) (by omega) (by omega) (fun R A cc hR2 h1 h2=>xz hp hf (by decide) hR2 rfl h1 h2 hb6 (by omega))) (h:=?_)
  rintro _ _ ⟨rfl,rfl⟩
  refine .segIn l0 [] (⟨s,base,bs++[b]⟩:Seg) ?_
  refine .assign (.z ?_)
  refine .ret (.thenRet (?_))
  have hs1:=z2 (l0:=l0) (s:=s) (base:=base) (bs:=bs) (bs':=bs++[b])
  rw [hs1.1] at hc1 hn2
  rw [hs1.1,hs1.2]
  refine .dbfUp (N:=N) (W:=40) (F0:=F0) (ss:=pre++[(base,bs++[b])]) N 49 (Nat.le_refl _) (by decide) ?_
  refine .shutR (PT.opens pp f dn st [] (pre++[(base,bs++[b])])) (g0,c0,l0++[(⟨s,base,bs++[b]⟩:Seg)]) ⟨by rw [List.map_append,hl0];rfl,hc1,hc2,hn2⟩ ?_
  refine .shutR (bun.opens [pt bp (.cells #[.pointer (some ⟨pp,0,none⟩)] 30 (0,0)),pt bX (.cells #[.slice (some ⟨gx,0,none⟩) (batB b).length qx] 79 (0,0)),pt bb (.cells (b.v (.slice (some A) b.recs.length cb)).toArray 44 (0,0)),pt bn (.cells #[.int .i64 ((nb:Nat):Int)] 3 (0,0)),PT pp f dn st [] (pre++[(base,bs++[b])]),R]) () trivial ?_
  exact .ret1 (h1:=.tmp (t:=4) rfl) ⟨_,⟨rfl,rfl⟩,Am.auto⟩
 ·obtain ⟨m,hm⟩:∃ m,(bs.flatMap batB).length=m+1:=⟨(bs.flatMap batB).length - 1,by omega⟩
  by_cases h1:(((m+1:Nat):Nat):Int)+(((batB b).length:Nat):Int)<=st.seg
  ·have hadd:(addP st.seg pre base bs b)=pre++[(base,bs++[b])]:=by unfold addP;exact if_pos (.inr (by rw [hm];exact h1))
   rw [hadd,show addN st.seg bs b N=N by unfold addN;exact if_pos (.inr (by rw [hm];exact h1))]
   refine .dr ([pt bp (.cells #[.pointer (some ⟨pp,0,none⟩)] 30 (0,0)),pt bX (.cells #[.slice (some ⟨gx,0,none⟩) (batB b).length qx] 79 (0,0)),pt pp (p5 f dn st (.slice (some ⟨g0,0,none⟩) (l0++[(⟨s,base,bs⟩:Seg)]).length c0))]) [] 16 mixed .autoJ ?_
   refine .tk 0 rfl .move ?_
   refine .on 1 rfl fun hnp=>?_
   refine .call (hc:=Tryz.call44) (sp:=om (f:=f) (dn:=dn) (pre:=l0) (post:=[]) (x:=⟨s,base,bs⟩)) (h:=?_)
   rintro _ _ ⟨rfl,rfl⟩
   rw [show (byt (Seg.a ⟨s,base,bs⟩)).length=m+1 from hm]
   refine .nil (.wa hnp ?_)
   refine .tk 2 rfl .eqi ?_
   refine .tk 3 rfl .move ?_
   refine .tn 4 rfl .move ?_
   refine .tn 6 rfl (.ld sc79) ?_
   refine .tn 7 rfl (.lenS sl79) ?_
   refine .tn 9 rfl (.ld sc30) ?_
   refine .tn 10 rfl .nilCheck ?_
   refine .tn 11 rfl (.fa Pe) ?_
   refine .tn 12 rfl (.fa Dz) ?_
   refine .tn 13 rfl (.ld sc3) ?_
   refine .on 5 rfl fun hnp=>?_
   refine .gT ?_
   refine .call (hc:=Tryz.call44) (sp:=om (f:=f) (dn:=dn) (pre:=l0) (post:=[]) (x:=⟨s,base,bs⟩)) (h:=?_)
   rintro _ _ ⟨rfl,rfl⟩
   rw [show (byt (Seg.a ⟨s,base,bs⟩)).length=m+1 from hm]
   refine .nil (.wa hnp ?_)
   refine .tn 8 rfl .add ?_
   refine .tn 14 rfl .leq ?_
   refine .tk 15 rfl .pickF ?_
   refine .fin ?_
   refine .next ?_
   refine .condT rfl (cB9 (decide_eq_true (by omega))) ?_
   refine .sr (.move ?_)
   refine .ldA ?_ dz
   refine .segOut l0 [] ?_
   refine .call (hc:=Tryz.call45) (sp:=t8 (s:=s) (f:=f) (base:=((base:Nat):Int)) (path:=d4 dn (al base)) (bs:=bs) (b:=b) (H:=DBF f p dn N F0 (pre++[(base,bs)]) 0) (H':=DBF f p dn N F0 (pre++[(base,bs++[b])]) 40) hR hE hl (by rw [hnx];exact Int.le_refl _) (by omega) (by omega) (fun R A cc hR2 h1 h2=>xz hp hf (by decide) hR2 rfl h1 h2 hb6 (by omega))) (h:=?_)
   rintro _ _ ⟨rfl,rfl⟩
   refine .segIn l0 [] (⟨s,base,bs++[b]⟩:Seg) ?_
   refine .assign (.z ?_)
   refine .ret (.thenRet (?_))
   have hs1:=z2 (l0:=l0) (s:=s) (base:=base) (bs:=bs) (bs':=bs++[b])
   rw [hs1.1] at hc1 hn2
   rw [hs1.1,hs1.2]
   refine .dbfUp (N:=N) (W:=40) (F0:=F0) (ss:=pre++[(base,bs++[b])]) N 49 (Nat.le_refl _) (by decide) ?_
   refine .shutR (PT.opens pp f dn st [] (pre++[(base,bs++[b])])) (g0,c0,l0++[(⟨s,base,bs++[b]⟩:Seg)]) ⟨by rw [List.map_append,hl0];rfl,hc1,hc2,hn2⟩ ?_
   refine .shutR (bun.opens [pt bp (.cells #[.pointer (some ⟨pp,0,none⟩)] 30 (0,0)),pt bX (.cells #[.slice (some ⟨gx,0,none⟩) (batB b).length qx] 79 (0,0)),pt bb (.cells (b.v (.slice (some A) b.recs.length cb)).toArray 44 (0,0)),pt bn (.cells #[.int .i64 ((nb:Nat):Int)] 3 (0,0)),PT pp f dn st [] (pre++[(base,bs++[b])]),R]) () trivial ?_
   exact .ret1 (h1:=.tmp (t:=4) rfl) ⟨_,⟨rfl,rfl⟩,Am.auto⟩
  ·have hadd:(addP st.seg pre base bs b)=pre++[(base,bs)]++[(nb,[b])]:=by unfold addP;rw [if_neg (by rw [hm];exact fun h=>h.elim (fun h=>Nat.succ_ne_zero _ h) h1),hnb];rfl
   rw [hadd,show addN st.seg bs b N=N+1 by unfold addN;exact if_neg (by rw [hm];exact fun h=>h.elim (fun h=>Nat.succ_ne_zero _ h) h1)]
   have hne:bs≠[]:=fun h=>by rw [h] at hm;cases hm
   refine .dr ([pt bp (.cells #[.pointer (some ⟨pp,0,none⟩)] 30 (0,0)),pt bX (.cells #[.slice (some ⟨gx,0,none⟩) (batB b).length qx] 79 (0,0)),pt pp (p5 f dn st (.slice (some ⟨g0,0,none⟩) (l0++[(⟨s,base,bs⟩:Seg)]).length c0))]) [] 16 mixed .autoJ ?_
   refine .tk 0 rfl .move ?_
   refine .on 1 rfl fun hnp=>?_
   refine .call (hc:=Tryz.call44) (sp:=om (f:=f) (dn:=dn) (pre:=l0) (post:=[]) (x:=⟨s,base,bs⟩)) (h:=?_)
   rintro _ _ ⟨rfl,rfl⟩
   rw [show (byt (Seg.a ⟨s,base,bs⟩)).length=m+1 from hm]
   refine .nil (.wa hnp ?_)
   refine .tk 2 rfl .eqi ?_
   refine .tk 3 rfl .move ?_
   refine .tn 4 rfl .move ?_
   refine .tn 6 rfl (.ld sc79) ?_
   refine .tn 7 rfl (.lenS sl79) ?_
   refine .tn 9 rfl (.ld sc30) ?_
   refine .tn 10 rfl .nilCheck ?_
   refine .tn 11 rfl (.fa Pe) ?_
   refine .tn 12 rfl (.fa Dz) ?_
   refine .tn 13 rfl (.ld sc3) ?_
   refine .on 5 rfl fun hnp=>?_
   refine .gT ?_
   refine .call (hc:=Tryz.call44) (sp:=om (f:=f) (dn:=dn) (pre:=l0) (post:=[]) (x:=⟨s,base,bs⟩)) (h:=?_)
   rintro _ _ ⟨rfl,rfl⟩
   rw [show (byt (Seg.a ⟨s,base,bs⟩)).length=m+1 from hm]
   refine .nil (.wa hnp ?_)
   refine .tn 8 rfl .add ?_
   refine .tn 14 rfl .leq ?_
   refine .tk 15 rfl .pickF ?_
   refine .fin ?_
   refine .next ?_
   refine .condF rfl (cB9 (decide_eq_false (by omega))) ?_
   refine .skip (.next (.seq ?_))
   refine .dr ([pt bp (.cells #[.pointer (some ⟨pp,0,none⟩)] 30 (0,0)),pt bn (.cells #[.int .i64 ((nb:Nat):Int)] 3 (0,0)),pt pp (p5 f dn st (.slice (some ⟨g0,0,none⟩) (l0++[(⟨s,base,bs⟩:Seg)]).length c0))]) [] 17 mixed .autoJ ?_
   refine .tk 0 rfl (.ld sc30) ?_
   refine .tk 1 rfl .nilCheck ?_
   refine .tk 2 rfl (.fa Js) ?_
   refine .tk 3 rfl (.ld sc29) ?_
   refine .tk 4 rfl (.ld sc30) ?_
   refine .tk 5 rfl .nilCheck ?_
   refine .tk 6 rfl (.fa Uk) ?_
   refine .tk 7 rfl (.ld sc9) ?_
   refine .tk 8 rfl (.ld sc3) ?_
   refine .tk 10 rfl (.ld sc3) ?_
   refine .on 9 rfl fun hnp=>?_
   refine .call (hc:=Tryz.call47) (sp:=rp (dir:=47 :: dn) (b:=nb) (by simp only [List.length_cons];omega) (by omega)) (h:=?_)
   rintro _ _ ⟨rfl,rfl⟩
   rw [rq]
   refine .nil (.wa hnp ?_)
   refine .on 11 rfl fun hnp=>?_
   refine .call (hc:=Tryz.call46) (sp:=Jr (f:=f) (base:=((nb:Nat):Int)) (path:=d4 dn (al nb)) (H:=DBF f p dn N F0 (pre++[(base,bs)]) 0) (H':=DBF f p dn (N+1) F0 (pre++[(base,bs)]++[(nb,[])]) 9) (by omega) (Dy hp hf (by decide) (by omega) (fun y hy=>⟨fun he=>by have:=(hbs y hy).2 hne;omega,(hbs y hy).1⟩))) (h:=?_)
   rintro _ _ ⟨s2,rfl,rfl⟩
   refine .nil (.wa hnp ?_)
   refine .tk 12 rfl .move ?_
   refine .tk 13 rfl .extract ?_
   refine .tk 14 rfl .extract ?_
   refine .tk 15 rfl .assign ?_
   refine .tk 16 rfl .assign ?_
   refine .fin ?_
   refine .next (.seq (.sr (.move ?_)))
   refine .eqi (.z ?_)
   refine .condT rfl rfl ?_
   refine .region (.move ?_)
   refine .ldA ?_ dz
   refine .call (hc:=Tryz.call45) (sp:=t8 (s:=s2) (f:=f) (base:=((nb:Nat):Int)) (path:=d4 dn (al nb)) (bs:=[]) (b:=b) (H:=DBF f p dn (N+1) F0 (pre++[(base,bs)]++[(nb,[])]) 9) (H':=DBF f p dn (N+1) F0 (pre++[(base,bs)]++[(nb,[]++[b])]) 49) hR hE hl (by rw [hnb];exact Int.le_refl _) (by simp) (by simp) (fun R A cc hR2 h1 h2=>xz (pre:=pre++[(base,bs)]) (post:=[]) (b:=nb) (bs:=[]) hp ⟨hN1,hN2,by simp only [List.length_append,List.length_singleton];omega,by have:=hf.byt;rw [xy];show _+(0+0)<=_;omega⟩ (by decide) hR2 rfl h1 h2 hb6 (by show 0+_<=_;omega))) (h:=?_)
   rintro _ _ ⟨rfl,rfl⟩
   refine .assign (.z (.seq (.sr (.move ?_))))
   refine .eqi (.z ?_)
   refine .condT rfl rfl ?_
   refine .dr ([pt bp (.cells #[.pointer (some ⟨pp,0,none⟩)] 30 (0,0)),pt pp (p5 f dn st (.slice (some ⟨g0,0,none⟩) (l0++[(⟨s,base,bs⟩:Seg)]).length c0))]) [10] 11 mixed .autoJ ?_
   refine .tk 0 rfl (.ld sc30) ?_
   refine .tk 1 rfl (.ld sc30) ?_
   refine .tk 2 rfl .nilCheck ?_
   refine .tk 3 rfl (.fa jl) ?_
   refine .tk 4 rfl (.ld sc82) ?_
   refine .tk 5 rfl .move ?_
   refine .on 6 rfl fun hnp=>?_
   refine .buildS (fun b56=>?_) (bsPS _)
   refine .nil (.wa hnp ?_)
   refine .on 7 rfl fun hnp=>?_
   refine .to (A:=buf g0 86 c0 ((l0++[(⟨s,base,bs⟩:Seg)]).map Seg.ptr)) (di hc2) ?_
   rw [List.length_map]
   refine .append (v:=.slice (some ⟨g0,0,none⟩) (l0++[(⟨s,base,bs⟩:Seg)]).length c0) (m:=1) (k:=(l0++[(⟨s,base,bs⟩:Seg)]).length) (xs:=((l0++[(⟨s,base,bs⟩:Seg)]).map Seg.ptr)) (news:=[.pointer (some ⟨s2,0,none⟩)]) so82 (by decide) (by repeat (first | exact .here | apply Rem.there | apply Repl.there | apply Mem.there)) (Reads.pt (cs:=#[.pointer (some ⟨s2,0,none⟩)])) (by repeat (first | exact .here | apply Rem.there | apply Repl.there | apply Mem.there)) rfl (p6 _ (fun v hv=>⟨s2,List.mem_singleton.1 hv⟩)) (by unfold maxLen;omega) (by omega) ⟨_,z86,rfl⟩ (fun v' hv'=>?_)
   refine .toE (A:=rowR 86 1 v' ((l0++[(⟨s,base,bs⟩:Seg)]).length+1) (((l0++[(⟨s,base,bs⟩:Seg)]).map Seg.ptr)++[.pointer (some ⟨s2,0,none⟩)])) (br (fun h=>by have:=(hv'.1 h).1;cases this)) ?_
   rintro ⟨g2,q2⟩ ⟨rfl,h2a,h2b,_⟩
   rw [show ((l0++[(⟨s,base,bs⟩:Seg)]).map Seg.ptr)++[.pointer (some ⟨s2,0,none⟩)]=[]++((l0++[(⟨s,base,bs⟩:Seg)])++[(⟨s2,nb,[]++[b]⟩:Seg)]).map Seg.ptr by rw [List.map_append (l₂:=[(⟨s2,nb,[]++[b]⟩:Seg)])];rfl,show (l0++[(⟨s,base,bs⟩:Seg)]).length+1=((l0++[(⟨s,base,bs⟩:Seg)])++[(⟨s2,nb,[]++[b]⟩:Seg)]).length by rw [List.length_append (bs:=[(⟨s2,nb,[]++[b]⟩:Seg)])];rfl]
   refine .nil (.wa hnp ?_)
   refine .on 8 rfl fun hnp=>?_
   refine .nilCheck ?_
   refine .nil (.wa hnp ?_)
   refine .tk 9 rfl (.fa jl) ?_
   refine .on 10 rfl fun hnp=>?_
   refine .st ?_ sc82
   refine .nil (.wb hnp ?_)
   refine .fin ?_
   refine .next (.sr (.move (.assign (.z (.ret (?_))))))
   refine .to (A:=segsH f dn (l0++[(⟨s,base,bs⟩:Seg)])) (A':=segsH f dn ((l0++[(⟨s,base,bs⟩:Seg)])++[])) (fun h hh=>by rw [List.append_nil];exact hh) ?_
   refine .segIn (l0++[(⟨s,base,bs⟩:Seg)]) [] (⟨s2,nb,[]++[b]⟩:Seg) ?_
   refine .shutR (PT.opens pp f dn st [] (pre++[(base,bs)]++[(nb,[b])])) (g2,q2,(l0++[(⟨s,base,bs⟩:Seg)])++[(⟨s2,nb,[]++[b]⟩:Seg)]) ⟨by rw [List.map_append,List.map_append,hl0];rfl,by simp only [List.length_append,List.length_singleton,List.length_nil] at h2a ⊢;omega,h2b,by simp only [List.length_append,List.length_singleton] at hlen hflen ⊢;omega⟩ ?_
   refine .shutR (bun.opens [pt bp (.cells #[.pointer (some ⟨pp,0,none⟩)] 30 (0,0)),pt bX (.cells #[.slice (some ⟨gx,0,none⟩) (batB b).length qx] 79 (0,0)),pt bb (.cells (b.v (.slice (some A) b.recs.length cb)).toArray 44 (0,0)),pt bn (.cells #[.int .i64 ((nb:Nat):Int)] 3 (0,0)),PT pp f dn st [] (pre++[(base,bs)]++[(nb,[b])]),R]) () trivial ?_
   exact .ret1 (h1:=.tmp (t:=4) rfl) ⟨_,⟨rfl,rfl⟩,Am.auto⟩
theorem B6 {pp f N base nb c:Nat} {dn:aa} {st:Sts} {p:Pl} {pre:List SegA} {bs:List Bt} {A:Addr} {R:HP} {prod seq:Int} {l:List Rc} (hp:PlP p) (hf:FitsP p N (pre++[(base,bs)])) (hN1:N+1<=200) (hN2:N+4<=p.ino) (hN3:pre.length<=55) (hdn:dn.length<=900) (hR:Reads R (some A) (l.flatMap Rc.v)) (hpos:0 < l.length) (hll:l.length<=10000) (hE:batE (az ((nb:Nat):Int) prod seq l)=0) (hnx:((nb:Nat):Int)=kz ((base:Nat):Int) bs) (hbs:∀ y∈(pre++[(base,bs)]),y.1<=1125899906842624/\(bs≠[]->((y.1:Nat):Int) < ((nb:Nat):Int))) (hrows:bs.length<=9999) (hsz:(bs.flatMap batB).length<=60000):Spec Tryz.prog 16 #[.pointer (some ⟨pp,0,none⟩),.int .i64 prod,.int .i64 seq,.slice (some A) l.length c] [PT pp f dn st [] (pre++[(base,bs)]),DRF f p dn N (pre++[(base,bs)]),R] fun F v M=>v=.tuple #[.int .i64 ((nb:Nat):Int),.int .i64 0]/\M=PT pp f dn st [] (addP st.seg pre base bs (az ((nb:Nat):Int) prod seq l)) :: DRF f p dn (addN st.seg bs (az ((nb:Nat):Int) prod seq l) N) (addP st.seg pre base bs (az ((nb:Nat):Int) prod seq l)) :: R :: F:=by
 refine Spec.intro Tryz.func16 rfl rfl fun B F=>?_
 simp only [Tryz.ntmps16,List.cons_append,List.nil_append,env0,Nat.reduceAdd]
 have hrl:(az ((nb:Nat):Int) prod seq l).recs.length=l.length:=jj l 0
 refine .openR (PT.opens pp f dn st [] (pre++[(base,bs)])) fun x hx=>?_
 obtain ⟨g0,c0,ls⟩:=x
 obtain ⟨hls,hc1,hc2,hn2⟩:=hx
 simp only [ptLs,List.cons_append,List.nil_append] at hls hc1 hc2 hn2 ⊢
 have hn:0 < ls.length:=by have:=congrArg List.length hls;rw [List.length_map] at this;simp at this;omega
 refine .sr ?_
 refine .box fun b4=>?_
 refine .assign (.assign (.z (.seq (.sr ?_))))
 refine .ld ?_ sc30
 refine .call (hc:=Tryz.call38) (sp:=oo hn hn2) (h:=?_)
 rintro _ _ ⟨rfl,rfl⟩
 refine .not (.z ?_)
 refine .condF rfl rfl ?_
 refine .skip (.next (.sr ?_))
 refine .ld ?_ sc30
 refine .shutR (PT.opens pp f dn st [] (pre++[(base,bs)])) (g0,c0,ls) ⟨hls,hc1,hc2,hn2⟩ ?_
 refine .call (hc:=Tryz.call18) (sp:=D4 (pp:=pp) (f:=f) (dn:=dn) (st:=st) (dp:=[]) (ss:=(pre++[(base,bs)])) (pre:=pre) (y:=(base,bs)) rfl (by show bs.length<=_;omega)) (h:=?_)
 rintro _ _ ⟨rfl,rfl⟩
 rw [show kz (((base,bs):SegA).1:Int) ((base,bs):SegA).2=((nb:Nat):Int) from hnx.symm]
 refine .alloc z3 fun b10=>?_
 refine .st ?_ sc3
 refine .x ?_
 refine .ld ?_ sc3
 refine .move (.move (.move ?_))
 refine .call (hc:=Tryz.call39) (sp:=Ns (base:=((nb:Nat):Int)) (prod:=prod) (seq:=seq) hR hpos hll) (h:=?_)
 rintro _ _ (⟨h0,_,_⟩ | ⟨_,gb,c2,qb,rfl,rfl⟩)
 ·exact absurd hE h0
 refine .move ?_
 refine .extract (.extract ?_)
 refine .alloc z44 fun b11=>?_
 refine .stV ?_ dz
 refine .assign (.z (.seq (.sr (.move ?_))))
 refine .nei (.z ?_)
 refine .condF rfl rfl ?_
 refine .skip (.next (.sr ?_))
 refine .ldA ?_ dz
 refine .call (hc:=Tryz.call40) (sp:=ol (b:=(az ((nb:Nat):Int) prod seq l)) (R:=buf gb 95 qb (az ((nb:Nat):Int) prod seq l).rv) (A:=some ⟨gb,0,none⟩) (c:=c2) Reads.buf (by rw [hrl];omega)) (h:=?_)
 rintro _ _ (⟨h0,_,_⟩ | ⟨_,gx,qx,⟨rfl,hx1,hx2⟩,rfl⟩)
 ·exact absurd hE h0
 refine .move ?_
 refine .extract (.extract ?_)
 refine .alloc z79 fun b13=>?_
 refine .st ?_ sc79
 refine .assign (.x ?_)
 clear hls hc1 hc2 hn hn2
 refine .openR (PT.opens pp f dn st [] (pre++[(base,bs)])) fun x hx=>?_
 obtain ⟨g0,c0,ls⟩:=x
 obtain ⟨hls,hc1,hc2,hn2⟩:=hx
 simp only [ptLs,List.cons_append,List.nil_append] at hls hc1 hc2 hn2 ⊢
 refine .ld ?_ sc30
 refine .nilCheck ?_
 refine .fa ?_ Js
 refine .ld ?_ sc29
 refine .makeFuncB ?_
 refine .shutR (PT.opens pp f dn st [] (pre++[(base,bs)])) (g0,c0,ls) ⟨hls,hc1,hc2,hn2⟩ ?_
 refine .shutR (bun.opens [pt b4 (.cells #[.pointer (some ⟨pp,0,none⟩)] 30 (0,0)),pt b13 (.cells #[.slice (some ⟨gx,0,none⟩) (batB (az ((nb:Nat):Int) prod seq l)).length qx] 79 (0,0)),pt b11 (.cells ((az ((nb:Nat):Int) prod seq l).v (.slice (some ⟨gb,0,none⟩) (az ((nb:Nat):Int) prod seq l).recs.length c2)).toArray 44 (0,0)),pt b10 (.cells #[.int .i64 ((nb:Nat):Int)] 3 (0,0)),PT pp f dn st [] (pre++[(base,bs)]),buf gb 95 qb (az ((nb:Nat):Int) prod seq l).rv]) () trivial ?_
 refine .call (hc:=Tryz.call41) (sp:=Fp (N':=addN st.seg bs (az ((nb:Nat):Int) prod seq l) N) (W:=49) (ss:=(pre++[(base,bs)])) (ss':=(addP st.seg pre base bs (az ((nb:Nat):Int) prod seq l))) hp.ok (hc:=Tryz.call42) (fun F0=>Nt (R:=buf gb 95 qb (az ((nb:Nat):Int) prod seq l).rv) (A:=⟨gb,0,none⟩) (b:=(az ((nb:Nat):Int) prod seq l)) (cb:=c2) hp hf hN1 hN2 hN3 hdn Reads.buf hE (by rw [hrl];omega) rfl hnx hbs hrows hsz)) (h:=?_)
 rintro _ _ ⟨rfl,rfl⟩
 refine .openR (bun.opens _) fun _ _=>?_
 simp only [List.cons_append,List.nil_append]
 refine .assign (.z (.seq (.sr (.move ?_))))
 refine .nei (.z ?_)
 refine .condF rfl rfl ?_
 refine .skip (.next (.sr ?_))
 refine .ld ?_ sc3
 refine .assign (.assign (.z (.ret (?_))))
 exact .ret2 (h1:=.tmp (t:=8) rfl) (h2:=.tmp (t:=9) rfl) ⟨_,⟨rfl,rfl⟩,Am.auto⟩
theorem Nu {f:Nat} {base:Int} {path:aa} {H:HP} (hb:0<=base/\base<=1125899906842624)
  (hRd:Spec Tryz.prog 116 #[.pointer (some ⟨f,0,none⟩),sv path,nI 0,nI 70656] [H] fun F v M=>∃ u,v=.tuple #[u,.int .i64 0]/\M=rowR 5 1 u 0 [] :: H :: F):Spec Tryz.prog 63 #[.pointer (some ⟨f,0,none⟩),sv path,.int .i64 base] [H]
  fun F v M=>∃ s,v=.tuple #[.pointer (some ⟨s,0,none⟩),.int .i64 0]/\M=SGP s f path base [] :: H :: F:=by
 refine Spec.intro Tryz.func63 rfl rfl fun B F=>?_
 simp only [Tryz.ntmps63,List.cons_append,List.nil_append,env0,Nat.reduceAdd]
 refine .sr (.assign (.assign (.z (.scope (.seq (.sr (.move ?_)))))))
 refine .call (hc:=Tryz.call99) (sp:=Jm) (h:=?_)
 rintro _ _ ⟨rfl,rfl⟩
 refine .cast (d:=16) (u:=.bool true) rfl (cB9 (by simp [hb.1,hb.2])) ?_
 refine .not (.z ?_)
 refine .condF rfl rfl ?_
 refine .skip (.next (.sr (.move (.move ?_))))
 refine .call (hc:=Tryz.call116) (sp:=hRd) (h:=?_)
 rintro _ _ ⟨u0,rfl,rfl⟩
 refine .fact (ae (el:=5) (size:=1) (k:=0) (v:=u0) (xs:=[])) fun ⟨A0,c0,hu0,_,_,_,_⟩=>?_
 subst hu0
 refine .move ?_
 refine .extract (.extract ?_)
 refine .assign (.assign (.z (.seq (.sr (.move ?_)))))
 refine .nei (.z ?_)
 refine .condF rfl rfl ?_
 refine .skip (.next (.sr (.move (.move (.move ?_)))))
 refine .build ?_ (Ru _ _ _)
 refine .box fun b31=>?_
 refine .assign (.z (.seq (.label (.next (.seq (.block ?_))))))
 refine .loopN 1 (RC.succ ?_)
 refine .seq (.sr (.move (.nilCheck ?_)))
 refine .fa ?_ ff
 refine .ld ?_ sc3
 refine .move ?_
 refine .lenS ?_ sl79
 refine .lss (.z ?_)
 refine .condF rfl rfl ?_
 refine .exit (.thenExit (.thenExit (.blockExit (?_))))
 refine .next (.seq (.sr (.move (.nilCheck ?_))))
 refine .fa ?_ ff
 refine .ld ?_ sc3
 refine .move ?_
 refine .lenS ?_ sl79
 refine .lss (.z ?_)
 refine .condF rfl rfl ?_
 refine .skip (.next (.sr (.move (.assign (.assign (.z ?_))))))
 refine .ret (.scopeRet (?_))
 refine .emp (A:=rowR 151 6 (.slice none 0 0) ([]:List SRow).length (([]:List SRow).flatMap SRow.v)) (rowR.nil _) ?_
 refine .emp (A:=frz []) sb ?_
 refine .shutR (SGP.opens b31 f path base []) ([],.slice none 0 0,[]) ⟨rfl,fun x h=>absurd h List.not_mem_nil,fun x h=>absurd h List.not_mem_nil,fun i j x y _ h=>by simp at h,fun _=>rfl⟩ ?_
 exact .ret2 (h1:=.tmp (t:=6) rfl) (h2:=.tmp (t:=7) rfl) ⟨_,⟨_,rfl,rfl⟩,Am.auto⟩
theorem z29 :ba Tryz.prog 29=some (#[.pointer none]):=by kernel_rfl
theorem Rz :ad Tryz.prog 133 1 1=true:=by kernel_rfl
theorem Jv {p:Pl} (h:PlIs p):Room (fmtB p [245]):=by
 have h1:=g8 (fmtD [245] p.im ((p.ino+4095) / 4096)) p.bm ((p.dc+4095) / 4096)
 have h2:=g8 [245] p.im ((p.ino+4095) / 4096)
 have h3:=h.i2
 have h4:=h.n2
 have h5:=h.dc
 have h6:=h.i1
 have h7:=h.da
 have h8:=h.m1
 have h9:=h.bm
 unfold fmtB Room
 have:([245]:List Nat).length=1:=rfl
 omega
theorem bsF5 (f0 f1 f2 f3 f4:Fn) (u0 u1 u2 u3 u4 c0 c1 c2 c3 c4:Array Value):bc Tryz.prog 136 5 [(0,.func f0 u0 c0),(1,.func f1 u1 c1),(2,.func f2 u2 c2),(3,.func f3 u3 c3),(4,.func f4 u4 c4)] 92 #[.func f0 u0 c0,.func f1 u1 c1,.func f2 u2 c2,.func f3 u3 c3,.func f4 u4 c4]:=fun w=>by kernel_rfl
def J0 :JS:=⟨ax (seg (db eu 0) 8 8 false),0,[],db eu⟩
theorem J0_ok {n:Nat}:HeadsOk n J0:=⟨vd,rfl,fun i _=>.inl (vf _ i),fun _=>rfl,fun h=>absurd rfl h⟩
theorem Ul :J0.gen < 2 ^ 64:=Hb _ _ _
theorem Jw {k:Nat} (h:245<=k):J0.view k=zeros:=ve (by omega)
theorem Um {n d:Nat} (hn:n<=65536):Tagged n d d J0:=⟨rfl,J0_ok,Nat.lt_of_le_of_lt (Nat.le_refl 1) (by decide),Ul,hn⟩
theorem Nv {d n t:Nat} {cur:Nat->aa} (hn:246<=n) (hmg:(cur 0).take 8≠dt):Spec Tryz.prog 83 #[.pointer (some ⟨d,0,none⟩)] [DevR d n cur t] fun F v M=>v=.tuple #[.pointer none,.int .i64 10]/\M=DevR d n cur t :: F:=by
 refine Spec.intro Tryz.func83 rfl rfl fun B F=>?_
 simp only [Tryz.ntmps83,List.cons_append,List.nil_append,env0,Nat.reduceAdd]
 refine .sr (.assign (.assign (.z (.seq (.sr (.move ?_))))))
 refine .call (hc:=Tryz.call73) (sp:=ey (n:=n) (t:=t) (cur:=cur)) (h:=?_)
 rintro _ _ ⟨rfl,rfl⟩
 refine .lss (.z ?_)
 refine .condF rfl (cB9 (by first|simp;done|simp;omega|omega)) ?_
 refine .skip (.next (.sr (.move ?_)))
 refine .call (hc:=Tryz.call146) (sp:=Cl (n:=n) (t:=t) (cur:=cur) (by omega)) (h:=?_)
 rintro _ _ ⟨rfl,rfl⟩
 refine .move ?_
 refine .extract (.extract ?_)
 refine .cast (d:=20) (u:=.bool false) rfl (cB9 (decide_eq_false hmg)) ?_
 refine .assign (.assign (.z (.seq (.sr (.move ?_)))))
 refine .not (.z ?_)
 refine .condT rfl rfl ?_
 refine .sr (.assign (.assign (.z ?_)))
 refine .ret (.thenRet (?_))
 exact .ret2 (h1:=.tmp (t:=2) rfl) (h2:=.tmp (t:=3) rfl) ⟨_,⟨rfl,rfl⟩,Am.auto⟩
theorem Jx :(eu 0).take 8≠dt:=by
 show zeros.take 8≠dt
 rw [pg];decide
theorem Nw {d n:Nat} (hn:246<=n) (hn2:n<=65536):Spec Tryz.prog 74 #[.pointer (some ⟨d,0,none⟩)] [DevR d n eu 0] fun F v M=>∃ j,v=.tuple #[.pointer (some ⟨j,0,none⟩),.int .i64 0]/\M=JR j d n J0 :: F:=by
 refine Spec.intro Tryz.func74 rfl rfl fun B F=>?_
 simp only [Tryz.ntmps74,List.cons_append,List.nil_append,env0,Nat.reduceAdd]
 refine .sr (.assign (.assign (.x (.move ?_))))
 refine .call (hc:=Tryz.call83) (sp:=Nv (n:=n) (t:=0) (cur:=eu) hn Jx) (h:=?_)
 rintro _ _ ⟨rfl,rfl⟩
 refine .move ?_
 refine .extract (.extract ?_)
 refine .assign (.assign (.z (.seq (.sr (.move ?_)))))
 refine .nei (.z ?_)
 refine .condF rfl (cB9 (by first|simp;done|simp;omega|omega)) ?_
 refine .skip (.next (.seq (.sr (.move ?_))))
 refine .call (hc:=Tryz.call128) (sp:=P7 (n:=n) (t:=0) (cur:=eu) hn (by decide)) (h:=?_)
 rintro _ _ ⟨rfl,rfl⟩
 refine .assign (.x (.move ?_))
 refine .nei (.z ?_)
 refine .condF rfl (cB9 (by first|simp;done|simp;omega|omega)) ?_
 refine .skip (.next (.sr (.move ?_)))
 refine .call (hc:=Tryz.call83) (sp:=jOpen (n:=n) (cur:=db eu) hn hn2 vd (fun i _=>vf _ i)) (h:=?_)
 rintro _ _ ⟨j,rfl,rfl⟩
 refine .extract (.extract (.assign (.assign (.z (.ret (?_))))))
 exact .ret2 (h1:=.tmp (t:=2) rfl) (h2:=.tmp (t:=3) rfl) ⟨_,⟨j,rfl,rfl⟩,Am.auto⟩
theorem fsMk1 {f s a c mp b8 b5:Nat} {p:Pl} {V0 V:Nat->aa} (h:PlIs p) (hn:246<=p.n):Spec Tryz.prog 77 #[.pointer (some ⟨b8,0,none⟩),.pointer (some ⟨b5,0,none⟩)] [pt b8 (.cells #[.pointer (some ⟨f,0,none⟩)] 29 (0,0)),pt f (fO c a s false false false mp),pt b5 (.cells p.cells 121 (0,0)),TR c p.n V0 V [] true] fun F v M=>v=okV/\M=pt b8 (.cells #[.pointer (some ⟨f,0,none⟩)] 29 (0,0)) :: pt f (fO c a s false false false mp) :: pt b5 (.cells p.cells 121 (0,0)) :: TR c p.n V0 (wr V 245 (supB p)) [245] true :: F:=by
 refine Spec.intro Tryz.func77 rfl rfl fun B F=>?_
 simp only [Tryz.ntmps77,List.cons_append,List.nil_append,env0,Nat.reduceAdd]
 refine .sr (.assign (.z (.seq ?_)))
 refine .dr ([pt b8 (.cells #[.pointer (some ⟨f,0,none⟩)] 29 (0,0)),pt f (fO c a s false false false mp),pt b5 (.cells p.cells 121 (0,0))]) [] 8 mixed .autoJ ?_
 refine .tk 0 rfl (.ld sc29) ?_
 refine .tk 1 rfl .nilCheck ?_
 refine .tk 2 rfl (.fa fd) ?_
 refine .tk 3 rfl (.ld dj) ?_
 refine .tk 4 rfl (.ldA f9) ?_
 refine .on 5 rfl fun hnp=>?_
 refine .call (hc:=Tryz.call79) (sp:=Oy h) (h:=?_)
 rintro _ _ ⟨gb,q,rfl,⟨hq1,hq2⟩,rfl⟩
 refine .nil (.wa hnp ?_)
 refine .on 6 rfl fun hnp=>?_
 refine .call (hc:=Tryz.call78) (sp:=nz (c:=c) (n:=p.n) (k:=245) (V0:=V0) (V:=V) (D:=[]) (R:=buf gb 5 q (bvs (supB p))) (xs:=supB p) (by decide) (by omega) Reads.buf (nh p) rfl (.inr (by decide))) (h:=?_)
 rintro _ _ ⟨rfl,rfl⟩
 refine .nil (.wa hnp ?_)
 refine .tk 7 rfl .assign ?_
 refine .fin ?_
 refine .next (.ret (?_))
 exact .ret1 (h1:=.tmp (t:=2) rfl) ⟨_,⟨rfl,rfl⟩,Am.auto⟩
theorem Un {d:Nat} {p:Pl} (h:PlIs p):Spec Tryz.prog 36 #[.pointer (some ⟨d,0,none⟩),.int .i64 (p.ino:Int)] [DevR d p.n eu 0] fun F v M=>∃ J,v=okV/\DevOk p.n (mkW p) J/\M=DevR d p.n J.cur 0 :: F:=by
 refine Spec.intro Tryz.func36 rfl rfl fun B F=>?_
 simp only [Tryz.ntmps36,List.cons_append,List.nil_append,env0,Nat.reduceAdd]
 have hn2:=h.n2
 have h246:246<=p.n:=by have:=h.bm;have:=h.m1;have:=h.da;have:=h.dc;have:=h.d1;omega
 refine .sr (.assign (.x (.move ?_)))
 refine .call (hc:=Tryz.call73) (sp:=ey (n:=p.n) (t:=0) (cur:=eu)) (h:=?_)
 rintro _ _ ⟨rfl,rfl⟩
 refine .move ?_
 refine .call (hc:=Tryz.call72) (sp:=Hs h) (h:=?_)
 rintro _ _ ⟨rfl,rfl⟩
 refine .move ?_
 refine .extract (.extract ?_)
 refine .alloc z121 fun b5=>?_
 refine .stV ?_ f9
 refine .to (A:=pt b5 (.cells p.cells 121 (0,0))) (A':=pt b5 (.cells p.cells 121 (0,0))) (fun h hh=>hh) ?_
 refine .assign (.z (.seq (.sr (.move ?_))))
 refine .nei (.z ?_)
 refine .condF rfl (cB9 (by first|simp;done|simp;omega|omega)) ?_
 refine .skip (.next (.sr (.move ?_)))
 refine .call (hc:=Tryz.call74) (sp:=Nw (n:=p.n) h246 hn2) (h:=?_)
 rintro _ _ ⟨j,rfl,rfl⟩
 refine .move ?_
 refine .extract (.extract ?_)
 refine .assign (.assign (.z (.seq (.sr (.move ?_)))))
 refine .nei (.z ?_)
 refine .condF rfl (cB9 (by first|simp;done|simp;omega|omega)) ?_
 refine .skip (.next (.sr (.move ?_)))
 refine .ldA ?_ f9
 refine .call (hc:=Tryz.call75) (sp:=Jc (p:=p) (T:=fun _=>none) h246 hn2) (h:=?_)
 rintro _ _ ⟨f,c,a,s,mp,rfl,rfl⟩
 simp only [List.cons_append,List.nil_append]
 refine .shutR (TR.opens c p.n (tagV d) eu [] false) (j,d,⟨J0,[],false,false⟩) ⟨rfl,(fun k h1 h2=>(Jw h1).trans (Je h1).symm),(fun k h1 h2=>Jw h1),rfl,fun r hr=>(by rw [Do] at hr;injection hr with hr;subst hr;exact Um hn2),fun h=>(by cases h)⟩ ?_
 refine .alloc z29 fun b8=>?_
 refine .st ?_ sc29
 refine .z (.seq (.seq ?_))
 refine .dr ([pt b8 (.cells #[.pointer (some ⟨f,0,none⟩)] 29 (0,0)),pt f (fO c a s false false false mp)]) [] 24 mixed .autoJ ?_
 refine .tk 0 rfl (.ld sc29) ?_
 refine .tk 1 rfl .nilCheck ?_
 refine .tk 2 rfl (.fa fd) ?_
 refine .tk 3 rfl (.ld dj) ?_
 refine .tk 4 rfl .makeFuncB ?_
 refine .tk 5 rfl .makeFuncB ?_
 refine .tk 6 rfl (.ld sc29) ?_
 refine .tk 7 rfl .nilCheck ?_
 refine .tk 8 rfl (.fa Rz) ?_
 refine .tk 9 rfl (.ld lb) ?_
 refine .tk 10 rfl .makeFuncB ?_
 refine .tk 11 rfl (.ld sc29) ?_
 refine .tk 12 rfl .nilCheck ?_
 refine .tk 13 rfl (.fa fc) ?_
 refine .tk 14 rfl (.ld pw) ?_
 refine .tk 15 rfl .makeFuncB ?_
 refine .tk 16 rfl (.ld sc29) ?_
 refine .tk 17 rfl .nilCheck ?_
 refine .tk 18 rfl (.fa fd) ?_
 refine .tk 19 rfl (.ld dj) ?_
 refine .tk 20 rfl .makeFuncB ?_
 refine .tk 23 rfl .move ?_
 refine .on 21 rfl fun hnp=>?_
 refine .buildS (fun b54=>?_) (bsF5 _ _ _ _ _ _ _ _ _ _ _ _ _ _ _)
 refine .nil (.wa hnp ?_)
 refine .tk 22 rfl (.lenS So) ?_
 refine .fin ?_
 refine .next (.block ?_)
 refine .loopN 6 (RC.succ ?_)
 refine .sr ?_
 refine .lss (.z (.seq ?_))
 refine .condT rfl (cB9 (by first|simp;done|simp;omega|omega)) ?_
 refine .skip (.next (.seq (.block (.sr ?_))))
 refine .idx1 ?_ m7
 refine .ld ?_ sc92
 refine .assign (.x (.move ?_))
 refine .callF (us:=#[.pointer (some ⟨c,0,none⟩)]) (cap:=#[]) (vs:=[]) rfl rfl Tryz.call76 (Spec.bound (Ok (n:=p.n) (V0:=tagV d) (V:=eu) (D:=[]))) ?_ (by repeat (first | exact .nil | (apply Tk.cons;focus ((repeat (first | exact .here | apply Rem.there));done))))
 rintro _ _ ⟨rfl,rfl⟩
 refine .assign (.x (.move ?_))
 refine .nei (.z ?_)
 refine .condF rfl (cB9 (by first|simp;done|simp;omega|omega)) ?_
 refine .skip (.blockNormal (.next (.region ?_)))
 refine .add ?_
 refine .move (.nil ?_)
 refine .again (RC.succ ?_)
 refine .sr ?_
 refine .lss (.z (.seq ?_))
 refine .condT rfl (cB9 (by first|simp;done|simp;omega|omega)) ?_
 refine .skip (.next (.seq (.block (.sr ?_))))
 refine .idx1 ?_ m7
 refine .ld ?_ sc92
 refine .assign (.x (.move ?_))
 refine .callF (us:=#[]) (cap:=#[.pointer (some ⟨b8,0,none⟩),.pointer (some ⟨b5,0,none⟩)]) (vs:=[]) rfl rfl Tryz.call77 (Spec.capt (fsMk1 (c:=c) (f:=f) (a:=a) (s:=s) (mp:=mp) (V0:=tagV d) (V:=eu) h h246)) ?_ (by repeat (first | exact .nil | (apply Tk.cons;focus ((repeat (first | exact .here | apply Rem.there));done))))
 rintro _ _ ⟨rfl,rfl⟩
 refine .assign (.x (.move ?_))
 refine .nei (.z ?_)
 refine .condF rfl (cB9 (by first|simp;done|simp;omega|omega)) ?_
 refine .skip (.blockNormal (.next (.region ?_)))
 refine .add ?_
 refine .move (.nil ?_)
 refine .again (RC.succ ?_)
 refine .sr ?_
 refine .lss (.z (.seq ?_))
 refine .condT rfl (cB9 (by first|simp;done|simp;omega|omega)) ?_
 refine .skip (.next (.seq (.block (.sr ?_))))
 refine .idx1 ?_ m7
 refine .ld ?_ sc92
 refine .assign (.x (.move ?_))
 refine .callF (us:=#[.pointer (some ⟨a,0,none⟩)]) (cap:=#[]) (vs:=[]) rfl rfl Tryz.call80 (Spec.bound (L7 (c:=c) (V0:=tagV d) (V:=wr eu 245 (supB p)) (D:=[245]) h.ok (Nat.le_refl _))) ?_ (by repeat (first | exact .nil | (apply Tk.cons;focus ((repeat (first | exact .here | apply Rem.there));done))))
 rintro _ _ ⟨rfl,rfl⟩
 simp only [List.cons_append,List.nil_append]
 refine .assign (.x (.move ?_))
 refine .nei (.z ?_)
 refine .condF rfl (cB9 (by first|simp;done|simp;omega|omega)) ?_
 refine .skip (.blockNormal (.next (.region ?_)))
 refine .add ?_
 refine .move (.nil ?_)
 refine .again (RC.succ ?_)
 refine .sr ?_
 refine .lss (.z (.seq ?_))
 refine .condT rfl (cB9 (by first|simp;done|simp;omega|omega)) ?_
 refine .skip (.next (.seq (.block (.sr ?_))))
 refine .idx1 ?_ m7
 refine .ld ?_ sc92
 refine .assign (.x (.move ?_))
 refine .callF (us:=#[.pointer (some ⟨s,0,none⟩)]) (cap:=#[]) (vs:=[]) rfl rfl Tryz.call81 (Spec.bound (Mi (c:=c) (a:=a) (V0:=tagV d) (V:=(fmtA p (wr eu 245 (supB p)))) (D:=fmtB p [245]) h.ok (Jv h))) ?_ (by repeat (first | exact .nil | (apply Tk.cons;focus ((repeat (first | exact .here | apply Rem.there));done))))
 rintro _ _ ⟨rfl,rfl⟩
 simp only [List.cons_append,List.nil_append]
 refine .assign (.x (.move ?_))
 refine .nei (.z ?_)
 refine .condF rfl (cB9 (by first|simp;done|simp;omega|omega)) ?_
 refine .skip (.blockNormal (.next (.region ?_)))
 refine .add ?_
 refine .move (.nil ?_)
 refine .again (RC.succ ?_)
 refine .sr ?_
 refine .lss (.z (.seq ?_))
 refine .condT rfl (cB9 (by first|simp;done|simp;omega|omega)) ?_
 refine .skip (.next (.seq (.block (.sr ?_))))
 refine .idx1 ?_ m7
 refine .ld ?_ sc92
 refine .assign (.x (.move ?_))
 refine .callF (us:=#[.pointer (some ⟨c,0,none⟩)]) (cap:=#[]) (vs:=[]) rfl rfl Tryz.call82 (Spec.bound (Nh (n:=p.n) (d:=d) (V0:=tagV d) (V:=mkW p) (D:=insD (fmtB p [245]) (p.tb+0 / 8)) (Do d) h246)) ?_ (by repeat (first | exact .nil | (apply Tk.cons;focus ((repeat (first | exact .here | apply Rem.there));done))))
 rintro _ _ ⟨J,rfl,hJ,rfl⟩
 refine .assign (.x (.move ?_))
 refine .nei (.z ?_)
 refine .condF rfl (cB9 (by first|simp;done|simp;omega|omega)) ?_
 refine .skip (.blockNormal (.next (.region ?_)))
 refine .add ?_
 refine .move (.nil ?_)
 refine .again (RC.succ ?_)
 refine .sr ?_
 refine .lss (.z (.seq ?_))
 refine .condF rfl (cB9 (by first|simp;done|simp;omega|omega)) ?_
 refine .exit (.thenExit (.thenExit (.blockExit (?_))))
 refine .next (.sr (.assign (.z (.ret (?_)))))
 exact .ret1 (h1:=.tmp (t:=4) rfl) ⟨_,⟨J,rfl,hJ,rfl⟩,Am.auto⟩
theorem R0 {d:Nat} {p:Pl} {J:JS} {V:Nat->aa} {T:FT} (h:PlIs p) (hJ:DevOk p.n V J) (hsup:V 245=supB p) (hr:Rep p (cm0 V) (fmT T)):Spec Tryz.prog 37 #[.pointer (some ⟨d,0,none⟩)] [DevR d p.n J.cur 0] fun F v M=>∃ f,v=.tuple #[.pointer (some ⟨f,0,none⟩),.int .i64 0]/\M=FSR f p T :: F:=by
 refine Spec.intro Tryz.func37 rfl rfl fun B F=>?_
 simp only [Tryz.ntmps37,List.cons_append,List.nil_append,env0,Nat.reduceAdd]
 have hS:=hJ.settled
 have hn1:=hJ.n1
 have hn2:=hJ.n2
 have hv:=(hS.home 245 (by decide) (by omega)).trans hsup
 refine .sr (.assign (.assign (.x (.move ?_))))
 refine .call (hc:=Tryz.call83) (sp:=S5 (n:=p.n) (J:=J) hn1 hn2 hJ.ok hJ.last) (h:=?_)
 rintro _ _ ⟨j,rfl,rfl⟩
 refine .move ?_
 refine .extract (.extract ?_)
 refine .assign (.assign (.z (.seq (.sr (.move ?_)))))
 refine .nei (.z ?_)
 refine .condF rfl (cB9 (by first|simp;done|simp;omega|omega)) ?_
 refine .skip (.next (.sr (.move ?_)))
 refine .call (hc:=Tryz.call84) (sp:=P9 (d:=d) (n:=p.n) (J:=J.settled) (k:=245) (by decide) (by omega)) (h:=?_)
 rintro _ _ ⟨gb,q,rfl,⟨hq1,hq2,hq3⟩,rfl⟩
 rw [hv]
 refine .move ?_
 refine .extract (.extract ?_)
 refine .assign (.assign (.z (.seq (.sr (.move ?_)))))
 refine .nei (.z ?_)
 refine .condF rfl (cB9 (by first|simp;done|simp;omega|omega)) ?_
 refine .skip (.next (.sr (.move ?_)))
 refine .call (hc:=Tryz.call85) (sp:=T7 (R:=buf gb 5 q (bvs (supB p))) h Reads.buf) (h:=?_)
 rintro _ _ ⟨rfl,rfl⟩
 refine .move ?_
 refine .extract (.extract ?_)
 refine .alloc z121 fun b7=>?_
 refine .stV ?_ f9
 refine .to (A:=pt b7 (.cells p.cells 121 (0,0))) (A':=pt b7 (.cells p.cells 121 (0,0))) (fun h hh=>hh) ?_
 refine .assign (.z (.seq (.seq ?_)))
 refine .openR (JR.opens j d p.n J.settled) fun x hx=>?_
 simp only [jL,List.cons_append,List.nil_append]
 refine .dr ([pt b7 (.cells p.cells 121 (0,0))]) [] 9 mixed .autoJ ?_
 refine .tk 0 rfl .move ?_
 refine .tk 1 rfl .nei ?_
 refine .tk 2 rfl .move ?_
 refine .tn 3 rfl (.fa Jb) ?_
 refine .tn 4 rfl (.ld sc3) ?_
 refine .tn 5 rfl .move ?_
 refine .on 6 rfl fun hnp=>?_
 refine .gT ?_
 refine .call (hc:=Tryz.call73) (sp:=ey (n:=p.n) (t:=0) (cur:=J.settled.cur)) (h:=?_)
 rintro _ _ ⟨rfl,rfl⟩
 refine .nil (.wa hnp ?_)
 refine .tn 7 rfl .nei ?_
 refine .tk 8 rfl .pickF ?_
 refine .fin ?_
 refine .next ?_
 refine .condF rfl (cB9 (by first|simp;done|simp;omega|omega)) ?_
 refine .skip (.next (.sr ?_))
 refine .shutR (JR.opens j d p.n J.settled) x hx ?_
 refine .move ?_
 refine .ldA ?_ f9
 refine .call (hc:=Tryz.call75) (sp:=Jc (p:=p) (T:=T) hn1 hn2) (h:=?_)
 rintro _ _ ⟨f,c,a,s,mp,rfl,rfl⟩
 simp only [List.cons_append,List.nil_append]
 refine .shutR (TR.opens c p.n (cm0 V) (cm0 V) [] false) (j,d,⟨J.settled,[],false,false⟩) ⟨rfl,(fun k h1 h2=>(hS.home k h1 h2).trans (rc V (by omega)).symm),(fun k h1 h2=>(hS.home k h1 h2).trans (rc V (by omega)).symm),rfl,fun r hr=>(by rw [Hm] at hr;cases hr),fun h=>(by cases h)⟩ ?_
 refine .shutR (IN.opens s a c p (fmT T) (fmT T) 0 false) (cm0 V,cm0 V,[]) ⟨hr,hr,Dk.nil p,Nat.zero_le _⟩ ?_
 refine .shutR (FSR.opens f p T) (c,a,s,mp) trivial ?_
 refine .assign (.assign (.z (.ret (?_))))
 exact .ret2 (h1:=.tmp (t:=2) rfl) (h2:=.tmp (t:=3) rfl) ⟨_,⟨f,rfl,rfl⟩,Am.auto⟩
theorem Fy {d:Nat} {p:Pl} {J:JS} (h:PlIs p) (hJ:DevOk p.n (mkW p) J):Spec Tryz.prog 37 #[.pointer (some ⟨d,0,none⟩)] [DevR d p.n J.cur 0] fun F v M=>∃ f,v=.tuple #[.pointer (some ⟨f,0,none⟩),.int .i64 0]/\M=FSR f p d8 :: F :=
 R0 h hJ (Rg h) (by rw [xn];exact Ri h)
theorem Pf :c5 Tryz.prog 166 2=true:=by kernel_rfl
theorem R3 :ad Tryz.prog 166 0 0=true:=by kernel_rfl
theorem ub (l:List Ent):(l.flatMap entL).length=l.length * 2:=be (enc:=entL) (m:=2) jy l
theorem Nx {l:List Ent} {i:Nat} {x:Ent} (h:l[i]?=some x):(l.flatMap entL)[i * 2]?=some (sv x.1)/\(l.flatMap entL)[i * 2+1]?=some (nI x.2):=by
 induction l generalizing i with
 | nil=>cases h
 | cons a l ih =>
  rw [List.flatMap_cons]
  cases i with
  | zero =>
   injection h with h;subst h
   exact ⟨rfl,rfl⟩
  | succ i =>
   have:=ih (i:=i) h
   rw [show (i+1) * 2=i * 2+2 from by omega]
   constructor
   ·rw [List.getElem?_append_right (by show 2<=_;omega)]
    show (l.flatMap entL)[i * 2+2 - 2]?=_
    rw [Nat.add_sub_cancel];exact this.1
   ·rw [List.getElem?_append_right (by show 2<=_;omega)]
    show (l.flatMap entL)[i * 2+2+1 - 2]?=_
    rw [show i * 2+2+1 - 2=i * 2+1 from by omega];exact this.2
theorem Jy {l:List Ent} {i:Nat} {x:Ent} (h:l[i]?=some x):((l.flatMap entL).drop (i * 2)).take 2=entL x:=by
 have h1:=Nx h
 refine List.ext_getElem? fun j=>?_
 rw [List.getElem?_take]
 split
 ·rename_i hj
  rw [List.getElem?_drop]
  rcases j with _ | _ | j
  ·exact h1.1
  ·exact h1.2
  ·omega
 ·rename_i hj
  rw [List.getElem?_eq_none (by show 2<=j;omega)]
theorem uc {sl:List Slot} (hd:DirOk sl):((oc sl).map (·.1)).Nodup:=by
 unfold List.Nodup
 rw [List.pairwise_map]
 unfold oc
 rw [List.pairwise_filterMap]
 rw [List.pairwise_iff_getElem]
 intro i j hi hj hij x hx y hy hxy
 have hx:sl[i]=some x:=hx
 have hy:sl[j]=some y:=hy
 obtain ⟨n1,i1⟩:=x
 obtain ⟨n2,i2⟩:=y
 have hxy:n1=n2:=hxy
 subst hxy
 have:=hd.one i j n1 i1 i2 (by rw [List.getElem?_eq_getElem hi,hx]) (by rw [List.getElem?_eq_getElem hj,hy])
 omega
abbrev SortE (l:List Ent):Prop:=l.Pairwise fun x y=>¬ y.1 < x.1
theorem bsSn (a:ByteArray):bc Tryz.prog 62 1 [(0,.string a)] 9 #[.string a]:=fun w=>by kernel_rfl
theorem Fz {α:Type} {l:List α} {k:Nat} (h:k < l.length):l.take (k+1)=l.take k++[l[k]]:=List.take_succ_eq_append_getElem h
theorem Pg {f:Nat} {p:Pl} {T:FT} {path:aa} (ho:PlOk p) (hT:TOk T) (hpl:path.length<=1000000) {i z:Nat} {sl:List Slot} (hl:fp T path=(i,2,z,0)) (hd:T i=some (.dir sl)):Spec Tryz.prog 59 #[.pointer (some ⟨f,0,none⟩),sv path] [FSR f p T] fun F v M=>∃ u l,v=.tuple #[u,.int .i64 0]/\((l:List Ent).Perm (oc sl)/\SortE l)/\M=rowR 9 1 u (l.map (·.1)).length (svs (l.map (·.1))) :: FSR f p T :: F:=by
 refine Spec.intro Tryz.func59 rfl rfl fun B F=>?_
 simp only [Tryz.ntmps59,List.cons_append,List.nil_append,env0,Nat.reduceAdd]
 refine .openR (FSR.opens f p T) fun y _=>?_
 obtain ⟨c,a,s,mp⟩:=y
 simp only [fsLs,List.cons_append,List.nil_append]
 have hto:=hT i sl hd
 refine .sr (.assign (.assign (.x (.move (.move ?_)))))
 refine .call (hc:=Tryz.call107) (sp:=xo (f:=f) (s:=s) (a:=a) (c:=c) (mp:=mp) (b:=false) (ov:=false) (dead:=false) (p:=p) (T:=T) (F0:=fmT T) (W:=0) (op:=false) (path:=path) ho hT hpl) (h:=?_)
 rintro _ _ ⟨rfl,rfl⟩
 rw [hl]
 refine .move ?_
 refine .extract (.extract (.extract ?_))
 refine .alloc z159 fun b7=>?_
 refine .assign ?_
 refine .stV ?_ cw
 refine .assign (.z (.seq (.sr (.move ?_))))
 refine .nei (.z ?_)
 refine .condF rfl (cB9 (by first|simp;done|simp;omega|omega)) ?_
 refine .skip (.next (.sr (.move (.nilCheck ?_))))
 refine .fa ?_ fc
 refine .ld ?_ pw
 refine .move ?_
 refine .call (hc:=Tryz.call108) (sp:=dList (s:=s) (a:=a) (c:=c) (p:=p) (F0:=fmT T) (Fm:=fmT T) (W:=0) (d:=i) (op:=false) (sl:=sl) ho (ep hd) hto.1 (by omega)) (h:=?_)
 rintro _ _ ⟨u,l,rfl,⟨hlp,hls⟩,rfl⟩
 have hll:=hlp.length_eq
 have hle:=qm (sl:=sl)
 refine .fact (ae (el:=166) (size:=2) (v:=u) (k:=l.length) (xs:=l.flatMap entL)) (fun ⟨A,cc,hu,hR0,hc1,hc2,hlen⟩=>?_)
 subst hu
 refine .move ?_
 refine .extract (.extract ?_)
 refine .assign (.assign (.z (.seq (.sr (.move ?_)))))
 refine .nei (.z ?_)
 refine .condF rfl (cB9 (by first|simp;done|simp;omega|omega)) ?_
 refine .skip (.next (.sr (.assign ?_)))
 refine .emp (rowR.nil (e:=9) (size:=1) _) ?_
 refine .z (.seq (.sr (.move ?_)))
 refine .lenS ?_ sl162
 refine .move (.z (.block ?_))
 refine .loopA (σ:=Nat×Value) (fun y=>[(10,y.2),(35,.slice A l.length cc),(36,.int .i64 (l.length:Int)),(37,.int .i64 ((y.1:Nat):Int))]) (fun y=>[rowR 9 1 y.2 y.1 (svs ((l.map (·.1)).take y.1)),rowR 166 2 (.slice A l.length cc) l.length (l.flatMap entL),pt f (fO c a s false false false mp),LD mp T,IN s a c p (fmT T) (fmT T) 0 false]++F) (fun y=>y.1<=l.length) (fun y=>l.length - y.1) (0,.slice none 0 0) (Nat.zero_le _) ?_
 rintro y hk
 obtain ⟨k,o⟩:=y
 simp only at hk ⊢
 refine .sr ?_
 refine .lss (.z (.seq ?_))
 refine .cond rfl (fun hb=>?_) (fun hb=>?_)
 ·have hlt:k < l.length:=by have h:(k:Int) < (l.length:Int):=of_decide_eq_true hb;omega
  rcases A with _ | ⟨ab,ao,asp⟩
  ·exact absurd (congrArg List.length (show l.flatMap entL=[] from hR0)) (by rw [ub,List.length_nil];omega)
  have hsp:asp=none:=hR0.1
  subst hsp
  have hlk:l[k]?=some l[k]:=List.getElem?_eq_getElem hlt
  have hml:(l.map (·.1)).length=l.length:=List.length_map ..
  refine .skip (.next (.seq (.block (.sr ?_))))
  refine .idx ?_ Tx
  refine .ldAR (i:=((k:Nat):Int).toNat * 2) (us:=entL l[k]) ?_ Pf hR0 (by rw [Int.toNat_natCast];exact Jy hlk) (by rw [ub,Int.toNat_natCast];omega)
  refine .alloc z166 fun b12=>?_
  refine .stV ?_ Pf
  refine .y (.move ?_)
  refine .fa ?_ R3
  refine .ld ?_ sc9
  refine .buildS (fun b44=>?_) (bsSn _)
  refine .append (m:=1) (news:=[sv l[k].1]) so62 (by decide) (by repeat (first | exact .here | apply Rem.there | apply Repl.there | apply Mem.there)) Reads.pt (by repeat (first | exact .here | apply Rem.there | apply Repl.there | apply Mem.there)) rfl (by intro x hx;simp only [List.mem_cons,List.not_mem_nil,or_false] at hx;subst hx;rfl) (by show k+1<=maxLen;unfold maxLen;omega) (by show (k+1) * _<=_;omega) ⟨_,z9,rfl⟩ (fun u2 hu2=>?_)
  refine .assign (.nil (.blockNormal (.next (.region ?_))))
  refine .add ?_
  refine .move (.nil ?_)
  refine .to (A:=rowR 9 1 u2 (k+1) (svs ((l.map (·.1)).take k)++[sv l[k].1])) (A':=rowR 9 1 u2 (k+1) (svs ((l.map (·.1)).take (k+1)))) (fun h hh=>by rw [Fz (by omega),List.getElem_map];unfold svs at hh ⊢;rw [List.map_append];exact hh) ?_
  refine .cast (d:=37) (u:=.int .i64 ((k+1:Nat):Int)) rfl (cI9 (by omega)) ?_
  exact .back (k+1,u2) (by show k+1<=l.length;omega) (by show l.length - (k+1) < l.length - k;omega)
 ·have hge:k=l.length:=by have h:¬ (k:Int) < (l.length:Int):=of_decide_eq_false hb;omega
  subst hge
  have hml:(l.map (·.1)).length=l.length:=List.length_map ..
  rw [List.take_of_length_le (Nat.le_of_eq hml)]
  refine .exit (.thenExit (.thenExit (.blockExit (?_))))
  refine .next (.sr (.move (.assign (.assign (.z ?_)))))
  refine .ret (?_)
  refine .shutR (FSR.opens f p T) (c,a,s,mp) trivial ?_
  exact .ret2 (h1:=.tmp (t:=4) rfl) (h2:=.tmp (t:=5) rfl) ⟨_,⟨o,l,rfl,⟨hlp,hls⟩,by rw [hml]⟩,Am.auto⟩
theorem F2 :c5 Tryz.prog 23 5=true:=by kernel_rfl
theorem Uo {p:Pl} {dn:aa} (hdn:am dn=true) (hi:2<=p.ino):DirF p dn 0 (mkT d8 0 [] dn 1 (.dir [])) [] []:=by
 have hs:setS ([]:List Slot) (d6 []) (some (dn,1))=[some (dn,1)]:=rfl
 have hat:∀ j,mkT d8 0 [] dn 1 (.dir []) j=if j=0 then some (.dir [some (dn,1)]) else if j=1 then some (.dir []) else none:=fun j=>by
  rw [vn,hs]
  by_cases h0:j=0
  ·rw [if_pos h0,if_pos h0]
  ·rw [if_neg h0,if_neg h0]
   by_cases h1:j=1
   ·rw [if_pos h1,if_pos h1]
   ·rw [if_neg h1,if_neg h1]
    unfold d8
    rw [if_neg h0]
 refine ⟨hdn,by rw [hat];rfl,by rw [hat];rfl,DirOk.nil,Nat.le_refl _,fun q nm i=>⟨fun h=>by simp at h,fun ⟨x,hx,_⟩=>by simp at hx⟩,fun x hx=>by simp at hx,fun j hj _=>by rw [hat,if_neg (by omega),if_neg (by omega)],fun x hx=>by simp at hx,List.Pairwise.nil,?_⟩
 have h1:=ip (fmT d8) (show 1 < p.ino by omega) (some (NodeT.dir []).f)
 rw [iq,l5 (show d8 1=none from rfl)] at h1
 have h2:=ip (fmT (updT d8 1 (some (.dir [])))) (show 0 < p.ino by omega) (some (NodeT.dir [some (dn,1)]).f)
 rw [iq,ep (T:=updT d8 1 (some (.dir []))) (i:=0) (x:=.dir []) rfl] at h2
 have e0:hasO none=0:=rfl
 have e1:hasO (some (NodeT.dir []).f)=0:=by show has (dirB []).length=0;rw [cg];rfl
 have e2:hasO (some (NodeT.dir [some (dn,1)]).f)=1:=by
  have h64:has 64=1:=rfl
  show has (dirB [some (dn,1)]).length=1
  rw [cg]
  exact h64
 have e3:tot (fmT d8) p.ino=0:=by rw [xn];exact C7 _
 have e4:mkT d8 0 [] dn 1 (.dir [])=updT (updT d8 1 (some (.dir []))) 0 (some (.dir [some (dn,1)])):=by unfold mkT;rw [hs]
 have e5:has (64 * 0)=0:=rfl
 show tot (fmT (mkT d8 0 [] dn 1 (.dir []))) p.ino=1+has (64 * 0)+0
 rw [e4]
 omega
theorem R4 {dn:aa} (hdn:am dn=true):dx d8 (47 :: dn)=(0,dn,0):=by
 have hl:=aq hdn
 unfold dx
 have hp:ew (47 :: dn)=some [dn]:=by
  unfold ew
  simp only [if_true]
  rw [if_neg (by intro h;rw [h] at hl;simp at hl),lr hdn,if_neg (by simp)]
  rw [show [dn].all am=true from by rw [List.all_cons,List.all_nil,hdn];rfl]
  rfl
 rw [hp]
 rfl
theorem Ny {dn:aa} (hdn:am dn=true):ew (47 :: dn)=some [dn]:=by
 have hl:=aq hdn
 unfold ew
 simp only [if_true]
 rw [if_neg (by intro h;rw [h] at hl;simp at hl),lr hdn,if_neg (by simp)]
 rw [show [dn].all am=true from by rw [List.all_cons,List.all_nil,hdn];rfl]
 rfl
theorem DirF.leadsD {p:Pl} {dn:aa} {N:Nat} {T:FT} {sl:List Slot} {fl:List PF} (h:DirF p dn N T sl fl):fp T (47 :: dn)=(1,2,(NodeT.dir sl).size,0):=by
 unfold fp
 rw [Ny h.dnm]
 have hw:de T 0 [dn]=(1,0):=by
  unfold de
  rw [h.findD]
  rfl
 show (if (de T 0 [dn]).2=0 then _ else _)=_
 rw [hw,if_pos rfl]
 show (match T 1 with | some y=>(1,y.kind,y.size,0) | none=>(1,0,0,4))=_
 rw [h.dir]
 rfl
theorem Nz {α:Type} {l:List α} {a:α} (h1:a∈l) (h2:∀ x∈l,x=a) (h3:l.Nodup):l=[a]:=by
 match l,h1 with
 | [x],_=>rw [h2 x (List.mem_singleton.2 rfl)]
 | x :: y :: l,_ =>
  have e1:=h2 x (List.mem_cons_self ..)
  have e2:=h2 y (List.mem_cons_of_mem _ (List.mem_cons_self ..))
  rw [List.nodup_cons] at h3
  exact absurd (by rw [e1,e2];exact List.mem_cons_self ..) h3.1
theorem Jz {f:Nat} {p:Pl} {dn:aa} {N:Nat} {y:SegA} (hp:PlP p) (hf:FitsP p N [y]) :
  Spec Tryz.prog 59 #[.pointer (some ⟨f,0,none⟩),sv (47 :: dn)] [DRF f p dn N [y]] fun F v M=>∃ u,v=.tuple #[u,.int .i64 0]/\M=rowR 9 1 u 1 (svs [al y.1]) :: DRF f p dn N [y] :: F:=by
 refine Spec.opens (DRF.opens f p dn N [y]) fun fl hfl=>?_
 refine Spec.opens (DR.opens f p dn N fl) fun z hd=>?_
 obtain ⟨T,sl⟩:=z
 have hd:DirF p dn N T sl fl:=hd
 have hN:=hf.n
 refine Spec.post' (Pg (f:=f) (p:=p) (T:=T) (path:=47 :: dn) (i:=1) (z:=(NodeT.dir sl).size) (sl:=sl) hp.ok (hd.tok (by omega)) (by have:=aq hd.dnm;simp only [List.length_cons];omega) hd.leadsD hd.dir) ?_
 rintro F v M B w ⟨u,l,rfl,⟨hlp,_⟩,rfl⟩ hs
 obtain ⟨fa,x,fb,rfl,ha,⟨hxn,hxc⟩,hb⟩:=hfl.split (pre:=[]) (post:=[])
 have ha0:fa=[]:=by unfold FilesOf at ha;exact List.map_eq_nil_iff.1 ha
 have hb0:fb=[]:=by unfold FilesOf at hb;exact List.map_eq_nil_iff.1 hb
 subst ha0
 subst hb0
 have hnm:l.map (·.1)=[al y.1]:=by
  refine Nz ?_ ?_ ?_
  ·refine List.mem_map.2 ⟨(x.nm,x.i),hlp.mem_iff.2 (entsS_mem.2 ⟨x.q,(hd.slot _ _ _).2 ⟨x,List.mem_singleton.2 rfl,rfl,rfl,rfl⟩⟩),hxn⟩
  ·intro n hn
   obtain ⟨⟨nm,i⟩,hm,rfl⟩:=List.mem_map.1 hn
   obtain ⟨q,hq⟩:=entsS_mem.1 (hlp.mem_iff.1 hm)
   obtain ⟨x',hx',h1,h2,h3⟩:=(hd.slot _ _ _).1 hq
   rw [List.mem_singleton.1 hx'] at h2
   rw [<- hxn,h2]
  ·exact (hlp.map _).nodup_iff.2 (uc hd.ok)
 rw [hnm] at hs
 refine ⟨_,⟨u,rfl,rfl⟩,Sat.front (.there .here) ?_⟩
 refine Sat.shuts (M:=rowR _ 1 u 1 (svs [al y.1]) :: F) (DRF.opens f p dn N [y]) hfl ?_
 exact Sat.shuts (DR.opens f p dn N _) (x:=(T,sl)) hd (Sat.front (.there .here) hs)
theorem Ph {f:Nat} {p:Pl} {dn:aa} {N:Nat} {pre post:List SegA} {y:SegA} (hp:PlP p) (hf:FitsP p N (pre++y :: post)) (hc:(byt y).length<=70656) :
  Spec Tryz.prog 116 #[.pointer (some ⟨f,0,none⟩),sv (d4 dn (al y.1)),nI 0,nI 70656] [DRF f p dn N (pre++y :: post)] fun F v M=>∃ u,v=.tuple #[u,.int .i64 0]/\M=rowR 5 1 u (byt y).length (bvs (byt y)) :: DRF f p dn N (pre++y :: post) :: F:=by
 refine Spec.opens (DRF.opens f p dn N _) fun fl hfl=>?_
 have hN:=hf.n
 obtain ⟨fa,x,fb,rfl,ha,⟨hxn,hxc⟩,hb⟩:=hfl.split
 have h:=T4 (f:=f) (p:=p) (dn:=dn) (N:=N) (fl:=fa++x :: fb) (x:=x) hp.ok (by omega) (List.mem_append_right _ (List.mem_cons_self ..)) (by rw [hxn,ce];decide) (by rw [hxc];exact hc)
 rw [hxn,hxc] at h
 refine Spec.post' h ?_
 rintro F v M B w ⟨u,rfl,rfl⟩ hs
 exact ⟨_,⟨u,rfl,rfl⟩,Sat.front (.there .here) (Sat.shuts (M:=rowR _ _ _ _ _ :: F) (DRF.opens f p dn N _) hfl (Sat.front (.there .here) hs))⟩
theorem Pi (f:Nat) (s:ByteArray) (a b c:Int) (d:Bool) (e:Int):av Tryz.prog 84 [(0,.pointer (some ⟨f,0,none⟩)),(1,.string s),(2,.agg #[.int .i64 a,.int .i64 b,.int .i64 c,.bool d,.int .i64 e])] #[.pointer (some ⟨f,0,none⟩),.string s,.int .i64 a,.int .i64 b,.int .i64 c,.bool d,.int .i64 e,.slice none 0 0]:=fun w=>by kernel_rfl
theorem sufP (b:Nat):decide ((al b).drop ((al b).length - ([46,110,101,119]:aa).length)=([46,110,101,119]:aa))=false:=by
 refine decide_eq_false fun h=>?_
 have hd:(al b).length - ([46,110,101,119]:aa).length=16:=by rw [ce];rfl
 rw [hd] at h
 have h1:((al b).drop 16)[0]?=some 46:=by rw [h];rfl
 rw [List.getElem?_drop,xq (by decide)] at h1
 injection h1 with h1
 have h2:=l7 b (19 - (16+0))
 have h3:=l6 b (19 - (16+0))
 rw [h1] at h2
 have:(46:UInt8).toNat=46:=rfl
 omega
theorem J1 {f bf bd:Nat} {p:Pl} {dn:aa} (hp:PlP p) (hdn:am dn=true) (hi:6<=p.ino):Spec Tryz.prog 58 #[.pointer (some ⟨bf,0,none⟩),.pointer (some ⟨bd,0,none⟩)] [FSB f p (fmT d8) d8 0,bun [pt bf (.cells #[.pointer (some ⟨f,0,none⟩)] 29 (0,0)),pt bd (.cells #[sv (47 :: dn)] 9 (0,0))]] fun F v M=>∃ y:FT×List Slot×List PF,(DirF p dn 1 y.1 y.2.1 y.2.2/\FilesOf y.2.2 [(0,[])])/\v=okV/\M=FSB f p (fmT d8) y.1 18 :: bun [pt bf (.cells #[.pointer (some ⟨f,0,none⟩)] 29 (0,0)),pt bd (.cells #[sv (47 :: dn)] 9 (0,0))] :: F:=by
 refine Spec.intro Tryz.func58 rfl rfl fun B F=>?_
 simp only [Tryz.ntmps58,List.cons_append,List.nil_append,env0,Nat.reduceAdd]
 refine .openR (bun.opens _) fun _ _=>?_
 simp only [List.cons_append,List.nil_append]
 have hdl:=aq hdn
 have hdc:=hp.dc
 refine .sr (.assign (.z (.seq (.sr ?_))))
 refine .ld ?_ sc29
 refine .ld ?_ sc9
 refine .call (hc:=Tryz.call31) (sp:=M7 (f:=f) (p:=p) (T:=d8) (F0:=fmT d8) (W0:=0) (path:=47 :: dn) (d:=0) (i:=1) (nm:=dn) (sl:=[]) (x:=.dir []) hp.ok M1 (by simp only [List.length_cons];omega) (by intro h;injection h with _ h;rw [h] at hdl;simp at hdl) (R4 hdn) (by unfold d7;rw [if_pos hdn];rfl) rfl (by omega) rfl (fun j hj=>by rw [show j=0 by omega];simp [d8]) rfl rfl (hp.w (by decide)) (by
  have h1:tot (fmT d8) p.ino=0:=by rw [xn];exact C7 _
  have h2:has (max (64 * ([]:List Slot).length) (64 * d6 []+64))=1:=rfl
  rw [h1,h2]
  omega)) (h:=?_)
 rintro _ _ ⟨rfl,rfl⟩
 refine .assign (.x (.move ?_))
 refine .nei (.z ?_)
 refine .condF rfl rfl ?_
 refine .skip (.next (.seq ?_))
 refine .dr ([pt bf (.cells #[.pointer (some ⟨f,0,none⟩)] 29 (0,0)),pt bd (.cells #[sv (47 :: dn)] 9 (0,0))]) [] 9 mixed .autoJ ?_
 refine .tk 0 rfl (.ld sc29) ?_
 refine .tk 1 rfl (.ld sc9) ?_
 refine .on 2 rfl fun hnp=>?_
 refine .call (hc:=Tryz.call47) (sp:=rp (dir:=47 :: dn) (b:=0) (by simp only [List.length_cons];omega) (by decide)) (h:=?_)
 rintro _ _ ⟨rfl,rfl⟩
 rw [rq]
 refine .nil (.wa hnp ?_)
 refine .on 3 rfl fun hnp=>?_
 refine .shutR (DB.opens f p dn 0 (fmT d8) [] 9) (_,[]) (Uo hdn (by omega)) ?_
 refine .shutR (DBF.opens f p dn 0 (fmT d8) [] 9) [] rfl ?_
 refine .call (hc:=Tryz.call46) (sp:=Jr (f:=f) (base:=((0:Nat):Int)) (path:=d4 dn (al 0)) (H:=DBF f p dn 0 (fmT d8) [] 9) (H':=DBF f p dn 1 (fmT d8) [(0,[])] 18) (by decide) (Dy (ss:=[]) hp ⟨by decide,by omega,by decide,by decide⟩ (by decide) (by decide) (fun y hy=>absurd hy List.not_mem_nil))) (h:=?_)
 rintro _ _ ⟨s,rfl,rfl⟩
 refine .nil (.wa hnp ?_)
 refine .tk 4 rfl .move ?_
 refine .tk 5 rfl .extract ?_
 refine .tk 6 rfl .extract ?_
 refine .tk 7 rfl .assign ?_
 refine .tk 8 rfl .assign ?_
 refine .fin ?_
 refine .next (.sr (.move (.assign (.z (.ret (?_))))))
 refine .openR (DBF.opens f p dn 1 (fmT d8) [(0,[])] 18) fun fl hfl=>?_
 simp only [List.cons_append,List.nil_append]
 refine .openR (DB.opens f p dn 1 (fmT d8) fl 18) fun z hd=>?_
 simp only [List.cons_append,List.nil_append]
 refine .shutR (bun.opens [pt bf (.cells #[.pointer (some ⟨f,0,none⟩)] 29 (0,0)),pt bd (.cells #[sv (47 :: dn)] 9 (0,0))]) () trivial ?_
 exact .ret1 (h1:=.tmp (t:=2) rfl) ⟨_,⟨(z.1,z.2,fl),⟨hd,hfl⟩,rfl,rfl⟩,Am.auto⟩
theorem N0 {f:Nat} {p:Pl} {dn:aa} {st:Sts} (hp:PlP p) (hdn:am dn=true) (hi:6<=p.ino) (hst:ko st=true):Spec Tryz.prog 29 #[.pointer (some ⟨f,0,none⟩),sv (47 :: dn),.agg st.v.toArray] [FSR f p d8] fun F v M=>v=okV/\M=DRF f p dn 1 [(0,[])] :: F:=by
 refine Spec.intro Tryz.func29 rfl rfl fun B F=>?_
 simp only [Tryz.ntmps29,List.cons_append,List.nil_append,env0,Nat.reduceAdd]
 refine .sr ?_
 refine .box fun b3=>?_
 refine .box fun b4=>?_
 refine .box fun b5=>?_
 refine .assign (.z (.seq (.sr ?_)))
 refine .ldA ?_ F2
 refine .call (hc:=Tryz.call10) (sp:=x0 (s:=st)) (h:=?_)
 rintro _ _ ⟨rfl,rfl⟩
 rw [hst]
 refine .not (.z ?_)
 refine .condF rfl rfl ?_
 refine .skip (.next (.sr ?_))
 refine .ld ?_ sc29
 refine .makeFuncB ?_
 refine .shutR (bun.opens [pt b3 (.cells #[.pointer (some ⟨f,0,none⟩)] 29 (0,0)),pt b4 (.cells #[sv (47 :: dn)] 9 (0,0))]) () trivial ?_
 refine .call (hc:=Tryz.call41) (sp:=vo (f:=f) (p:=p) (α:=FT×List Slot×List PF) (q:=fun y=>(DirF p dn 1 y.1 y.2.1 y.2.2/\FilesOf y.2.2 [(0,[])])) (T:=d8) (T':=fun y=>y.1) (W':=fun _=>18) (X0:=bun [pt b3 (.cells #[.pointer (some ⟨f,0,none⟩)] 29 (0,0)),pt b4 (.cells #[sv (47 :: dn)] 9 (0,0))]) (X':=fun _=>bun [pt b3 (.cells #[.pointer (some ⟨f,0,none⟩)] 29 (0,0)),pt b4 (.cells #[sv (47 :: dn)] 9 (0,0))]) hp.ok (hc:=Tryz.call58) (J1 hp hdn hi)) (h:=?_)
 rintro _ _ ⟨y,hy,rfl,rfl⟩
 refine .shutR (DR.opens f p dn 1 y.2.2) (y.1,y.2.1) hy.1 ?_
 refine .shutR (DRF.opens f p dn 1 [(0,[])]) y.2.2 hy.2 ?_
 refine .assign (.z (.ret (?_)))
 exact .ret1 (h1:=.tmp (t:=6) rfl) ⟨_,⟨rfl,rfl⟩,Am.auto⟩
theorem B7 {f N:Nat} {p:Pl} {dn:aa} {st:Sts} (hp:PlP p) (hdn:am dn=true) (hf:FitsP p N [(0,[])]) (hst:ko st=true):Spec Tryz.prog 30 #[.pointer (some ⟨f,0,none⟩),sv (47 :: dn),.agg st.v.toArray] [DRF f p dn N [(0,[])]] fun F v M=>∃ pp,v=.tuple #[.pointer (some ⟨pp,0,none⟩),.int .i64 0]/\M=PT pp f dn st [] [(0,[])] :: DRF f p dn N [(0,[])] :: F:=by
 refine Spec.intro Tryz.func30 rfl rfl fun B F=>?_
 simp only [Tryz.ntmps30,List.cons_append,List.nil_append,env0,Nat.reduceAdd]
 have hdl:=aq hdn
 refine .sr ?_
 refine .box fun b5=>?_
 refine .assign (.assign (.z (.seq (.sr ?_))))
 refine .ldA ?_ F2
 refine .call (hc:=Tryz.call10) (sp:=x0 (s:=st)) (h:=?_)
 rintro _ _ ⟨rfl,rfl⟩
 rw [hst]
 refine .not (.z ?_)
 refine .condF rfl rfl ?_
 refine .skip (.next (.sr (.move (.move ?_))))
 refine .call (hc:=Tryz.call59) (sp:=Jz (y:=(0,[])) hp hf) (h:=?_)
 rintro _ _ ⟨u,rfl,rfl⟩
 refine .rowOpen (v:=u) (xs:=svs [al 0]) (hx:=fun h=>by cases h) fun A c hv hR hc1 hc2=>?_
 subst hv
 refine .move ?_
 refine .extract (.extract ?_)
 refine .assign (.assign (.z (.seq (.sr (.move ?_)))))
 refine .nei (.z ?_)
 refine .condF rfl rfl ?_
 refine .skip (.next (.sr (.move (.move ?_))))
 refine .ldA ?_ F2
 refine .build ?_ (Pi f (bstr (47 :: dn)) st.seg st.bytes st.age st.comp st.delay)
 refine .box fun b34=>?_
 refine .assign (.z (.seq (.sr (.move ?_))))
 refine .lenS ?_ sl62
 refine .move (.z (.block ?_))
 obtain ⟨ab,ao,asp⟩:=A
 have hasp:asp=none:=hR.1
 subst hasp
 refine .loopN 2 (RC.succ ?_)
 refine .sr ?_
 refine .lss (.z (.seq ?_))
 refine .condT rfl rfl ?_
 refine .skip (.next (.seq (.block (.sr ?_))))
 refine .idx1 ?_ so62
 rw [show ao+((0:Int)).toNat=ao+0 from rfl]
 refine .ldR (i:=0) (v:=sv (al 0)) ?_ sc9 hR rfl
 refine .assign (.z (.seq (.sr (.move ?_))))
 refine .call (hc:=Tryz.call60) (sp:=Jl (xs:=al 0) (ps:=[46,110,101,119]) (by rw [ce];decide) (by rw [ce];decide)) (h:=?_)
 rintro _ _ ⟨rfl,rfl⟩
 rw [sufP 0]
 refine .z ?_
 refine .condF rfl rfl ?_
 refine .skip (.next (.sr (.move ?_)))
 refine .call (hc:=Tryz.call62) (sp:=D0 (b:=0) (by decide)) (h:=?_)
 rintro _ _ ⟨rfl,rfl⟩
 refine .move ?_
 refine .extract (.extract ?_)
 refine .assign (.assign (.z (.seq (.sr (.move ?_)))))
 refine .not (.z ?_)
 refine .condF rfl rfl ?_
 refine .skip (.next (.sr (.move (.move (.move ?_)))))
 refine .call (hc:=Tryz.call47) (sp:=rp (dir:=47 :: dn) (b:=0) (by simp only [List.length_cons];omega) (by decide)) (h:=?_)
 rintro _ _ ⟨rfl,rfl⟩
 rw [rq]
 refine .move ?_
 refine .call (hc:=Tryz.call63) (sp:=Nu (f:=f) (base:=((0:Nat):Int)) (path:=d4 dn (al 0)) (H:=DRF f p dn N [(0,[])]) (by decide) (Ph (pre:=[]) (post:=[]) (y:=(0,[])) hp hf (by decide))) (h:=?_)
 rintro _ _ ⟨s,rfl,rfl⟩
 refine .move ?_
 refine .extract (.extract ?_)
 refine .assign (.assign (.z (.seq (.sr (.move ?_)))))
 refine .nei (.z ?_)
 refine .condF rfl rfl ?_
 refine .skip (.next (.region (.move (.move (.nilCheck ?_)))))
 refine .fa ?_ jl
 refine .ld ?_ sc82
 refine .move ?_
 refine .buildS (fun b77=>?_) (bsPS _)
 refine .emp (A:=rowR 86 1 (.slice none 0 0) 0 []) (rowR.nil _) ?_
 refine .append (v:=.slice none 0 0) (m:=1) (k:=0) (xs:=[]) (news:=[.pointer (some ⟨s,0,none⟩)]) so82 (by decide) (by repeat (first | exact .here | apply Rem.there | apply Repl.there | apply Mem.there)) (Reads.pt (cs:=#[.pointer (some ⟨s,0,none⟩)])) (by repeat (first | exact .here | apply Rem.there | apply Repl.there | apply Mem.there)) rfl (p6 _ (fun v hv=>⟨s,List.mem_singleton.1 hv⟩)) (by decide) (by decide) ⟨_,z86,rfl⟩ (fun v' hv'=>?_)
 refine .toE (A:=rowR 86 1 v' (0+1) ([]++[.pointer (some ⟨s,0,none⟩)])) (br (fun h=>by have:=(hv'.1 h).2;cases this)) ?_
 rintro ⟨g2,q2⟩ ⟨rfl,h2a,h2b,_⟩
 refine .nilCheck ?_
 refine .fa ?_ jl
 refine .st ?_ sc82
 refine .nil (.blockNormal (.next (.region ?_)))
 refine .add ?_
 refine .move (.nil ?_)
 refine .again (RC.succ ?_)
 refine .sr ?_
 refine .lss (.z (.seq ?_))
 refine .condF rfl rfl ?_
 refine .exit (.thenExit (.thenExit (.blockExit (?_))))
 refine .next (.seq (.sr (.move (.nilCheck ?_))))
 refine .fa ?_ jl
 refine .ld ?_ sc82
 refine .lenS ?_ sl82
 refine .eqi (.z ?_)
 refine .condF rfl rfl ?_
 refine .skip (.next (.sr (.move (.assign (.assign (.z ?_))))))
 refine .ret (?_)
 refine .to (A:=SGP s f (d4 dn (al 0)) ((0:Nat):Int) []) (A':=SGA f dn ⟨s,0,[]⟩) (fun h hh=>hh) ?_
 refine .emp (A:=segsH f dn ([]++[])) (by unfold segsH;exact bun.nil) ?_
 refine .segIn [] [] (⟨s,0,[]⟩:Seg) ?_
 refine .shutR (PT.opens b34 f dn st [] [(0,[])]) (g2,q2,[(⟨s,0,[]⟩:Seg)]) ⟨rfl,h2a,h2b,by show 1<=_;decide⟩ ?_
 exact .ret2 (h1:=.tmp (t:=6) rfl) (h2:=.tmp (t:=7) rfl) ⟨_,⟨b34,rfl,rfl⟩,Am.auto⟩
theorem B8 :ad Tryz.prog 316 0 0=true:=by kernel_rfl
theorem kh :ad Tryz.prog 316 1 1=true:=by kernel_rfl
theorem J2 :∀ (i n:Nat),i < (vint n).length->(vint n)[i]?=some (if 127 < n / 128 ^ i then UInt8.ofNat (n / 128 ^ i % 128+128) else UInt8.ofNat (n / 128 ^ i))/\(127 < n / 128 ^ i ↔ i+1 < (vint n).length)/\(i=0 ∨ 1<=n / 128 ^ i):=by
 intro i
 induction i with
 | zero =>
  intro n h
  simp only [Nat.pow_zero,Nat.div_one]
  by_cases hb:127 < n
  ·rw [if_pos hb,rk hb]
   have:=oh (n / 128)
   exact ⟨rfl,⟨fun _=>by rw [List.length_cons];omega,fun _=>hb⟩,.inl trivial⟩
  ·rw [if_neg hb,ka hb]
   exact ⟨rfl,⟨fun h=>absurd h hb,fun h=>by simp at h⟩,.inl trivial⟩
 | succ i ih =>
  intro n h
  have hb:127 < n:=by
   by_cases hb:127 < n
   ·exact hb
   ·rw [ka hb] at h;simp at h
  have e:n / 128 ^ (i+1)=n / 128 / 128 ^ i:=by rw [Nat.pow_succ,Nat.mul_comm,Nat.div_div_eq_div_mul]
  rw [rk hb,List.length_cons] at h ⊢
  obtain ⟨h1,h2,h3⟩:=ih (n / 128) (by omega)
  rw [e,List.getElem?_cons_succ]
  refine ⟨h1,by rw [h2];omega,.inr ?_⟩
  rcases h3 with h3 | h3
  ·subst h3
   simp only [Nat.pow_zero,Nat.div_one]
   omega
  ·exact h3
def vbyte (m:Nat):Nat:=if 127 < m then m % 128+128 else m
theorem D5 (m:Nat):vbyte m < 256:=by unfold vbyte;split<;>omega
theorem J3 (m:Nat):vbyte m % 128=m % 128:=by unfold vbyte;split<;>omega
theorem J4 (m:Nat):vbyte m < 128 ↔ ¬ 127 < m:=by unfold vbyte;split<;>omega
theorem J5 {i n:Nat} {rest:aa} (h:i < (vint n).length):(bvs (vint n++rest))[i]?=some (.int .u8 ((vbyte (n / 128 ^ i):Nat):Int)):=by
 have h1:=(J2 i n h).1
 unfold bvs
 rw [List.getElem?_map,List.getElem?_append_left h,h1]
 show some (bv _)=_
 unfold bv vbyte
 have:=Nat.mod_lt (n / 128 ^ i) (show 0 < 128 by decide)
 split
 ·rw [UInt8.toNat_ofNat',Nat.mod_eq_of_lt (by omega)]
 ·rw [UInt8.toNat_ofNat',Nat.mod_eq_of_lt (by omega)]
theorem z6 :∀ m:Fin 256,band .u8 ((m.val:Nat):Int) 127=((m.val % 128:Nat):Int):=by decide +kernel
theorem oq (m:Nat):band .u8 ((vbyte m:Nat):Int) 127=((m % 128:Nat):Int):=by
 rw [z6 ⟨vbyte m,D5 m⟩,J3]
theorem p128 {i:Nat} (h:i<=7):128 ^ i<=562949953421312:=Nat.le_trans (Nat.pow_le_pow_right (by decide) h) (by decide)
theorem shl7 {a i:Nat} (ha:a < 128) (hi:i<=7):IntKind.u64.wrap (((a:Nat):Int) * 2 ^ (min (7 * ((i:Nat):Int)).toNat IntKind.u64.bits))=((a * 128 ^ i:Nat):Int):=by
 have h1:min (7 * ((i:Nat):Int)).toNat IntKind.u64.bits=7 * i:=by simp only [IntKind.bits];omega
 have h2:=p128 hi
 have h3:a * 128 ^ i<=127 * 562949953421312:=Nat.mul_le_mul (by omega) h2
 rw [h1,Int.pow_mul,show ((a:Nat):Int) * ((2:Int) ^ 7) ^ i=((a * 128 ^ i:Nat):Int) by rw [Int.natCast_mul,Int.natCast_pow];rfl,IntWalk.u64_in _ (by omega)]
theorem bor64 {a b:Nat} (ha:a < 2 ^ 64) (hb:b < 2 ^ 64):bor .u64 (a:Int) (b:Int)=((a ||| b:Nat):Int):=by
 have h:bor .u64 (a:Int) (b:Int)=IntKind.u64.wrap ((a ||| b:Nat):Int):=by
  unfold bor
  congr 2
  rw [BitVec.toNat_or]
  rw [show IntKind.u64.bits=64 from rfl,cf a ha,cf b hb]
 have:a ||| b < 2 ^ 64:=Nat.or_lt_two_pow ha hb
 rw [h,IntWalk.u64_in _ (by omega)]
theorem vor {n i:Nat} (hi:i<=7):bor .u64 ((n % 128 ^ i:Nat):Int) ((n / 128 ^ i % 128 * 128 ^ i:Nat):Int)=((n % 128 ^ (i+1):Nat):Int):=by
 have h2:=p128 hi
 have hp:0 < 128 ^ i:=Nat.pow_pos (by decide)
 have h1:=Nat.mod_lt n hp
 have h3:=Nat.mod_lt (n / 128 ^ i) (show 0 < 128 by decide)
 have h4:n / 128 ^ i % 128 * 128 ^ i<=127 * 562949953421312:=Nat.mul_le_mul (by omega) h2
 rw [bor64 (by omega) (by omega),Nat.mod_pow_succ,Nat.or_comm]
 have e:128 ^ i=2 ^ (7 * i):=by rw [Nat.pow_mul]
 have h5:=Nat.two_pow_add_eq_or_of_lt (i:=7 * i) (b:=n % 128 ^ i) (by rw [<- e];exact h1) (n / 128 ^ i % 128)
 rw [<- e] at h5
 rw [Nat.mul_comm (n / 128 ^ i % 128) (128 ^ i),<-h5,Nat.add_comm]
theorem ud {n:Nat} (h:n < 72057594037927936):(vint n).length<=8:=Dq 7 n (by omega)
theorem J6 {m c ab ao p:Nat} (h:p < c):Value.slice (if c=((p:Nat):Int).toNat then some ⟨ab,ao,none⟩ else some ⟨ab,ao+((p:Nat):Int).toNat * 1,none⟩) (m - ((p:Nat):Int).toNat) (c - ((p:Nat):Int).toNat)=.slice (some ⟨ab,ao+p,none⟩) (m - p) (c - p):=by
 rw [Int.toNat_natCast,if_neg (by omega),Nat.mul_one]
theorem z7 {R:HP} {A:Addr} {m c n:Nat} {xs rest:aa} (hR:Reads R (some A) (bvs xs)) (hm:xs.length=m) (hxs:xs=vint n++rest) (hn:n < 72057594037927936) (hl:m<=1073741824):Spec Tryz.prog 272 #[.slice (some A) m c] [R]
  fun F v M=>v=.tuple #[.int .u64 ((n:Nat):Int),.int .i64 (((vint n).length:Nat):Int)]/\M=R :: F:=by
 refine Spec.intro Tryz.func272 rfl rfl fun B F=>?_
 simp only [Tryz.ntmps272,List.cons_append,List.nil_append,env0,Nat.reduceAdd]
 obtain ⟨ab,ao,asp⟩:=A
 have hsp:asp=none:=hR.1
 subst hsp
 have h8:=ud hn
 have hpos:=oh n
 have hml:(vint n).length<=m:=by rw [<- hm,hxs,List.length_append];omega
 rw [hxs] at hR
 refine .sr (.assign (.assign (.z (.seq (.sr (.move ?_))))))
 refine .lenS ?_ sl79
 refine .move (.z (.block ?_))
 refine .cast (d:=2) (u:=.int .u64 ((n % 128 ^ 0:Nat):Int)) rfl (by rw [Nat.pow_zero,Nat.mod_one];rfl) ?_
 refine .loopA (σ:=Nat) (fun i=>[(2,.int .u64 ((n % 128 ^ i:Nat):Int)),(6,.slice (some ⟨ab,ao,none⟩) m c),(7,.int .i64 ((m:Nat):Int)),(8,.int .i64 ((i:Nat):Int))]) (fun _=>R :: F) (fun i=>i < (vint n).length) (fun i=>(vint n).length - i) 0 (by omega) ?_
 rintro i hi
 refine .sr ?_
 refine .lss (.z (.seq ?_))
 obtain ⟨hx1,hx2,hx3⟩:=J2 i n hi
 have hcell:=J5 (rest:=rest) hi
 have hlt:=D5 (n / 128 ^ i)
 have hbig:=J4 (n / 128 ^ i)
 have hi7:i<=7:=by have:i < (vint n).length:=hi;omega
 have hilt:i < m:=by have:i < (vint n).length:=hi;omega
 by_cases h0:0 < i
 ·have hv1:1<=vbyte (n / 128 ^ i):=by
   rcases hx3 with h | h
   ·omega
   ·unfold vbyte;split<;>omega
  by_cases hl:127 < n / 128 ^ i
  ·have hv0:128<=vbyte (n / 128 ^ i):=by omega
   refine .condT rfl (cB9 (by first|exact decide_eq_true (by omega)|exact decide_eq_false (by omega)|simp;done|simp;omega|omega)) ?_
   refine .skip (.next (.seq (.block (.sr (.move ?_)))))
   refine .idx1 ?_ so79
   refine .ldR (i:=i) ?_ sc5 hR hcell
   refine .assign (.assign (.z (.seq (.sr (.move ?_)))))
   refine .eqi ?_
   refine .move ?_
   refine .cast (d:=15) (u:=.bool false) rfl (cB9 (by first|exact decide_eq_true (by omega)|exact decide_eq_false (by omega)|simp;done|simp;omega|omega)) ?_
   refine .gT (.move (.gT ?_))
   refine .eqi ?_
   refine .gT (.move ?_)
   refine .cast (d:=18) (u:=.bool false) rfl (cB9 (by first|exact decide_eq_true (by omega)|exact decide_eq_false (by omega)|simp;done|simp;omega|omega)) ?_
   refine .gF (.gF (.gT (.pickF (.pickF (.move ?_)))))
   refine .gT (.move (.gT ?_))
   refine .gtr ?_
   refine .gT (.move ?_)
   refine .cast (d:=26) (u:=.bool true) rfl (cB9 (by first|exact decide_eq_true (by omega)|exact decide_eq_false (by omega)|simp;done|simp;omega|omega)) ?_
   refine .gT (.move (.gT ?_))
   refine .eqi ?_
   refine .gT (.pickT (.pickF (.z ?_)))
   refine .condF rfl (cB9 (by first|exact decide_eq_true (by omega)|exact decide_eq_false (by omega)|simp;done|simp;omega|omega)) ?_
   refine .skip (.next (.sr (.move (.move ?_))))
   refine .and ?_
   refine .cast (d:=33) (u:=.int .u8 ((n / 128 ^ i % 128:Nat):Int)) rfl (cI9 (oq _)) ?_
   refine .cvt ?_ un5 cx
   refine .cast (d:=34) (u:=.int .u64 ((n / 128 ^ i % 128:Nat):Int)) rfl (cI9 (dy (by have:=Nat.mod_lt (n / 128 ^ i) (show 0 < 128 by decide);omega))) ?_
   refine .move ?_
   refine .mul ?_
   refine .shl ?_
   refine .cast (d:=37) (u:=.int .u64 ((n / 128 ^ i % 128 * 128 ^ i:Nat):Int)) rfl (cI9 (shl7 (Nat.mod_lt _ (by decide)) hi7)) ?_
   refine .or ?_
   refine .cast (d:=38) (u:=.int .u64 ((n % 128 ^ (i+1):Nat):Int)) rfl (cI9 (vor hi7)) ?_
   refine .assign (.x (.move ?_))
   refine .lss (.z ?_)
   refine .condF rfl (cB9 (decide_eq_false (show ¬ ((vbyte (n / 128 ^ i):Nat):Int) < 128 from fun h=>by clear hx1 hcell;omega))) ?_
   refine .skip (.blockNormal (.next (.region ?_)))
   refine .add ?_
   refine .move (.nil ?_)
   exact .back (i+1) (hx2.1 hl) (show (vint n).length - (i+1) < (vint n).length - i by have:i < (vint n).length:=hi;omega)
  ·have hvl:vbyte (n / 128 ^ i) < 128:=by omega
   have hv1:vbyte (n / 128 ^ i)=n / 128 ^ i:=by unfold vbyte;rw [if_neg hl]
   have hlen:(vint n).length=i+1:=by have h1:i < (vint n).length:=hi;have h2:¬ i+1 < (vint n).length:=fun h=>hl (hx2.2 h);omega
   have hnm:n % 128 ^ (i+1)=n:=Nat.mod_eq_of_lt (by
    rw [Nat.pow_succ,Nat.mul_comm]
    exact Nat.lt_mul_of_div_lt (by omega) (Nat.pow_pos (by decide)))
   refine .condT rfl (cB9 (by first|exact decide_eq_true (by omega)|exact decide_eq_false (by omega)|simp;done|simp;omega|omega)) ?_
   refine .skip (.next (.seq (.block (.sr (.move ?_)))))
   refine .idx1 ?_ so79
   refine .ldR (i:=i) ?_ sc5 hR hcell
   refine .assign (.assign (.z (.seq (.sr (.move ?_)))))
   refine .eqi ?_
   refine .move ?_
   refine .cast (d:=15) (u:=.bool false) rfl (cB9 (by first|exact decide_eq_true (by omega)|exact decide_eq_false (by omega)|simp;done|simp;omega|omega)) ?_
   refine .gT (.move (.gT ?_))
   refine .eqi ?_
   refine .gT (.move ?_)
   refine .cast (d:=18) (u:=.bool false) rfl (cB9 (by first|exact decide_eq_true (by omega)|exact decide_eq_false (by omega)|simp;done|simp;omega|omega)) ?_
   refine .gF (.gF (.gT (.pickF (.pickF (.move ?_)))))
   refine .gT (.move (.gT ?_))
   refine .gtr ?_
   refine .gT (.move ?_)
   refine .cast (d:=26) (u:=.bool true) rfl (cB9 (by first|exact decide_eq_true (by omega)|exact decide_eq_false (by omega)|simp;done|simp;omega|omega)) ?_
   refine .gT (.move (.gT ?_))
   refine .eqi ?_
   refine .gT (.pickT (.pickF (.z ?_)))
   refine .condF rfl (cB9 (by first|exact decide_eq_true (by omega)|exact decide_eq_false (by omega)|simp;done|simp;omega|omega)) ?_
   refine .skip (.next (.sr (.move (.move ?_))))
   refine .and ?_
   refine .cast (d:=33) (u:=.int .u8 ((n / 128 ^ i % 128:Nat):Int)) rfl (cI9 (oq _)) ?_
   refine .cvt ?_ un5 cx
   refine .cast (d:=34) (u:=.int .u64 ((n / 128 ^ i % 128:Nat):Int)) rfl (cI9 (dy (by have:=Nat.mod_lt (n / 128 ^ i) (show 0 < 128 by decide);omega))) ?_
   refine .move ?_
   refine .mul ?_
   refine .shl ?_
   refine .cast (d:=37) (u:=.int .u64 ((n / 128 ^ i % 128 * 128 ^ i:Nat):Int)) rfl (cI9 (shl7 (Nat.mod_lt _ (by decide)) hi7)) ?_
   refine .or ?_
   refine .cast (d:=38) (u:=.int .u64 ((n % 128 ^ (i+1):Nat):Int)) rfl (cI9 (vor hi7)) ?_
   refine .assign (.x (.move ?_))
   refine .lss (.z ?_)
   refine .condT rfl (cB9 (decide_eq_true (show ((vbyte (n / 128 ^ i):Nat):Int) < 128 by clear hx1 hcell;omega))) ?_
   refine .sr (.move (.move ?_))
   refine .add ?_
   refine .assign (.assign (.z ?_))
   refine .ret (.blockRet (.thenRet (.thenRet (.blockRet (.thenRet (?_))))))
   exact .ret2 (h1:=.tmp (t:=2) rfl) (h2:=.tmp (t:=3) rfl) ⟨_,⟨by rw [hnm,hlen];rfl,rfl⟩,Am.auto⟩
 ·by_cases hl:127 < n / 128 ^ i
  ·have hv0:128<=vbyte (n / 128 ^ i):=by omega
   refine .condT rfl (cB9 (by first|exact decide_eq_true (by omega)|exact decide_eq_false (by omega)|simp;done|simp;omega|omega)) ?_
   refine .skip (.next (.seq (.block (.sr (.move ?_)))))
   refine .idx1 ?_ so79
   refine .ldR (i:=i) ?_ sc5 hR hcell
   refine .assign (.assign (.z (.seq (.sr (.move ?_)))))
   refine .eqi ?_
   refine .move ?_
   refine .cast (d:=15) (u:=.bool false) rfl (cB9 (by first|exact decide_eq_true (by omega)|exact decide_eq_false (by omega)|simp;done|simp;omega|omega)) ?_
   refine .gT (.move (.gT ?_))
   refine .eqi ?_
   refine .gT (.move ?_)
   refine .cast (d:=18) (u:=.bool false) rfl (cB9 (by first|exact decide_eq_true (by omega)|exact decide_eq_false (by omega)|simp;done|simp;omega|omega)) ?_
   refine .gF (.gF (.gT (.pickF (.pickF (.move ?_)))))
   refine .gT (.move (.gT ?_))
   refine .gtr ?_
   refine .gT (.move ?_)
   refine .cast (d:=26) (u:=.bool false) rfl (cB9 (by first|exact decide_eq_true (by omega)|exact decide_eq_false (by omega)|simp;done|simp;omega|omega)) ?_
   refine .gF (.gF (.gT (.pickF (.pickF (.z ?_)))))
   refine .condF rfl rfl ?_
   refine .skip (.next (.sr (.move (.move ?_))))
   refine .and ?_
   refine .cast (d:=33) (u:=.int .u8 ((n / 128 ^ i % 128:Nat):Int)) rfl (cI9 (oq _)) ?_
   refine .cvt ?_ un5 cx
   refine .cast (d:=34) (u:=.int .u64 ((n / 128 ^ i % 128:Nat):Int)) rfl (cI9 (dy (by have:=Nat.mod_lt (n / 128 ^ i) (show 0 < 128 by decide);omega))) ?_
   refine .move ?_
   refine .mul ?_
   refine .shl ?_
   refine .cast (d:=37) (u:=.int .u64 ((n / 128 ^ i % 128 * 128 ^ i:Nat):Int)) rfl (cI9 (shl7 (Nat.mod_lt _ (by decide)) hi7)) ?_
   refine .or ?_
   refine .cast (d:=38) (u:=.int .u64 ((n % 128 ^ (i+1):Nat):Int)) rfl (cI9 (vor hi7)) ?_
   refine .assign (.x (.move ?_))
   refine .lss (.z ?_)
   refine .condF rfl (cB9 (decide_eq_false (show ¬ ((vbyte (n / 128 ^ i):Nat):Int) < 128 from fun h=>by clear hx1 hcell;omega))) ?_
   refine .skip (.blockNormal (.next (.region ?_)))
   refine .add ?_
   refine .move (.nil ?_)
   exact .back (i+1) (hx2.1 hl) (show (vint n).length - (i+1) < (vint n).length - i by have:i < (vint n).length:=hi;omega)
  ·have hvl:vbyte (n / 128 ^ i) < 128:=by omega
   have hv1:vbyte (n / 128 ^ i)=n / 128 ^ i:=by unfold vbyte;rw [if_neg hl]
   have hlen:(vint n).length=i+1:=by have h1:i < (vint n).length:=hi;have h2:¬ i+1 < (vint n).length:=fun h=>hl (hx2.2 h);omega
   have hnm:n % 128 ^ (i+1)=n:=Nat.mod_eq_of_lt (by
    rw [Nat.pow_succ,Nat.mul_comm]
    exact Nat.lt_mul_of_div_lt (by omega) (Nat.pow_pos (by decide)))
   refine .condT rfl (cB9 (by first|exact decide_eq_true (by omega)|exact decide_eq_false (by omega)|simp;done|simp;omega|omega)) ?_
   refine .skip (.next (.seq (.block (.sr (.move ?_)))))
   refine .idx1 ?_ so79
   refine .ldR (i:=i) ?_ sc5 hR hcell
   refine .assign (.assign (.z (.seq (.sr (.move ?_)))))
   refine .eqi ?_
   refine .move ?_
   refine .cast (d:=15) (u:=.bool false) rfl (cB9 (by first|exact decide_eq_true (by omega)|exact decide_eq_false (by omega)|simp;done|simp;omega|omega)) ?_
   refine .gT (.move (.gT ?_))
   refine .eqi ?_
   refine .gT (.move ?_)
   refine .cast (d:=18) (u:=.bool false) rfl (cB9 (by first|exact decide_eq_true (by omega)|exact decide_eq_false (by omega)|simp;done|simp;omega|omega)) ?_
   refine .gF (.gF (.gT (.pickF (.pickF (.move ?_)))))
   refine .gT (.move (.gT ?_))
   refine .gtr ?_
   refine .gT (.move ?_)
   refine .cast (d:=26) (u:=.bool false) rfl (cB9 (by first|exact decide_eq_true (by omega)|exact decide_eq_false (by omega)|simp;done|simp;omega|omega)) ?_
   refine .gF (.gF (.gT (.pickF (.pickF (.z ?_)))))
   refine .condF rfl rfl ?_
   refine .skip (.next (.sr (.move (.move ?_))))
   refine .and ?_
   refine .cast (d:=33) (u:=.int .u8 ((n / 128 ^ i % 128:Nat):Int)) rfl (cI9 (oq _)) ?_
   refine .cvt ?_ un5 cx
   refine .cast (d:=34) (u:=.int .u64 ((n / 128 ^ i % 128:Nat):Int)) rfl (cI9 (dy (by have:=Nat.mod_lt (n / 128 ^ i) (show 0 < 128 by decide);omega))) ?_
   refine .move ?_
   refine .mul ?_
   refine .shl ?_
   refine .cast (d:=37) (u:=.int .u64 ((n / 128 ^ i % 128 * 128 ^ i:Nat):Int)) rfl (cI9 (shl7 (Nat.mod_lt _ (by decide)) hi7)) ?_
   refine .or ?_
   refine .cast (d:=38) (u:=.int .u64 ((n % 128 ^ (i+1):Nat):Int)) rfl (cI9 (vor hi7)) ?_
   refine .assign (.x (.move ?_))
   refine .lss (.z ?_)
   refine .condT rfl (cB9 (decide_eq_true (show ((vbyte (n / 128 ^ i):Nat):Int) < 128 by clear hx1 hcell;omega))) ?_
   refine .sr (.move (.move ?_))
   refine .add ?_
   refine .assign (.assign (.z ?_))
   refine .ret (.blockRet (.thenRet (.thenRet (.blockRet (.thenRet (?_))))))
   exact .ret2 (h1:=.tmp (t:=2) rfl) (h2:=.tmp (t:=3) rfl) ⟨_,⟨by rw [hnm,hlen];rfl,rfl⟩,Am.auto⟩
theorem J7 {a b:Nat} (ha:a < 2 ^ 64) (hb:b < 2 ^ 64):bxor .u64 (a:Int) (b:Int)=((a ^^^ b:Nat):Int):=by
 have h:bxor .u64 (a:Int) (b:Int)=IntKind.u64.wrap ((a ^^^ b:Nat):Int):=by
  unfold bxor
  congr 2
  rw [BitVec.toNat_xor]
  rw [show IntKind.u64.bits=64 from rfl,cf a ha,cf b hb]
 have:a ^^^ b < 2 ^ 64:=Nat.xor_lt_two_pow ha hb
 rw [h,IntWalk.u64_in _ (by omega)]
theorem D6 {a:Nat} (ha:a < 2 ^ 64):a ^^^ 18446744073709551615=18446744073709551615 - a:=by
 have h:=BitVec.toNat_not (x:=BitVec.ofNat 64 a)
 rw [BitVec.toNat_ofNat,Nat.mod_eq_of_lt ha] at h
 have h2:(~~~BitVec.ofNat 64 a)=BitVec.ofNat 64 a ^^^ BitVec.allOnes 64:=BitVec.xor_allOnes.symm
 rw [h2,BitVec.toNat_xor,BitVec.toNat_ofNat,Nat.mod_eq_of_lt ha] at h
 simpa using h
theorem D7 {v:Int} (h:0<=v) (h2:v < 4611686018427387904):zigN v=(2 * v).toNat:=by
 obtain ⟨a,rfl⟩:=Int.eq_ofNat_of_zero_le h
 have e1:IntKind.u64.wrap (IntKind.u64.wrap ((a:Nat):Int) * 2 ^ (min (1:Int).toNat IntKind.u64.bits))=((2 * a:Nat):Int):=by
  rw [show IntKind.u64.wrap ((a:Nat):Int)=((a:Nat):Int) from IntWalk.u64_in _ (by omega),show (2:Int) ^ (min (1:Int).toNat IntKind.u64.bits)=2 from by decide,IntWalk.u64_in _ (by omega)]
  omega
 have e2:IntKind.u64.wrap (((a:Nat):Int).fdiv (2 ^ (min (63:Int).toNat IntKind.i64.bits)))=((0:Nat):Int):=by
  rw [show (2:Int) ^ (min (63:Int).toNat IntKind.i64.bits)=9223372036854775808 from by decide,Int.fdiv_eq_ediv_of_nonneg _ (by decide),Int.ediv_eq_zero_of_lt (by omega) (by omega)]
  decide
 unfold zigN zigI
 rw [e1,e2,J7 (by omega) (by decide),Nat.xor_zero]
 omega
theorem D8 {v:Int} (h:v < 0) (h2:-4611686018427387904<=v):zigN v=(-2 * v - 1).toNat:=by
 obtain ⟨a,ha⟩:∃ a:Nat,v=-((a:Nat):Int) - 1:=⟨(-v - 1).toNat,by omega⟩
 subst ha
 have e0:IntKind.u64.wrap (-((a:Nat):Int) - 1)=18446744073709551615 - ((a:Nat):Int):=by
  simp only [IntKind.wrap,IntKind.bits,IntKind.signed]
  simp
  omega
 have e1:IntKind.u64.wrap (IntKind.u64.wrap (-((a:Nat):Int) - 1) * 2 ^ (min (1:Int).toNat IntKind.u64.bits))=((18446744073709551614 - 2 * a:Nat):Int):=by
  rw [e0,show (2:Int) ^ (min (1:Int).toNat IntKind.u64.bits)=2 from by decide]
  simp only [IntKind.wrap,IntKind.bits,IntKind.signed]
  simp
  omega
 have e2:IntKind.u64.wrap ((-((a:Nat):Int) - 1).fdiv (2 ^ (min (63:Int).toNat IntKind.i64.bits)))=((18446744073709551615:Nat):Int):=by
  rw [show (2:Int) ^ (min (63:Int).toNat IntKind.i64.bits)=9223372036854775808 from by decide,Int.fdiv_eq_ediv_of_nonneg _ (by decide),show (-((a:Nat):Int) - 1) / 9223372036854775808=-1 by omega]
  decide
 unfold zigN zigI
 rw [e1,e2,J7 (by omega) (by decide),D6 (by omega)]
 omega
theorem F3 {v:Int} (h:-1125899906842624<=v/\v<=1125899906842624):zigN v < 72057594037927936:=by
 by_cases h0:0<=v
 ·rw [D7 h0 (by omega)];omega
 ·rw [D8 (by omega) (by omega)];omega
def zagN (u:Nat):Int:=if u % 2=0 then ((u / 2:Nat):Int) else -((u / 2:Nat):Int) - 1
theorem R5 {v:Int} (h:-1125899906842624<=v/\v<=1125899906842624):zagN (zigN v)=v:=by
 unfold zagN
 by_cases h0:0<=v
 ·rw [D7 h0 (by omega),if_pos (by omega)];omega
 ·rw [D8 (by omega) (by omega),if_neg (by omega)];omega
theorem zagX {u:Nat} (h:u < 72057594037927936):bxor .i64 ((u / 2:Nat):Int) (-((u % 2:Nat):Int))=zagN u:=by
 unfold zagN
 have hm:u % 2=0 ∨ u % 2=1:=by omega
 rcases hm with hm | hm
 ·rw [hm,if_pos rfl]
  unfold bxor
  rw [show IntKind.i64.bits=64 from rfl,show (-((0:Nat):Int))=((0:Nat):Int) from rfl,BitVec.toNat_xor,cf _ (by omega),cf 0 (by decide),Nat.xor_zero,IntWalk.i64_in _ (by omega)]
 ·rw [hm,if_neg (by decide)]
  unfold bxor
  have e:(BitVec.ofInt 64 (-((1:Nat):Int))).toNat=18446744073709551615:=by decide
  rw [show IntKind.i64.bits=64 from rfl,BitVec.toNat_xor,cf _ (by omega),e,D6 (by omega)]
  simp only [IntKind.wrap,IntKind.bits,IntKind.signed]
  simp
  omega
theorem R6 (u:Nat) (h:u < 2 ^ 64):band .u64 (u:Int) 1=((u % 2:Nat):Int):=by
 rw [show (1:Int)=((1:Nat):Int) from rfl,Ge rfl u 1 h (by decide),Nat.and_one_is_mod,IntWalk.u64_in _ (by omega)]
theorem shr1u (m:Nat):((m:Int)).fdiv (2 ^ (min (1:Int).toNat IntKind.u64.bits))=((m / 2:Nat):Int):=by
 rw [show (2:Int) ^ (min (1:Int).toNat IntKind.u64.bits)=2 from by decide,Int.fdiv_eq_ediv_of_nonneg _ (by decide)]
 omega
abbrev rdO (ab ao m c p:Nat):Obj:=.cells #[.slice (some ⟨ab,ao,none⟩) m c,.int .i64 ((p:Nat):Int),.bool false] 316 (0,0)
theorem ot {R:HP} {ab ao p:Nat} {xs:aa} (h:Reads R (some ⟨ab,ao,none⟩) (bvs xs)):Reads R (some ⟨ab,ao+p,none⟩) (bvs (xs.drop p)):=by
 rw [ei]
 exact h.drop p
theorem R7 {u:Nat} (hu:u < 72057594037927936):Spec Tryz.prog 242 #[.int .u64 ((u:Nat):Int)] [] fun F v M=>v=.int .i64 (zagN u)/\M=F:=by
 refine Spec.intro Tryz.func242 rfl rfl fun B F=>?_
 simp only [Tryz.ntmps242,List.cons_append,List.nil_append,env0,Nat.reduceAdd]
 refine .sr (.assign (.x (.move ?_)))
 refine .shr ?_
 refine .cast (d:=4) (u:=.int .u64 ((u / 2:Nat):Int)) rfl (cI9 (shr1u u)) ?_
 refine .cvt ?_ cx un3
 refine .cast (d:=5) (u:=.int .i64 ((u / 2:Nat):Int)) rfl (cI9 (ft (by omega))) ?_
 refine .move ?_
 refine .and ?_
 refine .cast (d:=7) (u:=.int .u64 ((u % 2:Nat):Int)) rfl (cI9 (R6 u (by omega))) ?_
 refine .cvt ?_ cx un3
 refine .cast (d:=8) (u:=.int .i64 ((u % 2:Nat):Int)) rfl (cI9 (ft (by omega))) ?_
 refine .neg ?_
 refine .xor ?_
 refine .cast (d:=10) (u:=.int .i64 (zagN u)) rfl (cI9 (zagX hu)) ?_
 refine .assign (.z (.ret (?_)))
 exact .ret1 (h1:=.tmp (t:=2) rfl) ⟨_,⟨rfl,rfl⟩,Am.auto⟩
theorem x7 {R:HP} {x ab ao m c p:Nat} {xs rest:aa} {n:Nat} (hR:Reads R (some ⟨ab,ao,none⟩) (bvs xs)) (hm:xs.length=m) (hmc:m<=c) (hxs:xs.drop p=vint n++rest) (hn:n < 72057594037927936) (hl:m<=1073741824):Spec Tryz.prog 241 #[.pointer (some ⟨x,0,none⟩)] [pt x (rdO ab ao m c p),R]
  fun F v M=>v=.int .u64 ((n:Nat):Int)/\M=pt x (rdO ab ao m c (p+(vint n).length)) :: R :: F:=by
 refine Spec.intro Tryz.func241 rfl rfl fun B F=>?_
 simp only [Tryz.ntmps241,List.cons_append,List.nil_append,env0,Nat.reduceAdd]
 have h8:=ud hn
 have hpos:=oh n
 have hpm:p+(vint n).length<=m:=by
  have h:=congrArg List.length hxs
  rw [List.length_drop,List.length_append] at h
  omega
 refine .sr (.assign (.z (.seq ?_)))
 refine .dr ([pt x (rdO ab ao m c p)]) [] 15 mixed .autoJ ?_
 refine .tk 0 rfl .move ?_
 refine .tk 1 rfl .nilCheck ?_
 refine .tk 2 rfl (.fa B8) ?_
 refine .tk 3 rfl (.ld sc79) ?_
 refine .tk 4 rfl .move ?_
 refine .tk 5 rfl .nilCheck ?_
 refine .tk 6 rfl (.fa kh) ?_
 refine .tk 7 rfl (.ld sc3) ?_
 refine .tk 8 rfl ((Qt.slcL so79).eq (J6 (show p < c by omega))) ?_
 refine .on 9 rfl fun hnp=>?_
 refine .call (hc:=Tryz.call272) (sp:=z7 (ot (p:=p) hR) (by rw [List.length_drop,hm]) hxs hn (by omega)) (h:=?_)
 rintro _ _ ⟨rfl,rfl⟩
 refine .nil (.wa hnp ?_)
 refine .tk 10 rfl .move ?_
 refine .tk 11 rfl .extract ?_
 refine .tk 12 rfl .extract ?_
 refine .tk 13 rfl .assign ?_
 refine .tk 14 rfl .assign ?_
 refine .fin ?_
 refine .next (.seq (.sr (.move ?_)))
 refine .eqi (.z ?_)
 refine .condF rfl (cB9 (decide_eq_false (by omega))) ?_
 refine .skip (.next (.sr (.move (.nilCheck ?_))))
 refine .fa ?_ kh
 refine .ld ?_ sc3
 refine .move ?_
 refine .add ?_
 refine .nilCheck ?_
 refine .fa ?_ kh
 refine .st ?_ sc3
 refine .x (.move (.assign (.z (.ret (?_)))))
 exact .ret1 (h1:=.tmp (t:=2) rfl) ⟨_,⟨rfl,rfl⟩,Am.auto⟩
theorem ue :ad Tryz.prog 316 2 2=true:=by kernel_rfl
theorem R8 {R:HP} {x ab ao m c p:Nat} {xs rest:aa}:Spec Tryz.prog 243 #[.pointer (some ⟨x,0,none⟩),.bool false] [pt x (rdO ab ao m c p)] fun F v M=>v=sv []/\M=pt x (rdO ab ao m c p) :: F:=by
 refine Spec.intro Tryz.func243 rfl rfl fun B F=>?_
 simp only [Tryz.ntmps243,List.cons_append,List.nil_append,env0,Nat.reduceAdd]
 refine .sr (.assign (.z (.seq (.sr (.move ?_)))))
 refine .not ?_
 refine .move (.gF (.gF (.gF (.gF (.pickT ?_)))))
 refine .z ?_
 refine .condT rfl rfl ?_
 refine .sr (.assign (.z ?_))
 refine .ret (.thenRet (?_))
 exact .ret1 (h1:=.tmp (t:=4) rfl) ⟨_,⟨rfl,rfl⟩,Am.auto⟩
theorem R9 {R:HP} {x ab ao m c p:Nat} {xs rest:aa} {s:aa} (hR:Reads R (some ⟨ab,ao,none⟩) (bvs xs)) (hm:xs.length=m) (hmc:m<=c) (hxs:xs.drop p=vint s.length++(s++rest)) (hs:s.length<=2000) (hl:m<=1073741824):Spec Tryz.prog 243 #[.pointer (some ⟨x,0,none⟩),.bool true] [pt x (rdO ab ao m c p),R]
  fun F v M=>v=sv s/\M=pt x (rdO ab ao m c (p+(vint s.length).length+s.length)) :: R :: F:=by
 refine Spec.intro Tryz.func243 rfl rfl fun B F=>?_
 simp only [Tryz.ntmps243,List.cons_append,List.nil_append,env0,Nat.reduceAdd]
 have h8:=ud (n:=s.length) (by omega)
 have hpos:=oh s.length
 have hpm:p+(vint s.length).length+s.length<=m:=by
  have h:=congrArg List.length hxs
  rw [List.length_drop,List.length_append,List.length_append] at h
  omega
 obtain ⟨p2,hp2⟩:∃ p2,p2=p+(vint s.length).length:=⟨_,rfl⟩
 have hd2:xs.drop p2=s++rest:=by
  rw [hp2,<-List.drop_drop,hxs,List.drop_left]
 rw [<- hp2] at hpm ⊢
 have hRs:Reads R (some ⟨ab,if c=p2 then ao else ao+p2,none⟩) (bvs s):=by
  by_cases h:c=p2
  ·have:s=[]:=List.eq_nil_of_length_eq_zero (by omega)
   rw [if_pos h,this]
   exact hR.take 0
  ·rw [if_neg h]
   have h2:=(ot (p:=p2) hR).take s.length
   rw [<- ck,hd2,List.take_left] at h2
   exact h2
 have hslc:Value.slice (if c=((p2:Nat):Int).toNat then some ⟨ab,ao,none⟩ else some ⟨ab,ao+((p2:Nat):Int).toNat * 1,none⟩) ((((p2:Nat):Int)+((s.length:Nat):Int)).toNat - ((p2:Nat):Int).toNat) (c - ((p2:Nat):Int).toNat)=.slice (some ⟨ab,if c=p2 then ao else ao+p2,none⟩) s.length (c - p2):=by
  rw [Int.toNat_natCast,Nat.mul_one,show (((p2:Nat):Int)+((s.length:Nat):Int)).toNat - p2=s.length by omega]
  split<;>rfl
 refine .sr (.assign (.z (.seq (.sr (.move ?_)))))
 refine .not ?_
 refine .move (.gT (.move (.gT (.nilCheck (.gT ?_)))))
 refine .fa ?_ ue
 refine .gT ?_
 refine .ld ?_ sc4
 refine .pickF (.z ?_)
 refine .condF rfl rfl ?_
 refine .skip (.next (.sr (.move ?_)))
 refine .call (hc:=Tryz.call241) (sp:=x7 (n:=s.length) hR hm hmc hxs (by omega) hl) (h:=?_)
 rintro _ _ ⟨rfl,rfl⟩
 rw [<- hp2]
 refine .assign (.z (.seq (.seq ?_)))
 refine .dr ([pt x (rdO ab ao m c p2)]) [] 19 mixed .autoJ ?_
 refine .tk 0 rfl .move ?_
 refine .tk 1 rfl .nilCheck ?_
 refine .tk 2 rfl (.fa ue) ?_
 refine .tk 3 rfl (.ld sc4) ?_
 refine .tk 4 rfl .move ?_
 refine .tn 5 rfl .move ?_
 refine .tn 6 rfl .move ?_
 refine .tn 7 rfl .nilCheck ?_
 refine .tn 8 rfl (.fa B8) ?_
 refine .tn 9 rfl (.ld sc79) ?_
 refine .tn 10 rfl (.lenS sl79) ?_
 refine .tn 11 rfl .move ?_
 refine .tn 12 rfl .nilCheck ?_
 refine .tn 13 rfl (.fa kh) ?_
 refine .tn 14 rfl (.ld sc3) ?_
 refine .tn 15 rfl .sub ?_
 refine .tn 16 rfl ((Qt.cvt un3 cx).eq (cI9 (show IntKind.u64.wrap (((m:Nat):Int) - ((p2:Nat):Int))=((m:Nat):Int) - ((p2:Nat):Int) from IntWalk.u64_in _ (by omega)))) ?_
 refine .tn 17 rfl .gtr ?_
 refine .tk 18 rfl .pickF ?_
 refine .fin ?_
 refine .next ?_
 refine .condF rfl (cB9 (decide_eq_false (by omega))) ?_
 refine .skip (.next (.seq ?_))
 refine .dr ([pt x (rdO ab ao m c p2),R]) [] 18 mixed .autoJ ?_
 refine .tk 0 rfl .move ?_
 refine .tk 1 rfl .nilCheck ?_
 refine .tk 2 rfl (.fa B8) ?_
 refine .tk 3 rfl (.ld sc79) ?_
 refine .tk 4 rfl .move ?_
 refine .tk 5 rfl .nilCheck ?_
 refine .tk 6 rfl (.fa kh) ?_
 refine .tk 7 rfl (.ld sc3) ?_
 refine .tk 8 rfl .move ?_
 refine .tk 9 rfl .nilCheck ?_
 refine .tk 10 rfl (.fa kh) ?_
 refine .tk 11 rfl (.ld sc3) ?_
 refine .tk 12 rfl .move ?_
 refine .tk 13 rfl ((Qt.cvt cx un3).eq (cI9 (ft (show s.length < 2 ^ 63 by omega)))) ?_
 refine .tk 14 rfl .add ?_
 refine .tk 15 rfl ((Qt.slcLH so79).eq hslc) ?_
 refine .tk 16 rfl (Qt.cvtBS by79 st9 hRs rfl) ?_
 refine .tk 17 rfl .assign ?_
 refine .fin ?_
 refine .next (.sr (.move (.nilCheck ?_)))
 refine .fa ?_ kh
 refine .ld ?_ sc3
 refine .move ?_
 refine .cvt ?_ cx un3
 refine .cast (d:=60) (u:=.int .i64 ((s.length:Nat):Int)) rfl (cI9 (ft (show s.length < 2 ^ 63 by omega))) ?_
 refine .add ?_
 refine .nilCheck ?_
 refine .fa ?_ kh
 refine .st ?_ sc3
 refine .x (.move (.assign (.z (.ret (?_)))))
 exact .ret1 (h1:=.tmp (t:=4) rfl) ⟨_,⟨rfl,rfl⟩,Am.auto⟩
def optB (is:Bool) (s:aa):aa:=if is then txtB s else []
theorem Pj {R:HP} {x ab ao m c p:Nat} {xs rest:aa} {is:Bool} {s:aa} (hR:Reads R (some ⟨ab,ao,none⟩) (bvs xs)) (hm:xs.length=m) (hmc:m<=c) (h0:is=false->s=[]) (hxs:xs.drop p=optB is s++rest) (hs:s.length<=2000) (hl:m<=1073741824) :
  Spec Tryz.prog 243 #[.pointer (some ⟨x,0,none⟩),.bool is] [pt x (rdO ab ao m c p),R] fun F v M=>v=sv s/\M=pt x (rdO ab ao m c (p+(optB is s).length)) :: R :: F:=by
 cases is with
 | false =>
  obtain rfl:=h0 rfl
  refine Spec.post' (Spec.pre' (Spec.frame R (R8 (R:=R) (xs:=xs) (rest:=rest) (x:=x) (ab:=ab) (ao:=ao) (m:=m) (c:=c) (p:=p))) (pre':=[pt x (rdO ab ao m c p),R]) fun B w F hs=>hs.take (.cons (.there .here) (.cons .here .nil))) ?_
  rintro F v M B w ⟨rfl,rfl⟩ hs
  exact ⟨_,⟨rfl,rfl⟩,hs⟩
 | true =>
  have h:=R9 (x:=x) hR hm hmc (s:=s) (rest:=rest) (by rw [hxs];show (vint s.length++s)++rest=_;rw [List.append_assoc]) hs hl
  have e:p+(optB true s).length=p+(vint s.length).length+s.length:=by
   show p+(vint s.length++s).length=_
   rw [List.length_append];omega
  rw [e]
  exact h
theorem bdRd (ab ao m c:Nat):av Tryz.prog 316 [(0,.slice (some ⟨ab,ao,none⟩) m c),(1,.int .i64 1)] #[.slice (some ⟨ab,ao,none⟩) m c,.int .i64 1,.bool false]:=fun w=>by kernel_rfl
theorem Up (a b:Bool) (s t:Int):av Tryz.prog 95 [(0,.bool a),(2,.bool b),(4,.int .i64 s),(5,.int .i64 t)] #[.bool a,.string ⟨#[]⟩,.bool b,.string ⟨#[]⟩,.int .i64 s,.int .i64 t]:=fun w=>by kernel_rfl
theorem fl_1 (a b:Bool):decide (band .u8 ((flN a b:Nat):Int) 1 > 0)=a:=by cases a<;>cases b<;>decide +kernel
theorem fl_2 (a b:Bool):decide (band .u8 ((flN a b:Nat):Int) 2 > 0)=b:=by cases a<;>cases b<;>decide +kernel
theorem Pk (a b:Bool):flN a b<=3:=by cases a<;>cases b<;>decide
theorem N1 (r:Rc) (f:Int) (rest:aa):(bvs (encB r f++rest))[0]?=some (.int .u8 ((flN r.hk r.hv:Nat):Int)):=by
 show some (bv (UInt8.ofNat (flN r.hk r.hv)))=_
 unfold bv
 rw [UInt8.toNat_ofNat',Nat.mod_eq_of_lt (by have:=Pk r.hk r.hv;omega)]
theorem N2 {r:Rc} (h:ckE r=0):(r.hk=false->r.key=[])/\(r.hv=false->r.val=[]):=by
 unfold ckE at h
 by_cases h1:r.odd=true
 ·rw [if_pos h1] at h;cases h
 ·unfold Rc.odd at h1
  simp only [Bool.or_eq_true,not_or,Bool.and_eq_true,Bool.not_eq_true',decide_eq_false_iff_not,not_and,decide_eq_true_eq] at h1
  exact ⟨fun h=>Classical.byContradiction fun h2=>h1.1.1.1.1.1 h h2,fun h=>Classical.byContradiction fun h2=>h1.1.1.1.1.2 h h2⟩
theorem z8 {R:HP} {A:Addr} {m c:Nat} {xs rest:aa} {r:Rc} {first:Int} (hR:Reads R (some A) (bvs xs)) (hm:xs.length=m) (hmc:m<=c) (hxs:xs=encB r first++rest) (hck:ckE r=0) (hf:0<=first/\first<=1125899906842624) (hl:m<=1073741824) :
  Spec Tryz.prog 190 #[.slice (some A) m c,.int .i64 first] [R] fun F v M=>v=.tuple #[.agg r.v.toArray,.int .i64 (((encB r first).length:Nat):Int),.int .i64 0]/\M=R :: F:=by
 refine Spec.intro Tryz.func190 rfl rfl fun B F=>?_
 simp only [Tryz.ntmps190,List.cons_append,List.nil_append,env0,Nat.reduceAdd]
 obtain ⟨ab,ao,asp⟩:=A
 have hsp:asp=none:=hR.1
 subst hsp
 obtain ⟨⟨hkl,hvl⟩,ht,ho⟩:=zt hck
 obtain ⟨hk0,hv0⟩:=N2 hck
 have hcell:=N1 r first rest
 rw [<- hxs] at hcell
 have hfl:=Pk r.hk r.hv
 have hpos:1<=m:=by have:=rn r first;rw [<- hm,hxs,List.length_append];omega
 have hb:-1125899906842624<=r.time - first/\r.time - first<=1125899906842624:=by omega
 have hzz:=R5 hb
 have hzs:=F3 hb
 obtain ⟨p1,hp1⟩:∃ p1,p1=1+(vint r.off.toNat).length:=⟨_,rfl⟩
 obtain ⟨p2,hp2⟩:∃ p2,p2=p1+(vint (zigN (r.time - first))).length:=⟨_,rfl⟩
 obtain ⟨p3,hp3⟩:∃ p3,p3=p2+(optB r.hk r.key).length:=⟨_,rfl⟩
 obtain ⟨p4,hp4⟩:∃ p4,p4=p3+(optB r.hv r.val).length:=⟨_,rfl⟩
 have henc:encB r first=flB r++(vint r.off.toNat++(vint (zigN (r.time - first))++(optB r.hk r.key++optB r.hv r.val))):=rfl
 have hlen:p4=(encB r first).length:=by
  rw [henc]
  simp only [List.length_append]
  rw [hp4,hp3,hp2,hp1,show (flB r).length=1 from rfl]
  omega
 have hd1:xs.drop 1=vint r.off.toNat++((vint (zigN (r.time - first))++(optB r.hk r.key++optB r.hv r.val))++rest):=by
  rw [hxs,henc,List.append_assoc,show 1=(flB r).length from rfl,List.drop_left,List.append_assoc]
 have hd2:xs.drop p1=vint (zigN (r.time - first))++((optB r.hk r.key++optB r.hv r.val)++rest):=by
  rw [hp1,<-List.drop_drop,hd1,List.drop_left,List.append_assoc]
 have hd3:xs.drop p2=optB r.hk r.key++(optB r.hv r.val++rest):=by
  rw [hp2,<-List.drop_drop,hd2,List.drop_left,List.append_assoc]
 have hd4:xs.drop p3=optB r.hv r.val++rest:=by
  rw [hp3,<-List.drop_drop,hd3,List.drop_left]
 refine .sr ?_
 refine .alloc z95 fun b4=>?_
 refine .assign (.assign (.z (.seq (.sr (.move ?_)))))
 refine .lenS ?_ sl79
 refine .eqi ?_
 refine .move ?_
 refine .cast (d:=13) (u:=.bool false) rfl (cB9 (by first|exact decide_eq_true (by omega)|exact decide_eq_false (by omega)|simp;done|simp;omega|omega)) ?_
 refine .gT (.move (.gT ?_))
 refine .idx1 ?_ so79
 refine .gT ?_
 refine .ldR (i:=0) ?_ sc5 hR hcell
 refine .gT ?_
 refine .gtr ?_
 refine .pickF (.move ?_)
 refine .cast (d:=19) (u:=.bool false) rfl (cB9 (by first|exact decide_eq_true (by omega)|exact decide_eq_false (by omega)|simp;done|simp;omega|omega)) ?_
 refine .gT (.move (.gT ?_))
 refine .lss ?_
 refine .pickF (.move ?_)
 refine .cast (d:=23) (u:=.bool false) rfl (cB9 (by first|exact decide_eq_true (by omega)|exact decide_eq_false (by omega)|simp;done|simp;omega|omega)) ?_
 refine .gT (.move (.gT ?_))
 refine .gtr ?_
 refine .pickF (.z ?_)
 refine .condF rfl (cB9 (by first|exact decide_eq_true (by omega)|exact decide_eq_false (by omega)|simp;done|simp;omega|omega)) ?_
 refine .skip (.next (.sr (.move ?_)))
 refine .build ?_ (bdRd _ _ _ _)
 refine .box fun b30=>?_
 refine .assign (.x (.move ?_))
 refine .call (hc:=Tryz.call241) (sp:=x7 (n:=r.off.toNat) hR hm hmc hd1 (by omega) hl) (h:=?_)
 rintro _ _ ⟨rfl,rfl⟩
 rw [<- hp1]
 refine .assign (.assign (.z (.seq (.sr (.move ?_)))))
 refine .nilCheck ?_
 refine .fa ?_ ue
 refine .ld ?_ sc4
 refine .not (.z ?_)
 refine .condT rfl rfl ?_
 refine .region (.move ?_)
 refine .call (hc:=Tryz.call241) (sp:=x7 (n:=zigN (r.time - first)) hR hm hmc hd2 hzs hl) (h:=?_)
 rintro _ _ ⟨rfl,rfl⟩
 rw [<- hp2]
 refine .call (hc:=Tryz.call242) (sp:=R7 hzs) (h:=?_)
 rintro _ _ ⟨rfl,rfl⟩
 rw [hzz]
 refine .assign (.z (.seq (.sr (.move (.nilCheck ?_)))))
 refine .fa ?_ ue
 refine .ld ?_ sc4
 refine .move (.gT (.move (.gT ?_)))
 refine .geq ?_
 refine .pickF (.move ?_)
 refine .cast (d:=49) (u:=.bool false) rfl (cB9 (by first|exact decide_eq_true (by omega)|exact decide_eq_false (by omega)|simp;done|simp;omega|omega)) ?_
 refine .gT (.move (.gT (.move (.gT ?_))))
 refine .neg ?_
 refine .gT ?_
 refine .lss ?_
 refine .pickF (.move ?_)
 refine .cast (d:=55) (u:=.bool false) rfl (cB9 (by first|exact decide_eq_true (by omega)|exact decide_eq_false (by omega)|simp;done|simp;omega|omega)) ?_
 refine .gT (.move (.gT (.move (.gT ?_))))
 refine .sub ?_
 refine .gT ?_
 refine .gtr ?_
 refine .pickF (.z ?_)
 refine .condF rfl (cB9 (by first|exact decide_eq_true (by omega)|exact decide_eq_false (by omega)|simp;done|simp;omega|omega)) ?_
 refine .skip (.next (.seq ?_))
 refine .dr ([R]) [16] 17 mixed .autoJ ?_
 refine .tk 0 rfl .move ?_
 refine .tk 1 rfl (.idx1 so79) ?_
 refine .tk 2 rfl (Qt.ldR (i:=0) sc5 hR hcell) ?_
 refine .tk 3 rfl .and ?_
 refine .tk 4 rfl ((Qt.gtr).eq (cB9 (fl_1 r.hk r.hv))) ?_
 refine .tk 5 rfl .move ?_
 refine .tk 6 rfl (.idx1 so79) ?_
 refine .tk 7 rfl (Qt.ldR (i:=0) sc5 hR hcell) ?_
 refine .tk 8 rfl .and ?_
 refine .tk 9 rfl ((Qt.gtr).eq (cB9 (fl_2 r.hk r.hv))) ?_
 refine .tk 10 rfl .move ?_
 refine .tk 11 rfl .move ?_
 refine .tk 12 rfl ((Qt.add).eq (cI9 (show first+(r.time - first)=r.time by omega))) ?_
 refine .tk 13 rfl .move ?_
 refine .tk 14 rfl ((Qt.cvt cx un3).eq (cI9 (show IntKind.i64.wrap ((r.off.toNat:Nat):Int)=r.off by rw [ft (by omega)];omega))) ?_
 refine .tk 15 rfl (.build (Up _ _ _ _)) ?_
 refine .on 16 rfl fun hnp=>?_
 refine .stV ?_ ji
 refine .nil (.wb hnp ?_)
 refine .fin ?_
 refine .next (.sr (.move ?_))
 refine .fa ?_ zr
 refine .ld ?_ sc4
 refine .call (hc:=Tryz.call243) (sp:=Pj hR hm hmc hk0 hd3 hkl hl) (h:=?_)
 rintro _ _ ⟨rfl,rfl⟩
 rw [<- hp3]
 refine .fa ?_ qn
 refine .st ?_ sc9
 refine .x (.move ?_)
 refine .fa ?_ zs
 refine .ld ?_ sc4
 refine .call (hc:=Tryz.call243) (sp:=Pj hR hm hmc hv0 hd4 hvl hl) (h:=?_)
 rintro _ _ ⟨rfl,rfl⟩
 rw [<- hp4]
 refine .fa ?_ vq
 refine .st ?_ sc9
 refine .z (.seq (.sr (.move (.nilCheck ?_))))
 refine .fa ?_ ue
 refine .ld ?_ sc4
 refine .move (.gT ?_)
 refine .ldA ?_ ji
 refine .gT ?_
 refine .call (hc:=Tryz.call162) (sp:=xv (r:=r)) (h:=?_)
 rintro _ _ ⟨rfl,rfl⟩
 rw [hck]
 refine .gT ?_
 refine .nei ?_
 refine .pickF (.z ?_)
 refine .condF rfl rfl ?_
 refine .skip (.next (.seq ?_))
 refine .dr ([pt b4 (.cells r.v.toArray 95 (0,0)),pt b30 (rdO ab ao m c p4)]) [] 8 mixed .autoJ ?_
 refine .tk 0 rfl (.ldA ji) ?_
 refine .tk 1 rfl .move ?_
 refine .tk 2 rfl .nilCheck ?_
 refine .tk 3 rfl (.fa kh) ?_
 refine .tk 4 rfl (.ld sc3) ?_
 refine .on 5 rfl fun hnp=>?_
 refine .stV ?_ ji
 refine .nil (.wa hnp ?_)
 refine .tk 6 rfl .assign ?_
 refine .tk 7 rfl .assign ?_
 refine .fin ?_
 refine .next (.ret (?_))
 exact .ret3 (h2:=.tmp (t:=5) rfl) (h3:=.tmp (t:=6) rfl) ⟨_,⟨by rw [<- hlen],rfl⟩,Am.auto⟩
theorem z280 :ba Tryz.prog 280=some (#[.int .i64 0,.int .i64 0,.int .i64 0,.int .i64 0,.int .i64 0]):=by kernel_rfl
theorem x8 :mc Tryz.prog 280 3 5 1=true:=by kernel_rfl
theorem F4 {R1 R2:HP} {A1 A2:Option Addr} {m1 c1 m2 c2:Nat} {xs ys:aa} (h1:Reads R1 A1 (bvs xs)) (hm1:xs.length=m1) (h2:Reads R2 A2 (bvs ys)) (hm2:ys.length=m2):Spec Tryz.prog 158 #[.slice A1 m1 c1,.slice A2 m2 c2] [R1,R2]
  fun F v M=>v=.bool (decide (xs=ys))/\M=R1 :: R2 :: F:=by
 refine Spec.intro Tryz.func158 rfl rfl fun B F=>?_
 simp only [Tryz.ntmps158,List.cons_append,List.nil_append,env0,Nat.reduceAdd]
 refine .sr (.assign (.x (.move ?_)))
 refine .cvtBS ?_ by79 st9 h1 hm1
 refine .move ?_
 refine .cvtBS ?_ by79 st9 h2 hm2
 refine .eqS _ _ ?_
 refine .assign (.z (.ret (?_)))
 exact .ret1 (h1:=.tmp (t:=4) rfl) ⟨_,⟨rfl,rfl⟩,Am.auto⟩
theorem qs {R:HP} {A:Addr} {n c:Nat} {xs:aa} {p size:Int} (hR:Reads R (some A) (bvs xs)) (hn:xs.length=n) (hl:n<=1073741824) (hs:1<=size/\size<=8) (h0:0<=p) (h1:p<=(n:Int) - size) (hv:ax (seg xs p.toNat size.toNat true) < 9223372036854775808):Spec Tryz.prog 189 #[.slice (some A) n c,.int .i64 p,.int .i64 size] [R]
  fun F v M=>v=.int .i64 (ax (seg xs p.toNat size.toNat true):Int)/\M=R :: F:=by
 refine Spec.intro Tryz.func189 rfl rfl fun B F=>?_
 simp only [Tryz.ntmps189,List.cons_append,List.nil_append,env0,Nat.reduceAdd]
 refine .sr (.assign (.x (.move (.move (.move ?_)))))
 refine .call (hc:=Tryz.call157) (sp:=lh (xs:=xs) (big:=true) hR hn hl hs h0 h1) (h:=?_)
 rintro _ _ ⟨rfl,rfl⟩
 refine .move ?_
 refine .extract (.extract (.assign (.assign (.x (.move ?_)))))
 refine .cvt ?_ cx un3
 refine .cast (d:=17) (u:=.int .i64 (ax (seg xs p.toNat size.toNat true):Int)) rfl (cI9 (ft (show _ < 2 ^ 63 from hv))) ?_
 refine .assign (.z (.ret (?_)))
 exact .ret1 (h1:=.tmp (t:=6) rfl) ⟨_,⟨rfl,rfl⟩,Am.auto⟩
theorem D9 {xs:aa} {p size k v:Nat} {big:Bool} (h:p+size<=k):(put xs p size big v).drop k=xs.drop k:=by
 apply List.ext_getElem?
 intro j
 rw [List.getElem?_drop,List.getElem?_drop]
 exact Bd xs p size big v (by omega)
theorem p7 {xs ys:aa} {p size:Nat} {big:Bool} (h:p+size<=xs.length):seg (xs++ys) p size big=seg xs p size big :=
 w8 fun j h1 h2=>List.getElem?_append_left (by omega)
theorem J8 {b:Bt} {rest:aa} {p size:Nat} (h:p+size<=8 ∨ (16<=p/\p+size<=48)):seg (batB b++rest) p size true=seg (bh b) p size true:=by
 have h1:=kf b
 have h2:=cd b
 have h3:48<=(cq b).length:=by unfold cq;rw [List.length_append,h2];omega
 rw [p7 (by omega)]
 unfold batB
 rw [ah (by omega)]
 unfold fq
 rw [ah (by omega)]
 unfold cq
 rw [p7 (by omega)]
theorem J9 {b:Bt} {rest:aa} (h:(batB b).length<=6000):ax (seg (batB b++rest) 8 4 true)=(batB b).length - 12:=by
 have h1:=kf b
 have h2:=cd b
 have h3:48<=(cq b).length:=by unfold cq;rw [List.length_append,h2];omega
 rw [p7 (by omega)]
 have h4:u64N (((cq b).length:Int) - 12)=(cq b).length - 12:=by
  rw [show ((cq b).length:Int) - 12=(((cq b).length - 12:Nat):Int) by omega,rl (by omega)]
 rw [h1]
 unfold batB
 rw [ah (by omega)]
 unfold fq
 rw [gz (by omega) (by rw [h4];omega),h4]
theorem Pm {v:Int} (h0:0<=v) (h:v < 4294967296):u64N v < 256 ^ 4:=by
 obtain ⟨a,rfl⟩:=Int.eq_ofNat_of_zero_le h0
 rw [rl (by omega)]
 omega
theorem Uq {v:Int} (h0:0<=v) (h:v<=9223372036854775807):((u64N v:Nat):Int)=v:=by
 obtain ⟨a,rfl⟩:=Int.eq_ofNat_of_zero_le h0
 rw [rl (by omega)]
theorem Ka (b:Bt) (h1:0<=b.span/\b.span < 4294967296) (h2:b.recs.length < 4294967296) :
  ax (seg (bh b) 0 8 true)=u64N b.base/\ax (seg (bh b) 16 8 true)=u64N b.prod/\ax (seg (bh b) 24 8 true)=u64N b.seq/\ax (seg (bh b) 32 4 true)=u64N b.span/\ax (seg (bh b) 36 4 true)=u64N ((b.recs.length:Nat):Int)/\ax (seg (bh b) 40 8 true)=u64N (ak b):=by
 have e8:∀ v,u64N v < 256 ^ 8:=fun v=>by have:=Jj v;omega
 unfold bh
 refine ⟨?_,?_,?_,?_,?_,?_⟩
 ·rw [ah (by omega),ah (by omega),ah (by omega),ah (by omega),ah (by omega),gz (by simp) (e8 _)]
 ·rw [ah (by omega),ah (by omega),ah (by omega),ah (by omega),gz (by simp [an]) (e8 _)]
 ·rw [ah (by omega),ah (by omega),ah (by omega),gz (by simp [an]) (e8 _)]
 ·rw [ah (by omega),ah (by omega),gz (by simp [an]) (Pm h1.1 h1.2)]
 ·rw [ah (by omega),gz (by simp [an]) (Pm (by omega) (by omega))]
 ·rw [gz (by simp [an]) (e8 _)]
theorem Kb (b:Bt):(batB b).drop 48=b.recs.flatMap fun r=>encB r (ak b):=by
 unfold batB
 rw [D9 (by omega)]
 unfold fq
 rw [D9 (by omega)]
 unfold cq
 rw [<- cd b,List.drop_left]
theorem Aa {b:Bt} (h:batE b=0):∀ r∈b.recs,ckE r=0:=by
 have h1:lu b=0:=by
  unfold batE at h
  by_cases h1:lu b=0
  ·exact h1
  ·rw [if_neg h1] at h;exact absurd h h1
 unfold lu at h1
 split at h1
 ·intro r hr
  obtain ⟨i,hi,hir⟩:=List.getElem_of_mem hr
  have hx:b.recs[i]?=some r:=by rw [List.getElem?_eq_getElem hi,hir]
  apply Classical.byContradiction
  intro hne
  have key:∀ (l:List Rc),(∃ r∈l,ckE r≠0)->fi l≠0:=by
   intro l
   induction l with
   | nil=>rintro ⟨r,hr,_⟩;cases hr
   | cons y l ih =>
    rintro ⟨r,hr,hn⟩
    rw [fi]
    split
    ·rename_i h0
     rcases List.mem_cons.1 hr with rfl | hr
     ·exact absurd h0 hn
     ·exact ih ⟨r,hr,hn⟩
    ·assumption
  exact key b.recs ⟨r,hr,hne⟩ h1
 ·cases h1
theorem F5 {b:Bt} (h:batE b=0):0<=ak b/\ak b<=1125899906842624:=by
 obtain ⟨_,_,hpos⟩:=iu h
 obtain ⟨r,hr⟩:∃ r,b.recs[0]?=some r:=⟨_,List.getElem?_eq_getElem hpos⟩
 have h1:=(zt (Aa h r (List.mem_of_getElem? hr))).2.1
 unfold ak
 rw [hr]
 exact h1
theorem Kc {b:Bt} (h:batE b=0):0<=b.prod/\0<=b.seq:=by
 have h1:=(kg h).2
 unfold ga d9 at h1
 simp only [Bool.and_eq_true,Bool.not_eq_true',Bool.or_eq_false_iff,decide_eq_false_iff_not] at h1
 omega
theorem Ur (a s p q:Int):av Tryz.prog 44 [(0,.int .i64 a),(2,.int .i64 p),(3,.int .i64 q),(1,.int .i64 s)] #[.int .i64 a,.int .i64 s,.int .i64 p,.int .i64 q,.slice none 0 0]:=fun w=>by kernel_rfl
theorem F6 {R:HP} {A:Addr} {m c:Nat} {xs rest:aa} {b:Bt} {k:Nat} (hR:Reads R (some A) (bvs xs)) (hm:xs.length=m) (hxs:xs=(batB b).take k) (hk:k < (batB b).length) (hE:batE b=0):Spec Tryz.prog 117 #[.slice (some A) m c] [R] fun F v M=>v=.tuple #[.agg #[.int .i64 0,.int .i64 0,.int .i64 0,.int .i64 0,.slice none 0 0],.int .i64 0,.int .i64 10]/\M=R :: F:=by
 refine Spec.intro Tryz.func117 rfl rfl fun B F=>?_
 simp only [Tryz.ntmps117,List.cons_append,List.nil_append,env0,Nat.reduceAdd]
 have hfit:=(kg hE).1
 have hmk:m=k:=by rw [<- hm,hxs,List.length_take];omega
 subst hmk
 have hsl:=J9 (b:=b) (rest:=[]) hfit
 rw [List.append_nil] at hsl
 have hsame:∀ p:Nat,p+4<=m->seg xs p 4 true=seg (batB b) p 4 true:=fun p hp=>w8 fun j h1 h2=>by rw [hxs,List.getElem?_take,if_pos (by omega)]
 clear hxs
 generalize (batB b).length=len at *
 by_cases h48:m < 48
 ·refine .sr ?_
  refine .alloc z44 fun b2=>?_
  refine .assign (.assign (.z (.seq (.sr (.move ?_)))))
  refine .lenS ?_ sl79
  refine .lss (.z ?_)
  refine .condT rfl (cB9 (by first|exact decide_eq_true (by omega)|exact decide_eq_false (by omega)|simp;done|simp;omega|omega)) ?_
  refine .sr ?_
  refine .build ?_ Jk
  refine .stV ?_ dz
  refine .assign (.assign (.z ?_))
  refine .ret (.thenRet (?_))
  exact .ret3 (h2:=.tmp (t:=3) rfl) (h3:=.tmp (t:=4) rfl) ⟨_,⟨rfl,rfl⟩,Am.auto⟩
 ·have hseg:ax (seg xs 8 4 true)=len - 12:=by rw [hsame 8 (by omega),hsl]
  have hge:48<=len:=by omega
  refine .sr ?_
  refine .alloc z44 fun b2=>?_
  refine .assign (.assign (.z (.seq (.sr (.move ?_)))))
  refine .lenS ?_ sl79
  refine .lss (.z ?_)
  refine .condF rfl (cB9 (by first|exact decide_eq_true (by omega)|exact decide_eq_false (by omega)|simp;done|simp;omega|omega)) ?_
  refine .skip (.next (.sr (.move ?_)))
  refine .call (hc:=Tryz.call189) (sp:=qs (p:=8) (size:=4) hR hm (by omega) (by decide) (by decide) (by omega) (by rw [show (8:Int).toNat=8 from rfl,show (4:Int).toNat=4 from rfl,hseg];omega)) (h:=?_)
  rintro _ _ ⟨rfl,rfl⟩
  rw [show (8:Int).toNat=8 from rfl,show (4:Int).toNat=4 from rfl,hseg]
  refine .add ?_
  refine .assign (.z (.seq (.sr (.move ?_))))
  refine .lss ?_
  refine .move ?_
  refine .cast (d:=22) (u:=.bool false) rfl (cB9 (by first|exact decide_eq_true (by omega)|exact decide_eq_false (by omega)|simp;done|simp;omega|omega)) ?_
  refine .gT (.move (.gT (.move (.gT ?_))))
  refine .lenS ?_ sl79
  refine .gT ?_
  refine .gtr ?_
  refine .pickF (.move ?_)
  refine .cast (d:=28) (u:=.bool true) rfl (cB9 (by first|exact decide_eq_true (by omega)|exact decide_eq_false (by omega)|simp;done|simp;omega|omega)) ?_
  refine .gF (.gF (.pickT (.z ?_)))
  refine .condT rfl rfl ?_
  refine .sr ?_
  refine .build ?_ Jk
  refine .stV ?_ dz
  refine .assign (.assign (.z ?_))
  refine .ret (.thenRet (?_))
  exact .ret3 (h2:=.tmp (t:=3) rfl) (h3:=.tmp (t:=4) rfl) ⟨_,⟨rfl,rfl⟩,Am.auto⟩
def ni (b:Bt) (l:List Rc):aa:=l.flatMap fun r=>encB r (ak b)
def atR (b:Bt) (i:Nat):Nat:=48+(ni b (b.recs.take i)).length
theorem F7 {b:Bt} {i:Nat} {r:Rc} (h:b.recs[i]?=some r):ni b (b.recs.take (i+1))=ni b (b.recs.take i)++encB r (ak b):=by
 unfold ni
 rw [List.take_add_one,h]
 simp
theorem Ab {l:List Rc} {i:Nat} {r:Rc} (h:l[i]?=some r):(l.take i).flatMap Rc.v++Rc.v r=(l.take (i+1)).flatMap Rc.v:=by
 rw [List.take_add_one,h]
 simp
theorem p8 {α:Type} {l:List α} {i:Nat} {x:α} (h:l[i]?=some x):l.drop i=x :: l.drop (i+1):=by
 have hi:=(List.getElem?_eq_some_iff.1 h).1
 rw [List.drop_eq_getElem_cons hi,(List.getElem?_eq_some_iff.1 h).2]
theorem Ea {b:Bt} {i:Nat} {r:Rc} (h:b.recs[i]?=some r):atR b (i+1)=atR b i+(encB r (ak b)).length:=by
 unfold atR
 rw [F7 h,List.length_append]
 omega
theorem F8 (b:Bt) (i:Nat):(ni b b.recs).drop (ni b (b.recs.take i)).length=ni b (b.recs.drop i):=by
 have h:ni b b.recs=ni b (b.recs.take i)++ni b (b.recs.drop i):=by
  unfold ni
  rw [<- List.flatMap_append,List.take_append_drop]
 rw [h,List.drop_left]
theorem vw (r:Rc):∀ u∈Rc.v r,Value.single u=true:=by
 intro u hu
 unfold Rc.v at hu
 simp only [List.mem_cons,List.not_mem_nil,or_false] at hu
 rcases hu with rfl | rfl | rfl | rfl | rfl | rfl<;>rfl
theorem Sa {R:HP} {A:Option Addr} {l:List Rc} (hR:Reads R A (l.flatMap Rc.v)) (h:0 < l.length):∃ ab ao,A=some ⟨ab,ao,none⟩:=by
 cases A with
 | none =>
  have h0:l.flatMap Rc.v=[]:=hR
  have h1:=be Rc.v_len l
  rw [h0] at h1
  simp at h1
  omega
 | some a =>
  obtain ⟨x,y,z⟩:=a
  have:z=none:=hR.1
  subst this
  exact ⟨x,y,rfl⟩
theorem l9 {xs:aa} {b:Bt} {p size:Nat} {v:Int} (h:ax (seg xs p size true)=u64N v) (h0:0<=v) (h1:v<=9223372036854775807):ax (seg xs p size true) < 9223372036854775808/\((ax (seg xs p size true):Nat):Int)=v:=by
 have:=Uq h0 h1
 rw [h]
 omega
theorem Kd {R:HP} {A:Addr} {m c:Nat} {xs rest:aa} {b:Bt} (hR:Reads R (some A) (bvs xs)) (hm:xs.length=m) (hmc:m<=c) (hxs:xs=batB b++rest) (hE:batE b=0) (hl:b.recs.length<=10000) (hpq:b.prod<=9223372036854775807/\b.seq<=9223372036854775807) (hl2:m<=1073741824):Spec Tryz.prog 117 #[.slice (some A) m c] [R]
  fun F v M=>∃ A2 c2,v=.tuple #[.agg (b.v (.slice (some A2) b.recs.length c2)).toArray,.int .i64 (((batB b).length:Nat):Int),.int .i64 0]/\M=rowR 95 6 (.slice (some A2) b.recs.length c2) b.recs.length b.rv :: R :: F:=by
 refine Spec.intro Tryz.func117 rfl rfl fun B F=>?_
 simp only [Tryz.ntmps117,List.cons_append,List.nil_append,env0,Nat.reduceAdd]
 obtain ⟨ab,ao,asp⟩:=A
 have hsp:asp=none:=hR.1
 subst hsp
 have hfit:=(kg hE).1
 obtain ⟨hb,hspn,hpos⟩:=iu hE
 obtain ⟨hp0,hq0⟩:=Kc hE
 have hft:=F5 hE
 have hck:=Aa hE
 obtain ⟨hs0,hs1,hs2,hs3,hs4,hs5⟩:=Ka b (by omega) (by omega)
 have hsl:=J9 (b:=b) (rest:=rest) hfit
 have hdr:=Kb b
 have hg:∀ p size,(p+size<=8 ∨ (16<=p/\p+size<=48))->seg xs p size true=seg (bh b) p size true:=fun p size h=>by rw [hxs];exact J8 h
 have g0:=l9 (b:=b) (by rw [hg 0 8 (by omega)];exact hs0) hb.1 (by omega)
 have g1:=l9 (b:=b) (by rw [hg 16 8 (by omega)];exact hs1) hp0 hpq.1
 have g2:=l9 (b:=b) (by rw [hg 24 8 (by omega)];exact hs2) hq0 hpq.2
 have g3:=l9 (b:=b) (by rw [hg 32 4 (by omega)];exact hs3) (by omega) (by omega)
 have g4:=l9 (b:=b) (by rw [hg 36 4 (by omega)];exact hs4) (by omega) (by omega)
 have g5:=l9 (b:=b) (by rw [hg 40 8 (by omega)];exact hs5) hft.1 (by omega)
 rw [<- hxs] at hsl
 have htk:xs.take (batB b).length=batB b:=by rw [hxs,List.take_left]
 have hlm:(batB b).length<=m:=by rw [<- hm,hxs,List.length_append];omega
 have hge:48<=(batB b).length:=by have h1:=kf b;have h2:=cd b;rw [h1];unfold cq;rw [List.length_append,h2];omega
 have hend:atR b b.recs.length=(batB b).length:=by
  unfold atR
  rw [List.take_length]
  have h:=congrArg List.length hdr
  rw [List.length_drop] at h
  show 48+(b.recs.flatMap fun r=>encB r (ak b)).length=_
  omega
 have hat:∀ i,(xs.take (batB b).length).drop (atR b i)=ni b (b.recs.drop i):=fun i=>by
  rw [htk]
  unfold atR
  rw [<- List.drop_drop,hdr]
  exact F8 b i
 have hmono:∀ i r,b.recs[i]?=some r->atR b (i+1)<=(batB b).length:=fun i r hr=>by
  have h:=congrArg List.length (hat i)
  rw [List.length_drop,htk,p8 hr] at h
  have h3:=Ea hr
  unfold ni at h
  rw [List.flatMap_cons,List.length_append] at h
  have:=rn r (ak b)
  omega
 clear hxs hs0 hs1 hs2 hs3 hs4 hs5 hg hdr
 obtain ⟨len,hlen⟩:∃ len,len=(batB b).length:=⟨_,rfl⟩
 rw [<- hlen] at hfit hsl htk hlm hge hend hat hmono ⊢
 refine .sr ?_
 refine .alloc z44 fun b2=>?_
 refine .assign (.assign (.z (.seq (.sr (.move ?_)))))
 refine .lenS ?_ sl79
 refine .lss (.z ?_)
 refine .condF rfl (cB9 (by first|exact decide_eq_true (by omega)|exact decide_eq_false (by omega)|simp;done|simp;omega|omega)) ?_
 refine .skip (.next (.sr (.move ?_)))
 refine .call (hc:=Tryz.call189) (sp:=qs (p:=8) (size:=4) hR hm hl2 (by decide) (by decide) (by omega) (by rw [show (8:Int).toNat=8 from rfl,show (4:Int).toNat=4 from rfl,hsl];omega)) (h:=?_)
 rintro _ _ ⟨rfl,rfl⟩
 rw [show (8:Int).toNat=8 from rfl,show (4:Int).toNat=4 from rfl,hsl]
 refine .add ?_
 refine .cast (d:=19) (u:=.int .i64 ((len:Nat):Int)) rfl (cI9 (by omega)) ?_
 refine .assign (.z (.seq (.sr (.move ?_))))
 refine .lss ?_
 refine .move ?_
 refine .cast (d:=22) (u:=.bool false) rfl (cB9 (by first|exact decide_eq_true (by omega)|exact decide_eq_false (by omega)|simp;done|simp;omega|omega)) ?_
 refine .gT (.move (.gT (.move (.gT ?_))))
 refine .lenS ?_ sl79
 refine .gT ?_
 refine .gtr ?_
 refine .pickF (.move ?_)
 refine .cast (d:=28) (u:=.bool false) rfl (cB9 (by first|exact decide_eq_true (by omega)|exact decide_eq_false (by omega)|simp;done|simp;omega|omega)) ?_
 refine .gT (.move (.gT ?_))
 refine .gtr ?_
 refine .pickF (.z ?_)
 refine .condF rfl (cB9 (by first|exact decide_eq_true (by omega)|exact decide_eq_false (by omega)|simp;done|simp;omega|omega)) ?_
 refine .skip (.next (.sr ?_))
 refine .alloc z280 fun b5=>?_
 refine .z (.seq (.sr ?_))
 refine .call (hc:=Tryz.call161) (sp:=gm) (h:=?_)
 rintro _ _ ⟨rfl,rfl⟩
 refine .move (.z (.block ?_))
 refine .loopN 6 (RC.succ ?_)
 refine .sr ?_
 refine .lss (.z (.seq ?_))
 refine .condT rfl rfl ?_
 refine .skip (.next (.seq (.block (.sr (.move ?_)))))
 refine .ixF ?_ O1
 refine .alloc z242 fun b7_0=>?_
 refine .assign ?_
 refine .stV ?_ mq
 refine .y (.move (.move ?_))
 refine .fa ?_ i6
 refine .ld ?_ sc3
 refine .fa ?_ i7
 refine .ld ?_ sc3
 refine .call (hc:=Tryz.call189) (sp:=qs (p:=16) (size:=8) hR hm hl2 (by decide) (by decide) (by omega) g1.1) (h:=?_)
 rintro _ _ ⟨rfl,rfl⟩
 rw [show (16:Int).toNat=16 from rfl,show (8:Int).toNat=8 from rfl,g1.2]
 refine .idxA ?_ x8
 refine .st ?_ sc3
 refine .nil (.blockNormal (.next (.region ?_)))
 refine .add ?_
 refine .move (.nil ?_)
 refine .again (RC.succ ?_)
 refine .sr ?_
 refine .lss (.z (.seq ?_))
 refine .condT rfl rfl ?_
 refine .skip (.next (.seq (.block (.sr (.move ?_)))))
 refine .ixF ?_ O2
 refine .alloc z242 fun b7_1=>?_
 refine .assign ?_
 refine .stV ?_ mq
 refine .y (.move (.move ?_))
 refine .fa ?_ i6
 refine .ld ?_ sc3
 refine .fa ?_ i7
 refine .ld ?_ sc3
 refine .call (hc:=Tryz.call189) (sp:=qs (p:=24) (size:=8) hR hm hl2 (by decide) (by decide) (by omega) g2.1) (h:=?_)
 rintro _ _ ⟨rfl,rfl⟩
 rw [show (24:Int).toNat=24 from rfl,show (8:Int).toNat=8 from rfl,g2.2]
 refine .idxA ?_ x8
 refine .st ?_ sc3
 refine .nil (.blockNormal (.next (.region ?_)))
 refine .add ?_
 refine .move (.nil ?_)
 refine .again (RC.succ ?_)
 refine .sr ?_
 refine .lss (.z (.seq ?_))
 refine .condT rfl rfl ?_
 refine .skip (.next (.seq (.block (.sr (.move ?_)))))
 refine .ixF ?_ O3
 refine .alloc z242 fun b7_2=>?_
 refine .assign ?_
 refine .stV ?_ mq
 refine .y (.move (.move ?_))
 refine .fa ?_ i6
 refine .ld ?_ sc3
 refine .fa ?_ i7
 refine .ld ?_ sc3
 refine .call (hc:=Tryz.call189) (sp:=qs (p:=32) (size:=4) hR hm hl2 (by decide) (by decide) (by omega) g3.1) (h:=?_)
 rintro _ _ ⟨rfl,rfl⟩
 rw [show (32:Int).toNat=32 from rfl,show (4:Int).toNat=4 from rfl,g3.2]
 refine .idxA ?_ x8
 refine .st ?_ sc3
 refine .nil (.blockNormal (.next (.region ?_)))
 refine .add ?_
 refine .move (.nil ?_)
 refine .again (RC.succ ?_)
 refine .sr ?_
 refine .lss (.z (.seq ?_))
 refine .condT rfl rfl ?_
 refine .skip (.next (.seq (.block (.sr (.move ?_)))))
 refine .ixF ?_ O4
 refine .alloc z242 fun b7_3=>?_
 refine .assign ?_
 refine .stV ?_ mq
 refine .y (.move (.move ?_))
 refine .fa ?_ i6
 refine .ld ?_ sc3
 refine .fa ?_ i7
 refine .ld ?_ sc3
 refine .call (hc:=Tryz.call189) (sp:=qs (p:=36) (size:=4) hR hm hl2 (by decide) (by decide) (by omega) g4.1) (h:=?_)
 rintro _ _ ⟨rfl,rfl⟩
 rw [show (36:Int).toNat=36 from rfl,show (4:Int).toNat=4 from rfl,g4.2]
 refine .idxA ?_ x8
 refine .st ?_ sc3
 refine .nil (.blockNormal (.next (.region ?_)))
 refine .add ?_
 refine .move (.nil ?_)
 refine .again (RC.succ ?_)
 refine .sr ?_
 refine .lss (.z (.seq ?_))
 refine .condT rfl rfl ?_
 refine .skip (.next (.seq (.block (.sr (.move ?_)))))
 refine .ixF ?_ O5
 refine .alloc z242 fun b7_4=>?_
 refine .assign ?_
 refine .stV ?_ mq
 refine .y (.move (.move ?_))
 refine .fa ?_ i6
 refine .ld ?_ sc3
 refine .fa ?_ i7
 refine .ld ?_ sc3
 refine .call (hc:=Tryz.call189) (sp:=qs (p:=40) (size:=8) hR hm hl2 (by decide) (by decide) (by omega) g5.1) (h:=?_)
 rintro _ _ ⟨rfl,rfl⟩
 rw [show (40:Int).toNat=40 from rfl,show (8:Int).toNat=8 from rfl,g5.2]
 refine .idxA ?_ x8
 refine .st ?_ sc3
 refine .nil (.blockNormal (.next (.region ?_)))
 refine .add ?_
 refine .move (.nil ?_)
 refine .again (RC.succ ?_)
 refine .sr ?_
 refine .lss (.z (.seq ?_))
 refine .condF rfl rfl ?_
 refine .exit (.thenExit (.thenExit (.blockExit (?_))))
 refine .next (.seq ?_)
 refine .dr ([pt b5 (.cells #[.int .i64 b.prod,.int .i64 b.seq,.int .i64 b.span,.int .i64 ((b.recs.length:Nat):Int),.int .i64 (ak b)] 280 (0,0))]) [9] 10 mixed .autoJ ?_
 refine .tk 0 rfl .move ?_
 refine .tk 2 rfl (.idxA x8) ?_
 refine .tk 3 rfl (.ld sc3) ?_
 refine .tk 4 rfl (.idxA x8) ?_
 refine .tk 5 rfl (.ld sc3) ?_
 refine .tk 6 rfl (.idxA x8) ?_
 refine .tk 7 rfl (.ld sc3) ?_
 refine .on 1 rfl fun hnp=>?_
 refine .call (hc:=Tryz.call189) (sp:=qs (p:=0) (size:=8) hR hm hl2 (by decide) (by decide) (by omega) g0.1) (h:=?_)
 rintro _ _ ⟨rfl,rfl⟩
 rw [show (0:Int).toNat=0 from rfl,show (8:Int).toNat=8 from rfl,g0.2]
 refine .nil (.wa hnp ?_)
 refine .tk 8 rfl (.build (Ur _ _ _ _)) ?_
 refine .on 9 rfl fun hnp=>?_
 refine .stV ?_ dz
 refine .nil (.wb hnp ?_)
 refine .fin ?_
 refine .next (.seq (.sr (.assign (.z (.block ?_)))))
 refine .emp (A:=rowR 95 6 (.slice none 0 0) 0 ((b.recs.take 0).flatMap Rc.v)) (rowR.nil _) ?_
 refine .loopA (σ:=Nat×Value) (fun s=>[(0,.slice (some ⟨ab,ao,none⟩) m c),(2,.pointer (some ⟨b2,0,none⟩)),(3,.int .i64 ((len:Nat):Int)),(5,.pointer (some ⟨b5,0,none⟩)),(8,.int .i64 ((atR b s.1:Nat):Int))]) (fun s=>[pt b2 (.cells #[.int .i64 b.base,.int .i64 b.span,.int .i64 b.prod,.int .i64 b.seq,s.2] 44 (0,0)),rowR 95 6 s.2 s.1 ((b.recs.take s.1).flatMap Rc.v),pt b5 (.cells #[.int .i64 b.prod,.int .i64 b.seq,.int .i64 b.span,.int .i64 ((b.recs.length:Nat):Int),.int .i64 (ak b)] 280 (0,0)),R]++F) (fun s=>s.1<=b.recs.length) (fun s=>b.recs.length - s.1) (0,.slice none 0 0) (Nat.zero_le _) ?_
 rintro s hs
 obtain ⟨i,u⟩:=s
 have hi:i<=b.recs.length:=hs
 simp only
 by_cases hin:i < b.recs.length
 ·obtain ⟨r,hr⟩:∃ r,b.recs[i]?=some r:=⟨_,List.getElem?_eq_getElem hin⟩
  have hsu:=Ea hr
  have hep:=rn r (ak b)
  have hmo:=hmono i r hr
  have hxd:(xs.take len).drop (atR b i)=encB r (ak b)++ni b (b.recs.drop (i+1)):=by
   rw [hat i,p8 hr]
   unfold ni
   rw [List.flatMap_cons]
  have h48:48<=atR b i:=by unfold atR;omega
  generalize hap:atR b i=ap at *
  have hRd:Reads R (some ⟨ab,ao+ap,none⟩) (bvs ((xs.take len).drop ap)):=ot (by rw [ck];exact hR.take len)
  have hslc:Value.slice (if c=((ap:Nat):Int).toNat then some ⟨ab,ao,none⟩ else some ⟨ab,ao+((ap:Nat):Int).toNat * 1,none⟩) (((len:Nat):Int).toNat - ((ap:Nat):Int).toNat) (c - ((ap:Nat):Int).toNat)=.slice (some ⟨ab,ao+ap,none⟩) (len - ap) (c - ap):=by
   rw [Int.toNat_natCast,Int.toNat_natCast,if_neg (by omega),Nat.mul_one]
  refine .seq (.sr (.move (.move ?_)))
  refine .lss (.z ?_)
  refine .condT rfl (cB9 (by first|exact decide_eq_true (by omega)|exact decide_eq_false (by omega)|simp;done|simp;omega|omega)) ?_
  refine .skip (.next (.block (.seq ?_)))
  refine .dr ([pt b5 (.cells #[.int .i64 b.prod,.int .i64 b.seq,.int .i64 b.span,.int .i64 ((b.recs.length:Nat):Int),.int .i64 (ak b)] 280 (0,0))]) [] 15 mixed .autoJ ?_
  refine .tk 0 rfl .move ?_
  refine .tk 1 rfl .move ?_
  refine .tk 2 rfl .move ?_
  refine .tk 3 rfl ((Qt.slcLH so79).eq hslc) ?_
  refine .tk 4 rfl (.idxA x8) ?_
  refine .tk 5 rfl (.ld sc3) ?_
  refine .tw 6 11 rfl rfl (fun hnp=>?_) (fun hnp=>?_)
  ·refine .call (hc:=Tryz.call190) (sp:=z8 (r:=r) (first:=ak b) hRd (by rw [List.length_drop,List.length_take];omega) (by omega) hxd (hck r (List.mem_of_getElem? hr)) hft (by omega)) (h:=?_)
   rintro _ _ ⟨rfl,rfl⟩
   refine .nil (.wa hnp ?_)
   refine .tk 7 rfl .move ?_
   refine .tk 8 rfl .extract ?_
   refine .tk 9 rfl .extract ?_
   refine .tk 10 rfl .extract ?_
   refine .on 11 rfl fun hnp=>?_
   refine .alloc z95 fun b9_5=>?_
   refine .nil (.wa hnp ?_)
   refine .on 12 rfl fun hnp=>?_
   refine .stV ?_ ji
   refine .nil (.wa hnp ?_)
   refine .tk 13 rfl .assign ?_
   refine .tk 14 rfl .assign ?_
   refine .fin ?_
   refine .next (.seq (.sr (.move ?_)))
   refine .nei (.z ?_)
   refine .condF rfl rfl ?_
   refine .skip (.next (.sr ?_))
   refine .fa ?_ ir
   refine .ld ?_ sc37
   refine .fact (ae (el:=95) (size:=6) (k:=i) (v:=u) (xs:=(b.recs.take i).flatMap Rc.v)) fun ⟨A8,c8,hv8,_⟩=>?_
   refine .ldA ?_ ji
   refine .buildS (fun b76=>?_) (Dx _ _ _ _ _ _)
   refine .append (v:=u) (m:=1) (k:=i) (xs:=(b.recs.take i).flatMap Rc.v) (news:=Rc.v r) so37 (by decide) (by repeat (first | exact .here | apply Rem.there | apply Repl.there | apply Mem.there)) (Reads.pt (cs:=(Rc.v r).toArray)) (by repeat (first | exact .here | apply Rem.there | apply Repl.there | apply Mem.there)) rfl (vw r) (by unfold maxLen;omega) (by omega) ⟨_,z95,rfl⟩ (fun v' hv'=>?_)
   rw [Ab hr]
   refine .fact (ae (el:=95) (size:=6) (k:=i+1) (v:=v') (xs:=(b.recs.take (i+1)).flatMap Rc.v)) fun ⟨A9,c9,hv9,_⟩=>?_
   subst hv9
   refine .fa ?_ ir
   refine .st ?_ sc37
   refine .y (.move (.move ?_))
   refine .add ?_
   refine .cast (d:=81) (u:=.int .i64 ((atR b (i+1):Nat):Int)) rfl (cI9 (by omega)) ?_
   refine .assign (.nil (.blockNormal ?_))
   exact .back (i+1,.slice A9 (i+1) c9) (show i+1<=b.recs.length from hin) (show b.recs.length - (i+1) < b.recs.length - i by omega)
  ·refine .alloc z95 fun b9_5=>?_
   refine .nil (.wa hnp ?_)
   refine .on 6 rfl fun hnp=>?_
   refine .call (hc:=Tryz.call190) (sp:=z8 (r:=r) (first:=ak b) hRd (by rw [List.length_drop,List.length_take];omega) (by omega) hxd (hck r (List.mem_of_getElem? hr)) hft (by omega)) (h:=?_)
   rintro _ _ ⟨rfl,rfl⟩
   refine .nil (.wa hnp ?_)
   refine .tk 7 rfl .move ?_
   refine .tk 8 rfl .extract ?_
   refine .tk 9 rfl .extract ?_
   refine .tk 10 rfl .extract ?_
   refine .on 12 rfl fun hnp=>?_
   refine .stV ?_ ji
   refine .nil (.wa hnp ?_)
   refine .tk 13 rfl .assign ?_
   refine .tk 14 rfl .assign ?_
   refine .fin ?_
   refine .next (.seq (.sr (.move ?_)))
   refine .nei (.z ?_)
   refine .condF rfl rfl ?_
   refine .skip (.next (.sr ?_))
   refine .fa ?_ ir
   refine .ld ?_ sc37
   refine .fact (ae (el:=95) (size:=6) (k:=i) (v:=u) (xs:=(b.recs.take i).flatMap Rc.v)) fun ⟨A8,c8,hv8,_⟩=>?_
   refine .ldA ?_ ji
   refine .buildS (fun b76=>?_) (Dx _ _ _ _ _ _)
   refine .append (v:=u) (m:=1) (k:=i) (xs:=(b.recs.take i).flatMap Rc.v) (news:=Rc.v r) so37 (by decide) (by repeat (first | exact .here | apply Rem.there | apply Repl.there | apply Mem.there)) (Reads.pt (cs:=(Rc.v r).toArray)) (by repeat (first | exact .here | apply Rem.there | apply Repl.there | apply Mem.there)) rfl (vw r) (by unfold maxLen;omega) (by omega) ⟨_,z95,rfl⟩ (fun v' hv'=>?_)
   rw [Ab hr]
   refine .fact (ae (el:=95) (size:=6) (k:=i+1) (v:=v') (xs:=(b.recs.take (i+1)).flatMap Rc.v)) fun ⟨A9,c9,hv9,_⟩=>?_
   subst hv9
   refine .fa ?_ ir
   refine .st ?_ sc37
   refine .y (.move (.move ?_))
   refine .add ?_
   refine .cast (d:=81) (u:=.int .i64 ((atR b (i+1):Nat):Int)) rfl (cI9 (by omega)) ?_
   refine .assign (.nil (.blockNormal ?_))
   exact .back (i+1,.slice A9 (i+1) c9) (show i+1<=b.recs.length from hin) (show b.recs.length - (i+1) < b.recs.length - i by omega)
 ·have hie:i=b.recs.length:=by omega
  subst hie
  rw [hend,List.take_length]
  refine .fact (ae (el:=95) (size:=6) (k:=b.recs.length) (v:=u) (xs:=b.recs.flatMap Rc.v)) fun ⟨A8,c8,hv8,hR8,_,_,_⟩=>?_
  subst hv8
  obtain ⟨a8,o8,rfl⟩:=Sa hR8 hpos
  refine .seq (.sr (.move (.move ?_)))
  refine .lss (.z ?_)
  refine .condF rfl (cB9 (by first|exact decide_eq_true (by omega)|exact decide_eq_false (by omega)|simp;done|simp;omega|omega)) ?_
  refine .exit (.thenExit (.thenExit (.blockExit (?_))))
  refine .next (.sr ?_)
  refine .ldA ?_ dz
  refine .call (hc:=Tryz.call40) (sp:=ol (b:=b) (c:=c8) hR8 hl) (h:=?_)
  rintro _ _ (⟨h0,_,_⟩ | ⟨_,gq,q,⟨rfl,hq1,hq2⟩,rfl⟩)
  ·exact absurd hE h0
  refine .move ?_
  refine .extract (.extract ?_)
  refine .assign (.assign (.z (.seq (.sr (.move ?_)))))
  refine .nei ?_
  refine .move (.gT (.move (.gT (.move (.gT ?_)))))
  refine .move (.gT ?_)
  refine .slcH ?_ so79
  refine .cast (d:=93) (u:=.slice (some ⟨ab,ao,none⟩) len c) rfl (by rw [Int.toNat_natCast]) ?_
  refine .gT ?_
  refine .call (hc:=Tryz.call158) (sp:=F4 (xs:=batB b) (ys:=xs.take len) (R1:=buf gq 5 q (bvs (batB b))) (R2:=R) (A1:=some ⟨gq,0,none⟩) Reads.buf rfl (by rw [ck];exact hR.take len) (by rw [List.length_take];omega)) (h:=?_)
  rintro _ _ ⟨rfl,rfl⟩
  rw [htk,decide_eq_true rfl]
  refine .gT ?_
  refine .not ?_
  refine .pickF (.z ?_)
  refine .condF rfl rfl ?_
  refine .skip (.next (.sr ?_))
  refine .ldA ?_ dz
  refine .move ?_
  refine .stV ?_ dz
  refine .assign (.assign (.z (.ret (?_))))
  exact .ret3 (h2:=.tmp (t:=3) rfl) (h3:=.tmp (t:=4) rfl) ⟨_,⟨⟨a8,o8,none⟩,c8,rfl,rfl⟩,Am.auto⟩
def ChainB (base:Int) (bs:List Bt):Prop:=∀ i b,bs[i]?=some b->(batE b=0/\b.recs.length<=10000/\b.prod<=9223372036854775807/\b.seq<=9223372036854775807)/\kz base (bs.take i)<=b.base
def TornB (t:aa):Prop:=t=[] ∨ ∃ b k,batE b=0/\k < (batB b).length/\t=(batB b).take k
theorem vz (bs:List Bt) (i:Nat) (t:aa):(bs.flatMap batB++t).drop ((bs.take i).flatMap batB).length=(bs.drop i).flatMap batB++t:=by
 have h:bs.flatMap batB=(bs.take i).flatMap batB++(bs.drop i).flatMap batB:=by rw [<- List.flatMap_append,List.take_append_drop]
 rw [h,List.append_assoc,List.drop_left]
theorem N3 {f:Nat} {base:Int} {bs:List Bt} {t fb path:aa} {H H':HP} (hb:0<=base/\base<=1125899906842624) (hch:ChainB base bs) (ht:TornB t) (hfb:fb=bs.flatMap batB++t) (hl:fb.length<=70656)
  (hRd:Spec Tryz.prog 116 #[.pointer (some ⟨f,0,none⟩),sv path,nI 0,nI 70656] [H] fun F v M=>∃ u,v=.tuple #[u,.int .i64 0]/\M=rowR 5 1 u fb.length (bvs fb) :: H :: F)
  (hTr:t≠[]->Spec Tryz.prog 118 #[.pointer (some ⟨f,0,none⟩),sv path,nI (bs.flatMap batB).length] [H] fun F v M=>v=okV/\M=H' :: F) (hH:t=[]->H'=H):Spec Tryz.prog 63 #[.pointer (some ⟨f,0,none⟩),sv path,.int .i64 base] [H]
  fun F v M=>∃ s,v=.tuple #[.pointer (some ⟨s,0,none⟩),.int .i64 0]/\M=SGP s f path base bs :: H' :: F:=by
 refine Spec.intro Tryz.func63 rfl rfl fun B F=>?_
 simp only [Tryz.ntmps63,List.cons_append,List.nil_append,env0,Nat.reduceAdd]
 refine .sr (.assign (.assign (.z (.scope (.seq (.sr (.move ?_)))))))
 refine .call (hc:=Tryz.call99) (sp:=Jm) (h:=?_)
 rintro _ _ ⟨rfl,rfl⟩
 refine .cast (d:=16) (u:=.bool true) rfl (cB9 (by simp [hb.1,hb.2])) ?_
 refine .not (.z ?_)
 refine .condF rfl rfl ?_
 refine .skip (.next (.sr (.move (.move ?_))))
 refine .call (hc:=Tryz.call116) (sp:=hRd) (h:=?_)
 rintro _ _ ⟨u0,rfl,rfl⟩
 refine .fact (ae (el:=5) (size:=1) (k:=fb.length) (v:=u0) (xs:=bvs fb)) fun ⟨A0,c0,hu0,hR0,hmc,hcM,_⟩=>?_
 subst hu0
 refine .move ?_
 refine .extract (.extract ?_)
 refine .assign (.assign (.z (.seq (.sr (.move ?_)))))
 refine .nei (.z ?_)
 refine .condF rfl rfl ?_
 refine .skip (.next (.sr (.move (.move (.move ?_)))))
 refine .build ?_ (Ru _ _ _)
 refine .box fun b31=>?_
 refine .assign (.z (.seq (.label (.next (.seq (.block ?_))))))
 have hblen:bs.length<=fb.length:=by
  have:∀ l:List Bt,l.length<=(l.flatMap batB).length:=fun l=>by
   induction l with
   | nil=>simp
   | cons b l ih =>
    rw [List.flatMap_cons,List.length_append,List.length_cons]
    have h1:=kf b
    have h2:=cd b
    have h3:48<=(batB b).length:=by rw [h1];unfold cq;rw [List.length_append,h2];omega
    omega
  have h:=this bs
  rw [hfb,List.length_append]
  omega
 refine .emp (A:=rowR 151 6 (.slice none 0 0) ([]:List SRow).length (([]:List SRow).flatMap SRow.v)) (rowR.nil _) ?_
 refine .emp (A:=frz []) sb ?_
 refine .loopA (σ:=Nat×X3) (fun y=>[(0,.pointer (some ⟨f,0,none⟩)),(1,sv path),(8,.slice A0 fb.length c0),(10,.pointer (some ⟨b31,0,none⟩))]) (fun y=>[pt b31 (sgO f path base y.2.1 y.2.2.1),rowR 151 6 y.2.2.1 y.2.1.length (y.2.1.flatMap SRow.v),frz y.2.2.2,rowR 5 1 (.slice A0 fb.length c0) fb.length (bvs fb),H]++F) (fun y=>y.1<=bs.length/\SegI y.2.2.2 (bs.take y.1) y.2.1 y.2.2.1) (fun y=>bs.length - y.1) (0,[],.slice none 0 0,[]) ⟨Nat.zero_le _,rfl,fun x h=>absurd h List.not_mem_nil,fun x h=>absurd h List.not_mem_nil,fun i j x y _ h=>by simp at h,fun _=>rfl⟩ ?_
 rintro y hy
 obtain ⟨j,rows,u,os⟩:=y
 obtain ⟨hj,hI⟩:=hy
 simp only at hj hI ⊢
 have hsz:=hI.siz
 have hrl:=hI.len
 rw [List.length_take] at hrl
 have hfl:fb.length=((bs.take j).flatMap batB).length+((bs.drop j).flatMap batB++t).length:=by
  have h:=congrArg List.length (vz bs j t)
  have h2:((bs.take j).flatMap batB).length<=(bs.flatMap batB++t).length:=by
   conv=>rhs;rw [<- List.take_append_drop j bs,List.flatMap_append]
   rw [List.length_append,List.length_append];omega
  rw [List.length_drop,<-hfb] at h
  rw [<- hfb] at h2
  omega
 have hdp:=vz bs j t
 rw [<- hfb] at hdp
 generalize hpo:((bs.take j).flatMap batB).length=po at *
 by_cases hjl:j < bs.length
 ·obtain ⟨b,hbj⟩:∃ b,bs[j]?=some b:=⟨_,List.getElem?_eq_getElem hjl⟩
  obtain ⟨⟨hE,hrc,hpq⟩,hnx⟩:=hch j b hbj
  have hpos:=(iu hE).2.2
  have hge:48<=(batB b).length:=by have h1:=kf b;have h2:=cd b;rw [h1];unfold cq;rw [List.length_append,h2];omega
  rw [p8 hbj,List.flatMap_cons,List.append_assoc] at hdp hfl
  rw [List.length_append] at hfl
  obtain ⟨ab,ao,rfl⟩:∃ ab ao,A0=some ⟨ab,ao,none⟩:=by
   cases A0 with
   | none =>
    have h0:bvs fb=[]:=hR0
    have h1:=congrArg List.length h0
    rw [ag] at h1
    simp at h1
    rw [h1] at hfl
    simp at hfl
    omega
   | some a =>
    obtain ⟨x,y,z⟩:=a
    have:z=none:=hR0.1
    subst this
    exact ⟨x,y,rfl⟩
  have hRd:Reads (rowR 5 1 (.slice (some ⟨ab,ao,none⟩) fb.length c0) fb.length (bvs fb)) (some ⟨ab,ao+po,none⟩) (bvs (fb.drop po)):=ot hR0
  have hslc:Value.slice (if c0=((sizR rows:Nat):Int).toNat then some ⟨ab,ao,none⟩ else some ⟨ab,ao+((sizR rows:Nat):Int).toNat * 1,none⟩) (fb.length - ((sizR rows:Nat):Int).toNat) (c0 - ((sizR rows:Nat):Int).toNat)=.slice (some ⟨ab,ao+po,none⟩) (fb.length - po) (c0 - po):=by
   rw [hsz]
   exact J6 (by omega)
  refine .seq (.sr (.move (.nilCheck ?_)))
  refine .fa ?_ ff
  refine .ld ?_ sc3
  refine .move ?_
  refine .lenS ?_ sl79
  refine .lss (.z ?_)
  refine .condT rfl (cB9 (by first|exact decide_eq_true (by omega)|exact decide_eq_false (by omega)|simp;done|simp;omega|omega)) ?_
  refine .skip (.next (.block (.sr (.move (.move ?_)))))
  refine .nilCheck ?_
  refine .fa ?_ ff
  refine .ld ?_ sc3
  refine .slcL ?_ so79
  refine .cast (d:=45) (u:=.slice (some ⟨ab,ao+po,none⟩) (fb.length - po) (c0 - po)) rfl hslc ?_
  refine .call (hc:=Tryz.call117) (sp:=Kd (b:=b) hRd (by rw [List.length_drop]) (by omega) hdp hE hrc hpq (by omega)) (h:=?_)
  rintro _ _ ⟨A2,c2,rfl,rfl⟩
  refine .move ?_
  refine .extract (.extract (.extract ?_))
  refine .alloc z44 fun b11=>?_
  refine .stV ?_ dz
  refine .assign (.assign (.z (.seq (.seq ?_))))
  refine .dr ([pt b11 (.cells (b.v (.slice (some A2) b.recs.length c2)).toArray 44 (0,0))]) [] 9 mixed .autoS ?_
  refine .tk 0 rfl .move ?_
  refine .tk 1 rfl .nei ?_
  refine .tk 2 rfl .move ?_
  refine .tn 3 rfl (.fa tx) ?_
  refine .tn 4 rfl (.ld sc3) ?_
  refine .tn 5 rfl .move ?_
  refine .on 6 rfl fun hnp=>?_
  refine .gT ?_
  refine .call (hc:=Tryz.call49) (sp:=B1 (os:=os) hI.ok (by omega)) (h:=?_)
  rintro _ _ ⟨rfl,rfl⟩
  rw [hI.next]
  refine .nil (.wa hnp ?_)
  refine .tn 7 rfl .lss ?_
  refine .tk 8 rfl .pickF ?_
  refine .fin ?_
  refine .next ?_
  refine .condF rfl (cB9 (decide_eq_false (show ¬ b.base < kz base (bs.take j) by omega))) ?_
  refine .skip (.next (.region (.move ?_)))
  refine .ldA ?_ dz
  refine .move ?_
  refine .toE (A:=rowR 95 6 (.slice (some A2) b.recs.length c2) b.recs.length b.rv) (jk hpos) ?_
  rintro ⟨g2,q2,cur⟩ ⟨hv2,htk⟩
  injection hv2 with hA2 _ hc2
  injection hA2 with hA2
  simp only at hA2 hc2 htk
  subst hA2
  subst hc2
  refine .frzAdd ?_
  have hnew:SRowOk ((g2,.cells cur 95 (0,0)) :: os) (⟨b,.slice (some ⟨g2,0,none⟩) b.recs.length c2,(batB b).length⟩:SRow):=⟨⟨_,c2,rfl,by
   have:=(Reads.frz (os:=(g2,.cells cur 95 (0,0)) :: os) (b:=g2) (cs:=cur) (List.mem_cons_self ..)).take b.rv.length
   rwa [htk] at this⟩,hpos,hrc,(iu hE).1,(iu hE).2.1⟩
  refine .call (hc:=Tryz.call97) (sp:=Pb (rows:=rows) (u:=u) (base:=base) (path:=path) (f:=f) (s:=b31) (b:=b) (A:=some ⟨g2,0,none⟩) (m:=b.recs.length) (c:=c2) (k:=(batB b).length) (by omega) (by omega) (by omega)) (h:=?_)
  rintro _ _ ⟨rfl,u2,rfl⟩
  refine .nil (.blockNormal ?_)
  have hI2:=hI.add (u2:=u2) (base:=base) rfl hE (by rw [hI.next];exact hnx) hnew (fun x hx=>List.mem_cons_of_mem _ hx)
  rw [show bs.take j++[b]=bs.take (j+1) by rw [List.take_add_one,hbj];rfl] at hI2
  exact .back (j+1,_,u2,_) ⟨hjl,hI2⟩ (show bs.length - (j+1) < bs.length - j by omega)
 ·have hje:j=bs.length:=by omega
  subst hje
  rw [List.drop_length,List.flatMap_nil,List.nil_append] at hdp hfl
  rw [List.take_length] at hI hpo
  by_cases ht0:t=[]
  ·rw [ht0,List.append_nil] at hfb
   rw [ht0,List.length_nil] at hfl
   rw [hH ht0]
   refine .seq (.sr (.move (.nilCheck ?_)))
   refine .fa ?_ ff
   refine .ld ?_ sc3
   refine .move ?_
   refine .lenS ?_ sl79
   refine .lss (.z ?_)
   refine .condF rfl (cB9 (by first|exact decide_eq_true (by omega)|exact decide_eq_false (by omega)|simp;done|simp;omega|omega)) ?_
   refine .exit (.thenExit (.thenExit (.blockExit (?_))))
   refine .next (.seq (.sr (.move (.nilCheck ?_))))
   refine .fa ?_ ff
   refine .ld ?_ sc3
   refine .move ?_
   refine .lenS ?_ sl79
   refine .lss (.z ?_)
   refine .condF rfl (cB9 (by first|exact decide_eq_true (by omega)|exact decide_eq_false (by omega)|simp;done|simp;omega|omega)) ?_
   refine .skip (.next (.sr (.move (.assign (.assign (.z ?_))))))
   refine .ret (.scopeRet (?_))
   refine .shutR (SGP.opens b31 f path base bs) (rows,u,os) hI ?_
   exact .ret2 (h1:=.tmp (t:=6) rfl) (h2:=.tmp (t:=7) rfl) ⟨_,⟨_,rfl,rfl⟩,Am.auto⟩
  ·obtain ⟨bt,k,htE,htk,htt⟩:=ht.resolve_left ht0
   have htl:0 < t.length:=List.length_pos_iff.2 ht0
   obtain ⟨ab,ao,rfl⟩:∃ ab ao,A0=some ⟨ab,ao,none⟩:=by
    cases A0 with
    | none =>
     have h0:bvs fb=[]:=hR0
     have h1:=congrArg List.length h0
     rw [ag] at h1
     simp at h1
     rw [h1] at hfl
     simp at hfl
     omega
    | some a =>
     obtain ⟨x,y,z⟩:=a
     have:z=none:=hR0.1
     subst this
     exact ⟨x,y,rfl⟩
   have hRd:Reads (rowR 5 1 (.slice (some ⟨ab,ao,none⟩) fb.length c0) fb.length (bvs fb)) (some ⟨ab,ao+po,none⟩) (bvs (fb.drop po)):=ot hR0
   have hslc:Value.slice (if c0=((sizR rows:Nat):Int).toNat then some ⟨ab,ao,none⟩ else some ⟨ab,ao+((sizR rows:Nat):Int).toNat * 1,none⟩) (fb.length - ((sizR rows:Nat):Int).toNat) (c0 - ((sizR rows:Nat):Int).toNat)=.slice (some ⟨ab,ao+po,none⟩) (fb.length - po) (c0 - po):=by
    rw [hsz]
    exact J6 (by omega)
   refine .seq (.sr (.move (.nilCheck ?_)))
   refine .fa ?_ ff
   refine .ld ?_ sc3
   refine .move ?_
   refine .lenS ?_ sl79
   refine .lss (.z ?_)
   refine .condT rfl (cB9 (by first|exact decide_eq_true (by omega)|exact decide_eq_false (by omega)|simp;done|simp;omega|omega)) ?_
   refine .skip (.next (.block (.sr (.move (.move ?_)))))
   refine .nilCheck ?_
   refine .fa ?_ ff
   refine .ld ?_ sc3
   refine .slcL ?_ so79
   refine .cast (d:=45) (u:=.slice (some ⟨ab,ao+po,none⟩) (fb.length - po) (c0 - po)) rfl hslc ?_
   refine .call (hc:=Tryz.call117) (sp:=F6 (rest:=[]) (c:=c0 - po) hRd (by rw [List.length_drop]) (hdp.trans htt) htk htE) (h:=?_)
   rintro _ _ ⟨rfl,rfl⟩
   refine .move ?_
   refine .extract (.extract (.extract ?_))
   refine .alloc z44 fun b11=>?_
   refine .stV ?_ dz
   refine .assign (.assign (.z (.seq (.seq ?_))))
   refine .dr ([pt b11 (.cells #[.int .i64 0,.int .i64 0,.int .i64 0,.int .i64 0,.slice none 0 0] 44 (0,0))]) [] 9 mixed .autoS ?_
   refine .tk 0 rfl .move ?_
   refine .tk 1 rfl .nei ?_
   refine .tk 2 rfl .move ?_
   refine .tf 3 rfl ?_
   refine .tf 4 rfl ?_
   refine .tf 5 rfl ?_
   refine .tf 6 rfl ?_
   refine .tf 7 rfl ?_
   refine .tk 8 rfl .pickT ?_
   refine .fin ?_
   refine .next ?_
   refine .condT rfl rfl ?_
   refine .exit (.thenExit (.blockPast rfl (.thenExit (.blockExit (?_)))))
   refine .next (.seq (.sr (.move (.nilCheck ?_))))
   refine .fa ?_ ff
   refine .ld ?_ sc3
   refine .move ?_
   refine .lenS ?_ sl79
   refine .lss (.z ?_)
   refine .condT rfl (cB9 (by first|exact decide_eq_true (by omega)|exact decide_eq_false (by omega)|simp;done|simp;omega|omega)) ?_
   refine .sr (.move (.move (.move (.nilCheck ?_))))
   refine .fa ?_ ff
   refine .ld ?_ sc3
   refine .cast (d:=75) (u:=nI (bs.flatMap batB).length) rfl (by rw [hsz,hpo];rfl) ?_
   refine .call (hc:=Tryz.call118) (sp:=hTr ht0) (h:=?_)
   rintro _ _ ⟨rfl,rfl⟩
   refine .assign (.x (.move ?_))
   refine .nei (.z ?_)
   refine .condF rfl rfl ?_
   refine .skip (.next (.sr (.move (.assign (.assign (.z ?_))))))
   refine .ret (.scopeRet (?_))
   refine .shutR (SGP.opens b31 f path base bs) (rows,u,os) hI ?_
   exact .ret2 (h1:=.tmp (t:=6) rfl) (h2:=.tmp (t:=7) rfl) ⟨_,⟨_,rfl,rfl⟩,Am.auto⟩
theorem x9 :∀ (l:List Rc) (k i:Nat),(fu k l)[i]?=(l[i]?).map fun r=>{ r with off:=((k+i:Nat):Int) }
 | [],_,_=>by simp [fu]
 | r :: l,k,0=>by simp [fu]
 | r :: l,k,i+1=>by
  simp only [fu,List.getElem?_cons_succ]
  rw [x9 l (k+1) i,show k+1+i=k+(i+1) by omega]
theorem N4 (b:Bt):(batB b).length=48+(b.recs.flatMap fun r=>encB r (ak b)).length:=by
 rw [kf]
 unfold cq
 rw [List.length_append,cd]
theorem N5 {base prod seq:Int} {l:List Rc} (hn:1<=l.length/\l.length<=100) (hb:0<=base/\base<=1125899906842624) (hp:0<=prod) (hs:0<=seq) (hck:∀ r∈l,∀ j:Nat,j < 100->ckE { r with off:=((j:Nat):Int) }=0) (hfit:(batB (az base prod seq l)).length<=6000):batE (az base prod seq l)=0:=by
 have hl:(az base prod seq l).recs.length=l.length:=jj l 0
 have hsp:(az base prod seq l).span=((l.length:Nat):Int):=by show max ((l.length:Nat):Int) 1=_;omega
 have hat:∀ j r,l[j]?=some r->Fk (az base prod seq l) j=((j:Nat):Int):=fun j r hr=>by
  have h1:(az base prod seq l).recs[j]?=some { r with off:=((0+j:Nat):Int) }:=by
   show (fu 0 l)[j]?=_
   rw [x9,hr]
   rfl
  rw [xx h1]
  show ((0+j:Nat):Int)=_
  omega
 have ho:ga (az base prod seq l)=true:=by
  refine (Dv ?_ fun j hj=>?_).symm
  ·unfold d9
   have e1:(az base prod seq l).base=base:=rfl
   have e2:(az base prod seq l).prod=prod:=rfl
   have e3:(az base prod seq l).seq=seq:=rfl
   rw [hl,hsp,e1,e2,e3,decide_eq_false (by omega),decide_eq_false (by omega),decide_eq_false (by omega),decide_eq_false (by omega),decide_eq_false (by omega),decide_eq_false (by omega),decide_eq_false (by omega)]
   rfl
  ·rw [hl] at hj
   obtain ⟨r,hr⟩:∃ r,l[j]?=some r:=⟨_,List.getElem?_eq_getElem hj⟩
   unfold mr
   rw [hat j r hr,hsp,decide_eq_false (by omega),Bool.false_or]
   by_cases h0:j=0
   ·subst h0
    rfl
   ·obtain ⟨r2,hr2⟩:∃ r2,l[j - 1]?=some r2:=⟨_,List.getElem?_eq_getElem (by omega)⟩
    rw [hat (j - 1) r2 hr2,decide_eq_false (p:=((j:Nat):Int)<=((j - 1:Nat):Int)) (by omega),Bool.and_false]
    rfl
 have hall:∀ r∈(az base prod seq l).recs,ckE r=0:=fun r hr=>by
  obtain ⟨j,hj⟩:=List.getElem?_of_mem hr
  have h1:(fu 0 l)[j]?=some r:=hj
  rw [x9] at h1
  cases h2:l[j]? with
  | none=>rw [h2] at h1;cases h1
  | some r0 =>
   rw [h2] at h1
   injection h1 with h1
   rw [<- h1]
   have hj2:=(List.getElem?_eq_some_iff.1 h2).1
   exact hck r0 (List.mem_of_getElem? h2) (0+j) (by omega)
 unfold batE
 rw [if_pos (by unfold lu;rw [if_pos ho];exact tz hall),if_neg (by omega)]
theorem Ke {r:Rc} {t:Int} {K:Nat} (hK:∀ j:Nat,j < 100->(encB { r with off:=((j:Nat):Int) } t).length=K):∀ (n k:Nat),k+n<=100->((fu k (List.replicate n r)).flatMap fun r=>encB r t).length=n * K
 | 0,_,_=>by simp [fu]
 | n+1,k,h=>by
  rw [List.replicate_succ,fu,List.flatMap_cons,List.length_append,hK k (by omega),Ke hK n (k+1) (by omega),Nat.succ_mul]
  omega
def repB (base:Int) (n:Nat) (r:Rc):Bt:=az base 0 0 (List.replicate n r)
theorem F9 {base:Int} {n:Nat} {r:Rc} (hn:1<=n):ak (repB base n r)=r.time:=by
 obtain ⟨m,rfl⟩:∃ m,n=m+1:=⟨n - 1,by omega⟩
 rfl
theorem Kf {base:Int} {n:Nat} {r:Rc} (hn:1<=n):(repB base n r).span=((n:Nat):Int):=by
 show max (((List.replicate n r).length:Nat):Int) 1=_
 rw [List.length_replicate]
 omega
theorem ya {base:Int} {n K:Nat} {r:Rc} (hn:1<=n/\n<=100) (hK:∀ j:Nat,j < 100->(encB { r with off:=((j:Nat):Int) } r.time).length=K):(batB (repB base n r)).length=48+n * K:=by
 rw [N4,F9 hn.1]
 show 48+((fu 0 (List.replicate n r)).flatMap fun x=>encB x r.time).length=_
 rw [Ke hK n 0 (by omega)]
theorem Kg {base:Int} {n K:Nat} {r:Rc} (hn:1<=n/\n<=100) (hb:0<=base/\base<=1125899906842624) (hck:∀ j:Nat,j < 100->ckE { r with off:=((j:Nat):Int) }=0) (hK:∀ j:Nat,j < 100->(encB { r with off:=((j:Nat):Int) } r.time).length=K) (hfit:48+n * K<=6000):batE (repB base n r)=0:=by
 have hl:(List.replicate n r).length=n:=List.length_replicate
 refine N5 (by rw [hl];exact hn) hb (by decide) (by decide) (fun x hx j hj=>by rw [List.eq_of_mem_replicate hx];exact hck j hj) ?_
 have h:=ya (base:=base) hn hK
 unfold repB at h
 rw [h]
 exact hfit
theorem Eb {n:Nat} (h:n<=127):(vint n).length=1:=by rw [ka (by omega)];rfl
theorem zig_0 :zigN 0=0:=by decide +kernel
def recS (key val:aa) (t:Int):Rc:=⟨!decide (key=[]),key,true,val,t,0⟩
theorem Kh {key val:aa} {t:Int} (ht:0<=t/\t<=1125899906842624) (hk:key.length<=2000) (hv:val.length<=2000):∀ j:Nat,j < 100->ckE { recS key val t with off:=((j:Nat):Int) }=0:=fun j hj=>by
 refine (ck0 ?_ ?_).symm
 ·show ((!(!decide (key=[])) && !decide (key=[])) || (!true && !decide (val=[])) || decide (t < 0) || decide (1125899906842624 < t) || decide (((j:Nat):Int) < 0) || decide (100<=((j:Nat):Int)))=false
  rw [decide_eq_false (p:=t < 0) (by omega),decide_eq_false (p:=1125899906842624 < t) (by omega),decide_eq_false (p:=((j:Nat):Int) < 0) (by omega),decide_eq_false (p:=100<=((j:Nat):Int)) (by omega)]
  cases decide (key=[])<;>rfl
 ·show (decide ((2000:Int) < ((key.length:Nat):Int)) || decide ((2000:Int) < ((val.length:Nat):Int)))=false
  rw [decide_eq_false (by omega),decide_eq_false (by omega)]
  rfl
theorem Ec {key val:aa} {t:Int} (j:Nat) (hj:j < 100):(encB { recS key val t with off:=((j:Nat):Int) } t).length=3+(if key=[] then 0 else (vint key.length).length+key.length)+((vint val.length).length+val.length):=by
 have h1:(vint (((j:Nat):Int)).toNat).length=1:=Eb (by omega)
 have h2:(vint (zigN (t - t))).length=1:=by rw [Int.sub_self,zig_0];exact Eb (by decide)
 unfold encB flB txtB
 show ((_:aa)++(vint (((j:Nat):Int)).toNat++(vint (zigN (t - t))++((if (!decide (key=[]))=true then vint key.length++key else [])++(if true=true then vint val.length++val else []))))).length=_
 rw [List.length_append,List.length_append,List.length_append,List.length_append,h1,h2,if_pos rfl,List.length_append]
 by_cases hk:key=[]
 ·subst hk
  simp
  omega
 ·rw [if_neg hk,if_pos (by simp [hk]),List.length_append]
  simp
  omega
structure PS where
 pre:List SegA
 base:Nat
 bs:List Bt
def PS.ss (x:PS):List SegA:=x.pre++[(x.base,x.bs)]
def PS.add (seg:Int) (x:PS) (b:Bt):PS:=if (x.bs.flatMap batB).length=0 ∨ (((x.bs.flatMap batB).length:Nat):Int)+(((batB b).length:Nat):Int)<=seg then ⟨x.pre,x.base,x.bs++[b]⟩ else ⟨x.ss,b.base.toNat,[b]⟩
theorem PS.add_ss {seg:Int} {x:PS} {b:Bt}:addP seg x.pre x.base x.bs b=(x.add seg b).ss:=by
 unfold addP PS.add PS.ss
 split<;>rfl
theorem PS.add_n {seg:Int} {x:PS} {b:Bt}:addN seg x.bs b x.ss.length=(x.add seg b).ss.length:=by
 unfold addN PS.add PS.ss
 split
 ·simp
 ·simp
theorem PS.len (x:PS):x.ss.length=x.pre.length+1:=by unfold PS.ss;rw [List.length_append,List.length_singleton]
structure PSI (x:PS) (next:Nat) (l:List Bt) (m:Nat):Prop where
 all:x.ss.flatMap (fun y=>y.2)=l
 nx:kz ((x.base:Nat):Int) x.bs=((next:Nat):Int)
 le:∀ y∈x.ss,y.1<=x.base
 lt:x.base<=next/\(x.bs≠[]->x.base < next)
 cnt:x.pre.length+x.bs.length<=l.length
 size:∀ b∈l,(batB b).length<=m
 fst:∃ bs0 post,x.ss=(0,bs0) :: post
theorem Ki {l:List Bt} {m:Nat} (h:∀ b∈l,(batB b).length<=m):(l.flatMap batB).length<=l.length * m:=by
 induction l with
 | nil=>simp
 | cons x l ih =>
  have h1:=h x (List.mem_cons_self ..)
  have h2:=ih fun b hb=>h b (List.mem_cons_of_mem _ hb)
  rw [List.flatMap_cons,List.length_append,List.length_cons,Nat.succ_mul]
  omega
theorem Ac :∀ ss:List SegA,bytT ss=((ss.flatMap fun y=>y.2).flatMap batB).length
 | []=>rfl
 | y :: ss=>by
  have h:=Ac ss
  unfold bytT at h ⊢
  rw [List.map_cons,List.sum_cons,h,List.flatMap_cons,List.flatMap_append,List.length_append]
  rfl
theorem PSI.byt {x:PS} {next m:Nat} {l:List Bt} (h:PSI x next l m):bytT x.ss<=l.length * m:=by
 rw [Ac,h.all]
 exact Ki h.size
theorem Ga {base:Int} {bs:List Bt} {b:Bt}:kz base (bs++[b])=b.base+b.span:=by
 unfold kz
 rw [List.getLast?_concat]
theorem PSI.zero (m:Nat):PSI ⟨[],0,[]⟩ 0 [] m:=⟨rfl,rfl,fun y hy=>by rw [List.mem_singleton.1 hy];exact Nat.le_refl _,⟨Nat.le_refl _,fun h=>absurd rfl h⟩,Nat.le_refl _,fun b hb=>absurd hb List.not_mem_nil,⟨[],[],rfl⟩⟩
theorem PSI.add {x:PS} {next m k:Nat} {l:List Bt} {seg:Int} {b:Bt} (h:PSI x next l m) (hb:b.base=((next:Nat):Int)) (hs:b.span=((k:Nat):Int)) (hk:1<=k) (hm:(batB b).length<=m):PSI (x.add seg b) (next+k) (l++[b]) m:=by
 have hlt:=h.lt
 have hcnt:=h.cnt
 have hsz:∀ c∈l++[b],(batB c).length<=m:=fun c hc=>(List.mem_append.1 hc).elim (h.size c) (fun hc=>by rw [List.mem_singleton.1 hc];exact hm)
 obtain ⟨bs0,post,hfst⟩:=h.fst
 unfold PS.add
 split
 ·refine ⟨?_,?_,fun y hy=>?_,⟨?_,fun _=>?_⟩,?_,hsz,?_⟩
  ·show (x.pre++[(x.base,x.bs++[b])]).flatMap (fun y=>y.2)=_
   rw [<- h.all]
   unfold PS.ss
   rw [List.flatMap_append,List.flatMap_append,List.flatMap_singleton,List.flatMap_singleton,List.append_assoc]
  ·show kz _ (x.bs++[b])=_
   rw [Ga,hb,hs]
   omega
  ·rcases List.mem_append.1 hy with hy | hy
   ·exact h.le y (List.mem_append_left _ hy)
   ·rw [List.mem_singleton.1 hy];exact Nat.le_refl _
  ·show x.base<=next+k
   omega
  ·show x.base < next+k
   omega
  ·show x.pre.length+(x.bs++[b]).length<=(l++[b]).length
   rw [List.length_append,List.length_append,List.length_singleton]
   omega
  ·show ∃ bs0 post,x.pre++[(x.base,x.bs++[b])]=(0,bs0) :: post
   have hfst:x.pre++[(x.base,x.bs)]=(0,bs0) :: post:=hfst
   cases hp:x.pre with
   | nil =>
    rw [hp] at hfst
    injection hfst with h1 _
    injection h1 with h1 _
    rw [h1]
    exact ⟨_,[],rfl⟩
   | cons y l =>
    rw [hp] at hfst
    injection hfst with h1 _
    rw [h1]
    exact ⟨_,_,rfl⟩
 ·rename_i hc
  have hne:x.bs≠[]:=fun h0=>hc (.inl (by rw [h0];rfl))
  have hbl:0 < x.bs.length:=List.length_pos_iff.2 hne
  have hn:b.base.toNat=next:=by rw [hb,Int.toNat_natCast]
  rw [hn]
  refine ⟨?_,?_,fun y hy=>?_,⟨?_,fun _=>?_⟩,?_,hsz,⟨bs0,post++[(next,[b])],by show x.ss++[(next,[b])]=_;rw [hfst];rfl⟩⟩
  ·show (x.ss++[(next,[b])]).flatMap (fun y=>y.2)=_
   rw [List.flatMap_append,List.flatMap_singleton,h.all]
  ·show b.base+b.span=_
   rw [hb,hs]
   omega
  ·show y.1<=next
   rcases List.mem_append.1 hy with hy | hy
   ·have:=h.le y hy
    omega
   ·rw [List.mem_singleton.1 hy];exact Nat.le_refl _
  ·show next<=next+k
   omega
  ·show next < next+k
   omega
  ·show x.ss.length+1<=(l++[b]).length
   rw [PS.len,List.length_append,List.length_singleton]
   omega
theorem Ed {pp f next c m:Nat} {dn:aa} {st:Sts} {p:Pl} {x:PS} {all:List Bt} {A:Addr} {R:HP} {prod seq:Int} {l:List Rc} (hp:PlP p) (h:PSI x next all m) (hpre:x.pre.length<=55) (hino:x.pre.length+5<=p.ino) (hbyt:bytT x.ss<=60000) (hcnt:all.length<=9999) (hnext:next<=1125899906842624) (hdn:dn.length<=900) (hR:Reads R (some A) (l.flatMap Rc.v)) (hpos:0 < l.length) (hll:l.length<=10000) (hE:batE (az ((next:Nat):Int) prod seq l)=0) :
  Spec Tryz.prog 16 #[.pointer (some ⟨pp,0,none⟩),.int .i64 prod,.int .i64 seq,.slice (some A) l.length c] [PT pp f dn st [] x.ss,DRF f p dn x.ss.length x.ss,R] fun F v M=>v=.tuple #[.int .i64 ((next:Nat):Int),.int .i64 0]/\M=PT pp f dn st [] (x.add st.seg (az ((next:Nat):Int) prod seq l)).ss :: DRF f p dn (x.add st.seg (az ((next:Nat):Int) prod seq l)).ss.length (x.add st.seg (az ((next:Nat):Int) prod seq l)).ss :: R :: F:=by
 have hl:=x.len
 have hlt:=h.lt
 have hcn:=h.cnt
 have hb1:(x.bs.flatMap batB).length<=bytT x.ss:=by
  unfold PS.ss
  rw [xy]
  have h2:bytT [(x.base,x.bs)]=(x.bs.flatMap batB).length:=rfl
  omega
 have h1:=B6 (pp:=pp) (f:=f) (N:=x.ss.length) (base:=x.base) (nb:=next) (c:=c) (dn:=dn) (st:=st) (p:=p) (pre:=x.pre) (bs:=x.bs) (A:=A) (R:=R) (prod:=prod) (seq:=seq) (l:=l) hp ⟨by omega,by omega,by show x.ss.length<=60;omega,by show bytT x.ss<=90000;omega⟩ (by omega) (by omega) hpre hdn hR hpos hll hE h.nx.symm (fun y hy=>⟨by have:=h.le y hy;omega,fun hne=>by have:=h.le y hy;have:=hlt.2 hne;omega⟩) (by omega) (by omega)
 rw [PS.add_ss,PS.add_n] at h1
 exact h1
theorem PS.add_pre {seg:Int} {x:PS} {b:Bt}:(x.add seg b).pre=x.pre ∨ ((x.add seg b).pre=x.ss/\seg < (((x.bs.flatMap batB).length:Nat):Int)+(((batB b).length:Nat):Int)):=by
 unfold PS.add
 split
 ·exact .inl rfl
 ·rename_i h
  exact .inr ⟨rfl,by omega⟩
theorem Kj :∀ (l:aa) (v:Nat),v * 10 ^ l.length<=l.foldl (fun v c=>10 * v+(c.toNat - 48)) v
 | [],v=>by simp
 | x :: l,v=>by
  rw [List.foldl_cons,List.length_cons,Nat.pow_succ]
  refine Nat.le_trans ?_ (Kj l _)
  rw [Nat.mul_comm (10 ^ l.length) 10,<-Nat.mul_assoc]
  exact Nat.mul_le_mul_right _ (by omega)
theorem Kk :∀ (l:aa) (v:Nat),(∀ c∈l,c.toNat<=57)->l.foldl (fun v c=>10 * v+(c.toNat - 48)) v < (v+1) * 10 ^ l.length
 | [],v,_=>by simp
 | x :: l,v,h=>by
  have hx:=h x (List.mem_cons_self ..)
  rw [List.foldl_cons,List.length_cons,Nat.pow_succ]
  refine Nat.lt_of_lt_of_le (Kk l _ fun c hc=>h c (List.mem_cons_of_mem _ hc)) ?_
  rw [Nat.mul_comm (10 ^ l.length) 10,<-Nat.mul_assoc]
  exact Nat.mul_le_mul_right _ (by omega)
theorem lexP :∀ (l1 l2:aa) (v:Nat),l1.length=l2.length->(∀ c∈l1,48<=c.toNat)->(∀ c∈l2,48<=c.toNat/\c.toNat<=57)->l1.foldl (fun v c=>10 * v+(c.toNat - 48)) v < l2.foldl (fun v c=>10 * v+(c.toNat - 48)) v->l1 < l2
 | [],[],v,_,_,_,h=>absurd h (Nat.lt_irrefl _)
 | [],_ :: _,_,h,_,_,_=>by simp at h
 | _ :: _,[],_,h,_,_,_=>by simp at h
 | x :: l1,y :: l2,v,hl,h1,h2,h=>by
  rw [List.cons_lt_cons_iff]
  have hx:=h1 x (List.mem_cons_self ..)
  have hy:=h2 y (List.mem_cons_self ..)
  rw [List.length_cons,List.length_cons] at hl
  rw [List.foldl_cons,List.foldl_cons] at h
  by_cases e:x=y
  ·subst e
   exact .inr ⟨rfl,lexP l1 l2 _ (by omega) (fun c hc=>h1 c (List.mem_cons_of_mem _ hc)) (fun c hc=>h2 c (List.mem_cons_of_mem _ hc)) h⟩
  ·refine .inl (UInt8.lt_iff_toNat_lt.2 (Classical.byContradiction fun hn=>?_))
   have hne:x.toNat≠y.toNat:=fun h=>e (UInt8.toNat_inj.1 h)
   have a1:=Kj l1 (10 * v+(x.toNat - 48))
   have a2:=Kk l2 (10 * v+(y.toNat - 48)) fun c hc=>(h2 c (List.mem_cons_of_mem _ hc)).2
   have hll:l1.length=l2.length:=by omega
   rw [hll] at a1
   have a3:(10 * v+(y.toNat - 48)+1) * 10 ^ l2.length<=(10 * v+(x.toNat - 48)) * 10 ^ l2.length:=Nat.mul_le_mul_right _ (by omega)
   omega
theorem v8 {b:Nat}:∀ c∈al b,48<=c.toNat/\c.toNat<=57:=fun c hc=>by
 unfold al at hc
 obtain ⟨i,_,rfl⟩:=List.mem_map.1 hc
 rw [l7]
 exact l6 _ _
theorem Ad {b:Nat} (h:b < 10 ^ 20):(al b).foldl (fun v c=>10 * v+(c.toNat - 48)) 0=b:=by
 have h1:=zp b h 20 (Nat.le_refl _)
 rw [List.take_of_length_le (by rw [ce];decide),Nat.sub_self,Nat.pow_zero,Nat.div_one] at h1
 exact h1
theorem N6 {a b:Nat} (hb:b < 10 ^ 20) (h:a < b):al a < al b :=
 lexP _ _ 0 (by rw [ce,ce]) (fun c hc=>(v8 c hc).1) v8 (by rw [Ad (by omega),Ad hb];exact h)
theorem Ae :∀ {l1 l2:List aa},l1.Perm l2->l1.Pairwise (fun x y=>¬ y < x)->l2.Pairwise (fun x y=>x < y)->l1=l2
 | l1,[],hp,_,_=>List.perm_nil.1 hp
 | [],_ :: _,hp,_,_=>by have:=hp.length_eq;simp at this
 | a :: l1,b :: l2,hp,h1,h2=>by
  rw [List.pairwise_cons] at h1 h2
  have hab:a=b:=by
   rcases List.mem_cons.1 (hp.mem_iff.1 (List.mem_cons_self ..)) with e | e
   ·exact e
   ·rcases List.mem_cons.1 (hp.mem_iff.2 (List.mem_cons_self ..)) with e2 | e2
    ·exact e2.symm
    ·exact absurd (h2.1 a e) (h1.1 b e2)
  subst hab
  rw [Ae (List.Perm.cons_inv hp) h1.2 h2.2]
def uf (ss:List SegA):Prop:=ss.Pairwise fun x y=>x.1 < y.1
theorem Kl {ss:List SegA} (h:uf ss) (hb:∀ y∈ss,y.1<=1125899906842624):(ss.map fun y=>al y.1).Pairwise (fun x y=>x < y):=by
 rw [List.pairwise_map]
 exact List.Pairwise.imp_of_mem (fun {a b} _ hb2 hlt=>N6 (Nat.lt_of_le_of_lt (hb b hb2) (by decide)) hlt) h
theorem Us {f:Nat} {p:Pl} {dn:aa} {N:Nat} {ss:List SegA} (hp:PlP p) (hN:N<=200) (hinc:uf ss) (hb:∀ y∈ss,y.1<=1125899906842624) :
  Spec Tryz.prog 59 #[.pointer (some ⟨f,0,none⟩),sv (47 :: dn)] [DRF f p dn N ss] fun F v M=>∃ u,v=.tuple #[u,.int .i64 0]/\M=rowR 9 1 u ss.length (svs (ss.map fun y=>al y.1)) :: DRF f p dn N ss :: F:=by
 refine Spec.opens (DRF.opens f p dn N ss) fun fl hfl=>?_
 refine Spec.opens (DR.opens f p dn N fl) fun z hd=>?_
 obtain ⟨T,sl⟩:=z
 have hd:DirF p dn N T sl fl:=hd
 refine Spec.post' (Pg (f:=f) (p:=p) (T:=T) (path:=47 :: dn) (i:=1) (z:=(NodeT.dir sl).size) (sl:=sl) hp.ok (hd.tok (by omega)) (by have:=aq hd.dnm;simp only [List.length_cons];omega) hd.leadsD hd.dir) ?_
 rintro F v M B w ⟨u,l,rfl,⟨hlp,hls⟩,rfl⟩ hs
 have hfn:fl.map (fun x=>x.nm)=ss.map fun y=>al y.1:=by
  have h:=congrArg (List.map Prod.fst) (show fl.map (fun x=>(x.nm,x.c))=ss.map (fun y=>(al y.1,byt y)) from hfl)
  rw [List.map_map,List.map_map] at h
  exact h
 have hinj:=Kl hinc hb
 have hnm:l.map (·.1)=ss.map fun y=>al y.1:=by
  refine Ae ?_ ?_ hinj
  ·refine (hlp.map (·.1)).trans ?_
   refine (List.perm_ext_iff_of_nodup (uc hd.ok) ?_).2 fun n=>?_
   ·exact hinj.imp fun {a b} h e=>by subst e;exact List.lt_irrefl _ h
   ·rw [<- hfn]
    constructor
    ·intro hn
     obtain ⟨⟨nm,i⟩,hm,rfl⟩:=List.mem_map.1 hn
     obtain ⟨q,hq⟩:=entsS_mem.1 hm
     obtain ⟨x,hx,_,h2,_⟩:=(hd.slot _ _ _).1 hq
     exact List.mem_map.2 ⟨x,hx,h2⟩
    ·intro hn
     obtain ⟨x,hx,rfl⟩:=List.mem_map.1 hn
     exact List.mem_map.2 ⟨(x.nm,x.i),entsS_mem.2 ⟨x.q,(hd.slot _ _ _).2 ⟨x,hx,rfl,rfl,rfl⟩⟩,rfl⟩
  ·rw [List.pairwise_map]
   exact hls
 rw [hnm,List.length_map] at hs
 refine ⟨_,⟨u,rfl,rfl⟩,Sat.front (.there .here) ?_⟩
 refine Sat.shuts (M:=rowR _ 1 u ss.length (svs (ss.map fun y=>al y.1)) :: F) (DRF.opens f p dn N ss) hfl ?_
 exact Sat.shuts (DR.opens f p dn N _) (x:=(T,sl)) hd (Sat.front (.there .here) hs)
theorem N7 {f N:Nat} {p:Pl} {dn:aa} {st:Sts} {ss:List SegA} (hp:PlP p) (hdn:am dn=true) (hf:FitsP p N ss) (hst:ko st=true) (hinc:uf ss) (hb:∀ y∈ss,y.1<=1125899906842624) (hch:∀ y∈ss,ChainB ((y.1:Nat):Int) y.2/\(byt y).length<=70656) (hne:0 < ss.length):Spec Tryz.prog 30 #[.pointer (some ⟨f,0,none⟩),sv (47 :: dn),.agg st.v.toArray] [DRF f p dn N ss] fun F v M=>∃ pp,v=.tuple #[.pointer (some ⟨pp,0,none⟩),.int .i64 0]/\M=PT pp f dn st [] ss :: DRF f p dn N ss :: F:=by
 refine Spec.intro Tryz.func30 rfl rfl fun B F=>?_
 simp only [Tryz.ntmps30,List.cons_append,List.nil_append,env0,Nat.reduceAdd]
 have hdl:=aq hdn
 have hflen:=hf.len
 have hln:(ss.map fun y=>al y.1).length=ss.length:=List.length_map ..
 refine .sr ?_
 refine .box fun b5=>?_
 refine .assign (.assign (.z (.seq (.sr ?_))))
 refine .ldA ?_ F2
 refine .call (hc:=Tryz.call10) (sp:=x0 (s:=st)) (h:=?_)
 rintro _ _ ⟨rfl,rfl⟩
 rw [hst]
 refine .not (.z ?_)
 refine .condF rfl rfl ?_
 refine .skip (.next (.sr (.move (.move ?_))))
 refine .call (hc:=Tryz.call59) (sp:=Us hp hf.n hinc hb) (h:=?_)
 rintro _ _ ⟨u0,rfl,rfl⟩
 refine .fact (ae (el:=9) (size:=1) (k:=ss.length) (v:=u0) (xs:=svs (ss.map fun y=>al y.1))) fun ⟨A,c,hv,hR,hc1,hc2,hc3⟩=>?_
 subst hv
 refine .move ?_
 refine .extract (.extract ?_)
 refine .assign (.assign (.z (.seq (.sr (.move ?_)))))
 refine .nei (.z ?_)
 refine .condF rfl rfl ?_
 refine .skip (.next (.sr (.move (.move ?_))))
 refine .ldA ?_ F2
 refine .build ?_ (Pi f (bstr (47 :: dn)) st.seg st.bytes st.age st.comp st.delay)
 refine .box fun b34=>?_
 refine .assign (.z (.seq (.sr (.move ?_))))
 refine .lenS ?_ sl62
 refine .move (.z (.block ?_))
 obtain ⟨ab,ao,rfl⟩:∃ ab ao,A=some ⟨ab,ao,none⟩:=by
  cases A with
  | none =>
   have h0:svs (ss.map fun y=>al y.1)=[]:=hR
   rw [h0] at hc3
   simp at hc3
   omega
  | some a =>
   obtain ⟨x,y,z⟩:=a
   have:z=none:=hR.1
   subst this
   exact ⟨x,y,rfl⟩
 refine .emp (A:=rowR 86 1 (.slice none 0 0) ([]:List Seg).length (([]:List Seg).map Seg.ptr)) (rowR.nil _) ?_
 refine .emp (A:=segsH f dn []) (by unfold segsH;exact bun.nil) ?_
 refine .loopA (σ:=Value×List Seg) (fun y=>[(0,.pointer (some ⟨f,0,none⟩)),(1,sv (47 :: dn)),(10,.pointer (some ⟨b34,0,none⟩)),(35,.slice (some ⟨ab,ao,none⟩) ss.length c),(36,.int .i64 ((ss.length:Nat):Int)),(37,.int .i64 ((y.2.length:Nat):Int))]) (fun y=>[pt b34 (p5 f dn st y.1),rowR 86 1 y.1 y.2.length (y.2.map Seg.ptr),segsH f dn y.2,rowR 9 1 (.slice (some ⟨ab,ao,none⟩) ss.length c) ss.length (svs (ss.map fun y=>al y.1)),DRF f p dn N ss]++F) (fun y=>y.2.length<=ss.length/\y.2.map Seg.a=ss.take y.2.length) (fun y=>ss.length - y.2.length) (.slice none 0 0,[]) ⟨Nat.zero_le _,by rw [List.length_nil,List.take_zero];rfl⟩ ?_
 rintro y hy
 obtain ⟨u,sg⟩:=y
 obtain ⟨hk,hsg⟩:=hy
 simp only at hk hsg ⊢
 refine .sr ?_
 refine .lss (.z (.seq ?_))
 refine .cond rfl (fun hd=>?_) (fun hd=>?_)
 ·have hkl:sg.length < ss.length:=by have h:((sg.length:Nat):Int) < ((ss.length:Nat):Int):=of_decide_eq_true hd;omega
  obtain ⟨y,hy⟩:∃ y,ss[sg.length]?=some y:=⟨_,List.getElem?_eq_getElem hkl⟩
  have hym:y∈ss:=List.mem_of_getElem? hy
  have hsp:ss=ss.take sg.length++y :: ss.drop (sg.length+1):=by
   conv=>lhs;rw [<- List.take_append_drop sg.length ss]
   rw [List.drop_eq_getElem_cons hkl,(List.getElem?_eq_some_iff.1 hy).2]
  obtain ⟨hcy,hby⟩:=hch y hym
  have hyb:=hb y hym
  have hfb:byt y=y.2.flatMap batB++[]:=by unfold byt;rw [List.append_nil]
  have hRd:=Ph (f:=f) (p:=p) (dn:=dn) (N:=N) (pre:=ss.take sg.length) (post:=ss.drop (sg.length+1)) (y:=y) hp (by rw [<- hsp];exact hf) hby
  rw [<- hsp] at hRd
  have hnk:(svs (ss.map fun y=>al y.1))[sg.length]?=some (sv (al y.1)):=by unfold svs;rw [List.getElem?_map,List.getElem?_map,hy];rfl
  refine .fact (ae (el:=86) (size:=1) (k:=sg.length) (v:=u) (xs:=sg.map Seg.ptr)) fun ⟨A7,c7,hv7,_⟩=>?_
  subst hv7
  refine .skip (.next (.seq (.block (.sr ?_))))
  refine .idx1 ?_ so62
  refine .ldR (i:=((sg.length:Nat):Int).toNat) (v:=sv (al y.1)) ?_ sc9 hR (by rw [Int.toNat_natCast];exact hnk)
  refine .assign (.z (.seq (.sr (.move ?_))))
  refine .call (hc:=Tryz.call60) (sp:=Jl (xs:=al y.1) (ps:=[46,110,101,119]) (by rw [ce];decide) (by rw [ce];decide)) (h:=?_)
  rintro _ _ ⟨rfl,rfl⟩
  rw [sufP y.1]
  refine .z ?_
  refine .condF rfl rfl ?_
  refine .skip (.next (.sr (.move ?_)))
  refine .call (hc:=Tryz.call62) (sp:=D0 (b:=y.1) hyb) (h:=?_)
  rintro _ _ ⟨rfl,rfl⟩
  refine .move ?_
  refine .extract (.extract ?_)
  refine .assign (.assign (.z (.seq (.sr (.move ?_)))))
  refine .not (.z ?_)
  refine .condF rfl rfl ?_
  refine .skip (.next (.sr (.move (.move (.move ?_)))))
  refine .call (hc:=Tryz.call47) (sp:=rp (dir:=47 :: dn) (b:=y.1) (by simp only [List.length_cons];omega) hyb) (h:=?_)
  rintro _ _ ⟨rfl,rfl⟩
  rw [rq]
  refine .move ?_
  refine .call (hc:=Tryz.call63) (sp:=N3 (f:=f) (base:=((y.1:Nat):Int)) (bs:=y.2) (t:=[]) (fb:=byt y) (path:=d4 dn (al y.1)) (H:=DRF f p dn N ss) (H':=DRF f p dn N ss) (by omega) hcy (.inl rfl) hfb hby hRd (fun h=>absurd rfl h) (fun _=>rfl)) (h:=?_)
  rintro _ _ ⟨s,rfl,rfl⟩
  refine .to (A:=SGP s f (d4 dn (al y.1)) ((y.1:Nat):Int) y.2) (A':=SGA f dn ⟨s,y.1,y.2⟩) (fun h hh=>hh) ?_
  refine .to (A:=segsH f dn sg) (A':=segsH f dn (sg++[])) (fun h hh=>by rw [List.append_nil];exact hh) ?_
  refine .segIn sg [] (⟨s,y.1,y.2⟩:Seg) ?_
  refine .move ?_
  refine .extract (.extract ?_)
  refine .assign (.assign (.z (.seq (.sr (.move ?_)))))
  refine .nei (.z ?_)
  refine .condF rfl rfl ?_
  refine .skip (.next (.region (.move (.move (.nilCheck ?_)))))
  refine .fa ?_ jl
  refine .ld ?_ sc82
  refine .move ?_
  refine .buildS (fun b77=>?_) (bsPS _)
  refine .append (v:=.slice A7 sg.length c7) (m:=1) (k:=sg.length) (xs:=sg.map Seg.ptr) (news:=[.pointer (some ⟨s,0,none⟩)]) so82 (by decide) (by repeat (first | exact .here | apply Rem.there | apply Repl.there | apply Mem.there)) (Reads.pt (cs:=#[.pointer (some ⟨s,0,none⟩)])) (by repeat (first | exact .here | apply Rem.there | apply Repl.there | apply Mem.there)) rfl (p6 _ (fun v hv=>⟨s,List.mem_singleton.1 hv⟩)) (by unfold maxLen;omega) (by omega) ⟨_,z86,rfl⟩ (fun v' hv'=>?_)
  rw [show sg.map Seg.ptr++[.pointer (some ⟨s,0,none⟩)]=(sg++[(⟨s,y.1,y.2⟩:Seg)]).map Seg.ptr by rw [List.map_append];rfl,show sg.length+1=(sg++[(⟨s,y.1,y.2⟩:Seg)]).length by rw [List.length_append,List.length_singleton]]
  refine .fact (ae (el:=86) (size:=1) (k:=(sg++[(⟨s,y.1,y.2⟩:Seg)]).length) (v:=v') (xs:=(sg++[(⟨s,y.1,y.2⟩:Seg)]).map Seg.ptr)) fun ⟨A9,c9,hv9,_⟩=>?_
  subst hv9
  refine .nilCheck ?_
  refine .fa ?_ jl
  refine .st ?_ sc82
  refine .nil (.blockNormal (.next (.region ?_)))
  refine .add ?_
  refine .move (.nil ?_)
  refine .cast (d:=37) (u:=.int .i64 (((sg++[(⟨s,y.1,y.2⟩:Seg)]).length:Nat):Int)) rfl (cI9 (by rw [List.length_append,List.length_singleton];omega)) ?_
  exact .back (_,sg++[(⟨s,y.1,y.2⟩:Seg)]) ⟨by rw [List.length_append,List.length_singleton];exact hkl,by rw [List.map_append,hsg,List.length_append,List.length_singleton,List.take_add_one,hy];rfl⟩ (by show ss.length - (sg++[_]).length < ss.length - sg.length;rw [List.length_append,List.length_singleton];omega)
 ·have hge:sg.length=ss.length:=by have h:¬ ((sg.length:Nat):Int) < ((ss.length:Nat):Int):=of_decide_eq_false hd;omega
  rw [hge,List.take_length] at hsg
  refine .fact (ae (el:=86) (size:=1) (k:=sg.length) (v:=u) (xs:=sg.map Seg.ptr)) fun ⟨A7,c7,hv7,_⟩=>?_
  subst hv7
  refine .toE (A:=rowR 86 1 (.slice A7 sg.length c7) sg.length (sg.map Seg.ptr)) (br (fun h=>by injection h with _ h2 _;omega)) ?_
  rintro ⟨g2,q2⟩ ⟨he,h2a,h2b,_⟩
  injection he with he1 _ he2
  simp only at he1 he2 h2a h2b ⊢
  subst he1
  subst he2
  refine .exit (.thenExit (.thenExit (.blockExit (?_))))
  refine .next (.seq (.sr (.move (.nilCheck ?_))))
  refine .fa ?_ jl
  refine .ld ?_ sc82
  refine .lenS ?_ sl82
  refine .eqi (.z ?_)
  refine .condF rfl (cB9 (by first | (exact decide_eq_false (by omega)) | (simp;omega))) ?_
  refine .skip (.next (.sr (.move (.assign (.assign (.z ?_))))))
  refine .ret (?_)
  refine .shutR (PT.opens b34 f dn st [] ss) (g2,c7,sg) ⟨hsg,by show 0+sg.length<=c7;omega,h2b,by show sg.length<=_;omega⟩ ?_
  exact .ret2 (h1:=.tmp (t:=6) rfl) (h2:=.tmp (t:=7) rfl) ⟨_,⟨b34,rfl,rfl⟩,Am.auto⟩
theorem sl40 :Tryz.prog.underlying 40=some (.slice 44):=by kernel_rfl
theorem z23 :ba Tryz.prog 23=some (#[.int .i64 0,.int .i64 0,.int .i64 0,.bool false,.int .i64 0]):=by kernel_rfl
def pE (n ino:Nat):Pl:=⟨n,ino,246,247,248,248+(ino+7) / 8,n - (248+(ino+7) / 8)⟩
theorem pE_is {n ino:Nat} (h1:1<=ino) (h2:ino<=4096) (hn:249+(ino+7) / 8<=n) (hn2:n<=4000):PlIs (pE n ino):=by
 refine ⟨?_,?_,?_,?_,?_,?_,?_,?_,?_,?_,?_⟩
 all_goals (simp only [pE];try first | omega | (left;omega))
structure OwnR (r:Nat->Rc) (m:Nat):Prop where
 len:∀ j:Nat,(batB (repB ((j:Nat):Int) 1 (r j))).length=m
 ok:∀ j:Nat,j<=1000->batE (repB ((j:Nat):Int) 1 (r j))=0
 big:512 < m+m/\m<=1400
 t:∀ j:Nat,j<=1000->0<=(r j).time/\(r j).time<=1125899906842624
theorem OwnR.of {key val:Nat->aa} {t:Nat->Int} {K:Nat} (hk:∀ j,(key j).length<=100) (hK:∀ j,3+(if key j=[] then 0 else (vint (key j).length).length+(key j).length)+((vint (val j).length).length+(val j).length)=K) (ht:∀ j:Nat,j<=1000->0<=t j/\t j<=1125899906842624) (hb:512 < (48+K)+(48+K)/\48+K<=1400):OwnR (fun j=>recS (key j) (val j) (t j)) (48+K):=by
 have hv:∀ j,(val j).length<=2000:=fun j=>by have:=hK j;omega
 have hKK:∀ i j:Nat,j < 100->(encB { recS (key i) (val i) (t i) with off:=((j:Nat):Int) } (recS (key i) (val i) (t i)).time).length=K:=fun i j hj=>by
  rw [<- hK i]
  exact Ec j hj
 refine ⟨fun j=>?_,fun j hj=>?_,hb,ht⟩
 ·rw [ya ⟨by decide,by decide⟩ (hKK j),Nat.one_mul]
 ·exact Kg ⟨by decide,by decide⟩ ⟨by omega,by omega⟩ (Kh (ht j hj) (by have:=hk j;omega) (hv j)) (hKK j) (by omega)
section
variable {P:Program} {B:Base} {n:Fr} {Q:Exit->Act->World->Prop} {e:Env} {L:List HP}
def Ut (B:Base) (k:Nat) {σ:Type} (ds:σ->List Deferred) (E:σ->Env) (I:σ->List HP) (p:σ->Prop) (μ:σ->Nat) (s:σ):Act->World->Prop :=
 fun a w=>∃ s',p s'/\μ s' < μ s/\Ag ⟨k,ds s'⟩ (E s') a/\Sat B w (I s')
theorem WC.loopD {c:Code} {σ:Type} {k:Nat} {d0:List Deferred} (ds:σ->List Deferred) (E:σ->Env) (I:σ->List HP) (p:σ->Prop) (μ:σ->Nat) (s0:σ) (hp:p s0) (hds:d0=ds s0)
  (round:∀ s,p s->WC P B ⟨k,ds s⟩ c (Exit.then (Ut B k ds E I p μ s) Q) (E s) (I s)) (he:Env.le (E s0) e:=by repeat (first | exact Env.le_nil _ | refine Env.le_cons rfl ?_)) (hI:Am L (I s0):=by repeat (first | exact .refl | exact .nil | (apply Am.take;focus ((repeat (first | exact .here | apply Rem.there));done)) | refine .skip ?_)):WC P B ⟨k,d0⟩ (.loop c) Q e L:=by
 intro a w ha hs
 refine wp_loop_ghost (fun m a w=>∃ s,μ s=m/\p s/\Ag ⟨k,ds s⟩ (E s) a/\Sat B w (I s)) (μ s0) ⟨s0,rfl,hp,by rw [<- hds];exact ha.weak he,hI.wk B w hs⟩ ?_
 rintro m a w ⟨s,rfl,hp,ha,hs⟩
 refine wp_mono (round s hp a w ha hs) ?_
 intro x a' w' hq
 cases x with
 | normal =>
  obtain ⟨s',hp',hlt,ha',hs'⟩:=hq
  exact ⟨μ s',hlt,s',rfl,hp',ha',hs'⟩
 | exit id=>exact hq
 | goto l=>exact hq
 | ret=>exact hq
 | panic ch=>exact hq
 | outgrown=>exact hq
theorem WQ.backD {σ:Type} {k:Nat} {ds:σ->List Deferred} {E:σ->Env} {I:σ->List HP} {p:σ->Prop} {μ:σ->Nat} {s:σ} {d1:List Deferred} (s':σ) (hp:p s') (hlt:μ s' < μ s) (hds:d1=ds s') (he:Env.le (E s') e:=by repeat (first | exact Env.le_nil _ | refine Env.le_cons rfl ?_)) (hI:Am L (I s'):=by repeat (first | exact .refl | exact .nil | (apply Am.take;focus ((repeat (first | exact .here | apply Rem.there));done)) | refine .skip ?_)) :
  WQ B ⟨k,d1⟩ (Exit.then (Ut B k ds E I p μ s) Q) .normal e L:=fun a w ha hs=>⟨s',hp,hlt,by rw [<- hds];exact ha.weak he,hI.wk B w hs⟩
def marksH (Ds:List Nat):HP:=exH (fun _:Unit=>True) (fun _=>Ds.map fun D=>pt D (.deferred (some [])))
theorem marksH.nil :marksH [] (fun _=>none):=exH.opens.of () trivial _ (by unfold star;exact ⟨[],trivial⟩)
theorem marksH.cons {D:Nat} {Ds:List Nat} {w:World} {M:List HP} (h:Sat B w (pt D (.deferred (some [])) :: marksH Ds :: M)):Sat B w (marksH (D :: Ds) :: M):=by
 obtain ⟨_,_,h1⟩:=Sat.opens (Sat.front (.there .here) h) exH.opens
 have h2:=Sat.front (vu _ M) h1
 exact Sat.shuts (A:=marksH (D :: Ds)) (exH.opens (p:=fun _:Unit=>True) (Ls:=fun _=>(D :: Ds).map fun D=>pt D (.deferred (some [])))) (x:=()) trivial h2
theorem WQ.markIn {xt:Exit} {D:Nat} {Ds:List Nat} {M:List HP} (h:WQ B n Q xt e (marksH (D :: Ds) :: M)) (t:Tk L [pt D (.deferred (some [])),marksH Ds] M:=by repeat (first | exact .nil | (apply Tk.cons;focus ((repeat (first | exact .here | apply Rem.there));done)))):WQ B n Q xt e L :=
 fun a w ha hs=>h a w ha (marksH.cons (hs.take t))
theorem WC.markIn {c:Code} {D:Nat} {Ds:List Nat} {M:List HP} (h:WC P B n c Q e (marksH (D :: Ds) :: M)) (t:Tk L [pt D (.deferred (some [])),marksH Ds] M:=by repeat (first | exact .nil | (apply Tk.cons;focus ((repeat (first | exact .here | apply Rem.there));done)))):WC P B n c Q e L :=
 fun a w ha hs=>h a w ha (marksH.cons (hs.take t))
variable {fn:Func} {F:List HP} {R:List HP->Value->List HP->Prop}
theorem qu {tmps:Array Value} {S:Ending->World->Prop} {M:List HP}:∀ (Ds:List Nat) (w:World),Sat B w ((Ds.map fun D=>pt D (.deferred (some [])))++M)->(∀ w',Sat B w' M->LeavesInM Fence.wide 0 P fn tmps S [] .returning w')->LeavesInM Fence.wide 0 P fn tmps S (Ds.map um) .returning w
 | [],w,hs,h=>h w hs
 | D :: Ds,w,hs,h=>⟨by simp,.inl ⟨D,_,rfl,run_takeDeferred (Sat.get hs Mem.here),qu Ds _ (Sat.set hs Repl.here).tail h⟩⟩
theorem WQ.retMs2 {xt:Exit} {Ds:List Nat} {r s:ResultVar} {v u:Value} {L':List HP} (h:∃ M,R F (.tuple #[v,u]) M/\Am L' M) (rm:Rem L (marksH Ds) L') (h1:RV P e L' r v) (h2:RV P e L' s u)
  (hres:fn.results=#[r,s]:=by rfl) (hD:n.ds=Ds.map um:=by rfl) (hx:(xt=.ret ∨ xt=.normal):=by first | exact .inl rfl | exact .inr rfl) :
  WQ B n (bodyPostM Fence.wide 0 P fn (Post B F R)) xt e L:=by
 obtain ⟨M,hR,hAm⟩:=h
 intro a w ha hs
 obtain ⟨_,_,hs1⟩:=Sat.opens (Sat.front rm hs) exH.opens
 have key:LeavesInM Fence.wide 0 P fn a.tmps (Post B F R) a.defers .returning w:=by
  rw [ha.defers,hD]
  exact qu Ds w hs1 fun w' hs'=>⟨_,Cf hres ha hs' h1 h2,_,M,rfl,hR,hAm.wk B _ hs'⟩
 rcases hx with rfl | rfl<;>exact key
variable {ll D:Nat} {mk:LoopState->Option Code->Loop} {fnn:Nat} {tmps:Array Value}
theorem WQ.rndRetK {F:List HP} {R:List HP->Bool->List HP->Prop} {ps:Array Nat} {asg body:Code} {L':List HP} (hmk:LRec mk fnn tmps ps asg body D)
  (h:∃ M,R F false M/\Am L' M) (r:Repl L (pt ll (.loop (mk .busy none))) (pt ll (.loop (mk .done (some .ret)))) L'):WQ B n (roundPost P ll (Ev B F R)) .ret e L:=by
 rw [hmk,hmk] at r
 exact WQ.rndRet h r
end
def yb (off:Int) (bs:List Bt):List Bt:=bs.filter fun b=>decide (off < b.base+b.span)
def q8 (off:Int) (ss:List SegA):List Bt:=ss.flatMap fun y=>yb off y.2
theorem SegOrd.tail {x:SRow} {l:List SRow} (h:SegOrd (x :: l)):SegOrd l:=fun i j y z hij hi hj=>h (i+1) (j+1) y z (by omega) (by simpa using hi) (by simpa using hj)
theorem Ee {off:Int}:∀ l:List Bt,(∀ b∈l,off < b.base+b.span)->yb off l=l:=fun l h=>by
 unfold yb
 exact List.filter_eq_self.2 fun b hb=>decide_eq_true (h b hb)
theorem hitK {off:Int}:∀ {rows:List SRow},SegOrd rows->∃ k,k<=rows.length/\(∀ i,i < k->hitR off rows i=false)/\(∀ i,k<=i->i < rows.length->hitR off rows i=true)/\(rows.drop k).map SRow.b=yb off (rows.map SRow.b)
 | [],_=>⟨0,Nat.le_refl _,fun i h=>absurd h (Nat.not_lt_zero i),fun i _ h=>absurd h (Nat.not_lt_zero i),rfl⟩
 | x :: l,h=>by
  by_cases hx:off < x.b.base+x.b.span
  ·refine ⟨0,Nat.zero_le _,fun i h=>absurd h (Nat.not_lt_zero i),fun i _ hi=>zx h 0 i (Nat.zero_le _) (by rw [B3 (x:=x) rfl];exact decide_eq_true hx),?_⟩
   rw [List.drop_zero,Ee]
   intro b hb
   obtain ⟨y,hy,rfl⟩:=List.mem_map.1 hb
   obtain ⟨j,hj⟩:=List.getElem?_of_mem hy
   have:=h 0 j x y (Nat.zero_le _) rfl hj
   omega
  ·obtain ⟨k,h1,h2,h3,h4⟩:=hitK (off:=off) h.tail
   refine ⟨k+1,by simpa using h1,fun i hi=>?_,fun i hi hl=>?_,?_⟩
   ·cases i with
    | zero=>rw [B3 (x:=x) rfl];exact decide_eq_false hx
    | succ i=>exact h2 i (by omega)
   ·cases i with
    | zero=>omega
    | succ i=>exact h3 i (by omega) (by simpa using hl)
   ·rw [List.drop_succ_cons,h4,List.map_cons]
    unfold yb
    rw [List.filter_cons_of_neg (by simpa using hx)]
theorem WQ.markF {B:Base} {n:Fr} {Q:Exit->Act->World->Prop} {e:Env} {L M:List HP} {xt:Exit} (Ds:List Nat) (h:WQ B n Q xt e (marksH Ds :: M)) (r:Rem L (marksH Ds) M:=by repeat (first | exact .here | apply Rem.there)):WQ B n Q xt e L :=
 fun a w ha hs=>h a w ha (Sat.front r hs)
theorem ug {off:Int}:∀ ss:List SegA,q8 off ss=yb off (ss.flatMap fun y=>y.2)
 | []=>rfl
 | y :: ss=>by
  have h:=ug (off:=off) ss
  unfold q8 yb at h ⊢
  rw [List.flatMap_cons,List.flatMap_cons,List.filter_append,h]
theorem uh {y:SegA}:∀ {ss:List SegA},y∈ss->y.2.length<=(ss.flatMap fun y=>y.2).length
 | [],h=>absurd h List.not_mem_nil
 | z :: ss,h=>by
  rw [List.flatMap_cons,List.length_append]
  rcases List.mem_cons.1 h with h | h
  ·rw [h];omega
  ·have:=uh h;omega
theorem Gb {off:Int} {y:SegA} {ss:List SegA}:q8 off (y :: ss)=yb off y.2++q8 off ss:=rfl
theorem Km {mx:Int}:∀ (l:List Bt) (n:Int) (h:Bool),(gotB mx n h l).length<=l.length
 | [],_,_=>Nat.le_refl _
 | x :: l,n,h=>by
  unfold gotB
  split
  ·exact Nat.zero_le _
  ·have:=Km (mx:=mx) l (n+(((batB x).length:Nat):Int)) true
   simp only [List.length_cons]
   omega
theorem Ef {pp f:Nat} {dn:aa} {st:Sts} {dp:List Value} {ss:List SegA} {off mx:Int} {y z:SegA} {pre post:List SegA} (hs1:ss=y :: post) (hs2:ss=pre++[z]) (htot:(ss.flatMap fun y=>y.2).length<=90000) (hmx:1<=mx) (ho:((y.1:Nat):Int)<=off/\off<=kz ((z.1:Nat):Int) z.2) :
  Spec Tryz.prog 20 #[.pointer (some ⟨pp,0,none⟩),.int .i64 off,.int .i64 mx] [PT pp f dn st dp ss] fun F v M=>∃ u,v=.tuple #[u,.int .i64 0]/\M=BL u (gotB mx 0 false (q8 off ss)) :: PT pp f dn st dp ss :: F:=by
 refine Spec.introM Tryz.func20 rfl rfl fun B F=>?_
 simp only [Tryz.ntmps20,List.cons_append,List.nil_append,env0,Nat.reduceAdd]
 have hlen:∀ y∈ss,y.2.length<=100000:=fun y hy=>by have:=uh hy;omega
 refine .openR (PT.opens pp f dn st dp ss) fun x hx=>?_
 obtain ⟨g0,c0,sg⟩:=x
 obtain ⟨hls,hc1,hc2,hn2⟩:=hx
 simp only [ptLs,List.cons_append,List.nil_append] at hls hc1 hc2 hn2 ⊢
 have hn:0 < sg.length:=by have:=congrArg List.length hls;rw [List.length_map,hs1,List.length_cons] at this;omega
 refine .sr ?_
 refine .box fun b5=>?_
 refine .alloc z40 fun b6=>?_
 refine .alloc z34 fun b7=>?_
 refine .z (.seq (.block (.sr (.move ?_))))
 refine .call (hc:=Tryz.call38) (sp:=oo hn hn2) (h:=?_)
 rintro _ _ ⟨rfl,rfl⟩
 refine .not ?_
 refine .assign (.z ?_)
 refine .condF rfl rfl ?_
 refine .sr ?_
 refine .ld ?_ sc3
 refine .lss ?_
 refine .assign (.z ?_)
 refine .condF rfl (cB9 (by first|exact decide_eq_true (by omega)|exact decide_eq_false (by omega)|simp;done|simp;omega|omega)) ?_
 refine .sr (.move (.move ?_))
 refine .shutR (PT.opens pp f dn st dp ss) (g0,c0,sg) ⟨hls,hc1,hc2,hn2⟩ ?_
 refine .call (hc:=Tryz.call19) (sp:=ua (dp:=dp) (ss:=ss) (y:=y) (post:=post) hs1) (h:=?_)
 rintro _ _ ⟨rfl,rfl⟩
 refine .lss ?_
 refine .move ?_
 refine .cast (d:=26) (u:=.bool false) rfl (cB9 (by first|exact decide_eq_true (by omega)|exact decide_eq_false (by omega)|simp;done|simp;omega|omega)) ?_
 refine .gT (.move (.gT (.move (.gT ?_))))
 refine .call (hc:=Tryz.call18) (sp:=D4 (dp:=dp) (ss:=ss) (pre:=pre) (y:=z) hs2 (hlen z (by rw [hs2];simp))) (h:=?_)
 rintro _ _ ⟨rfl,rfl⟩
 refine .gT ?_
 refine .gtr ?_
 refine .pickF (.assign (.z ?_))
 refine .condF rfl (cB9 (by first|exact decide_eq_true (by omega)|exact decide_eq_false (by omega)|simp;done|simp;omega|omega)) ?_
 refine .skip (.blockNormal (.next (.sr ?_)))
 refine .alloc z40 fun b8=>?_
 refine .x ?_
 refine .alloc z3 fun b9=>?_
 refine .st ?_ sc3
 refine .z (.seq (.sr (.move ?_)))
 clear hls hc1 hc2 hn hn2
 refine .openR (PT.opens pp f dn st dp ss) fun x hx=>?_
 obtain ⟨g0,c0,sg⟩:=x
 obtain ⟨hls,hc1,hc2,hn2⟩:=hx
 simp only [ptLs,List.cons_append,List.nil_append] at hls hc1 hc2 hn2 ⊢
 have hn:0 < sg.length:=by have:=congrArg List.length hls;rw [List.length_map,hs1,List.length_cons] at this;omega
 refine .nilCheck ?_
 refine .fa ?_ jl
 refine .ld ?_ sc82
 refine .lenS ?_ sl82
 refine .move (.z (.block ?_))
 obtain ⟨res,hres⟩:∃ res,res=gotB mx 0 false (q8 off ss):=⟨_,rfl⟩
 rw [<- hres]
 have hrl:res.length<=90000:=by
  have h1:=Km (mx:=mx) (q8 off ss) 0 false
  rw [<- hres] at h1
  rw [ug] at h1
  have h2:(yb off (ss.flatMap fun y=>y.2)).length<=(ss.flatMap fun y=>y.2).length:=List.length_filter_le _ _
  omega
 refine .emp (A:=rowR 44 5 (.slice none 0 0) ([]:List BRow).length (([]:List BRow).flatMap BRow.v)) (rowR.nil _) ?_
 refine .emp (A:=frz []) sb ?_
 refine .emp (A:=marksH []) marksH.nil ?_
 refine .loopD (σ:=Nat×(Value×List BRow×List (Nat×Obj)×Int)×List Nat) (fun s=>s.2.2.map um) (fun s=>[(0,.pointer (some ⟨pp,0,none⟩)),(1,.int .i64 off),(5,.pointer (some ⟨b5,0,none⟩)),(6,.pointer (some ⟨b6,0,none⟩)),(7,.pointer (some ⟨b7,0,none⟩)),(8,.pointer (some ⟨b8,0,none⟩)),(9,.pointer (some ⟨b9,0,none⟩)),(35,.slice (some ⟨g0,dp.length,none⟩) sg.length (c0 - dp.length)),(36,.int .i64 ((sg.length:Nat):Int)),(37,.int .i64 ((s.1:Nat):Int))]) (fun s=>[pt b5 (.cells #[.int .i64 mx] 3 (0,0)),pt b6 (.cells #[.slice none 0 0] 40 (0,0)),pt b7 (.cells #[.int .i64 0] 34 (0,0)),pt b8 (.cells #[s.2.1.1] 40 (0,0)),pt b9 (.cells #[.int .i64 s.2.1.2.2.2] 3 (0,0)),rowR 44 5 s.2.1.1 s.2.1.2.1.length (s.2.1.2.1.flatMap BRow.v),frz s.2.1.2.2.1,marksH s.2.2,pt pp (p5 f dn st (.slice (some ⟨g0,dp.length,none⟩) sg.length (c0 - dp.length))),buf g0 86 c0 (dp++sg.map Seg.ptr),segsH f dn sg]++F) (fun s=>s.1<=sg.length/\s.2.1.2.1.map BRow.b++gotB mx s.2.1.2.2.2 (decide (0 < s.2.1.2.1.length)) (q8 off ((sg.drop s.1).map Seg.a))=res/\(0<=s.2.1.2.2.2/\s.2.1.2.2.2<=6000 * ((s.2.1.2.1.length:Nat):Int))/\∀ y∈s.2.1.2.1,BRowOk s.2.1.2.2.1 y) (fun s=>sg.length - s.1) (0,(.slice none 0 0,[],[],0),[]) ⟨Nat.zero_le _,by rw [hres,<-hls];rfl,⟨Int.le_refl _,Int.le_refl _⟩,fun y hy=>absurd hy List.not_mem_nil⟩ rfl ?_
 rintro ⟨k,⟨v,l,os,n⟩,Ds⟩ ⟨hk,hy1,hy2,hy3⟩
 simp only at hk hy1 hy2 hy3 ⊢
 have hll:l.length<=90000:=by
  have h1:=congrArg List.length hy1
  rw [List.length_append,List.length_map] at h1
  omega
 refine .sr ?_
 refine .lss (.z (.seq ?_))
 refine .cond rfl (fun hd=>?_) (fun hd=>?_)
 ·have hkl:k < sg.length:=by have h:((k:Nat):Int) < ((sg.length:Nat):Int):=of_decide_eq_true hd;omega
  obtain ⟨x,hx⟩:∃ x,sg[k]?=some x:=⟨_,List.getElem?_eq_getElem hkl⟩
  have hsp:sg=sg.take k++x :: sg.drop (k+1):=by
   conv=>lhs;rw [<- List.take_append_drop k sg]
   rw [List.drop_eq_getElem_cons hkl,(List.getElem?_eq_some_iff.1 hx).2]
  have hdr:sg.drop k=x :: sg.drop (k+1):=by rw [List.drop_eq_getElem_cons hkl,(List.getElem?_eq_some_iff.1 hx).2]
  have hxm:x.a∈ss:=by rw [<- hls];exact List.mem_map.2 ⟨x,List.mem_of_getElem? hx,rfl⟩
  have hxl:x.bs.length<=100000:=hlen _ hxm
  rw [hdr,List.map_cons,Gb,show x.a.2=x.bs from rfl] at hy1
  obtain ⟨rest,hrest⟩:∃ rest,rest=q8 off ((sg.drop (k+1)).map Seg.a):=⟨_,rfl⟩
  rw [<- hrest] at hy1
  refine .to (A:=segsH f dn sg) (A':=segsH f dn (sg.take k++x :: sg.drop (k+1))) (fun h hh=>by rw [<- hsp];exact hh) ?_
  refine .segOut (sg.take k) (sg.drop (k+1)) ?_
  refine .openR (SGP.opens x.s f (d4 dn (al x.base)) ((x.base:Nat):Int) x.bs) fun y hi=>?_
  obtain ⟨rows,u,ros⟩:=y
  simp only [Nm,List.cons_append,List.nil_append] at hi ⊢
  obtain ⟨k0,hk0,hk1,hk2,hk3⟩:=hitK (off:=off) hi.ord
  rw [hi.b] at hk3
  rw [<- hk3] at hy1
  have hrl2:=hi.len
  refine .skip (.next (.seq (.block (.sr ?_))))
  refine .idx1 ?_ so82
  refine .ldR (i:=((k:Nat):Int).toNat) (v:=x.ptr) ?_ sc86 (l8 (l:=sg)) (by rw [Int.toNat_natCast,List.getElem?_map,hx];rfl)
  refine .assign (.x (.move (.move ?_)))
  refine .call (hc:=Tryz.call51) (sp:=B5) (h:=?_)
  rintro _ _ ⟨cs,co,rfl,rfl⟩
  refine .z (.block ?_)
  refine .rangeK rfl Tryz.call101 fun fn D ll tmps mk hmk hts hget=>?_
  obtain ⟨C,hC⟩:∃ C:Nat->HP,C=fun i=>exH (fun x:Value×List BRow×List (Nat×Obj)×Int=>x.2.1.map BRow.b++gotB mx x.2.2.2 (decide (0 < x.2.1.length)) ((rows.drop i).map SRow.b++rest)=res/\(0<=x.2.2.2/\x.2.2.2<=6000 * ((x.2.1.length:Nat):Int))/\∀ y∈x.2.1,BRowOk x.2.2.1 y) (fun x=>[pt ll (.loop (mk .ready none)),pt b5 (.cells #[.int .i64 mx] 3 (0,0)),pt b6 (.cells #[.slice none 0 0] 40 (0,0)),pt b7 (.cells #[.int .i64 0] 34 (0,0)),pt b8 (.cells #[x.1] 40 (0,0)),pt b9 (.cells #[.int .i64 x.2.2.2] 3 (0,0)),rowR 44 5 x.1 x.2.1.length (x.2.1.flatMap BRow.v),frz x.2.2.1]):=⟨_,rfl⟩
  have hopen:∀ i,Opens (C i) (fun x:Value×List BRow×List (Nat×Obj)×Int=>x.2.1.map BRow.b++gotB mx x.2.2.2 (decide (0 < x.2.1.length)) ((rows.drop i).map SRow.b++rest)=res/\(0<=x.2.2.2/\x.2.2.2<=6000 * ((x.2.1.length:Nat):Int))/\∀ y∈x.2.1,BRowOk x.2.2.1 y) (fun x=>[pt ll (.loop (mk .ready none)),pt b5 (.cells #[.int .i64 mx] 3 (0,0)),pt b6 (.cells #[.slice none 0 0] 40 (0,0)),pt b7 (.cells #[.int .i64 0] 34 (0,0)),pt b8 (.cells #[x.1] 40 (0,0)),pt b9 (.cells #[.int .i64 x.2.2.2] 3 (0,0)),rowR 44 5 x.1 x.2.1.length (x.2.1.flatMap BRow.v),frz x.2.2.1]):=fun i=>by rw [hC];exact exH.opens
  obtain ⟨Cx,hCx⟩:∃ Cx:HP,Cx=exH (fun x:Value×List BRow×List (Nat×Obj)×Int=>x.2.1.map BRow.b=res/\∀ y∈x.2.1,BRowOk x.2.2.1 y) (fun x=>[pt ll (.loop (mk .done (some .ret))),pt b5 (.cells #[.int .i64 mx] 3 (0,0)),pt b6 (.cells #[x.1] 40 (0,0)),pt b7 (.cells #[.int .i64 0] 34 (0,0)),pt b8 (.cells #[x.1] 40 (0,0)),pt b9 (.cells #[.int .i64 x.2.2.2] 3 (0,0)),rowR 44 5 x.1 x.2.1.length (x.2.1.flatMap BRow.v),frz x.2.2.1]):=⟨_,rfl⟩
  have hopenx:Opens Cx (fun x:Value×List BRow×List (Nat×Obj)×Int=>x.2.1.map BRow.b=res/\∀ y∈x.2.1,BRowOk x.2.2.1 y) (fun x=>[pt ll (.loop (mk .done (some .ret))),pt b5 (.cells #[.int .i64 mx] 3 (0,0)),pt b6 (.cells #[x.1] 40 (0,0)),pt b7 (.cells #[.int .i64 0] 34 (0,0)),pt b8 (.cells #[x.1] 40 (0,0)),pt b9 (.cells #[.int .i64 x.2.2.2] 3 (0,0)),rowR 44 5 x.1 x.2.1.length (x.2.1.flatMap BRow.v),frz x.2.2.1]):=by rw [hCx];exact exH.opens
  clear hC hCx
  have hY:∀ (i:Nat) (x:SRow) (A2:Addr) (c2:Nat),rows[i]?=some x->k0<=i->RSpec Tryz.prog ll [.agg (x.b.v (.slice (some A2) x.b.recs.length c2)).toArray,.int .i64 ((x.k:Nat):Int)] [rowR 95 6 (.slice (some A2) x.b.recs.length c2) x.b.recs.length x.b.rv,C i] fun F b M=>(b=true/\M=C (i+1) :: F) ∨ (b=false/\M=Cx :: F):=by
   intro i x A2 c2 hx _
   have hxok:=hi.ok x (List.mem_of_getElem? hx)
   obtain ⟨hxk1,hxk⟩:=hi.k x (List.mem_of_getElem? hx)
   have hil:i < rows.length:=(List.getElem?_eq_some_iff.1 hx).1
   have hdr:rows.drop i=x :: rows.drop (i+1):=by
    rw [List.drop_eq_getElem_cons hil,(List.getElem?_eq_some_iff.1 hx).2]
   refine RSpec.pre' (pre:=C i :: [rowR 95 6 (.slice (some A2) x.b.recs.length c2) x.b.recs.length x.b.rv]) (RSpec.opens (hopen i) fun y hy=>?_) (fun B w F hs=>hs.take (.cons (.there .here) (.cons .here .nil)))
   obtain ⟨v,l,os2,n⟩:=y
   obtain ⟨hy1,hy2,hy4⟩:=hy
   simp only at hy1 hy2 hy4
   rw [hdr,List.map_cons,List.cons_append] at hy1
   have hy3:l.length<=90000:=by
    have h1:=congrArg List.length hy1
    rw [List.length_append,List.length_map] at h1
    omega
   simp only [List.cons_append,List.nil_append]
   refine RSpec.post' (R:=fun F b M=>(b=true/\∃ (v:Value) (l:List BRow) (os2:List (Nat×Obj)) (n:Int),(l.map BRow.b++gotB mx n (decide (0 < l.length)) ((rows.drop (i+1)).map SRow.b++rest)=res/\(0<=n/\n<=6000 * ((l.length:Nat):Int))/\∀ y∈l,BRowOk os2 y)/\M=pt ll (.loop (mk .ready none)) :: pt b5 (.cells #[.int .i64 mx] 3 (0,0)) :: pt b6 (.cells #[.slice none 0 0] 40 (0,0)) :: pt b7 (.cells #[.int .i64 0] 34 (0,0)) :: pt b8 (.cells #[v] 40 (0,0)) :: pt b9 (.cells #[.int .i64 n] 3 (0,0)) :: rowR 44 5 v l.length (l.flatMap BRow.v) :: frz os2 :: F) ∨ (b=false/\∃ (v:Value) (l:List BRow) (os2:List (Nat×Obj)) (n:Int),(l.map BRow.b=res/\∀ y∈l,BRowOk os2 y)/\M=pt ll (.loop (mk .done (some .ret))) :: pt b5 (.cells #[.int .i64 mx] 3 (0,0)) :: pt b6 (.cells #[v] 40 (0,0)) :: pt b7 (.cells #[.int .i64 0] 34 (0,0)) :: pt b8 (.cells #[v] 40 (0,0)) :: pt b9 (.cells #[.int .i64 n] 3 (0,0)) :: rowR 44 5 v l.length (l.flatMap BRow.v) :: frz os2 :: F)) (RSpec.introK (ps:=[44,45]) (k:=64) hmk hts hget rfl rfl fun B F=>?_) ?_
   ·simp only [envs,List.cons_append,List.nil_append]
    refine WJ.seq ?_
    refine WJ.region .auto ?_
    refine .alloc z44 fun b12=>?_
    refine .stV ?_ dz
    refine .nil ?_
    refine .nextI ?_
    refine WJ.region .auto ?_
    refine .assign (.nil ?_)
    refine .beginK hmk ?_ (by repeat (first | exact .here | apply Rem.there | apply Repl.there | apply Mem.there))
    by_cases h1:mx < n+((x.k:Nat):Int)
    ·by_cases h2:0 < l.length
     ·have hst:l.map BRow.b=res:=by
       have h:=hy1
       unfold gotB at h
       rw [<- hxk1] at h
       rwa [if_pos ⟨decide_eq_true h2,h1⟩,List.append_nil] at h
      refine WJ.block ?_
      refine WJ.seq ?_
      refine WJ.seq ?_
      refine WJ.region .auto ?_
      refine .ld ?_ sc3
      refine .fact (ae (el:=44) (size:=5) (k:=l.length) (v:=v) (xs:=l.flatMap BRow.v)) fun ⟨A8,c8,hv8,_⟩=>?_
      subst hv8
      refine .move ?_
      refine .add ?_
      refine .st ?_ sc3
      refine .nil ?_
      refine .nextI ?_
      refine WJ.seq ?_
      refine WJ.region .auto ?_
      refine .ld ?_ sc3
      refine .ld ?_ sc3
      refine .gtr ?_
      refine .move ?_
      refine .cast (d:=52) (u:=.bool true) rfl (cB9 (by first | (simp;done) | (exact decide_eq_true (by omega)) | (exact decide_eq_false (by omega)) | (simp;omega) | omega)) ?_
      refine .gT ?_
      refine .ld ?_ sc40
      refine .gT ?_
      refine .lenS ?_ sl40
      refine .gT ?_
      refine .gtr ?_
      refine .pickT (.nil ?_)
      refine .nextI ?_
      refine WJ.condT rfl (cB9 (by first | (simp;done) | (exact decide_eq_true (by omega)) | (exact decide_eq_false (by omega)) | (simp;omega) | omega)) ?_
      refine WJ.seq ?_
      refine WJ.region .auto ?_
      refine .ld ?_ sc40
      refine .st ?_ sc40
      refine .st ?_ sc34
      refine .nil ?_
      refine .nextI ?_
      refine WJ.ret (.thenRet (.blockRet (?_)))
      refine .rndRetK hmk ?_ (by repeat (first | exact .here | apply Rem.there | apply Repl.there | apply Mem.there))
      exact ⟨_,.inr ⟨rfl,_,l,os2,_,⟨hst,hy4⟩,rfl⟩,Am.auto⟩
     ·have hgo:l.map BRow.b++(x.b :: gotB mx (n+((x.k:Nat):Int)) true ((rows.drop (i+1)).map SRow.b++rest))=res:=by
       have h:=hy1
       unfold gotB at h
       rw [<- hxk1] at h
       rwa [if_neg (fun h=>h2 (of_decide_eq_true h.1))] at h
      refine WJ.block ?_
      refine WJ.seq ?_
      refine WJ.seq ?_
      refine WJ.region .auto ?_
      refine .ld ?_ sc3
      refine .fact (ae (el:=44) (size:=5) (k:=l.length) (v:=v) (xs:=l.flatMap BRow.v)) fun ⟨A8,c8,hv8,_⟩=>?_
      subst hv8
      refine .move ?_
      refine .add ?_
      refine .st ?_ sc3
      refine .nil ?_
      refine .nextI ?_
      refine WJ.seq ?_
      refine WJ.region .auto ?_
      refine .ld ?_ sc3
      refine .ld ?_ sc3
      refine .gtr ?_
      refine .move ?_
      refine .cast (d:=52) (u:=.bool true) rfl (cB9 (by first | (simp;done) | (exact decide_eq_true (by omega)) | (exact decide_eq_false (by omega)) | (simp;omega) | omega)) ?_
      refine .gT ?_
      refine .ld ?_ sc40
      refine .gT ?_
      refine .lenS ?_ sl40
      refine .gT ?_
      refine .gtr ?_
      refine .pickT (.nil ?_)
      refine .nextI ?_
      refine WJ.condF rfl (cB9 (by first | (simp;done) | (exact decide_eq_true (by omega)) | (exact decide_eq_false (by omega)) | (simp;omega) | omega)) ?_
      refine WJ.skip ?_
      refine .nextI ?_
      refine WJ.region .auto ?_
      refine .ld ?_ sc40
      refine .ldA ?_ dz
      refine .buildS (fun b60=>?_) (Pd _ _ _ _ _ _ _)
      refine .toE (A:=rowR 95 6 (.slice (some A2) x.b.recs.length c2) x.b.recs.length x.b.rv) (jk hxok.pos) ?_
      rintro ⟨g2,q2,cur⟩ ⟨hv2,htk⟩
      injection hv2 with hA2 _ hc2
      injection hA2 with hA2
      simp only at hA2 hc2 htk
      subst hA2
      subst hc2
      refine .frzAdd ?_
      have hnew:BRowOk ((g2,.cells cur 95 (0,0)) :: os2) (⟨x.b,.slice (some ⟨g2,0,none⟩) x.b.recs.length c2⟩:BRow):=⟨hxok.pos,hxok.len,_,c2,rfl,by
       have:=(Reads.frz (os:=(g2,.cells cur 95 (0,0)) :: os2) (b:=g2) (cs:=cur) (List.mem_cons_self ..)).take x.b.rv.length
       rwa [htk] at this⟩
      refine .append (v:=.slice A8 l.length c8) (m:=1) (k:=l.length) (xs:=l.flatMap BRow.v) (news:=BRow.v (⟨x.b,.slice (some ⟨g2,0,none⟩) x.b.recs.length c2⟩:BRow)) so40 (by decide) (by repeat (first | exact .here | apply Rem.there | apply Repl.there | apply Mem.there)) (Reads.pt (cs:=(BRow.v (⟨x.b,.slice (some ⟨g2,0,none⟩) x.b.recs.length c2⟩:BRow)).toArray)) (by repeat (first | exact .here | apply Rem.there | apply Repl.there | apply Mem.there)) rfl t7 (by unfold maxLen;omega) (by omega) ⟨_,z44,rfl⟩ (fun v2 hv2=>?_)
      rw [show l.flatMap BRow.v++BRow.v (⟨x.b,.slice (some ⟨g2,0,none⟩) x.b.recs.length c2⟩:BRow)=(l++[(⟨x.b,.slice (some ⟨g2,0,none⟩) x.b.recs.length c2⟩:BRow)]).flatMap BRow.v by rw [List.flatMap_append,List.flatMap_singleton],show l.length+1=(l++[(⟨x.b,.slice (some ⟨g2,0,none⟩) x.b.recs.length c2⟩:BRow)]).length by simp]
      refine .fact (ae (el:=44) (size:=5) (k:=(l++[(⟨x.b,.slice (some ⟨g2,0,none⟩) x.b.recs.length c2⟩:BRow)]).length) (v:=v2) (xs:=(l++[(⟨x.b,.slice (some ⟨g2,0,none⟩) x.b.recs.length c2⟩:BRow)]).flatMap BRow.v)) fun ⟨A9,c9,hv9,_⟩=>?_
      subst hv9
      refine .st ?_ sc40
      refine .nil (.blockNormal ?_)
      refine .rndK hmk ?_ (by repeat (first | exact .here | apply Rem.there | apply Repl.there | apply Mem.there))
      exact ⟨_,.inl ⟨rfl,_,l++[(⟨x.b,.slice (some ⟨g2,0,none⟩) x.b.recs.length c2⟩:BRow)],(g2,.cells cur 95 (0,0)) :: os2,_,⟨by rw [<- hgo,List.map_append,List.append_assoc,show decide (0 < (l++[(⟨x.b,.slice (some ⟨g2,0,none⟩) x.b.recs.length c2⟩:BRow)]).length)=true by simp];rfl,⟨by omega,by rw [List.length_append,List.length_singleton];omega⟩,fun y hy=>(List.mem_append.1 hy).elim (fun h=>(hy4 y h).mono fun z hz=>List.mem_cons_of_mem _ hz) (fun h=>by rw [List.mem_singleton.1 h];exact hnew)⟩,rfl⟩,Am.auto⟩
    ·have hgo:l.map BRow.b++(x.b :: gotB mx (n+((x.k:Nat):Int)) true ((rows.drop (i+1)).map SRow.b++rest))=res:=by
      have h:=hy1
      unfold gotB at h
      rw [<- hxk1] at h
      rwa [if_neg (fun h=>h1 h.2)] at h
     refine WJ.block ?_
     refine WJ.seq ?_
     refine WJ.seq ?_
     refine WJ.region .auto ?_
     refine .ld ?_ sc3
     refine .fact (ae (el:=44) (size:=5) (k:=l.length) (v:=v) (xs:=l.flatMap BRow.v)) fun ⟨A8,c8,hv8,_⟩=>?_
     subst hv8
     refine .move ?_
     refine .add ?_
     refine .st ?_ sc3
     refine .nil ?_
     refine .nextI ?_
     refine WJ.seq ?_
     refine WJ.region .auto ?_
     refine .ld ?_ sc3
     refine .ld ?_ sc3
     refine .gtr ?_
     refine .move ?_
     refine .cast (d:=52) (u:=.bool false) rfl (cB9 (by first | (simp;done) | (exact decide_eq_true (by omega)) | (exact decide_eq_false (by omega)) | (simp;omega) | omega)) ?_
     refine .gF (.gF (.gF (.pickF (.nil ?_))))
     refine .nextI ?_
     refine WJ.condF rfl rfl ?_
     refine WJ.skip ?_
     refine .nextI ?_
     refine WJ.region .auto ?_
     refine .ld ?_ sc40
     refine .ldA ?_ dz
     refine .buildS (fun b60=>?_) (Pd _ _ _ _ _ _ _)
     refine .toE (A:=rowR 95 6 (.slice (some A2) x.b.recs.length c2) x.b.recs.length x.b.rv) (jk hxok.pos) ?_
     rintro ⟨g2,q2,cur⟩ ⟨hv2,htk⟩
     injection hv2 with hA2 _ hc2
     injection hA2 with hA2
     simp only at hA2 hc2 htk
     subst hA2
     subst hc2
     refine .frzAdd ?_
     have hnew:BRowOk ((g2,.cells cur 95 (0,0)) :: os2) (⟨x.b,.slice (some ⟨g2,0,none⟩) x.b.recs.length c2⟩:BRow):=⟨hxok.pos,hxok.len,_,c2,rfl,by
      have:=(Reads.frz (os:=(g2,.cells cur 95 (0,0)) :: os2) (b:=g2) (cs:=cur) (List.mem_cons_self ..)).take x.b.rv.length
      rwa [htk] at this⟩
     refine .append (v:=.slice A8 l.length c8) (m:=1) (k:=l.length) (xs:=l.flatMap BRow.v) (news:=BRow.v (⟨x.b,.slice (some ⟨g2,0,none⟩) x.b.recs.length c2⟩:BRow)) so40 (by decide) (by repeat (first | exact .here | apply Rem.there | apply Repl.there | apply Mem.there)) (Reads.pt (cs:=(BRow.v (⟨x.b,.slice (some ⟨g2,0,none⟩) x.b.recs.length c2⟩:BRow)).toArray)) (by repeat (first | exact .here | apply Rem.there | apply Repl.there | apply Mem.there)) rfl t7 (by unfold maxLen;omega) (by omega) ⟨_,z44,rfl⟩ (fun v2 hv2=>?_)
     rw [show l.flatMap BRow.v++BRow.v (⟨x.b,.slice (some ⟨g2,0,none⟩) x.b.recs.length c2⟩:BRow)=(l++[(⟨x.b,.slice (some ⟨g2,0,none⟩) x.b.recs.length c2⟩:BRow)]).flatMap BRow.v by rw [List.flatMap_append,List.flatMap_singleton],show l.length+1=(l++[(⟨x.b,.slice (some ⟨g2,0,none⟩) x.b.recs.length c2⟩:BRow)]).length by simp]
     refine .fact (ae (el:=44) (size:=5) (k:=(l++[(⟨x.b,.slice (some ⟨g2,0,none⟩) x.b.recs.length c2⟩:BRow)]).length) (v:=v2) (xs:=(l++[(⟨x.b,.slice (some ⟨g2,0,none⟩) x.b.recs.length c2⟩:BRow)]).flatMap BRow.v)) fun ⟨A9,c9,hv9,_⟩=>?_
     subst hv9
     refine .st ?_ sc40
     refine .nil (.blockNormal ?_)
     refine .rndK hmk ?_ (by repeat (first | exact .here | apply Rem.there | apply Repl.there | apply Mem.there))
     exact ⟨_,.inl ⟨rfl,_,l++[(⟨x.b,.slice (some ⟨g2,0,none⟩) x.b.recs.length c2⟩:BRow)],(g2,.cells cur 95 (0,0)) :: os2,_,⟨by rw [<- hgo,List.map_append,List.append_assoc,show decide (0 < (l++[(⟨x.b,.slice (some ⟨g2,0,none⟩) x.b.recs.length c2⟩:BRow)]).length)=true by simp];rfl,⟨by omega,by rw [List.length_append,List.length_singleton];omega⟩,fun y hy=>(List.mem_append.1 hy).elim (fun h=>(hy4 y h).mono fun z hz=>List.mem_cons_of_mem _ hz) (fun h=>by rw [List.mem_singleton.1 h];exact hnew)⟩,rfl⟩,Am.auto⟩
   ·rintro F b M B w (⟨rfl,v,l,os2,n,h1,rfl⟩ | ⟨rfl,v,l,os2,n,h1,rfl⟩) hs
    ·exact ⟨_,.inl ⟨rfl,rfl⟩,Sat.shuts (hopen (i+1)) (x:=(v,l,os2,n)) h1 hs⟩
    ·exact ⟨_,.inr ⟨rfl,rfl⟩,Sat.shuts hopenx (x:=(v,l,os2,n)) h1 hs⟩
  refine ⟨pt ll (.loop (mk .ready none)) :: pt b5 (.cells #[.int .i64 mx] 3 (0,0)) :: pt b6 (.cells #[.slice none 0 0] 40 (0,0)) :: pt b7 (.cells #[.int .i64 0] 34 (0,0)) :: pt b8 (.cells #[v] 40 (0,0)) :: pt b9 (.cells #[.int .i64 n] 3 (0,0)) :: rowR 44 5 v l.length (l.flatMap BRow.v) :: frz os :: pt cs (.cells #[.pointer (some ⟨x.s,0,none⟩)] 86 (0,0)) :: pt co (.cells #[.int .i64 off] 3 (0,0)) :: pt x.s (sgO f (d4 dn (al x.base)) ((x.base:Nat):Int) rows u) :: rowR 151 6 u rows.length (rows.flatMap SRow.v) :: frz ros :: [],_,fun G v M=>v=.tuple #[]/\((∃ (v2:Value) (l2:List BRow) (os2:List (Nat×Obj)) (n2:Int),(l2.map BRow.b++gotB mx n2 (decide (0 < l2.length)) (rest)=res/\(0<=n2/\n2<=6000 * ((l2.length:Nat):Int))/\∀ y∈l2,BRowOk os2 y)/\M=pt ll (.loop (mk .ready none)) :: pt b5 (.cells #[.int .i64 mx] 3 (0,0)) :: pt b6 (.cells #[.slice none 0 0] 40 (0,0)) :: pt b7 (.cells #[.int .i64 0] 34 (0,0)) :: pt b8 (.cells #[v2] 40 (0,0)) :: pt b9 (.cells #[.int .i64 n2] 3 (0,0)) :: rowR 44 5 v2 l2.length (l2.flatMap BRow.v) :: frz os2 :: pt cs (.cells #[.pointer (some ⟨x.s,0,none⟩)] 86 (0,0)) :: pt co (.cells #[.int .i64 off] 3 (0,0)) :: pt x.s (sgO f (d4 dn (al x.base)) ((x.base:Nat):Int) rows u) :: rowR 151 6 u rows.length (rows.flatMap SRow.v) :: frz ros :: G) ∨ ∃ (v2:Value) (l2:List BRow) (os2:List (Nat×Obj)) (n2:Int),(l2.map BRow.b=res/\∀ y∈l2,BRowOk os2 y)/\M=pt ll (.loop (mk .done (some .ret))) :: pt b5 (.cells #[.int .i64 mx] 3 (0,0)) :: pt b6 (.cells #[v2] 40 (0,0)) :: pt b7 (.cells #[.int .i64 0] 34 (0,0)) :: pt b8 (.cells #[v2] 40 (0,0)) :: pt b9 (.cells #[.int .i64 n2] 3 (0,0)) :: rowR 44 5 v2 l2.length (l2.flatMap BRow.v) :: frz os2 :: pt cs (.cells #[.pointer (some ⟨x.s,0,none⟩)] 86 (0,0)) :: pt co (.cells #[.int .i64 off] 3 (0,0)) :: pt x.s (sgO f (d4 dn (al x.base)) ((x.base:Nat):Int) rows u) :: rowR 151 6 u rows.length (rows.flatMap SRow.v) :: frz ros :: G),Spec.post' (Spec.pre' (B4 (k:=k0) hi.ok hi.ord (by omega) hi.nil hk0 hk1 hk2 hY) (fun B w G hs=>Sat.shuts (hopen k0) (x:=(v,l,os,n)) ⟨hy1,hy2,hy3⟩ hs)) ?_,by repeat (first | exact .nil | (apply Tk.cons;focus ((repeat (first | exact .here | apply Rem.there));done))),?_⟩
  ·rintro G v M B w ⟨rfl,rfl | rfl⟩ hs
   ·obtain ⟨x,⟨hx1,hx2,hx4⟩,hs1⟩:=Sat.opens hs (hopen _)
    rw [List.drop_length] at hx1
    exact ⟨_,⟨rfl,.inl ⟨x.1,x.2.1,x.2.2.1,x.2.2.2,⟨hx1,hx2,hx4⟩,rfl⟩⟩,hs1⟩
   ·obtain ⟨x,hx,hs1⟩:=Sat.opens hs hopenx
    exact ⟨_,⟨rfl,.inr ⟨x.1,x.2.1,x.2.2.1,x.2.2.2,hx,rfl⟩⟩,hs1⟩
  rintro _ M ⟨rfl,⟨v2,l2,os2,n2,⟨hf1,hf2,hf3⟩,rfl⟩ | ⟨v2,l2,os2,n2,⟨hf1,hf3⟩,rfl⟩⟩
  ·refine ⟨.ready,none,_,.here,by decide,?_⟩
   show WQ _ _ _ .normal _ _
   refine .shutR (SGP.opens x.s f (d4 dn (al x.base)) ((x.base:Nat):Int) x.bs) (rows,u,ros) hi ?_
   refine .segIn (sg.take k) (sg.drop (k+1)) x ?_
   refine .to (A:=segsH f dn (sg.take k++x :: sg.drop (k+1))) (A':=segsH f dn sg) (fun h hh=>by rw [hsp];exact hh) ?_
   refine .markIn ?_
   refine .blockNormal (.blockNormal (.next (.region ?_)))
   refine .add ?_
   refine .move (.nil ?_)
   exact .backD (k+1,(v2,l2,os2,n2),D :: Ds) ⟨by show k+1<=sg.length;omega,by show l2.map BRow.b++gotB mx n2 (decide (0 < l2.length)) (q8 off ((sg.drop (k+1)).map Seg.a))=res;rw [<- hrest];exact hf1,hf2,hf3⟩ (by show sg.length - (k+1) < sg.length - k;omega) rfl
  ·refine ⟨.done,some .ret,_,.here,by decide,?_⟩
   show WC _ _ _ .ret _ _ _
   refine .fact (ae (el:=44) (size:=5) (k:=l2.length) (v:=v2) (xs:=l2.flatMap BRow.v)) fun ⟨A8,c8,hv8,_⟩=>?_
   subst hv8
   refine .shutR (SGP.opens x.s f (d4 dn (al x.base)) ((x.base:Nat):Int) x.bs) (rows,u,ros) hi ?_
   refine .segIn (sg.take k) (sg.drop (k+1)) x ?_
   refine .to (A:=segsH f dn (sg.take k++x :: sg.drop (k+1))) (A':=segsH f dn sg) (fun h hh=>by rw [hsp];exact hh) ?_
   refine .markIn ?_
   refine .ret (.blockRet (.blockRet (.thenRet (.thenRet (.blockRet (.thenRet (?_)))))))
   refine .shutR (PT.opens pp f dn st dp ss) (g0,c0,sg) ⟨hls,hc1,hc2,hn2⟩ ?_
   refine .shutR (BL.opens (.slice A8 l2.length c8) res) (l2,os2) ⟨hf1,hf3⟩ ?_
   refine .markF (D :: Ds) ?_
   refine .retMs2 (Ds:=D :: Ds) (r:=.cell 6 40) (s:=.cell 7 34) ⟨_,⟨(.slice A8 l2.length c8),rfl,rfl⟩,Am.auto⟩ .here (.cell rfl (by kernel_rfl) (by repeat (first | exact .here | apply Rem.there | apply Repl.there | apply Mem.there)) rfl) (.cell rfl (by kernel_rfl) (by repeat (first | exact .here | apply Rem.there | apply Repl.there | apply Mem.there)) rfl)
 ·have hke:k=sg.length:=by have h:¬ ((k:Nat):Int) < ((sg.length:Nat):Int):=of_decide_eq_false hd;omega
  subst hke
  rw [List.drop_length,List.map_nil,show q8 off []=[] from rfl,show gotB mx n (decide (0 < l.length)) []=[] from rfl,List.append_nil] at hy1
  refine .exit (.thenExit (.thenExit (.blockExit (?_))))
  refine .next (.sr ?_)
  refine .ld ?_ sc40
  refine .fact (ae (el:=44) (size:=5) (k:=l.length) (v:=v) (xs:=l.flatMap BRow.v)) fun ⟨A8,c8,hv8,_⟩=>?_
  subst hv8
  refine .st ?_ sc40
  refine .st ?_ sc34
  refine .z (.ret (?_))
  refine .shutR (PT.opens pp f dn st dp ss) (g0,c0,sg) ⟨hls,hc1,hc2,hn2⟩ ?_
  refine .shutR (BL.opens (.slice A8 l.length c8) res) (l,os) ⟨hy1,hy3⟩ ?_
  refine .markF (Ds) ?_
  refine .retMs2 (Ds:=Ds) (r:=.cell 6 40) (s:=.cell 7 34) ⟨_,⟨(.slice A8 l.length c8),rfl,rfl⟩,Am.auto⟩ .here (.cell rfl (by kernel_rfl) (by repeat (first | exact .here | apply Rem.there | apply Repl.there | apply Mem.there)) rfl) (.cell rfl (by kernel_rfl) (by repeat (first | exact .here | apply Rem.there | apply Repl.there | apply Mem.there)) rfl)
theorem Pn :ad Tryz.prog 54 0 0=true:=by kernel_rfl
theorem Kn :ad Tryz.prog 54 1 1=true:=by kernel_rfl
theorem Ko :ad Tryz.prog 54 2 2=true:=by kernel_rfl
abbrev KG :=aa×Nat×Nat
def encG :KG->Value:=fun k=>.agg (xvs [.inr k.1,.inl ((k.2.1:Nat):Int),.inl ((k.2.2:Nat):Int)]).toArray
theorem kgL :KeyLaw Tryz.prog 54 encG:=Gy (fun k:KG=>[.inr k.1,.inl ((k.2.1:Nat):Int),.inl ((k.2.2:Nat):Int)]) [false,true,true] (by kernel_rfl) (fun _=>rfl) (fun a b h=>by
 obtain ⟨a1,a2,a3⟩:=a
 obtain ⟨b1,b2,b3⟩:=b
 injection h with h1 h2
 injection h1 with h1
 injection h2 with h2 h3
 injection h2 with h2
 injection h3 with h3 _
 injection h3 with h3
 have h1:a1=b1:=h1
 have h2:a2=b2:=Int.ofNat.inj h2
 have h3:a3=b3:=Int.ofNat.inj h3
 rw [h1,h2,h3])
def numB (n:Nat):aa:=put (List.replicate 8 0) 0 8 true n
theorem cz (n:Nat):(numB n).length=8:=an ..
def ig (k:KG):aa:=numB k.2.1++numB k.2.2++k.1
theorem lw (k:KG):(ig k).length=16+k.1.length:=by
 unfold ig
 rw [List.length_append,List.length_append,cz,cz]
def stG :Sts:=⟨2048,-1,-1,true,0⟩
theorem Uu :av Tryz.prog 23 [(0,.int .i64 2048),(1,.int .i64 (-1)),(2,.int .i64 (-1)),(3,.bool true)] #[.int .i64 2048,.int .i64 (-1),.int .i64 (-1),.bool true,.int .i64 0]:=fun w=>by kernel_rfl
theorem B9 :Spec Tryz.prog 56 #[] [] fun F v M=>v=.agg stG.v.toArray/\M=F:=by
 refine Spec.intro Tryz.func56 rfl rfl fun B F=>?_
 simp only [Tryz.ntmps56,List.cons_append,List.nil_append,env0,Nat.reduceAdd]
 refine .sr ?_
 refine .alloc z23 fun b0=>?_
 refine .x ?_
 refine .build ?_ Uu
 refine .stV ?_ F2
 refine .z (.ret (?_))
 exact .ret1 ⟨_,⟨rfl,rfl⟩,Am.auto⟩
theorem Kq {gn:aa} {t p:Nat} (hg:am gn=true) (ht:1<=t/\t<=1125899906842624) (hp:p < 8):Spec Tryz.prog 53 #[.agg #[sv gn,.int .i64 ((t:Nat):Int),.int .i64 ((p:Nat):Int)]] [] fun F v M=>v=.bool true/\M=F:=by
 refine Spec.intro Tryz.func53 rfl rfl fun B F=>?_
 simp only [Tryz.ntmps53,List.cons_append,List.nil_append,env0,Nat.reduceAdd]
 refine .sr ?_
 refine .box fun b1=>?_
 refine .assign (.x ?_)
 refine .fa ?_ Pn
 refine .ld ?_ sc9
 refine .call (hc:=Tryz.call104) (sp:=Bm) (h:=?_)
 rintro _ _ ⟨rfl,rfl⟩
 rw [hg]
 refine .move (.gT ?_)
 refine .fa ?_ Kn
 refine .gT ?_
 refine .ld ?_ sc3
 refine .gT ?_
 refine .geq ?_
 refine .pickT (.move ?_)
 refine .cast (d:=11) (u:=.bool true) rfl (cB9 (decide_eq_true (by omega))) ?_
 refine .gT ?_
 refine .fa ?_ Kn
 refine .gT ?_
 refine .ld ?_ sc3
 refine .gT ?_
 refine .leq ?_
 refine .pickT (.move ?_)
 refine .cast (d:=16) (u:=.bool true) rfl (cB9 (decide_eq_true (by omega))) ?_
 refine .gT ?_
 refine .fa ?_ Ko
 refine .gT ?_
 refine .ld ?_ sc3
 refine .gT ?_
 refine .geq ?_
 refine .pickT (.move ?_)
 refine .cast (d:=21) (u:=.bool true) rfl (cB9 (decide_eq_true (by omega))) ?_
 refine .gT ?_
 refine .fa ?_ Ko
 refine .gT ?_
 refine .ld ?_ sc3
 refine .gT ?_
 refine .lss ?_
 refine .pickT (.assign (.z (.ret (?_))))
 exact .ret1 (h1:=.tmp (t:=2) rfl) ⟨_,⟨cB9 (decide_eq_true (by omega)),rfl⟩,Am.auto⟩
theorem ou {n:Nat} (hn:n < 9223372036854775808):Spec Tryz.prog 55 #[.int .i64 ((n:Nat):Int)] [] fun F v M=>v=sv (numB n)/\M=F:=by
 refine Spec.intro Tryz.func55 rfl rfl fun B F=>?_
 simp only [Tryz.ntmps55,List.cons_append,List.nil_append,env0,Nat.reduceAdd]
 refine .sr (.assign (.x ?_))
 refine .mkSN 8 z5 so79 (by decide) (by decide) fun b6=>?_
 refine .move ?_
 refine .cvt ?_ un3 cx
 refine .cast (d:=8) (u:=.int .u64 ((n:Nat):Int)) rfl (cI9 (dy (by omega))) ?_
 refine .to (A:=buf b6 5 8 (List.replicate 8 (.int .u8 0))) (A':=buf b6 5 8 (bvs (List.replicate 8 0))) (fun h hh=>hh) ?_
 refine .call (hc:=Tryz.call105) (sp:=li (xs:=List.replicate 8 0) (v:=n) Reads.buf rfl (by decide) (by decide) (by decide) (by decide) (by omega)) (h:=?_)
 rintro _ _ ⟨gq,kq,⟨rfl,h1,h2⟩,rfl⟩
 refine .move ?_
 refine .extract (.extract (.assign (.assign (.x (.move ?_)))))
 refine .cvtBS (xs:=numB n) ?_ by79 st9 Reads.buf (cz n)
 refine .assign (.z (.ret (?_)))
 exact .ret1 (h1:=.tmp (t:=2) rfl) ⟨_,⟨rfl,rfl⟩,Am.auto⟩
theorem Kr {gn:aa} {t p:Nat} (ht:t < 9223372036854775808) (hp:p < 9223372036854775808) (hl:gn.length<=1000):Spec Tryz.prog 54 #[.agg #[sv gn,.int .i64 ((t:Nat):Int),.int .i64 ((p:Nat):Int)]] [] fun F v M=>v=sv (ig (gn,t,p))/\M=F:=by
 refine Spec.intro Tryz.func54 rfl rfl fun B F=>?_
 simp only [Tryz.ntmps54,List.cons_append,List.nil_append,env0,Nat.reduceAdd]
 refine .sr ?_
 refine .box fun b1=>?_
 refine .assign (.z (.seq ?_))
 refine .dr ([pt b1 (.cells #[sv gn,.int .i64 ((t:Nat):Int),.int .i64 ((p:Nat):Int)] 54 (0,0))]) [] 11 mixed .autoJ ?_
 refine .tk 0 rfl (.fa Kn) ?_
 refine .tk 1 rfl (.ld sc3) ?_
 refine .tk 3 rfl (.fa Ko) ?_
 refine .tk 4 rfl (.ld sc3) ?_
 refine .tk 7 rfl (.fa Pn) ?_
 refine .tk 8 rfl (.ld sc9) ?_
 refine .on 2 rfl fun hnp=>?_
 refine .call (hc:=Tryz.call55) (sp:=ou (n:=t) ht) (h:=?_)
 rintro _ _ ⟨rfl,rfl⟩
 refine .nil (.wa hnp ?_)
 refine .on 5 rfl fun hnp=>?_
 refine .call (hc:=Tryz.call55) (sp:=ou (n:=p) hp) (h:=?_)
 rintro _ _ ⟨rfl,rfl⟩
 refine .nil (.wa hnp ?_)
 refine .tk 6 rfl (Qt.catS (numB t) (numB p) (by rw [cz,cz];decide)) ?_
 refine .tk 9 rfl (Qt.catS (numB t++numB p) gn (by rw [List.length_append,cz,cz];omega)) ?_
 refine .tk 10 rfl .assign ?_
 refine .fin ?_
 refine .next (.ret (?_))
 exact .ret1 (h1:=.tmp (t:=2) rfl) ⟨_,⟨rfl,rfl⟩,Am.auto⟩
theorem Ca :mt Tryz.prog 48=true:=by kernel_rfl
theorem yc :ad Tryz.prog 101 0 0=true:=by kernel_rfl
theorem i8 :c5 Tryz.prog 54 3=true:=by kernel_rfl
theorem mp99 :jp Tryz.prog 99 54 3=true:=by kernel_rfl
theorem ie :ad Tryz.prog 101 1 1=true:=by kernel_rfl
theorem sc99 :ai Tryz.prog 99=true:=by kernel_rfl
theorem p18_is :PlIs (pE 900 60):=pE_is (by decide) (by decide) (by decide) (by decide)
theorem Ks :PlP (pE 900 60):=⟨p18_is.ok,by decide,.inr (by decide)⟩
def gv (kv:List (KG×Int)):List (KG×Value):=kv.map fun z=>(z.1,.int .i64 z.2)
theorem wc (k:KG):∀ kv:List (KG×Int),kget (gv kv) k=(kget kv k).map (Value.int .i64)
 | []=>rfl
 | (k',v) :: l=>by
  have h:=wc k l
  unfold gv at h ⊢
  rw [List.map_cons]
  unfold kget
  split
  ·rfl
  ·exact h
theorem Eg (k:KG) (v:Int):∀ kv:List (KG×Int),kput (gv kv) k (.int .i64 v)=gv (kput kv k v)
 | []=>rfl
 | (k',v') :: l=>by
  have h:=Eg k v l
  unfold gv at h ⊢
  rw [List.map_cons]
  unfold kput
  split
  ·rfl
  ·rw [h];rfl
theorem Kt (kv:List (KG×Int)):(gv kv).length=kv.length:=List.length_map ..
abbrev GrX :=Nat×Nat×Array MapEntry×Nat
def GR (gp f:Nat) (x:PS) (kv:List (KG×Int)):HP:=exH (fun y:GrX=>MapIs encG y.2.2.1 y.2.2.2 (gv kv)) (fun y=>[pt gp (.cells #[.pointer (some ⟨y.1,0,none⟩),.map (some y.2.1)] 101 (0,0)),pt y.2.1 (.map y.2.2.1 y.2.2.2),PT y.1 f [111] stG [] x.ss,DRF f (pE 900 60) [111] x.ss.length x.ss])
theorem GR.opens (gp f:Nat) (x:PS) (kv:List (KG×Int)):Opens (GR gp f x kv) (fun y:GrX=>MapIs encG y.2.2.1 y.2.2.2 (gv kv)) (fun y=>[pt gp (.cells #[.pointer (some ⟨y.1,0,none⟩),.map (some y.2.1)] 101 (0,0)),pt y.2.1 (.map y.2.2.1 y.2.2.2),PT y.1 f [111] stG [] x.ss,DRF f (pE 900 60) [111] x.ss.length x.ss]):=exH.opens
theorem Uv (p m:Nat):av Tryz.prog 101 [(0,.pointer (some ⟨p,0,none⟩)),(1,.map (some m))] #[.pointer (some ⟨p,0,none⟩),.map (some m)]:=fun w=>by kernel_rfl
def recG (k:KG) (o:Nat) (now:Int):Rc:=⟨true,ig k,true,numB o,now,0⟩
theorem Ku (k:KG) (o:Nat) (now:Int):recG k o now=recS (ig k) (numB o) now:=by
 unfold recG recS
 have h:ig k≠[]:=fun h=>by
  have h2:=lw k
  rw [h] at h2
  simp at h2
  omega
 rw [decide_eq_false h]
 rfl
theorem Po (s t:ByteArray) (x:Int):av Tryz.prog 95 [(0,.bool true),(1,.string s),(2,.bool true),(3,.string t),(4,.int .i64 x)] #[.bool true,.string s,.bool true,.string t,.int .i64 x,.int .i64 0]:=fun w=>by kernel_rfl
theorem Eh {k:KG} {o:Nat} {now:Int} (hk:k.1.length<=3) (j:Nat) (hj:j < 100):(encB { recG k o now with off:=((j:Nat):Int) } (recG k o now).time).length=29+k.1.length:=by
 have h:=Ec (key:=ig k) (val:=numB o) (t:=now) j hj
 have hne:ig k≠[]:=fun h=>by
  have h2:=lw k
  rw [h] at h2
  simp at h2
  omega
 rw [if_neg hne,cz,lw,Eb (by omega),Eb (by decide)] at h
 rw [Ku]
 rw [show 29+k.1.length=3+(1+(16+k.1.length))+(1+8) by omega,<-h]
 rfl
def grB (n:Nat) (k:KG) (o:Nat) (now:Int):Bt:=az ((n:Nat):Int) 0 0 [recG k o now]
theorem Cb {n:Nat} {k:KG} {o:Nat} {now:Int}:grB n k o now=repB ((n:Nat):Int) 1 (recG k o now):=rfl
theorem Kv {n:Nat} {k:KG} {o:Nat} {now:Int} (hk:k.1.length<=3):(batB (grB n k o now)).length=77+k.1.length:=by
 rw [Cb,ya ⟨by decide,by decide⟩ (Eh hk)]
 omega
theorem Kw {n:Nat} {k:KG} {o:Nat} {now:Int} (hk:k.1.length<=3) (hn:n<=1000) (hnow:0<=now/\now<=1125899906842624):batE (grB n k o now)=0:=by
 rw [Cb]
 refine Kg ⟨by decide,by decide⟩ ⟨by omega,by omega⟩ ?_ (Eh hk) (by omega)
 rw [Ku]
 exact Kh hnow (by rw [lw];omega) (by rw [cz];decide)
theorem Ei {n:Nat} {k:KG} {o:Nat} {now:Int}:(grB n k o now).span=((1:Nat):Int):=by
 rw [Cb]
 exact Kf (by decide)
structure GkI (n:Nat) (x:PS) (all:List Bt):Prop where
 psi:PSI x n all 80
 len:all.length=n
 full:∀ y∈x.pre,1968 < (byt y).length
theorem GkI.zero :GkI 0 ⟨[],0,[]⟩ []:=⟨PSI.zero 80,rfl,fun y hy=>absurd hy List.not_mem_nil⟩
theorem GkI.add {n:Nat} {x:PS} {all:List Bt} {k:KG} {o:Nat} {now:Int} (h:GkI n x all) (hk:k.1.length<=3):GkI (n+1) (x.add 2048 (grB n k o now)) (all++[grB n k o now]):=by
 refine ⟨h.psi.add (k:=1) rfl Ei (Nat.le_refl _) (by rw [Kv hk];omega),by rw [List.length_append,List.length_singleton,h.len],fun y hy=>?_⟩
 rcases PS.add_pre (seg:=2048) (x:=x) (b:=grB n k o now) with h1 | ⟨h1,h2⟩
 ·rw [h1] at hy
  exact h.full y hy
 ·rw [h1] at hy
  rcases List.mem_append.1 hy with hy | hy
  ·exact h.full y hy
  ·rw [List.mem_singleton.1 hy]
   rw [Kv hk] at h2
   show 1968 < (x.bs.flatMap batB).length
   omega
theorem Kx :∀ {l:List SegA},(∀ y∈l,1968 < (byt y).length)->l.length * 1968<=bytT l
 | [],_=>Nat.zero_le _
 | y :: l,h=>by
  have h1:=h y (List.mem_cons_self ..)
  have h2:=Kx fun z hz=>h z (List.mem_cons_of_mem _ hz)
  unfold bytT at h2 ⊢
  rw [List.map_cons,List.sum_cons,List.length_cons]
  exact Nat.le_trans (Nat.le_of_eq (by rw [Nat.add_mul,Nat.one_mul,Nat.add_comm])) (Nat.add_le_add (Nat.le_of_lt h1) h2)
theorem GkI.pre {n:Nat} {x:PS} {all:List Bt} (h:GkI n x all):x.pre.length * 1968<=n * 80:=by
 have h1:=Kx h.full
 have h2:=h.psi.byt
 unfold PS.ss at h2
 rw [xy,h.len] at h2
 omega
theorem Sb {f:Nat}:Spec Tryz.prog 52 #[.pointer (some ⟨f,0,none⟩),sv [47,111]] [FSR f (pE 900 60) d8] fun F v M=>v=okV/\M=DRF f (pE 900 60) [111] 1 [(0,[])] :: F:=by
 refine Spec.intro Tryz.func52 rfl rfl fun B F=>?_
 simp only [Tryz.ntmps52,List.cons_append,List.nil_append,env0,Nat.reduceAdd]
 refine .sr (.assign (.x (.move (.move ?_))))
 refine .call (hc:=Tryz.call56) (sp:=B9) (h:=?_)
 rintro _ _ ⟨rfl,rfl⟩
 refine .call (hc:=Tryz.call29) (sp:=N0 (f:=f) (dn:=[111]) (st:=stG) Ks (by decide) (by decide) (by decide)) (h:=?_)
 rintro _ _ ⟨rfl,rfl⟩
 refine .assign (.z (.ret (?_)))
 exact .ret1 (h1:=.tmp (t:=4) rfl) ⟨_,⟨rfl,rfl⟩,Am.auto⟩
theorem Gc {f:Nat}:Spec Tryz.prog 26 #[.pointer (some ⟨f,0,none⟩),sv [47,111]] [DRF f (pE 900 60) [111] 1 [(0,[])]] fun F v M=>∃ gp,v=.tuple #[.pointer (some ⟨gp,0,none⟩),.int .i64 0]/\M=GR gp f ⟨[],0,[]⟩ [] :: F:=by
 refine Spec.intro Tryz.func26 rfl rfl fun B F=>?_
 simp only [Tryz.ntmps26,List.cons_append,List.nil_append,env0,Nat.reduceAdd]
 refine .sr (.assign (.assign (.x (.move (.move ?_)))))
 refine .call (hc:=Tryz.call56) (sp:=B9) (h:=?_)
 rintro _ _ ⟨rfl,rfl⟩
 refine .call (hc:=Tryz.call30) (sp:=B7 (f:=f) (N:=1) (dn:=[111]) (st:=stG) Ks (by decide) ⟨by decide,by decide,by decide,by decide⟩ (by decide)) (h:=?_)
 rintro _ _ ⟨pp,rfl,rfl⟩
 refine .move ?_
 refine .extract (.extract ?_)
 refine .assign (.assign (.z (.seq (.sr (.move ?_)))))
 refine .nei (.z ?_)
 refine .condF rfl rfl ?_
 refine .skip (.next (.sr (.move ?_)))
 refine .mkMap fun m28=>?_
 refine .build ?_ (Uv pp m28)
 refine .box fun b30=>?_
 refine .assign (.x (.move (.move ?_)))
 refine .call (hc:=Tryz.call19) (sp:=ua (post:=[]) (y:=(0,[])) rfl) (h:=?_)
 rintro _ _ ⟨rfl,rfl⟩
 refine .call (hc:=Tryz.call20) (sp:=Ef (off:=((0:Nat):Int)) (mx:=1099511627776) (y:=(0,[])) (post:=[]) (pre:=[]) (z:=(0,[])) rfl rfl (by decide) (by decide) ⟨by decide,by decide⟩) (h:=?_)
 rintro _ _ ⟨u,rfl,rfl⟩
 refine .openR (BL.opens _ _) fun y hy=>?_
 obtain ⟨l,os2⟩:=y
 obtain ⟨hl1,_⟩:=hy
 simp only [List.cons_append,List.nil_append] at hl1 ⊢
 refine .fact (ae (el:=44) (size:=5) (k:=l.length) (v:=u) (xs:=l.flatMap BRow.v)) fun ⟨A,c,hv,hR,_,_,_⟩=>?_
 subst hv
 have hl0:l=[]:=List.map_eq_nil_iff.1 hl1
 subst hl0
 refine .move ?_
 refine .extract (.extract ?_)
 refine .assign (.assign (.z (.seq (.sr (.move ?_)))))
 refine .nei (.z ?_)
 refine .condF rfl rfl ?_
 refine .skip (.next (.seq (.sr (.move ?_))))
 refine .lenS ?_ sl40
 refine .move (.z (.block ?_))
 refine .loopN 1 (RC.succ ?_)
 refine .sr ?_
 refine .lss (.z (.seq ?_))
 refine .condF rfl rfl ?_
 refine .exit (.thenExit (.thenExit (.blockExit (?_))))
 refine .next (.sr (.move (.assign (.assign (.z ?_)))))
 refine .ret (?_)
 refine .to (A:=PT pp f [111] stG [] [(0,[])]) (A':=PT pp f [111] stG [] (PS.ss ⟨[],0,[]⟩)) (fun h hh=>hh) ?_
 refine .to (A:=DRF f (pE 900 60) [111] 1 [(0,[])]) (A':=DRF f (pE 900 60) [111] (PS.ss ⟨[],0,[]⟩).length (PS.ss ⟨[],0,[]⟩)) (fun h hh=>hh) ?_
 refine .shutR (GR.opens b30 f ⟨[],0,[]⟩ []) (pp,m28,#[],0) (MapIs.empty _ _) ?_
 exact .ret2 (h1:=.tmp (t:=4) rfl) (h2:=.tmp (t:=5) rfl) ⟨_,⟨b30,rfl,rfl⟩,Am.auto⟩
theorem ow {gp f n o:Nat} {x:PS} {all:List Bt} {kv:List (KG×Int)} {gn:aa} {t p:Nat} {now:Int} (hI:GkI n x all) (hn:n<=500) (hg:am gn=true) (hgl:gn.length<=3) (ht:1<=t/\t<=1125899906842624) (hp:p < 8) (ho:o<=1125899906842624) (hnow:0<=now/\now<=1125899906842624) (hroom:(kget kv (gn,t,p)).isSome=true ∨ kv.length < 200):Spec Tryz.prog 24 #[.pointer (some ⟨gp,0,none⟩),.agg #[sv gn,.int .i64 ((t:Nat):Int),.int .i64 ((p:Nat):Int)],.int .i64 ((o:Nat):Int),.int .i64 now] [GR gp f x kv] fun F v M=>v=.int .i64 0/\M=GR gp f (x.add 2048 (grB n (gn,t,p) o now)) (kput kv (gn,t,p) ((o:Nat):Int)) :: F:=by
 refine Spec.intro Tryz.func24 rfl rfl fun B F=>?_
 simp only [Tryz.ntmps24,List.cons_append,List.nil_append,env0,Nat.reduceAdd]
 have hpre:=hI.pre
 have hbyt:=hI.psi.byt
 have hlen:=hI.len
 rw [hlen] at hbyt
 refine .openR (GR.opens gp f x kv) fun y hy=>?_
 obtain ⟨pp,m,es,cl⟩:=y
 simp only [List.cons_append,List.nil_append] at hy ⊢
 refine .sr ?_
 refine .box fun b5=>?_
 refine .assign (.z (.seq (.sr (.move ?_))))
 refine .eqNil ?_ Ca
 refine .move (.gT (.move (.gT (.nilCheck (.gT ?_)))))
 refine .fa ?_ yc
 refine .gT ?_
 refine .ld ?_ sc30
 refine .gT ?_
 refine .eqNil ?_ Ry
 refine .pickF (.z ?_)
 refine .condF rfl rfl ?_
 refine .skip (.next (.seq (.sr ?_)))
 refine .ldA ?_ i8
 refine .call (hc:=Tryz.call53) (sp:=Kq hg ht hp) (h:=?_)
 rintro _ _ ⟨rfl,rfl⟩
 refine .not ?_
 refine .move (.gT (.move (.gT ?_)))
 refine .lss ?_
 refine .pickF (.move ?_)
 refine .cast (d:=29) (u:=.bool false) rfl (cB9 (decide_eq_false (by omega))) ?_
 refine .gT (.move (.gT ?_))
 refine .gtr ?_
 refine .pickF (.move ?_)
 refine .cast (d:=33) (u:=.bool false) rfl (cB9 (decide_eq_false (by omega))) ?_
 refine .gT (.move (.gT ?_))
 refine .lss ?_
 refine .pickF (.move ?_)
 refine .cast (d:=37) (u:=.bool false) rfl (cB9 (decide_eq_false (by omega))) ?_
 refine .gT (.move (.gT ?_))
 refine .gtr ?_
 refine .pickF (.z ?_)
 refine .condF rfl (cB9 (decide_eq_false (by omega))) ?_
 refine .skip (.next (.seq (.seq ?_)))
 cases hk:kget kv (gn,t,p) with
 | none =>
  rw [hk] at hroom
  have hroom:kv.length < 200:=hroom.resolve_left (by decide)
  refine .dr ([pt gp (.cells #[.pointer (some ⟨pp,0,none⟩),.map (some m)] 101 (0,0)),pt b5 (.cells #[sv gn,.int .i64 ((t:Nat):Int),.int .i64 ((p:Nat):Int)] 54 (0,0)),pt m (.map es cl)]) [] 11 mixed .autoJ ?_
  refine .tk 0 rfl .move ?_
  refine .tk 1 rfl .nilCheck ?_
  refine .tk 2 rfl (.fa ie) ?_
  refine .tk 3 rfl (.ld sc99) ?_
  refine .tk 4 rfl (.ldA i8) ?_
  refine .tk 5 rfl ((Qt.lookOk (k:=(gn,t,p)) kgL hy mp99 zv3).eq (v':=.tuple #[.int .i64 0,.bool false]) (by rw [wc,hk];rfl)) ?_
  refine .tk 6 rfl .move ?_
  refine .tk 7 rfl .extract ?_
  refine .tk 8 rfl .extract ?_
  refine .tk 9 rfl .assign ?_
  refine .tk 10 rfl .assign ?_
  refine .fin ?_
  refine .next (.sr (.move ?_))
  refine .not ?_
  refine .move (.gT (.move (.gT (.nilCheck (.gT ?_)))))
  refine .fa ?_ ie
  refine .gT ?_
  refine .ld ?_ sc99
  refine .gT ?_
  refine .lenM ?_ mp99
  refine .cast (d:=57) (u:=.int .i64 ((kv.length:Nat):Int)) rfl (congrArg (fun z:Nat=>Value.int .i64 (z:Int)) (by rw [hy.length,Kt])) ?_
  refine .gT ?_
  refine .geq ?_
  refine .pickT (.z ?_)
  refine .condF rfl (cB9 (decide_eq_false (by omega))) ?_
  refine .skip (.next (.seq (.seq ?_)))
  refine .dr ([pt gp (.cells #[.pointer (some ⟨pp,0,none⟩),.map (some m)] 101 (0,0)),pt b5 (.cells #[sv gn,.int .i64 ((t:Nat):Int),.int .i64 ((p:Nat):Int)] 54 (0,0))]) [] 17 mixed .autoJ ?_
  refine .tk 0 rfl .move ?_
  refine .tk 1 rfl .nilCheck ?_
  refine .tk 2 rfl (.fa yc) ?_
  refine .tk 3 rfl (.ld sc30) ?_
  refine .tk 4 rfl (.ldA i8) ?_
  refine .tk 6 rfl .move ?_
  refine .tk 8 rfl .move ?_
  refine .on 5 rfl fun hnp=>?_
  refine .call (hc:=Tryz.call54) (sp:=Kr (gn:=gn) (t:=t) (p:=p) (by omega) (by omega) (by omega)) (h:=?_)
  rintro _ _ ⟨rfl,rfl⟩
  refine .nil (.wa hnp ?_)
  refine .on 7 rfl fun hnp=>?_
  refine .call (hc:=Tryz.call55) (sp:=ou (n:=o) (by omega)) (h:=?_)
  rintro _ _ ⟨rfl,rfl⟩
  refine .nil (.wa hnp ?_)
  refine .tk 9 rfl (Qt.build (Po _ _ _)) ?_
  refine .on 10 rfl fun hnp=>?_
  refine .buildS (fun b71=>?_) (Dx _ _ _ _ _ _)
  refine .nil (.wa hnp ?_)
  refine .on 11 rfl fun hnp=>?_
  refine .call (hc:=Tryz.call16) (sp:=Ed (pp:=pp) (f:=f) (dn:=[111]) (st:=stG) (p:=(pE 900 60)) (x:=x) (all:=all) (next:=n) (m:=80) (prod:=0) (seq:=0) (l:=[recG (gn,t,p) o now]) Ks hI.psi (by omega) (by show x.pre.length+5<=60;omega) (by omega) (by omega) (by omega) (by decide) (Reads.pt (cs:=#[.bool true,sv (ig (gn,t,p)),.bool true,sv (numB o),.int .i64 now,.int .i64 0])) Nat.zero_lt_one (Nat.le_of_ble_eq_true rfl) (Kw (k:=(gn,t,p)) hgl (by omega) hnow)) (h:=?_)
  rintro _ _ ⟨rfl,rfl⟩
  refine .nil (.wa hnp ?_)
  refine .tk 12 rfl .move ?_
  refine .tk 13 rfl .extract ?_
  refine .tk 14 rfl .extract ?_
  refine .tk 15 rfl .assign ?_
  refine .tk 16 rfl .assign ?_
  refine .fin ?_
  refine .next (.sr (.move ?_))
  refine .nei (.z ?_)
  refine .condF rfl rfl ?_
  refine .skip (.next (.seq ?_))
  refine .dr ([pt gp (.cells #[.pointer (some ⟨pp,0,none⟩),.map (some m)] 101 (0,0)),pt b5 (.cells #[sv gn,.int .i64 ((t:Nat):Int),.int .i64 ((p:Nat):Int)] 54 (0,0))]) [6] 7 mixed .autoJ ?_
  refine .tk 0 rfl .move ?_
  refine .tk 1 rfl .nilCheck ?_
  refine .tk 2 rfl (.fa ie) ?_
  refine .tk 3 rfl (.ld sc99) ?_
  refine .tk 4 rfl (.ldA i8) ?_
  refine .tk 5 rfl .move ?_
  refine .on 6 rfl fun hnp=>?_
  refine .upd (k:=(gn,t,p)) (v:=.int .i64 ((o:Nat):Int)) kgL hy mp99 fun es2 c2 hm2=>?_
  refine .nil (.wb hnp ?_)
  refine .fin ?_
  refine .next (.sr (.assign (.z (.ret (?_)))))
  rw [Eg] at hm2
  refine .shutR (GR.opens gp f (x.add 2048 (grB n (gn,t,p) o now)) (kput kv (gn,t,p) ((o:Nat):Int))) (pp,m,es2,c2) hm2 ?_
  exact .ret1 (h1:=.tmp (t:=8) rfl) ⟨_,⟨rfl,rfl⟩,Am.auto⟩
 | some ov =>
  refine .dr ([pt gp (.cells #[.pointer (some ⟨pp,0,none⟩),.map (some m)] 101 (0,0)),pt b5 (.cells #[sv gn,.int .i64 ((t:Nat):Int),.int .i64 ((p:Nat):Int)] 54 (0,0)),pt m (.map es cl)]) [] 11 mixed .autoJ ?_
  refine .tk 0 rfl .move ?_
  refine .tk 1 rfl .nilCheck ?_
  refine .tk 2 rfl (.fa ie) ?_
  refine .tk 3 rfl (.ld sc99) ?_
  refine .tk 4 rfl (.ldA i8) ?_
  refine .tk 5 rfl ((Qt.lookOk (k:=(gn,t,p)) kgL hy mp99 zv3).eq (v':=.tuple #[.int .i64 ov,.bool true]) (by rw [wc,hk];rfl)) ?_
  refine .tk 6 rfl .move ?_
  refine .tk 7 rfl .extract ?_
  refine .tk 8 rfl .extract ?_
  refine .tk 9 rfl .assign ?_
  refine .tk 10 rfl .assign ?_
  refine .fin ?_
  refine .next (.sr (.move ?_))
  refine .not ?_
  refine .move (.gF (.gF (.gF (.gF (.gF ?_)))))
  refine .gF (.pickF (.z ?_))
  refine .condF rfl rfl ?_
  refine .skip (.next (.seq (.seq ?_)))
  refine .dr ([pt gp (.cells #[.pointer (some ⟨pp,0,none⟩),.map (some m)] 101 (0,0)),pt b5 (.cells #[sv gn,.int .i64 ((t:Nat):Int),.int .i64 ((p:Nat):Int)] 54 (0,0))]) [] 17 mixed .autoJ ?_
  refine .tk 0 rfl .move ?_
  refine .tk 1 rfl .nilCheck ?_
  refine .tk 2 rfl (.fa yc) ?_
  refine .tk 3 rfl (.ld sc30) ?_
  refine .tk 4 rfl (.ldA i8) ?_
  refine .tk 6 rfl .move ?_
  refine .tk 8 rfl .move ?_
  refine .on 5 rfl fun hnp=>?_
  refine .call (hc:=Tryz.call54) (sp:=Kr (gn:=gn) (t:=t) (p:=p) (by omega) (by omega) (by omega)) (h:=?_)
  rintro _ _ ⟨rfl,rfl⟩
  refine .nil (.wa hnp ?_)
  refine .on 7 rfl fun hnp=>?_
  refine .call (hc:=Tryz.call55) (sp:=ou (n:=o) (by omega)) (h:=?_)
  rintro _ _ ⟨rfl,rfl⟩
  refine .nil (.wa hnp ?_)
  refine .tk 9 rfl (Qt.build (Po _ _ _)) ?_
  refine .on 10 rfl fun hnp=>?_
  refine .buildS (fun b71=>?_) (Dx _ _ _ _ _ _)
  refine .nil (.wa hnp ?_)
  refine .on 11 rfl fun hnp=>?_
  refine .call (hc:=Tryz.call16) (sp:=Ed (pp:=pp) (f:=f) (dn:=[111]) (st:=stG) (p:=(pE 900 60)) (x:=x) (all:=all) (next:=n) (m:=80) (prod:=0) (seq:=0) (l:=[recG (gn,t,p) o now]) Ks hI.psi (by omega) (by show x.pre.length+5<=60;omega) (by omega) (by omega) (by omega) (by decide) (Reads.pt (cs:=#[.bool true,sv (ig (gn,t,p)),.bool true,sv (numB o),.int .i64 now,.int .i64 0])) Nat.zero_lt_one (Nat.le_of_ble_eq_true rfl) (Kw (k:=(gn,t,p)) hgl (by omega) hnow)) (h:=?_)
  rintro _ _ ⟨rfl,rfl⟩
  refine .nil (.wa hnp ?_)
  refine .tk 12 rfl .move ?_
  refine .tk 13 rfl .extract ?_
  refine .tk 14 rfl .extract ?_
  refine .tk 15 rfl .assign ?_
  refine .tk 16 rfl .assign ?_
  refine .fin ?_
  refine .next (.sr (.move ?_))
  refine .nei (.z ?_)
  refine .condF rfl rfl ?_
  refine .skip (.next (.seq ?_))
  refine .dr ([pt gp (.cells #[.pointer (some ⟨pp,0,none⟩),.map (some m)] 101 (0,0)),pt b5 (.cells #[sv gn,.int .i64 ((t:Nat):Int),.int .i64 ((p:Nat):Int)] 54 (0,0))]) [6] 7 mixed .autoJ ?_
  refine .tk 0 rfl .move ?_
  refine .tk 1 rfl .nilCheck ?_
  refine .tk 2 rfl (.fa ie) ?_
  refine .tk 3 rfl (.ld sc99) ?_
  refine .tk 4 rfl (.ldA i8) ?_
  refine .tk 5 rfl .move ?_
  refine .on 6 rfl fun hnp=>?_
  refine .upd (k:=(gn,t,p)) (v:=.int .i64 ((o:Nat):Int)) kgL hy mp99 fun es2 c2 hm2=>?_
  refine .nil (.wb hnp ?_)
  refine .fin ?_
  refine .next (.sr (.assign (.z (.ret (?_)))))
  rw [Eg] at hm2
  refine .shutR (GR.opens gp f (x.add 2048 (grB n (gn,t,p) o now)) (kput kv (gn,t,p) ((o:Nat):Int))) (pp,m,es2,c2) hm2 ?_
  exact .ret1 (h1:=.tmp (t:=8) rfl) ⟨_,⟨rfl,rfl⟩,Am.auto⟩
theorem Ky {gp f:Nat} {x:PS} {kv:List (KG×Int)} {gn:aa} {t p:Nat}:Spec Tryz.prog 28 #[.pointer (some ⟨gp,0,none⟩),.agg #[sv gn,.int .i64 ((t:Nat):Int),.int .i64 ((p:Nat):Int)]] [GR gp f x kv] fun F v M=>v=(match kget kv (gn,t,p) with | some o=>.tuple #[.int .i64 o,.int .i64 0] | none=>.tuple #[.int .i64 0,.int .i64 4])/\M=GR gp f x kv :: F:=by
 refine Spec.intro Tryz.func28 rfl rfl fun B F=>?_
 simp only [Tryz.ntmps28,List.cons_append,List.nil_append,env0,Nat.reduceAdd]
 refine .openR (GR.opens gp f x kv) fun y hy=>?_
 obtain ⟨pp,m,es,cl⟩:=y
 simp only [List.cons_append,List.nil_append] at hy ⊢
 refine .sr ?_
 refine .box fun b3=>?_
 refine .assign (.assign (.z (.seq (.sr (.move ?_)))))
 refine .eqNil ?_ Ca
 refine .z ?_
 refine .condF rfl rfl ?_
 refine .skip (.next (.seq ?_))
 cases hk:kget kv (gn,t,p) with
 | none =>
  refine .dr ([pt gp (.cells #[.pointer (some ⟨pp,0,none⟩),.map (some m)] 101 (0,0)),pt b3 (.cells #[sv gn,.int .i64 ((t:Nat):Int),.int .i64 ((p:Nat):Int)] 54 (0,0)),pt m (.map es cl)]) [] 11 mixed .autoJ ?_
  refine .tk 0 rfl .move ?_
  refine .tk 1 rfl .nilCheck ?_
  refine .tk 2 rfl (.fa ie) ?_
  refine .tk 3 rfl (.ld sc99) ?_
  refine .tk 4 rfl (.ldA i8) ?_
  refine .tk 5 rfl ((Qt.lookOk (k:=(gn,t,p)) kgL hy mp99 zv3).eq (v':=.tuple #[.int .i64 0,.bool false]) (by rw [wc,hk];rfl)) ?_
  refine .tk 6 rfl .move ?_
  refine .tk 7 rfl .extract ?_
  refine .tk 8 rfl .extract ?_
  refine .tk 9 rfl .assign ?_
  refine .tk 10 rfl .assign ?_
  refine .fin ?_
  refine .next (.seq (.sr (.move ?_)))
  refine .not (.z ?_)
  refine .condT rfl rfl ?_
  refine .sr (.assign (.assign (.z ?_)))
  refine .ret (.thenRet (?_))
  refine .shutR (GR.opens gp f x kv) (pp,m,es,cl) hy ?_
  exact .ret2 (h1:=.tmp (t:=4) rfl) (h2:=.tmp (t:=5) rfl) ⟨_,⟨rfl,rfl⟩,Am.auto⟩
 | some ov =>
  refine .dr ([pt gp (.cells #[.pointer (some ⟨pp,0,none⟩),.map (some m)] 101 (0,0)),pt b3 (.cells #[sv gn,.int .i64 ((t:Nat):Int),.int .i64 ((p:Nat):Int)] 54 (0,0)),pt m (.map es cl)]) [] 11 mixed .autoJ ?_
  refine .tk 0 rfl .move ?_
  refine .tk 1 rfl .nilCheck ?_
  refine .tk 2 rfl (.fa ie) ?_
  refine .tk 3 rfl (.ld sc99) ?_
  refine .tk 4 rfl (.ldA i8) ?_
  refine .tk 5 rfl ((Qt.lookOk (k:=(gn,t,p)) kgL hy mp99 zv3).eq (v':=.tuple #[.int .i64 ov,.bool true]) (by rw [wc,hk];rfl)) ?_
  refine .tk 6 rfl .move ?_
  refine .tk 7 rfl .extract ?_
  refine .tk 8 rfl .extract ?_
  refine .tk 9 rfl .assign ?_
  refine .tk 10 rfl .assign ?_
  refine .fin ?_
  refine .next (.seq (.sr (.move ?_)))
  refine .not (.z ?_)
  refine .condF rfl rfl ?_
  refine .skip (.next (.sr (.move (.assign (.assign (.z ?_))))))
  refine .ret (?_)
  refine .shutR (GR.opens gp f x kv) (pp,m,es,cl) hy ?_
  exact .ret2 (h1:=.tmp (t:=4) rfl) (h2:=.tmp (t:=5) rfl) ⟨_,⟨rfl,rfl⟩,Am.auto⟩
theorem Kz {gp f:Nat} {x:PS} {kv:List (KG×Int)}:Spec Tryz.prog 27 #[.pointer (some ⟨gp,0,none⟩)] [GR gp f x kv] fun F v M=>v=.int .i64 ((kv.length:Nat):Int)/\M=GR gp f x kv :: F:=by
 refine Spec.intro Tryz.func27 rfl rfl fun B F=>?_
 simp only [Tryz.ntmps27,List.cons_append,List.nil_append,env0,Nat.reduceAdd]
 refine .openR (GR.opens gp f x kv) fun y hy=>?_
 obtain ⟨pp,m,es,cl⟩:=y
 simp only [List.cons_append,List.nil_append] at hy ⊢
 refine .sr (.assign (.z (.seq (.sr (.move ?_)))))
 refine .eqNil ?_ Ca
 refine .z ?_
 refine .condF rfl rfl ?_
 refine .skip (.next (.sr (.move (.nilCheck ?_))))
 refine .fa ?_ ie
 refine .ld ?_ sc99
 refine .lenM ?_ mp99
 refine .assign (.z (.ret (?_)))
 refine .shutR (GR.opens gp f x kv) (pp,m,es,cl) hy ?_
 exact .ret1 (h1:=.tmp (t:=2) rfl) ⟨_,⟨congrArg (fun z:Nat=>Value.int .i64 (z:Int)) (by rw [hy.length,Kt]),rfl⟩,Am.auto⟩
theorem z54 :ba Tryz.prog 54=some (#[.string ⟨#[]⟩,.int .i64 0,.int .i64 0]):=by kernel_rfl
theorem K0 (s:ByteArray) (t:Int):av Tryz.prog 54 [(0,.string s),(1,.int .i64 t)] #[.string s,.int .i64 t,.int .i64 0]:=fun w=>by kernel_rfl
theorem yd {gp f:Nat} {x:PS} {kv:List (KG×Int)} {gn:aa} {t p:Nat} {o:Int} (h:kget kv (gn,t,p)=some o):Spec Tryz.prog 28 #[.pointer (some ⟨gp,0,none⟩),.agg #[sv gn,.int .i64 ((t:Nat):Int),.int .i64 ((p:Nat):Int)]] [GR gp f x kv] fun F v M=>v=.tuple #[.int .i64 o,.int .i64 0]/\M=GR gp f x kv :: F :=
 Spec.post' Ky fun F v M B w ⟨h1,h2⟩ hs=>⟨M,⟨by rw [h1,h],h2⟩,hs⟩
theorem N8 {gp f:Nat} {x:PS} {kv:List (KG×Int)} {gn:aa} {t p:Nat} (h:kget kv (gn,t,p)=none):Spec Tryz.prog 28 #[.pointer (some ⟨gp,0,none⟩),.agg #[sv gn,.int .i64 ((t:Nat):Int),.int .i64 ((p:Nat):Int)]] [GR gp f x kv] fun F v M=>v=.tuple #[.int .i64 0,.int .i64 4]/\M=GR gp f x kv :: F :=
 Spec.post' Ky fun F v M B w ⟨h1,h2⟩ hs=>⟨M,⟨by rw [h1,h],h2⟩,hs⟩
structure KGS where
 g:aa
 t:Int
 p:Int
def KGS.v (k:KGS):List Value:=[sv k.g,.int .i64 k.t,.int .i64 k.p]
theorem we :Spec Tryz.prog 23 #[] [] fun F v M=>∃ d f gp,v=.tuple #[.pointer (some ⟨d,0,none⟩),.pointer (some ⟨f,0,none⟩),.pointer (some ⟨gp,0,none⟩),.bool true]/\M=GR gp f ⟨[],0,[]⟩ [] :: F:=by
 refine Spec.intro Tryz.func23 rfl rfl fun B F=>?_
 simp only [Tryz.ntmps23,List.cons_append,List.nil_append,env0,Nat.reduceAdd]
 refine .sr (.assign (.assign (.assign (.assign (.x ?_)))))
 refine .call (hc:=Tryz.call35) (sp:=St (n:=900) (by decide) (by decide)) (h:=?_)
 rintro _ _ ⟨d,rfl,rfl⟩
 refine .move ?_
 refine .extract (.extract ?_)
 refine .assign (.assign (.z (.seq (.sr (.move ?_)))))
 refine .nei ?_
 refine .move (.gT (.move (.gT ?_)))
 refine .eqNil ?_ Gr
 refine .pickF (.move (.gT (.move (.gT ?_))))
 refine .call (hc:=Tryz.call36) (sp:=Un p18_is) (h:=?_)
 rintro _ _ ⟨J,rfl,hJ,rfl⟩
 refine .gT ?_
 refine .nei ?_
 refine .pickF (.z ?_)
 refine .condF rfl (cB9 (by first|simp;done|simp;omega|omega)) ?_
 refine .skip (.next (.sr (.move ?_)))
 refine .call (hc:=Tryz.call37) (sp:=Fy p18_is hJ) (h:=?_)
 rintro _ _ ⟨f,rfl,rfl⟩
 refine .move ?_
 refine .extract (.extract ?_)
 refine .assign (.assign (.z (.seq (.sr (.move ?_)))))
 refine .nei ?_
 refine .move (.gT (.move (.gT ?_)))
 refine .eqNil ?_ uu
 refine .pickF (.move (.gT (.move (.gT ?_))))
 refine .call (hc:=Tryz.call52) (sp:=Sb) (h:=?_)
 rintro _ _ ⟨rfl,rfl⟩
 refine .gT ?_
 refine .nei ?_
 refine .pickF (.z ?_)
 refine .condF rfl (cB9 (by first|simp;done|simp;omega|omega)) ?_
 refine .skip (.next (.sr (.move ?_)))
 refine .call (hc:=Tryz.call26) (sp:=Gc) (h:=?_)
 rintro _ _ ⟨gp,rfl,rfl⟩
 refine .move ?_
 refine .extract (.extract ?_)
 refine .assign (.assign (.x (.move (.move (.move (.move ?_))))))
 refine .eqi ?_
 refine .move (.gT (.move (.gT ?_)))
 refine .neNil ?_ Ca
 refine .pickT (.assign (.assign (.assign (.assign (.z ?_)))))
 refine .ret (?_)
 exact .ret4 (h1:=.tmp (t:=0) rfl) (h2:=.tmp (t:=1) rfl) (h3:=.tmp (t:=2) rfl) (h4:=.tmp (t:=3) rfl) ⟨_,⟨d,f,gp,rfl,rfl⟩,Am.auto⟩
theorem go :Spec Tryz.prog 22 #[] [] fun F v M=>v=.bool true/\M=F:=by
 refine Spec.intro Tryz.func22 rfl rfl fun B F=>?_
 simp only [Tryz.ntmps22,List.cons_append,List.nil_append,env0,Nat.reduceAdd]
 have hk1:kget (κ:=KG) (kput (kput [] ([103],1,0) ((5:Nat):Int)) ([103],1,0) ((7:Nat):Int)) ([103],1,0)=some 7:=by decide
 have hk2:kget (κ:=KG) (kput (kput [] ([103],1,0) ((5:Nat):Int)) ([103],1,0) ((7:Nat):Int)) ([104],1,0)=none:=by decide
 have hk3:((kput (kput [] ([103],1,0) ((5:Nat):Int)) ([103],1,0) ((7:Nat):Int)):List (KG×Int)).length=1:=by decide
 refine .sr (.assign (.x ?_))
 refine .call (hc:=Tryz.call23) (sp:=we) (h:=?_)
 rintro _ _ ⟨d,f,gp,rfl,rfl⟩
 refine .move ?_
 refine .extract (.extract (.extract (.extract ?_)))
 refine .assign (.assign (.assign (.assign (.x ?_))))
 refine .build ?_ (K0 _ _)
 refine .alloc z54 fun b5=>?_
 refine .stV ?_ i8
 refine .z (.seq (.sr (.move ?_)))
 refine .not ?_
 refine .move (.gT (.move (.gT ?_)))
 refine .ldA ?_ i8
 refine .gT ?_
 refine .call (hc:=Tryz.call24) (sp:=ow (gp:=gp) (f:=f) (kv:=[]) (n:=0) (o:=5) (gn:=[103]) (t:=1) (p:=0) (now:=0) GkI.zero (by decide) (by decide) (by decide) (by decide) (by decide) (by decide) (by decide) (.inr (by decide))) (h:=?_)
 rintro _ _ ⟨rfl,rfl⟩
 refine .gT ?_
 refine .nei ?_
 refine .pickF (.move (.gT (.move (.gT ?_))))
 refine .ldA ?_ i8
 refine .gT ?_
 refine .call (hc:=Tryz.call24) (sp:=ow (gp:=gp) (f:=f) (kv:=kput (κ:=KG) [] ([103],1,0) ((5:Nat):Int)) (n:=1) (o:=7) (gn:=[103]) (t:=1) (p:=0) (now:=0) (GkI.zero.add (k:=([103],1,0)) (o:=5) (now:=0) (by decide)) (by decide) (by decide) (by decide) (by decide) (by decide) (by decide) (by decide) (.inr (by decide))) (h:=?_)
 rintro _ _ ⟨rfl,rfl⟩
 refine .gT ?_
 refine .nei ?_
 refine .pickF (.z ?_)
 refine .condF rfl rfl ?_
 refine .skip (.next (.sr (.move ?_)))
 refine .ldA ?_ i8
 refine .call (hc:=Tryz.call28) (sp:=yd (gp:=gp) (f:=f) (gn:=[103]) (t:=1) (p:=0) hk1) (h:=?_)
 rintro _ _ ⟨rfl,rfl⟩
 refine .move ?_
 refine .extract (.extract (.assign (.assign (.x (.move ?_)))))
 refine .build ?_ (K0 _ _)
 refine .call (hc:=Tryz.call28) (sp:=N8 (gp:=gp) (f:=f) (gn:=[104]) (t:=1) (p:=0) hk2) (h:=?_)
 rintro _ _ ⟨rfl,rfl⟩
 refine .move ?_
 refine .extract (.extract (.assign (.assign (.x (.move ?_)))))
 refine .eqi ?_
 refine .move (.gT (.move (.gT ?_)))
 refine .eqi ?_
 refine .pickT (.move (.gT (.move (.gT ?_))))
 refine .eqi ?_
 refine .pickT (.move (.gT (.move (.gT ?_))))
 refine .call (hc:=Tryz.call27) (sp:=Kz (gp:=gp) (f:=f)) (h:=?_)
 rintro _ _ ⟨rfl,rfl⟩
 rw [hk3]
 refine .gT ?_
 refine .eqi ?_
 refine .pickT (.assign (.z (.ret (?_))))
 exact .ret1 (h1:=.tmp (t:=0) rfl) ⟨_,⟨rfl,rfl⟩,Am.auto⟩
end Go.Proofs.YtmihjfcbofejoaaGreatDoor
end
